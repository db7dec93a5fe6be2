/- klaxonkeep.Set.Set. MatchRuns, MuteRuns, reckoned. -/
import Derived.Test.YtghkbjflejgieaaDoorQP5
import Derived.KernelRfl
namespace Go.Proofs.YtghkbjflejgieaaDoor.Dec
open Go.Ev
set_option linter.unusedVariables false
set_option linter.unusedSimpArgs false
set_option maxRecDepth 100000
noncomputable def fn15 : AFn := (F 15).getD ⟨0, [], .bad, false, false, noHd⟩
noncomputable def body15 : AC := fn15.body
noncomputable def lbu15_0 : AC := loopBody 3610 body15
def p15 (m : Nat) (x0 : (List Int) × (List Int)) : Option ((List ((List UInt8) × (List UInt8)))) :=
  if decide (0 < (((List.length x0.1) : Nat) : Int)) = true then
    if ((IntKind.wrap .i64 ((((BitVec.ofInt 64 (List.getD x0.1 0 0) &&& BitVec.ofInt 64 (1)).toNat : Nat) : Int))) == (1)) = true then
      if pickPre x0.2 (0) = true then
        if decide (0 ≤ (withinI (pickG x0.2 (0)) (0) (7))) = true then
          if decide ((withinI (pickG x0.2 (0)) (0) (7)) < 8) = true then
            if decide (1 < (((List.length x0.1) : Nat) : Int)) = true then
              if ((IntKind.wrap .i64 ((((BitVec.ofInt 64 (List.getD x0.1 1 0) &&& BitVec.ofInt 64 (1)).toNat : Nat) : Int))) == (1)) = true then
                if pickPre x0.2 (1) = true then
                  if decide (0 ≤ (withinI (pickG x0.2 (1)) (0) (7))) = true then
                    if decide ((withinI (pickG x0.2 (1)) (0) (7)) < 8) = true then
                      if decide (2 < (((List.length x0.1) : Nat) : Int)) = true then
                        if ((IntKind.wrap .i64 ((((BitVec.ofInt 64 (List.getD x0.1 2 0) &&& BitVec.ofInt 64 (1)).toNat : Nat) : Int))) == (1)) = true then
                          if pickPre x0.2 (2) = true then
                            if decide (0 ≤ (withinI (pickG x0.2 (2)) (0) (7))) = true then
                              if decide ((withinI (pickG x0.2 (2)) (0) (7)) < 8) = true then
                                some ([(([97] : List UInt8), (List.getD [([120] : List UInt8), ([121] : List UInt8), ([120, 121] : List UInt8), ([49] : List UInt8), ([34] : List UInt8), ([92] : List UInt8), ([123, 125] : List UInt8), ([122, 32, 122] : List UInt8)] (Int.toNat (withinI (pickG x0.2 (0)) (0) (7))) ([] : List UInt8))), (([98] : List UInt8), (List.getD [([120] : List UInt8), ([121] : List UInt8), ([120, 121] : List UInt8), ([49] : List UInt8), ([34] : List UInt8), ([92] : List UInt8), ([123, 125] : List UInt8), ([122, 32, 122] : List UInt8)] (Int.toNat (withinI (pickG x0.2 (1)) (0) (7))) ([] : List UInt8))), (([99] : List UInt8), (List.getD [([120] : List UInt8), ([121] : List UInt8), ([120, 121] : List UInt8), ([49] : List UInt8), ([34] : List UInt8), ([92] : List UInt8), ([123, 125] : List UInt8), ([122, 32, 122] : List UInt8)] (Int.toNat (withinI (pickG x0.2 (2)) (0) (7))) ([] : List UInt8)))])
                              else
                                none
                            else
                              none
                          else
                            none
                        else
                          some ([(([97] : List UInt8), (List.getD [([120] : List UInt8), ([121] : List UInt8), ([120, 121] : List UInt8), ([49] : List UInt8), ([34] : List UInt8), ([92] : List UInt8), ([123, 125] : List UInt8), ([122, 32, 122] : List UInt8)] (Int.toNat (withinI (pickG x0.2 (0)) (0) (7))) ([] : List UInt8))), (([98] : List UInt8), (List.getD [([120] : List UInt8), ([121] : List UInt8), ([120, 121] : List UInt8), ([49] : List UInt8), ([34] : List UInt8), ([92] : List UInt8), ([123, 125] : List UInt8), ([122, 32, 122] : List UInt8)] (Int.toNat (withinI (pickG x0.2 (1)) (0) (7))) ([] : List UInt8)))])
                      else
                        some ([(([97] : List UInt8), (List.getD [([120] : List UInt8), ([121] : List UInt8), ([120, 121] : List UInt8), ([49] : List UInt8), ([34] : List UInt8), ([92] : List UInt8), ([123, 125] : List UInt8), ([122, 32, 122] : List UInt8)] (Int.toNat (withinI (pickG x0.2 (0)) (0) (7))) ([] : List UInt8))), (([98] : List UInt8), (List.getD [([120] : List UInt8), ([121] : List UInt8), ([120, 121] : List UInt8), ([49] : List UInt8), ([34] : List UInt8), ([92] : List UInt8), ([123, 125] : List UInt8), ([122, 32, 122] : List UInt8)] (Int.toNat (withinI (pickG x0.2 (1)) (0) (7))) ([] : List UInt8)))])
                    else
                      none
                  else
                    none
                else
                  none
              else
                if decide (2 < (((List.length x0.1) : Nat) : Int)) = true then
                  if ((IntKind.wrap .i64 ((((BitVec.ofInt 64 (List.getD x0.1 2 0) &&& BitVec.ofInt 64 (1)).toNat : Nat) : Int))) == (1)) = true then
                    if pickPre x0.2 (2) = true then
                      if decide (0 ≤ (withinI (pickG x0.2 (2)) (0) (7))) = true then
                        if decide ((withinI (pickG x0.2 (2)) (0) (7)) < 8) = true then
                          some ([(([97] : List UInt8), (List.getD [([120] : List UInt8), ([121] : List UInt8), ([120, 121] : List UInt8), ([49] : List UInt8), ([34] : List UInt8), ([92] : List UInt8), ([123, 125] : List UInt8), ([122, 32, 122] : List UInt8)] (Int.toNat (withinI (pickG x0.2 (0)) (0) (7))) ([] : List UInt8))), (([99] : List UInt8), (List.getD [([120] : List UInt8), ([121] : List UInt8), ([120, 121] : List UInt8), ([49] : List UInt8), ([34] : List UInt8), ([92] : List UInt8), ([123, 125] : List UInt8), ([122, 32, 122] : List UInt8)] (Int.toNat (withinI (pickG x0.2 (2)) (0) (7))) ([] : List UInt8)))])
                        else
                          none
                      else
                        none
                    else
                      none
                  else
                    some ([(([97] : List UInt8), (List.getD [([120] : List UInt8), ([121] : List UInt8), ([120, 121] : List UInt8), ([49] : List UInt8), ([34] : List UInt8), ([92] : List UInt8), ([123, 125] : List UInt8), ([122, 32, 122] : List UInt8)] (Int.toNat (withinI (pickG x0.2 (0)) (0) (7))) ([] : List UInt8)))])
                else
                  some ([(([97] : List UInt8), (List.getD [([120] : List UInt8), ([121] : List UInt8), ([120, 121] : List UInt8), ([49] : List UInt8), ([34] : List UInt8), ([92] : List UInt8), ([123, 125] : List UInt8), ([122, 32, 122] : List UInt8)] (Int.toNat (withinI (pickG x0.2 (0)) (0) (7))) ([] : List UInt8)))])
            else
              if decide (2 < (((List.length x0.1) : Nat) : Int)) = true then
                if ((IntKind.wrap .i64 ((((BitVec.ofInt 64 (List.getD x0.1 2 0) &&& BitVec.ofInt 64 (1)).toNat : Nat) : Int))) == (1)) = true then
                  if pickPre x0.2 (2) = true then
                    if decide (0 ≤ (withinI (pickG x0.2 (2)) (0) (7))) = true then
                      if decide ((withinI (pickG x0.2 (2)) (0) (7)) < 8) = true then
                        some ([(([97] : List UInt8), (List.getD [([120] : List UInt8), ([121] : List UInt8), ([120, 121] : List UInt8), ([49] : List UInt8), ([34] : List UInt8), ([92] : List UInt8), ([123, 125] : List UInt8), ([122, 32, 122] : List UInt8)] (Int.toNat (withinI (pickG x0.2 (0)) (0) (7))) ([] : List UInt8))), (([99] : List UInt8), (List.getD [([120] : List UInt8), ([121] : List UInt8), ([120, 121] : List UInt8), ([49] : List UInt8), ([34] : List UInt8), ([92] : List UInt8), ([123, 125] : List UInt8), ([122, 32, 122] : List UInt8)] (Int.toNat (withinI (pickG x0.2 (2)) (0) (7))) ([] : List UInt8)))])
                      else
                        none
                    else
                      none
                  else
                    none
                else
                  some ([(([97] : List UInt8), (List.getD [([120] : List UInt8), ([121] : List UInt8), ([120, 121] : List UInt8), ([49] : List UInt8), ([34] : List UInt8), ([92] : List UInt8), ([123, 125] : List UInt8), ([122, 32, 122] : List UInt8)] (Int.toNat (withinI (pickG x0.2 (0)) (0) (7))) ([] : List UInt8)))])
              else
                some ([(([97] : List UInt8), (List.getD [([120] : List UInt8), ([121] : List UInt8), ([120, 121] : List UInt8), ([49] : List UInt8), ([34] : List UInt8), ([92] : List UInt8), ([123, 125] : List UInt8), ([122, 32, 122] : List UInt8)] (Int.toNat (withinI (pickG x0.2 (0)) (0) (7))) ([] : List UInt8)))])
          else
            none
        else
          none
      else
        none
    else
      if decide (1 < (((List.length x0.1) : Nat) : Int)) = true then
        if ((IntKind.wrap .i64 ((((BitVec.ofInt 64 (List.getD x0.1 1 0) &&& BitVec.ofInt 64 (1)).toNat : Nat) : Int))) == (1)) = true then
          if pickPre x0.2 (1) = true then
            if decide (0 ≤ (withinI (pickG x0.2 (1)) (0) (7))) = true then
              if decide ((withinI (pickG x0.2 (1)) (0) (7)) < 8) = true then
                if decide (2 < (((List.length x0.1) : Nat) : Int)) = true then
                  if ((IntKind.wrap .i64 ((((BitVec.ofInt 64 (List.getD x0.1 2 0) &&& BitVec.ofInt 64 (1)).toNat : Nat) : Int))) == (1)) = true then
                    if pickPre x0.2 (2) = true then
                      if decide (0 ≤ (withinI (pickG x0.2 (2)) (0) (7))) = true then
                        if decide ((withinI (pickG x0.2 (2)) (0) (7)) < 8) = true then
                          some ([(([98] : List UInt8), (List.getD [([120] : List UInt8), ([121] : List UInt8), ([120, 121] : List UInt8), ([49] : List UInt8), ([34] : List UInt8), ([92] : List UInt8), ([123, 125] : List UInt8), ([122, 32, 122] : List UInt8)] (Int.toNat (withinI (pickG x0.2 (1)) (0) (7))) ([] : List UInt8))), (([99] : List UInt8), (List.getD [([120] : List UInt8), ([121] : List UInt8), ([120, 121] : List UInt8), ([49] : List UInt8), ([34] : List UInt8), ([92] : List UInt8), ([123, 125] : List UInt8), ([122, 32, 122] : List UInt8)] (Int.toNat (withinI (pickG x0.2 (2)) (0) (7))) ([] : List UInt8)))])
                        else
                          none
                      else
                        none
                    else
                      none
                  else
                    some ([(([98] : List UInt8), (List.getD [([120] : List UInt8), ([121] : List UInt8), ([120, 121] : List UInt8), ([49] : List UInt8), ([34] : List UInt8), ([92] : List UInt8), ([123, 125] : List UInt8), ([122, 32, 122] : List UInt8)] (Int.toNat (withinI (pickG x0.2 (1)) (0) (7))) ([] : List UInt8)))])
                else
                  some ([(([98] : List UInt8), (List.getD [([120] : List UInt8), ([121] : List UInt8), ([120, 121] : List UInt8), ([49] : List UInt8), ([34] : List UInt8), ([92] : List UInt8), ([123, 125] : List UInt8), ([122, 32, 122] : List UInt8)] (Int.toNat (withinI (pickG x0.2 (1)) (0) (7))) ([] : List UInt8)))])
              else
                none
            else
              none
          else
            none
        else
          if decide (2 < (((List.length x0.1) : Nat) : Int)) = true then
            if ((IntKind.wrap .i64 ((((BitVec.ofInt 64 (List.getD x0.1 2 0) &&& BitVec.ofInt 64 (1)).toNat : Nat) : Int))) == (1)) = true then
              if pickPre x0.2 (2) = true then
                if decide (0 ≤ (withinI (pickG x0.2 (2)) (0) (7))) = true then
                  if decide ((withinI (pickG x0.2 (2)) (0) (7)) < 8) = true then
                    some ([(([99] : List UInt8), (List.getD [([120] : List UInt8), ([121] : List UInt8), ([120, 121] : List UInt8), ([49] : List UInt8), ([34] : List UInt8), ([92] : List UInt8), ([123, 125] : List UInt8), ([122, 32, 122] : List UInt8)] (Int.toNat (withinI (pickG x0.2 (2)) (0) (7))) ([] : List UInt8)))])
                  else
                    none
                else
                  none
              else
                none
            else
              some (([] : List ((List UInt8) × (List UInt8))))
          else
            some (([] : List ((List UInt8) × (List UInt8))))
      else
        if decide (2 < (((List.length x0.1) : Nat) : Int)) = true then
          if ((IntKind.wrap .i64 ((((BitVec.ofInt 64 (List.getD x0.1 2 0) &&& BitVec.ofInt 64 (1)).toNat : Nat) : Int))) == (1)) = true then
            if pickPre x0.2 (2) = true then
              if decide (0 ≤ (withinI (pickG x0.2 (2)) (0) (7))) = true then
                if decide ((withinI (pickG x0.2 (2)) (0) (7)) < 8) = true then
                  some ([(([99] : List UInt8), (List.getD [([120] : List UInt8), ([121] : List UInt8), ([120, 121] : List UInt8), ([49] : List UInt8), ([34] : List UInt8), ([92] : List UInt8), ([123, 125] : List UInt8), ([122, 32, 122] : List UInt8)] (Int.toNat (withinI (pickG x0.2 (2)) (0) (7))) ([] : List UInt8)))])
                else
                  none
              else
                none
            else
              none
          else
            some (([] : List ((List UInt8) × (List UInt8))))
        else
          some (([] : List ((List UInt8) × (List UInt8))))
  else
    if decide (1 < (((List.length x0.1) : Nat) : Int)) = true then
      if ((IntKind.wrap .i64 ((((BitVec.ofInt 64 (List.getD x0.1 1 0) &&& BitVec.ofInt 64 (1)).toNat : Nat) : Int))) == (1)) = true then
        if pickPre x0.2 (1) = true then
          if decide (0 ≤ (withinI (pickG x0.2 (1)) (0) (7))) = true then
            if decide ((withinI (pickG x0.2 (1)) (0) (7)) < 8) = true then
              if decide (2 < (((List.length x0.1) : Nat) : Int)) = true then
                if ((IntKind.wrap .i64 ((((BitVec.ofInt 64 (List.getD x0.1 2 0) &&& BitVec.ofInt 64 (1)).toNat : Nat) : Int))) == (1)) = true then
                  if pickPre x0.2 (2) = true then
                    if decide (0 ≤ (withinI (pickG x0.2 (2)) (0) (7))) = true then
                      if decide ((withinI (pickG x0.2 (2)) (0) (7)) < 8) = true then
                        some ([(([98] : List UInt8), (List.getD [([120] : List UInt8), ([121] : List UInt8), ([120, 121] : List UInt8), ([49] : List UInt8), ([34] : List UInt8), ([92] : List UInt8), ([123, 125] : List UInt8), ([122, 32, 122] : List UInt8)] (Int.toNat (withinI (pickG x0.2 (1)) (0) (7))) ([] : List UInt8))), (([99] : List UInt8), (List.getD [([120] : List UInt8), ([121] : List UInt8), ([120, 121] : List UInt8), ([49] : List UInt8), ([34] : List UInt8), ([92] : List UInt8), ([123, 125] : List UInt8), ([122, 32, 122] : List UInt8)] (Int.toNat (withinI (pickG x0.2 (2)) (0) (7))) ([] : List UInt8)))])
                      else
                        none
                    else
                      none
                  else
                    none
                else
                  some ([(([98] : List UInt8), (List.getD [([120] : List UInt8), ([121] : List UInt8), ([120, 121] : List UInt8), ([49] : List UInt8), ([34] : List UInt8), ([92] : List UInt8), ([123, 125] : List UInt8), ([122, 32, 122] : List UInt8)] (Int.toNat (withinI (pickG x0.2 (1)) (0) (7))) ([] : List UInt8)))])
              else
                some ([(([98] : List UInt8), (List.getD [([120] : List UInt8), ([121] : List UInt8), ([120, 121] : List UInt8), ([49] : List UInt8), ([34] : List UInt8), ([92] : List UInt8), ([123, 125] : List UInt8), ([122, 32, 122] : List UInt8)] (Int.toNat (withinI (pickG x0.2 (1)) (0) (7))) ([] : List UInt8)))])
            else
              none
          else
            none
        else
          none
      else
        if decide (2 < (((List.length x0.1) : Nat) : Int)) = true then
          if ((IntKind.wrap .i64 ((((BitVec.ofInt 64 (List.getD x0.1 2 0) &&& BitVec.ofInt 64 (1)).toNat : Nat) : Int))) == (1)) = true then
            if pickPre x0.2 (2) = true then
              if decide (0 ≤ (withinI (pickG x0.2 (2)) (0) (7))) = true then
                if decide ((withinI (pickG x0.2 (2)) (0) (7)) < 8) = true then
                  some ([(([99] : List UInt8), (List.getD [([120] : List UInt8), ([121] : List UInt8), ([120, 121] : List UInt8), ([49] : List UInt8), ([34] : List UInt8), ([92] : List UInt8), ([123, 125] : List UInt8), ([122, 32, 122] : List UInt8)] (Int.toNat (withinI (pickG x0.2 (2)) (0) (7))) ([] : List UInt8)))])
                else
                  none
              else
                none
            else
              none
          else
            some (([] : List ((List UInt8) × (List UInt8))))
        else
          some (([] : List ((List UInt8) × (List UInt8))))
    else
      if decide (2 < (((List.length x0.1) : Nat) : Int)) = true then
        if ((IntKind.wrap .i64 ((((BitVec.ofInt 64 (List.getD x0.1 2 0) &&& BitVec.ofInt 64 (1)).toNat : Nat) : Int))) == (1)) = true then
          if pickPre x0.2 (2) = true then
            if decide (0 ≤ (withinI (pickG x0.2 (2)) (0) (7))) = true then
              if decide ((withinI (pickG x0.2 (2)) (0) (7)) < 8) = true then
                some ([(([99] : List UInt8), (List.getD [([120] : List UInt8), ([121] : List UInt8), ([120, 121] : List UInt8), ([49] : List UInt8), ([34] : List UInt8), ([92] : List UInt8), ([123, 125] : List UInt8), ([122, 32, 122] : List UInt8)] (Int.toNat (withinI (pickG x0.2 (2)) (0) (7))) ([] : List UInt8)))])
              else
                none
            else
              none
          else
            none
        else
          some (([] : List ((List UInt8) × (List UInt8))))
      else
        some (([] : List ((List UInt8) × (List UInt8))))
@[reducible] def p15_k1 (x0 : (List Int) × (List Int)) := (List.getD [([120] : List UInt8), ([121] : List UInt8), ([120, 121] : List UInt8), ([49] : List UInt8), ([34] : List UInt8), ([92] : List UInt8), ([123, 125] : List UInt8), ([122, 32, 122] : List UInt8)] (Int.toNat (withinI (pickG x0.2 (0)) (0) (7))) ([] : List UInt8))
@[reducible] def p15_k2 (x0 : (List Int) × (List Int)) := (List.getD [([120] : List UInt8), ([121] : List UInt8), ([120, 121] : List UInt8), ([49] : List UInt8), ([34] : List UInt8), ([92] : List UInt8), ([123, 125] : List UInt8), ([122, 32, 122] : List UInt8)] (Int.toNat (withinI (pickG x0.2 (1)) (0) (7))) ([] : List UInt8))
@[reducible] def p15_k3 (x0 : (List Int) × (List Int)) := (List.getD [([120] : List UInt8), ([121] : List UInt8), ([120, 121] : List UInt8), ([49] : List UInt8), ([34] : List UInt8), ([92] : List UInt8), ([123, 125] : List UInt8), ([122, 32, 122] : List UInt8)] (Int.toNat (withinI (pickG x0.2 (2)) (0) (7))) ([] : List UInt8))
@[reducible] def p15_e1  := [([120] : List UInt8), ([121] : List UInt8), ([120, 121] : List UInt8), ([49] : List UInt8), ([34] : List UInt8), ([92] : List UInt8), ([123, 125] : List UInt8), ([122, 32, 122] : List UInt8)]
@[reducible] def p15_e2  : Env := [.top, (.ptr 0 0), .top, (.sr 1 0 3 2 none), (.d (.sl .str p15_e1)), .top, .top, .top, .top, (.d (.sl .str [([97] : List UInt8), ([98] : List UInt8), ([99] : List UInt8)])), (.d (.int .i64 (3))), (.d (.int .i64 (3))), (.d (.bool false)), .top, .top, .top, .top, .top, .top, .top, .top, .top, .top, .top, .top, .top, .top, .top, .top, .top, .top, .top, .top, .top, .top, .top, .top, .top, .top, .top, .top, .top, .top, .top, .top, .top, .top, .top]
@[reducible] def p15_e3  : Env := [.top, (.ptr 0 0), .top, (.sr 1 0 2 2 none), (.d (.sl .str p15_e1)), .top, .top, .top, .top, (.d (.sl .str [([97] : List UInt8), ([98] : List UInt8), ([99] : List UInt8)])), (.d (.int .i64 (3))), (.d (.int .i64 (3))), (.d (.bool false)), .top, .top, .top, .top, .top, .top, .top, .top, .top, .top, .top, .top, .top, .top, .top, .top, .top, .top, .top, .top, .top, .top, .top, .top, .top, .top, .top, .top, .top, .top, .top, .top, .top, .top, .top]
@[reducible] def p15_e4  : Env := [.top, (.ptr 0 0), .top, (.sr 1 0 1 2 none), (.d (.sl .str p15_e1)), .top, .top, .top, .top, (.d (.sl .str [([97] : List UInt8), ([98] : List UInt8), ([99] : List UInt8)])), (.d (.int .i64 (3))), (.d (.int .i64 (3))), (.d (.bool false)), .top, .top, .top, .top, .top, .top, .top, .top, .top, .top, .top, .top, .top, .top, .top, .top, .top, .top, .top, .top, .top, .top, .top, .top, .top, .top, .top, .top, .top, .top, .top, .top, .top, .top, .top]
@[reducible] def p15_e5  : Env := [.top, (.ptr 0 0), .top, (.sr 1 0 0 2 none), (.d (.sl .str p15_e1)), .top, .top, .top, .top, (.d (.sl .str [([97] : List UInt8), ([98] : List UInt8), ([99] : List UInt8)])), (.d (.int .i64 (3))), (.d (.int .i64 (3))), (.d (.bool false)), .top, .top, .top, .top, .top, .top, .top, .top, .top, .top, .top, .top, .top, .top, .top, .top, .top, .top, .top, .top, .top, .top, .top, .top, .top, .top, .top, .top, .top, .top, .top, .top, .top, .top, .top]
@[reducible] def p15_e6  : Env := [.top, (.ptr 0 0), .top, (.sr 1 0 0 2 none), (.d (.sl .str p15_e1)), .top, .top, .top, .top, (.d (.sl .str [([97] : List UInt8), ([98] : List UInt8), ([99] : List UInt8)])), (.d (.int .i64 (3))), (.d (.int .i64 (0))), .top, .top, .top, .top, .top, .top, .top, .top, .top, .top, .top, .top, .top, .top, .top, .top, .top, .top, .top, .top, .top, .top, .top, .top, .top, .top, .top, .top, .top, .top, .top, .top, .top, .top, .top, .top]
@[reducible] def p15_e7  : Env := [.top, (.ptr 0 0), .top, (.sr 1 0 3 2 none), (.d (.sl .str p15_e1)), .top, .top, .top, .top, (.d (.sl .str [([97] : List UInt8), ([98] : List UInt8), ([99] : List UInt8)])), (.d (.int .i64 (3))), (.d (.int .i64 (3))), .top, .top, .top, .top, .top, .top, .top, .top, .top, .top, .top, .top, .top, .top, .top, .top, .top, .top, .top, .top, .top, .top, .top, .top, .top, .top, .top, .top, .top, .top, .top, .top, .top, .top, .top, .top]
@[reducible] def p15_e8  : Env := [.top, (.ptr 0 0), .top, (.sr 1 0 2 2 none), (.d (.sl .str p15_e1)), .top, .top, .top, .top, (.d (.sl .str [([97] : List UInt8), ([98] : List UInt8), ([99] : List UInt8)])), (.d (.int .i64 (3))), (.d (.int .i64 (2))), .top, .top, .top, .top, .top, .top, .top, .top, .top, .top, .top, .top, .top, .top, .top, .top, .top, .top, .top, .top, .top, .top, .top, .top, .top, .top, .top, .top, .top, .top, .top, .top, .top, .top, .top, .top]
@[reducible] def p15_e9  : Env := [.top, (.ptr 0 0), .top, (.sr 1 0 1 2 none), (.d (.sl .str p15_e1)), .top, .top, .top, .top, (.d (.sl .str [([97] : List UInt8), ([98] : List UInt8), ([99] : List UInt8)])), (.d (.int .i64 (3))), (.d (.int .i64 (1))), .top, .top, .top, .top, .top, .top, .top, .top, .top, .top, .top, .top, .top, .top, .top, .top, .top, .top, .top, .top, .top, .top, .top, .top, .top, .top, .top, .top, .top, .top, .top, .top, .top, .top, .top, .top]
@[reducible] def p15_e10  : Env := [.top, (.ptr 0 0), .top, (.sr 1 0 2 2 none), (.d (.sl .str p15_e1)), .top, .top, .top, .top, (.d (.sl .str [([97] : List UInt8), ([98] : List UInt8), ([99] : List UInt8)])), (.d (.int .i64 (3))), (.d (.int .i64 (3))), .top, .top, .top, .top, .top, .top, .top, .top, .top, .top, .top, .top, .top, .top, .top, .top, .top, .top, .top, .top, .top, .top, .top, .top, .top, .top, .top, .top, .top, .top, .top, .top, .top, .top, .top, .top]
@[reducible] def p15_e11  : Env := [.top, (.ptr 0 0), .top, (.sr 1 0 1 2 none), (.d (.sl .str p15_e1)), .top, .top, .top, .top, (.d (.sl .str [([97] : List UInt8), ([98] : List UInt8), ([99] : List UInt8)])), (.d (.int .i64 (3))), (.d (.int .i64 (2))), .top, .top, .top, .top, .top, .top, .top, .top, .top, .top, .top, .top, .top, .top, .top, .top, .top, .top, .top, .top, .top, .top, .top, .top, .top, .top, .top, .top, .top, .top, .top, .top, .top, .top, .top, .top]
@[reducible] def p15_e12  : Env := [.top, (.ptr 0 0), .top, (.sr 1 0 1 2 none), (.d (.sl .str p15_e1)), .top, .top, .top, .top, (.d (.sl .str [([97] : List UInt8), ([98] : List UInt8), ([99] : List UInt8)])), (.d (.int .i64 (3))), (.d (.int .i64 (3))), .top, .top, .top, .top, .top, .top, .top, .top, .top, .top, .top, .top, .top, .top, .top, .top, .top, .top, .top, .top, .top, .top, .top, .top, .top, .top, .top, .top, .top, .top, .top, .top, .top, .top, .top, .top]
@[reducible] def p15_e13  : Env := [.top, (.ptr 0 0), .top, (.sr 1 0 0 2 none), (.d (.sl .str p15_e1)), .top, .top, .top, .top, (.d (.sl .str [([97] : List UInt8), ([98] : List UInt8), ([99] : List UInt8)])), (.d (.int .i64 (3))), (.d (.int .i64 (1))), .top, .top, .top, .top, .top, .top, .top, .top, .top, .top, .top, .top, .top, .top, .top, .top, .top, .top, .top, .top, .top, .top, .top, .top, .top, .top, .top, .top, .top, .top, .top, .top, .top, .top, .top, .top]
@[reducible] def p15_e14  : Env := [.top, (.ptr 0 0), .top, (.sr 1 0 0 2 none), (.d (.sl .str p15_e1)), .top, .top, .top, .top, (.d (.sl .str [([97] : List UInt8), ([98] : List UInt8), ([99] : List UInt8)])), (.d (.int .i64 (3))), (.d (.int .i64 (2))), .top, .top, .top, .top, .top, .top, .top, .top, .top, .top, .top, .top, .top, .top, .top, .top, .top, .top, .top, .top, .top, .top, .top, .top, .top, .top, .top, .top, .top, .top, .top, .top, .top, .top, .top, .top]
@[reducible] def p15_e15  : Env := [.top, (.ptr 0 0), .top, (.sr 1 0 0 2 none), (.d (.sl .str p15_e1)), .top, .top, .top, .top, (.d (.sl .str [([97] : List UInt8), ([98] : List UInt8), ([99] : List UInt8)])), (.d (.int .i64 (3))), (.d (.int .i64 (3))), .top, .top, .top, .top, .top, .top, .top, .top, .top, .top, .top, .top, .top, .top, .top, .top, .top, .top, .top, .top, .top, .top, .top, .top, .top, .top, .top, .top, .top, .top, .top, .top, .top, .top, .top, .top]
set_option maxHeartbeats 20000000 in
theorem p15_ok (m : Nat) (x0 : (List Int) × (List Int)) (q : (List ((List UInt8) × (List UInt8)))) (h : p15 m x0 = some q) : ∃ r B1, (evCall F S4 (m + 25) 15 [(.agg [(.d (.sl (.int .i64) x0.1)), (.d (.sl (.int .i64) x0.2))])] []).run = some (r, B1) ∧ 0 ≤ B1.length ∧ wkR B1 [] r (.d (.sl (.pair .str .str) q)) ∧ wkBs B1 [] 0 [] := by
  unfold p15 at h
  refine ite_cases h (fun c6 h => ?_) (fun c6 h => ?_)
  · skip
    refine ite_cases h (fun c16 h => ?_) (fun c16 h => ?_)
    · skip
      refine ite_cases h (fun c17 h => ?_) (fun c17 h => ?_)
      · skip
        refine ite_cases h (fun c19 h => ?_) (fun c19 h => ?_)
        · skip
          refine ite_cases h (fun c20 h => ?_) (fun c20 h => ?_)
          · skip
            refine ite_cases h (fun c27 h => ?_) (fun c27 h => ?_)
            · skip
              refine ite_cases h (fun c37 h => ?_) (fun c37 h => ?_)
              · skip
                refine ite_cases h (fun c38 h => ?_) (fun c38 h => ?_)
                · skip
                  refine ite_cases h (fun c40 h => ?_) (fun c40 h => ?_)
                  · skip
                    refine ite_cases h (fun c41 h => ?_) (fun c41 h => ?_)
                    · skip
                      refine ite_cases h (fun c48 h => ?_) (fun c48 h => ?_)
                      · skip
                        refine ite_cases h (fun c58 h => ?_) (fun c58 h => ?_)
                        · skip
                          refine ite_cases h (fun c59 h => ?_) (fun c59 h => ?_)
                          · skip
                            refine ite_cases h (fun c61 h => ?_) (fun c61 h => ?_)
                            · skip
                              refine ite_cases h (fun c62 h => ?_) (fun c62 h => ?_)
                              · skip
                                cases h
                                refine ⟨(.d (.sl (.pair .str .str) [(([97] : List UInt8), (p15_k1 x0)), (([98] : List UInt8), (p15_k2 x0)), (([99] : List UInt8), (p15_k3 x0))])), [], runT_ok (LS := (fun k => if k = 3610 then some (.exit 0, p15_e2, [(.cells [(.d (.sl (.int .i64) x0.1)), (.d (.sl (.int .i64) x0.2))]), (.arr (.pair .str .str) [(([97] : List UInt8), (p15_k1 x0)), (([98] : List UInt8), (p15_k2 x0)), (([99] : List UInt8), (p15_k3 x0))] true)]) else none)) (fn := fn15) (vis := [(3610, p15_e6, [(.cells [(.d (.sl (.int .i64) x0.1)), (.d (.sl (.int .i64) x0.2))]), (.arr (.pair .str .str) ([] : List ((List UInt8) × (List UInt8))) true)])]) (by kernel_rfl) rfl (by kernel_rfl) (M.run_of_path _ [true, true, true, true] _ _ (by kernel_rfl) (all_t rfl (all_t rfl (all_t rfl (all_t rfl all_nil))))) ?_, by simp, (wkR.one (wkV.one (wk1.eq rfl))), trivial⟩
                                intro p hp p2 hq
                                rcases List.mem_cons.1 hp with rfl | hp
                                · skip
                                  have ht3 : (turn (hds 15 3610) 0 3610 (evC byref (evCall F S4 (m + 24)) (m + 24) 0 (hds 15) lbu15_0) p15_e7 [(.cells [(.d (.sl (.int .i64) x0.1)), (.d (.sl (.int .i64) x0.2))]), (.arr (.pair .str .str) [(([97] : List UInt8), (p15_k1 x0)), (([98] : List UInt8), (p15_k2 x0)), (([99] : List UInt8), (p15_k3 x0))] true)]).run = some (.exit 0, p15_e2, [(.cells [(.d (.sl (.int .i64) x0.1)), (.d (.sl (.int .i64) x0.2))]), (.arr (.pair .str .str) [(([97] : List UInt8), (p15_k1 x0)), (([98] : List UInt8), (p15_k2 x0)), (([99] : List UInt8), (p15_k3 x0))] true)]) := M.run_of_path _ [false] _ _ (by kernel_rfl) (all_f Bool.false_ne_true all_nil)
                                  have hp3 := turns_last (n := m + 20) (by simp) ht3
                                  have ht2 : (turn (hds 15 3610) 0 3610 (evC byref (evCall F S4 (m + 24)) (m + 24) 0 (hds 15) lbu15_0) p15_e8 [(.cells [(.d (.sl (.int .i64) x0.1)), (.d (.sl (.int .i64) x0.2))]), (.arr (.pair .str .str) [(([97] : List UInt8), (p15_k1 x0)), (([98] : List UInt8), (p15_k2 x0))] true)]).run = some (.normal, p15_e7, [(.cells [(.d (.sl (.int .i64) x0.1)), (.d (.sl (.int .i64) x0.2))]), (.arr (.pair .str .str) [(([97] : List UInt8), (p15_k1 x0)), (([98] : List UInt8), (p15_k2 x0)), (([99] : List UInt8), (p15_k3 x0))] true)]) := M.run_of_path _ [true, true, true, true, true, true, true, true, true, true, true, true, true, true, true, true, true, true, true, true, true] _ _ (by kernel_rfl) (all_t rfl (all_t rfl (all_t rfl (all_t c48 (all_t c48 (all_t c48 (all_t c48 (all_t rfl (all_t c48 (all_t c48 (all_t c48 (all_t c48 (all_t c48 (all_t c58 (all_t c59 (all_t rfl (all_t c61 (all_t c62 (all_t rfl (all_t rfl (all_t rfl all_nil)))))))))))))))))))))
                                  have hs2 : (turns (hds 15 3610) 0 3610 (evC byref (evCall F S4 (m + 24)) (m + 24) 0 (hds 15) lbu15_0) (m + 21) p15_e7 [(.cells [(.d (.sl (.int .i64) x0.1)), (.d (.sl (.int .i64) x0.2))]), (.arr (.pair .str .str) [(([97] : List UInt8), (p15_k1 x0)), (([98] : List UInt8), (p15_k2 x0)), (([99] : List UInt8), (p15_k3 x0))] true)]).run = some (.exit 0, p15_e2, [(.cells [(.d (.sl (.int .i64) x0.1)), (.d (.sl (.int .i64) x0.2))]), (.arr (.pair .str .str) [(([97] : List UInt8), (p15_k1 x0)), (([98] : List UInt8), (p15_k2 x0)), (([99] : List UInt8), (p15_k3 x0))] true)]) := Eq.mp (by kernel_rfl) hp3
                                  have hp2 := turns_step ht2 hs2
                                  have ht1 : (turn (hds 15 3610) 0 3610 (evC byref (evCall F S4 (m + 24)) (m + 24) 0 (hds 15) lbu15_0) p15_e9 [(.cells [(.d (.sl (.int .i64) x0.1)), (.d (.sl (.int .i64) x0.2))]), (.arr (.pair .str .str) [(([97] : List UInt8), (p15_k1 x0))] true)]).run = some (.normal, p15_e8, [(.cells [(.d (.sl (.int .i64) x0.1)), (.d (.sl (.int .i64) x0.2))]), (.arr (.pair .str .str) [(([97] : List UInt8), (p15_k1 x0)), (([98] : List UInt8), (p15_k2 x0))] true)]) := M.run_of_path _ [true, true, true, true, true, true, true, true, true, true, true, true, true, true, true, true, true, true, true, true, true] _ _ (by kernel_rfl) (all_t rfl (all_t rfl (all_t rfl (all_t c27 (all_t c27 (all_t c27 (all_t c27 (all_t rfl (all_t c27 (all_t c27 (all_t c27 (all_t c27 (all_t c27 (all_t c37 (all_t c38 (all_t rfl (all_t c40 (all_t c41 (all_t rfl (all_t rfl (all_t rfl all_nil)))))))))))))))))))))
                                  have hs1 : (turns (hds 15 3610) 0 3610 (evC byref (evCall F S4 (m + 24)) (m + 24) 0 (hds 15) lbu15_0) (m + 22) p15_e8 [(.cells [(.d (.sl (.int .i64) x0.1)), (.d (.sl (.int .i64) x0.2))]), (.arr (.pair .str .str) [(([97] : List UInt8), (p15_k1 x0)), (([98] : List UInt8), (p15_k2 x0))] true)]).run = some (.exit 0, p15_e2, [(.cells [(.d (.sl (.int .i64) x0.1)), (.d (.sl (.int .i64) x0.2))]), (.arr (.pair .str .str) [(([97] : List UInt8), (p15_k1 x0)), (([98] : List UInt8), (p15_k2 x0)), (([99] : List UInt8), (p15_k3 x0))] true)]) := Eq.mp (by kernel_rfl) hp2
                                  have hp1 := turns_step ht1 hs1
                                  have ht0 : (turn (hds 15 3610) 0 3610 (evC byref (evCall F S4 (m + 24)) (m + 24) 0 (hds 15) lbu15_0) p15_e6 [(.cells [(.d (.sl (.int .i64) x0.1)), (.d (.sl (.int .i64) x0.2))]), (.arr (.pair .str .str) ([] : List ((List UInt8) × (List UInt8))) true)]).run = some (.normal, p15_e9, [(.cells [(.d (.sl (.int .i64) x0.1)), (.d (.sl (.int .i64) x0.2))]), (.arr (.pair .str .str) [(([97] : List UInt8), (p15_k1 x0))] true)]) := M.run_of_path _ [true, true, true, true, true, true, true, true, true, true, true, true, true, true, true, true, true, true, true, true, true] _ _ (by kernel_rfl) (all_t rfl (all_t rfl (all_t rfl (all_t c6 (all_t c6 (all_t c6 (all_t c6 (all_t rfl (all_t c6 (all_t c6 (all_t c6 (all_t c6 (all_t c6 (all_t c16 (all_t c17 (all_t rfl (all_t c19 (all_t c20 (all_t rfl (all_t rfl (all_t rfl all_nil)))))))))))))))))))))
                                  have hs0 : (turns (hds 15 3610) 0 3610 (evC byref (evCall F S4 (m + 24)) (m + 24) 0 (hds 15) lbu15_0) (m + 23) p15_e9 [(.cells [(.d (.sl (.int .i64) x0.1)), (.d (.sl (.int .i64) x0.2))]), (.arr (.pair .str .str) [(([97] : List UInt8), (p15_k1 x0))] true)]).run = some (.exit 0, p15_e2, [(.cells [(.d (.sl (.int .i64) x0.1)), (.d (.sl (.int .i64) x0.2))]), (.arr (.pair .str .str) [(([97] : List UInt8), (p15_k1 x0)), (([98] : List UInt8), (p15_k2 x0)), (([99] : List UInt8), (p15_k3 x0))] true)]) := Eq.mp (by kernel_rfl) hp1
                                  have hp0 := turns_step ht0 hs0
                                  exact Eq.trans (Eq.mp (by kernel_rfl) hp0) hq
                                cases hp
                              · skip
                                cases h
                            · skip
                              cases h
                          · skip
                            cases h
                        · skip
                          cases h
                          refine ⟨(.d (.sl (.pair .str .str) [(([97] : List UInt8), (p15_k1 x0)), (([98] : List UInt8), (p15_k2 x0))])), [], runT_ok (LS := (fun k => if k = 3610 then some (.exit 0, p15_e3, [(.cells [(.d (.sl (.int .i64) x0.1)), (.d (.sl (.int .i64) x0.2))]), (.arr (.pair .str .str) [(([97] : List UInt8), (p15_k1 x0)), (([98] : List UInt8), (p15_k2 x0))] true)]) else none)) (fn := fn15) (vis := [(3610, p15_e6, [(.cells [(.d (.sl (.int .i64) x0.1)), (.d (.sl (.int .i64) x0.2))]), (.arr (.pair .str .str) ([] : List ((List UInt8) × (List UInt8))) true)])]) (by kernel_rfl) rfl (by kernel_rfl) (M.run_of_path _ [true, true, true, true] _ _ (by kernel_rfl) (all_t rfl (all_t rfl (all_t rfl (all_t rfl all_nil))))) ?_, by simp, (wkR.one (wkV.one (wk1.eq rfl))), trivial⟩
                          intro p hp p2 hq
                          rcases List.mem_cons.1 hp with rfl | hp
                          · skip
                            have ht3 : (turn (hds 15 3610) 0 3610 (evC byref (evCall F S4 (m + 24)) (m + 24) 0 (hds 15) lbu15_0) p15_e10 [(.cells [(.d (.sl (.int .i64) x0.1)), (.d (.sl (.int .i64) x0.2))]), (.arr (.pair .str .str) [(([97] : List UInt8), (p15_k1 x0)), (([98] : List UInt8), (p15_k2 x0))] true)]).run = some (.exit 0, p15_e3, [(.cells [(.d (.sl (.int .i64) x0.1)), (.d (.sl (.int .i64) x0.2))]), (.arr (.pair .str .str) [(([97] : List UInt8), (p15_k1 x0)), (([98] : List UInt8), (p15_k2 x0))] true)]) := M.run_of_path _ [false] _ _ (by kernel_rfl) (all_f Bool.false_ne_true all_nil)
                            have hp3 := turns_last (n := m + 20) (by simp) ht3
                            have ht2 : (turn (hds 15 3610) 0 3610 (evC byref (evCall F S4 (m + 24)) (m + 24) 0 (hds 15) lbu15_0) p15_e8 [(.cells [(.d (.sl (.int .i64) x0.1)), (.d (.sl (.int .i64) x0.2))]), (.arr (.pair .str .str) [(([97] : List UInt8), (p15_k1 x0)), (([98] : List UInt8), (p15_k2 x0))] true)]).run = some (.normal, p15_e10, [(.cells [(.d (.sl (.int .i64) x0.1)), (.d (.sl (.int .i64) x0.2))]), (.arr (.pair .str .str) [(([97] : List UInt8), (p15_k1 x0)), (([98] : List UInt8), (p15_k2 x0))] true)]) := M.run_of_path _ [true, true, true, true, true, true, true, true, true, true, true, true, true, false] _ _ (by kernel_rfl) (all_t rfl (all_t rfl (all_t rfl (all_t c48 (all_t c48 (all_t c48 (all_t c48 (all_t rfl (all_t c48 (all_t c48 (all_t c48 (all_t c48 (all_t c48 (all_f c58 all_nil))))))))))))))
                            have hs2 : (turns (hds 15 3610) 0 3610 (evC byref (evCall F S4 (m + 24)) (m + 24) 0 (hds 15) lbu15_0) (m + 21) p15_e10 [(.cells [(.d (.sl (.int .i64) x0.1)), (.d (.sl (.int .i64) x0.2))]), (.arr (.pair .str .str) [(([97] : List UInt8), (p15_k1 x0)), (([98] : List UInt8), (p15_k2 x0))] true)]).run = some (.exit 0, p15_e3, [(.cells [(.d (.sl (.int .i64) x0.1)), (.d (.sl (.int .i64) x0.2))]), (.arr (.pair .str .str) [(([97] : List UInt8), (p15_k1 x0)), (([98] : List UInt8), (p15_k2 x0))] true)]) := Eq.mp (by kernel_rfl) hp3
                            have hp2 := turns_step ht2 hs2
                            have ht1 : (turn (hds 15 3610) 0 3610 (evC byref (evCall F S4 (m + 24)) (m + 24) 0 (hds 15) lbu15_0) p15_e9 [(.cells [(.d (.sl (.int .i64) x0.1)), (.d (.sl (.int .i64) x0.2))]), (.arr (.pair .str .str) [(([97] : List UInt8), (p15_k1 x0))] true)]).run = some (.normal, p15_e8, [(.cells [(.d (.sl (.int .i64) x0.1)), (.d (.sl (.int .i64) x0.2))]), (.arr (.pair .str .str) [(([97] : List UInt8), (p15_k1 x0)), (([98] : List UInt8), (p15_k2 x0))] true)]) := M.run_of_path _ [true, true, true, true, true, true, true, true, true, true, true, true, true, true, true, true, true, true, true, true, true] _ _ (by kernel_rfl) (all_t rfl (all_t rfl (all_t rfl (all_t c27 (all_t c27 (all_t c27 (all_t c27 (all_t rfl (all_t c27 (all_t c27 (all_t c27 (all_t c27 (all_t c27 (all_t c37 (all_t c38 (all_t rfl (all_t c40 (all_t c41 (all_t rfl (all_t rfl (all_t rfl all_nil)))))))))))))))))))))
                            have hs1 : (turns (hds 15 3610) 0 3610 (evC byref (evCall F S4 (m + 24)) (m + 24) 0 (hds 15) lbu15_0) (m + 22) p15_e8 [(.cells [(.d (.sl (.int .i64) x0.1)), (.d (.sl (.int .i64) x0.2))]), (.arr (.pair .str .str) [(([97] : List UInt8), (p15_k1 x0)), (([98] : List UInt8), (p15_k2 x0))] true)]).run = some (.exit 0, p15_e3, [(.cells [(.d (.sl (.int .i64) x0.1)), (.d (.sl (.int .i64) x0.2))]), (.arr (.pair .str .str) [(([97] : List UInt8), (p15_k1 x0)), (([98] : List UInt8), (p15_k2 x0))] true)]) := Eq.mp (by kernel_rfl) hp2
                            have hp1 := turns_step ht1 hs1
                            have ht0 : (turn (hds 15 3610) 0 3610 (evC byref (evCall F S4 (m + 24)) (m + 24) 0 (hds 15) lbu15_0) p15_e6 [(.cells [(.d (.sl (.int .i64) x0.1)), (.d (.sl (.int .i64) x0.2))]), (.arr (.pair .str .str) ([] : List ((List UInt8) × (List UInt8))) true)]).run = some (.normal, p15_e9, [(.cells [(.d (.sl (.int .i64) x0.1)), (.d (.sl (.int .i64) x0.2))]), (.arr (.pair .str .str) [(([97] : List UInt8), (p15_k1 x0))] true)]) := M.run_of_path _ [true, true, true, true, true, true, true, true, true, true, true, true, true, true, true, true, true, true, true, true, true] _ _ (by kernel_rfl) (all_t rfl (all_t rfl (all_t rfl (all_t c6 (all_t c6 (all_t c6 (all_t c6 (all_t rfl (all_t c6 (all_t c6 (all_t c6 (all_t c6 (all_t c6 (all_t c16 (all_t c17 (all_t rfl (all_t c19 (all_t c20 (all_t rfl (all_t rfl (all_t rfl all_nil)))))))))))))))))))))
                            have hs0 : (turns (hds 15 3610) 0 3610 (evC byref (evCall F S4 (m + 24)) (m + 24) 0 (hds 15) lbu15_0) (m + 23) p15_e9 [(.cells [(.d (.sl (.int .i64) x0.1)), (.d (.sl (.int .i64) x0.2))]), (.arr (.pair .str .str) [(([97] : List UInt8), (p15_k1 x0))] true)]).run = some (.exit 0, p15_e3, [(.cells [(.d (.sl (.int .i64) x0.1)), (.d (.sl (.int .i64) x0.2))]), (.arr (.pair .str .str) [(([97] : List UInt8), (p15_k1 x0)), (([98] : List UInt8), (p15_k2 x0))] true)]) := Eq.mp (by kernel_rfl) hp1
                            have hp0 := turns_step ht0 hs0
                            exact Eq.trans (Eq.mp (by kernel_rfl) hp0) hq
                          cases hp
                      · skip
                        cases h
                        refine ⟨(.d (.sl (.pair .str .str) [(([97] : List UInt8), (p15_k1 x0)), (([98] : List UInt8), (p15_k2 x0))])), [], runT_ok (LS := (fun k => if k = 3610 then some (.exit 0, p15_e3, [(.cells [(.d (.sl (.int .i64) x0.1)), (.d (.sl (.int .i64) x0.2))]), (.arr (.pair .str .str) [(([97] : List UInt8), (p15_k1 x0)), (([98] : List UInt8), (p15_k2 x0))] true)]) else none)) (fn := fn15) (vis := [(3610, p15_e6, [(.cells [(.d (.sl (.int .i64) x0.1)), (.d (.sl (.int .i64) x0.2))]), (.arr (.pair .str .str) ([] : List ((List UInt8) × (List UInt8))) true)])]) (by kernel_rfl) rfl (by kernel_rfl) (M.run_of_path _ [true, true, true, true] _ _ (by kernel_rfl) (all_t rfl (all_t rfl (all_t rfl (all_t rfl all_nil))))) ?_, by simp, (wkR.one (wkV.one (wk1.eq rfl))), trivial⟩
                        intro p hp p2 hq
                        rcases List.mem_cons.1 hp with rfl | hp
                        · skip
                          have ht3 : (turn (hds 15 3610) 0 3610 (evC byref (evCall F S4 (m + 24)) (m + 24) 0 (hds 15) lbu15_0) p15_e10 [(.cells [(.d (.sl (.int .i64) x0.1)), (.d (.sl (.int .i64) x0.2))]), (.arr (.pair .str .str) [(([97] : List UInt8), (p15_k1 x0)), (([98] : List UInt8), (p15_k2 x0))] true)]).run = some (.exit 0, p15_e3, [(.cells [(.d (.sl (.int .i64) x0.1)), (.d (.sl (.int .i64) x0.2))]), (.arr (.pair .str .str) [(([97] : List UInt8), (p15_k1 x0)), (([98] : List UInt8), (p15_k2 x0))] true)]) := M.run_of_path _ [false] _ _ (by kernel_rfl) (all_f Bool.false_ne_true all_nil)
                          have hp3 := turns_last (n := m + 20) (by simp) ht3
                          have ht2 : (turn (hds 15 3610) 0 3610 (evC byref (evCall F S4 (m + 24)) (m + 24) 0 (hds 15) lbu15_0) p15_e8 [(.cells [(.d (.sl (.int .i64) x0.1)), (.d (.sl (.int .i64) x0.2))]), (.arr (.pair .str .str) [(([97] : List UInt8), (p15_k1 x0)), (([98] : List UInt8), (p15_k2 x0))] true)]).run = some (.normal, p15_e10, [(.cells [(.d (.sl (.int .i64) x0.1)), (.d (.sl (.int .i64) x0.2))]), (.arr (.pair .str .str) [(([97] : List UInt8), (p15_k1 x0)), (([98] : List UInt8), (p15_k2 x0))] true)]) := M.run_of_path _ [true, true, true, false, false, false, false, false, false, false, false, false] _ _ (by kernel_rfl) (all_t rfl (all_t rfl (all_t rfl (all_f c48 (all_f c48 (all_f c48 (all_f c48 (all_f c48 (all_f c48 (all_f c48 (all_f c48 (all_f Bool.false_ne_true all_nil))))))))))))
                          have hs2 : (turns (hds 15 3610) 0 3610 (evC byref (evCall F S4 (m + 24)) (m + 24) 0 (hds 15) lbu15_0) (m + 21) p15_e10 [(.cells [(.d (.sl (.int .i64) x0.1)), (.d (.sl (.int .i64) x0.2))]), (.arr (.pair .str .str) [(([97] : List UInt8), (p15_k1 x0)), (([98] : List UInt8), (p15_k2 x0))] true)]).run = some (.exit 0, p15_e3, [(.cells [(.d (.sl (.int .i64) x0.1)), (.d (.sl (.int .i64) x0.2))]), (.arr (.pair .str .str) [(([97] : List UInt8), (p15_k1 x0)), (([98] : List UInt8), (p15_k2 x0))] true)]) := Eq.mp (by kernel_rfl) hp3
                          have hp2 := turns_step ht2 hs2
                          have ht1 : (turn (hds 15 3610) 0 3610 (evC byref (evCall F S4 (m + 24)) (m + 24) 0 (hds 15) lbu15_0) p15_e9 [(.cells [(.d (.sl (.int .i64) x0.1)), (.d (.sl (.int .i64) x0.2))]), (.arr (.pair .str .str) [(([97] : List UInt8), (p15_k1 x0))] true)]).run = some (.normal, p15_e8, [(.cells [(.d (.sl (.int .i64) x0.1)), (.d (.sl (.int .i64) x0.2))]), (.arr (.pair .str .str) [(([97] : List UInt8), (p15_k1 x0)), (([98] : List UInt8), (p15_k2 x0))] true)]) := M.run_of_path _ [true, true, true, true, true, true, true, true, true, true, true, true, true, true, true, true, true, true, true, true, true] _ _ (by kernel_rfl) (all_t rfl (all_t rfl (all_t rfl (all_t c27 (all_t c27 (all_t c27 (all_t c27 (all_t rfl (all_t c27 (all_t c27 (all_t c27 (all_t c27 (all_t c27 (all_t c37 (all_t c38 (all_t rfl (all_t c40 (all_t c41 (all_t rfl (all_t rfl (all_t rfl all_nil)))))))))))))))))))))
                          have hs1 : (turns (hds 15 3610) 0 3610 (evC byref (evCall F S4 (m + 24)) (m + 24) 0 (hds 15) lbu15_0) (m + 22) p15_e8 [(.cells [(.d (.sl (.int .i64) x0.1)), (.d (.sl (.int .i64) x0.2))]), (.arr (.pair .str .str) [(([97] : List UInt8), (p15_k1 x0)), (([98] : List UInt8), (p15_k2 x0))] true)]).run = some (.exit 0, p15_e3, [(.cells [(.d (.sl (.int .i64) x0.1)), (.d (.sl (.int .i64) x0.2))]), (.arr (.pair .str .str) [(([97] : List UInt8), (p15_k1 x0)), (([98] : List UInt8), (p15_k2 x0))] true)]) := Eq.mp (by kernel_rfl) hp2
                          have hp1 := turns_step ht1 hs1
                          have ht0 : (turn (hds 15 3610) 0 3610 (evC byref (evCall F S4 (m + 24)) (m + 24) 0 (hds 15) lbu15_0) p15_e6 [(.cells [(.d (.sl (.int .i64) x0.1)), (.d (.sl (.int .i64) x0.2))]), (.arr (.pair .str .str) ([] : List ((List UInt8) × (List UInt8))) true)]).run = some (.normal, p15_e9, [(.cells [(.d (.sl (.int .i64) x0.1)), (.d (.sl (.int .i64) x0.2))]), (.arr (.pair .str .str) [(([97] : List UInt8), (p15_k1 x0))] true)]) := M.run_of_path _ [true, true, true, true, true, true, true, true, true, true, true, true, true, true, true, true, true, true, true, true, true] _ _ (by kernel_rfl) (all_t rfl (all_t rfl (all_t rfl (all_t c6 (all_t c6 (all_t c6 (all_t c6 (all_t rfl (all_t c6 (all_t c6 (all_t c6 (all_t c6 (all_t c6 (all_t c16 (all_t c17 (all_t rfl (all_t c19 (all_t c20 (all_t rfl (all_t rfl (all_t rfl all_nil)))))))))))))))))))))
                          have hs0 : (turns (hds 15 3610) 0 3610 (evC byref (evCall F S4 (m + 24)) (m + 24) 0 (hds 15) lbu15_0) (m + 23) p15_e9 [(.cells [(.d (.sl (.int .i64) x0.1)), (.d (.sl (.int .i64) x0.2))]), (.arr (.pair .str .str) [(([97] : List UInt8), (p15_k1 x0))] true)]).run = some (.exit 0, p15_e3, [(.cells [(.d (.sl (.int .i64) x0.1)), (.d (.sl (.int .i64) x0.2))]), (.arr (.pair .str .str) [(([97] : List UInt8), (p15_k1 x0)), (([98] : List UInt8), (p15_k2 x0))] true)]) := Eq.mp (by kernel_rfl) hp1
                          have hp0 := turns_step ht0 hs0
                          exact Eq.trans (Eq.mp (by kernel_rfl) hp0) hq
                        cases hp
                    · skip
                      cases h
                  · skip
                    cases h
                · skip
                  cases h
              · skip
                refine ite_cases h (fun c41 h => ?_) (fun c41 h => ?_)
                · skip
                  refine ite_cases h (fun c51 h => ?_) (fun c51 h => ?_)
                  · skip
                    refine ite_cases h (fun c52 h => ?_) (fun c52 h => ?_)
                    · skip
                      refine ite_cases h (fun c54 h => ?_) (fun c54 h => ?_)
                      · skip
                        refine ite_cases h (fun c55 h => ?_) (fun c55 h => ?_)
                        · skip
                          cases h
                          refine ⟨(.d (.sl (.pair .str .str) [(([97] : List UInt8), (p15_k1 x0)), (([99] : List UInt8), (p15_k3 x0))])), [], runT_ok (LS := (fun k => if k = 3610 then some (.exit 0, p15_e3, [(.cells [(.d (.sl (.int .i64) x0.1)), (.d (.sl (.int .i64) x0.2))]), (.arr (.pair .str .str) [(([97] : List UInt8), (p15_k1 x0)), (([99] : List UInt8), (p15_k3 x0))] true)]) else none)) (fn := fn15) (vis := [(3610, p15_e6, [(.cells [(.d (.sl (.int .i64) x0.1)), (.d (.sl (.int .i64) x0.2))]), (.arr (.pair .str .str) ([] : List ((List UInt8) × (List UInt8))) true)])]) (by kernel_rfl) rfl (by kernel_rfl) (M.run_of_path _ [true, true, true, true] _ _ (by kernel_rfl) (all_t rfl (all_t rfl (all_t rfl (all_t rfl all_nil))))) ?_, by simp, (wkR.one (wkV.one (wk1.eq rfl))), trivial⟩
                          intro p hp p2 hq
                          rcases List.mem_cons.1 hp with rfl | hp
                          · skip
                            have ht3 : (turn (hds 15 3610) 0 3610 (evC byref (evCall F S4 (m + 24)) (m + 24) 0 (hds 15) lbu15_0) p15_e10 [(.cells [(.d (.sl (.int .i64) x0.1)), (.d (.sl (.int .i64) x0.2))]), (.arr (.pair .str .str) [(([97] : List UInt8), (p15_k1 x0)), (([99] : List UInt8), (p15_k3 x0))] true)]).run = some (.exit 0, p15_e3, [(.cells [(.d (.sl (.int .i64) x0.1)), (.d (.sl (.int .i64) x0.2))]), (.arr (.pair .str .str) [(([97] : List UInt8), (p15_k1 x0)), (([99] : List UInt8), (p15_k3 x0))] true)]) := M.run_of_path _ [false] _ _ (by kernel_rfl) (all_f Bool.false_ne_true all_nil)
                            have hp3 := turns_last (n := m + 20) (by simp) ht3
                            have ht2 : (turn (hds 15 3610) 0 3610 (evC byref (evCall F S4 (m + 24)) (m + 24) 0 (hds 15) lbu15_0) p15_e11 [(.cells [(.d (.sl (.int .i64) x0.1)), (.d (.sl (.int .i64) x0.2))]), (.arr (.pair .str .str) [(([97] : List UInt8), (p15_k1 x0))] true)]).run = some (.normal, p15_e10, [(.cells [(.d (.sl (.int .i64) x0.1)), (.d (.sl (.int .i64) x0.2))]), (.arr (.pair .str .str) [(([97] : List UInt8), (p15_k1 x0)), (([99] : List UInt8), (p15_k3 x0))] true)]) := M.run_of_path _ [true, true, true, true, true, true, true, true, true, true, true, true, true, true, true, true, true, true, true, true, true] _ _ (by kernel_rfl) (all_t rfl (all_t rfl (all_t rfl (all_t c41 (all_t c41 (all_t c41 (all_t c41 (all_t rfl (all_t c41 (all_t c41 (all_t c41 (all_t c41 (all_t c41 (all_t c51 (all_t c52 (all_t rfl (all_t c54 (all_t c55 (all_t rfl (all_t rfl (all_t rfl all_nil)))))))))))))))))))))
                            have hs2 : (turns (hds 15 3610) 0 3610 (evC byref (evCall F S4 (m + 24)) (m + 24) 0 (hds 15) lbu15_0) (m + 21) p15_e10 [(.cells [(.d (.sl (.int .i64) x0.1)), (.d (.sl (.int .i64) x0.2))]), (.arr (.pair .str .str) [(([97] : List UInt8), (p15_k1 x0)), (([99] : List UInt8), (p15_k3 x0))] true)]).run = some (.exit 0, p15_e3, [(.cells [(.d (.sl (.int .i64) x0.1)), (.d (.sl (.int .i64) x0.2))]), (.arr (.pair .str .str) [(([97] : List UInt8), (p15_k1 x0)), (([99] : List UInt8), (p15_k3 x0))] true)]) := Eq.mp (by kernel_rfl) hp3
                            have hp2 := turns_step ht2 hs2
                            have ht1 : (turn (hds 15 3610) 0 3610 (evC byref (evCall F S4 (m + 24)) (m + 24) 0 (hds 15) lbu15_0) p15_e9 [(.cells [(.d (.sl (.int .i64) x0.1)), (.d (.sl (.int .i64) x0.2))]), (.arr (.pair .str .str) [(([97] : List UInt8), (p15_k1 x0))] true)]).run = some (.normal, p15_e11, [(.cells [(.d (.sl (.int .i64) x0.1)), (.d (.sl (.int .i64) x0.2))]), (.arr (.pair .str .str) [(([97] : List UInt8), (p15_k1 x0))] true)]) := M.run_of_path _ [true, true, true, true, true, true, true, true, true, true, true, true, true, false] _ _ (by kernel_rfl) (all_t rfl (all_t rfl (all_t rfl (all_t c27 (all_t c27 (all_t c27 (all_t c27 (all_t rfl (all_t c27 (all_t c27 (all_t c27 (all_t c27 (all_t c27 (all_f c37 all_nil))))))))))))))
                            have hs1 : (turns (hds 15 3610) 0 3610 (evC byref (evCall F S4 (m + 24)) (m + 24) 0 (hds 15) lbu15_0) (m + 22) p15_e11 [(.cells [(.d (.sl (.int .i64) x0.1)), (.d (.sl (.int .i64) x0.2))]), (.arr (.pair .str .str) [(([97] : List UInt8), (p15_k1 x0))] true)]).run = some (.exit 0, p15_e3, [(.cells [(.d (.sl (.int .i64) x0.1)), (.d (.sl (.int .i64) x0.2))]), (.arr (.pair .str .str) [(([97] : List UInt8), (p15_k1 x0)), (([99] : List UInt8), (p15_k3 x0))] true)]) := Eq.mp (by kernel_rfl) hp2
                            have hp1 := turns_step ht1 hs1
                            have ht0 : (turn (hds 15 3610) 0 3610 (evC byref (evCall F S4 (m + 24)) (m + 24) 0 (hds 15) lbu15_0) p15_e6 [(.cells [(.d (.sl (.int .i64) x0.1)), (.d (.sl (.int .i64) x0.2))]), (.arr (.pair .str .str) ([] : List ((List UInt8) × (List UInt8))) true)]).run = some (.normal, p15_e9, [(.cells [(.d (.sl (.int .i64) x0.1)), (.d (.sl (.int .i64) x0.2))]), (.arr (.pair .str .str) [(([97] : List UInt8), (p15_k1 x0))] true)]) := M.run_of_path _ [true, true, true, true, true, true, true, true, true, true, true, true, true, true, true, true, true, true, true, true, true] _ _ (by kernel_rfl) (all_t rfl (all_t rfl (all_t rfl (all_t c6 (all_t c6 (all_t c6 (all_t c6 (all_t rfl (all_t c6 (all_t c6 (all_t c6 (all_t c6 (all_t c6 (all_t c16 (all_t c17 (all_t rfl (all_t c19 (all_t c20 (all_t rfl (all_t rfl (all_t rfl all_nil)))))))))))))))))))))
                            have hs0 : (turns (hds 15 3610) 0 3610 (evC byref (evCall F S4 (m + 24)) (m + 24) 0 (hds 15) lbu15_0) (m + 23) p15_e9 [(.cells [(.d (.sl (.int .i64) x0.1)), (.d (.sl (.int .i64) x0.2))]), (.arr (.pair .str .str) [(([97] : List UInt8), (p15_k1 x0))] true)]).run = some (.exit 0, p15_e3, [(.cells [(.d (.sl (.int .i64) x0.1)), (.d (.sl (.int .i64) x0.2))]), (.arr (.pair .str .str) [(([97] : List UInt8), (p15_k1 x0)), (([99] : List UInt8), (p15_k3 x0))] true)]) := Eq.mp (by kernel_rfl) hp1
                            have hp0 := turns_step ht0 hs0
                            exact Eq.trans (Eq.mp (by kernel_rfl) hp0) hq
                          cases hp
                        · skip
                          cases h
                      · skip
                        cases h
                    · skip
                      cases h
                  · skip
                    cases h
                    refine ⟨(.d (.sl (.pair .str .str) [(([97] : List UInt8), (p15_k1 x0))])), [], runT_ok (LS := (fun k => if k = 3610 then some (.exit 0, p15_e4, [(.cells [(.d (.sl (.int .i64) x0.1)), (.d (.sl (.int .i64) x0.2))]), (.arr (.pair .str .str) [(([97] : List UInt8), (p15_k1 x0))] true)]) else none)) (fn := fn15) (vis := [(3610, p15_e6, [(.cells [(.d (.sl (.int .i64) x0.1)), (.d (.sl (.int .i64) x0.2))]), (.arr (.pair .str .str) ([] : List ((List UInt8) × (List UInt8))) true)])]) (by kernel_rfl) rfl (by kernel_rfl) (M.run_of_path _ [true, true, true, true] _ _ (by kernel_rfl) (all_t rfl (all_t rfl (all_t rfl (all_t rfl all_nil))))) ?_, by simp, (wkR.one (wkV.one (wk1.eq rfl))), trivial⟩
                    intro p hp p2 hq
                    rcases List.mem_cons.1 hp with rfl | hp
                    · skip
                      have ht3 : (turn (hds 15 3610) 0 3610 (evC byref (evCall F S4 (m + 24)) (m + 24) 0 (hds 15) lbu15_0) p15_e12 [(.cells [(.d (.sl (.int .i64) x0.1)), (.d (.sl (.int .i64) x0.2))]), (.arr (.pair .str .str) [(([97] : List UInt8), (p15_k1 x0))] true)]).run = some (.exit 0, p15_e4, [(.cells [(.d (.sl (.int .i64) x0.1)), (.d (.sl (.int .i64) x0.2))]), (.arr (.pair .str .str) [(([97] : List UInt8), (p15_k1 x0))] true)]) := M.run_of_path _ [false] _ _ (by kernel_rfl) (all_f Bool.false_ne_true all_nil)
                      have hp3 := turns_last (n := m + 20) (by simp) ht3
                      have ht2 : (turn (hds 15 3610) 0 3610 (evC byref (evCall F S4 (m + 24)) (m + 24) 0 (hds 15) lbu15_0) p15_e11 [(.cells [(.d (.sl (.int .i64) x0.1)), (.d (.sl (.int .i64) x0.2))]), (.arr (.pair .str .str) [(([97] : List UInt8), (p15_k1 x0))] true)]).run = some (.normal, p15_e12, [(.cells [(.d (.sl (.int .i64) x0.1)), (.d (.sl (.int .i64) x0.2))]), (.arr (.pair .str .str) [(([97] : List UInt8), (p15_k1 x0))] true)]) := M.run_of_path _ [true, true, true, true, true, true, true, true, true, true, true, true, true, false] _ _ (by kernel_rfl) (all_t rfl (all_t rfl (all_t rfl (all_t c41 (all_t c41 (all_t c41 (all_t c41 (all_t rfl (all_t c41 (all_t c41 (all_t c41 (all_t c41 (all_t c41 (all_f c51 all_nil))))))))))))))
                      have hs2 : (turns (hds 15 3610) 0 3610 (evC byref (evCall F S4 (m + 24)) (m + 24) 0 (hds 15) lbu15_0) (m + 21) p15_e12 [(.cells [(.d (.sl (.int .i64) x0.1)), (.d (.sl (.int .i64) x0.2))]), (.arr (.pair .str .str) [(([97] : List UInt8), (p15_k1 x0))] true)]).run = some (.exit 0, p15_e4, [(.cells [(.d (.sl (.int .i64) x0.1)), (.d (.sl (.int .i64) x0.2))]), (.arr (.pair .str .str) [(([97] : List UInt8), (p15_k1 x0))] true)]) := Eq.mp (by kernel_rfl) hp3
                      have hp2 := turns_step ht2 hs2
                      have ht1 : (turn (hds 15 3610) 0 3610 (evC byref (evCall F S4 (m + 24)) (m + 24) 0 (hds 15) lbu15_0) p15_e9 [(.cells [(.d (.sl (.int .i64) x0.1)), (.d (.sl (.int .i64) x0.2))]), (.arr (.pair .str .str) [(([97] : List UInt8), (p15_k1 x0))] true)]).run = some (.normal, p15_e11, [(.cells [(.d (.sl (.int .i64) x0.1)), (.d (.sl (.int .i64) x0.2))]), (.arr (.pair .str .str) [(([97] : List UInt8), (p15_k1 x0))] true)]) := M.run_of_path _ [true, true, true, true, true, true, true, true, true, true, true, true, true, false] _ _ (by kernel_rfl) (all_t rfl (all_t rfl (all_t rfl (all_t c27 (all_t c27 (all_t c27 (all_t c27 (all_t rfl (all_t c27 (all_t c27 (all_t c27 (all_t c27 (all_t c27 (all_f c37 all_nil))))))))))))))
                      have hs1 : (turns (hds 15 3610) 0 3610 (evC byref (evCall F S4 (m + 24)) (m + 24) 0 (hds 15) lbu15_0) (m + 22) p15_e11 [(.cells [(.d (.sl (.int .i64) x0.1)), (.d (.sl (.int .i64) x0.2))]), (.arr (.pair .str .str) [(([97] : List UInt8), (p15_k1 x0))] true)]).run = some (.exit 0, p15_e4, [(.cells [(.d (.sl (.int .i64) x0.1)), (.d (.sl (.int .i64) x0.2))]), (.arr (.pair .str .str) [(([97] : List UInt8), (p15_k1 x0))] true)]) := Eq.mp (by kernel_rfl) hp2
                      have hp1 := turns_step ht1 hs1
                      have ht0 : (turn (hds 15 3610) 0 3610 (evC byref (evCall F S4 (m + 24)) (m + 24) 0 (hds 15) lbu15_0) p15_e6 [(.cells [(.d (.sl (.int .i64) x0.1)), (.d (.sl (.int .i64) x0.2))]), (.arr (.pair .str .str) ([] : List ((List UInt8) × (List UInt8))) true)]).run = some (.normal, p15_e9, [(.cells [(.d (.sl (.int .i64) x0.1)), (.d (.sl (.int .i64) x0.2))]), (.arr (.pair .str .str) [(([97] : List UInt8), (p15_k1 x0))] true)]) := M.run_of_path _ [true, true, true, true, true, true, true, true, true, true, true, true, true, true, true, true, true, true, true, true, true] _ _ (by kernel_rfl) (all_t rfl (all_t rfl (all_t rfl (all_t c6 (all_t c6 (all_t c6 (all_t c6 (all_t rfl (all_t c6 (all_t c6 (all_t c6 (all_t c6 (all_t c6 (all_t c16 (all_t c17 (all_t rfl (all_t c19 (all_t c20 (all_t rfl (all_t rfl (all_t rfl all_nil)))))))))))))))))))))
                      have hs0 : (turns (hds 15 3610) 0 3610 (evC byref (evCall F S4 (m + 24)) (m + 24) 0 (hds 15) lbu15_0) (m + 23) p15_e9 [(.cells [(.d (.sl (.int .i64) x0.1)), (.d (.sl (.int .i64) x0.2))]), (.arr (.pair .str .str) [(([97] : List UInt8), (p15_k1 x0))] true)]).run = some (.exit 0, p15_e4, [(.cells [(.d (.sl (.int .i64) x0.1)), (.d (.sl (.int .i64) x0.2))]), (.arr (.pair .str .str) [(([97] : List UInt8), (p15_k1 x0))] true)]) := Eq.mp (by kernel_rfl) hp1
                      have hp0 := turns_step ht0 hs0
                      exact Eq.trans (Eq.mp (by kernel_rfl) hp0) hq
                    cases hp
                · skip
                  cases h
                  refine ⟨(.d (.sl (.pair .str .str) [(([97] : List UInt8), (p15_k1 x0))])), [], runT_ok (LS := (fun k => if k = 3610 then some (.exit 0, p15_e4, [(.cells [(.d (.sl (.int .i64) x0.1)), (.d (.sl (.int .i64) x0.2))]), (.arr (.pair .str .str) [(([97] : List UInt8), (p15_k1 x0))] true)]) else none)) (fn := fn15) (vis := [(3610, p15_e6, [(.cells [(.d (.sl (.int .i64) x0.1)), (.d (.sl (.int .i64) x0.2))]), (.arr (.pair .str .str) ([] : List ((List UInt8) × (List UInt8))) true)])]) (by kernel_rfl) rfl (by kernel_rfl) (M.run_of_path _ [true, true, true, true] _ _ (by kernel_rfl) (all_t rfl (all_t rfl (all_t rfl (all_t rfl all_nil))))) ?_, by simp, (wkR.one (wkV.one (wk1.eq rfl))), trivial⟩
                  intro p hp p2 hq
                  rcases List.mem_cons.1 hp with rfl | hp
                  · skip
                    have ht3 : (turn (hds 15 3610) 0 3610 (evC byref (evCall F S4 (m + 24)) (m + 24) 0 (hds 15) lbu15_0) p15_e12 [(.cells [(.d (.sl (.int .i64) x0.1)), (.d (.sl (.int .i64) x0.2))]), (.arr (.pair .str .str) [(([97] : List UInt8), (p15_k1 x0))] true)]).run = some (.exit 0, p15_e4, [(.cells [(.d (.sl (.int .i64) x0.1)), (.d (.sl (.int .i64) x0.2))]), (.arr (.pair .str .str) [(([97] : List UInt8), (p15_k1 x0))] true)]) := M.run_of_path _ [false] _ _ (by kernel_rfl) (all_f Bool.false_ne_true all_nil)
                    have hp3 := turns_last (n := m + 20) (by simp) ht3
                    have ht2 : (turn (hds 15 3610) 0 3610 (evC byref (evCall F S4 (m + 24)) (m + 24) 0 (hds 15) lbu15_0) p15_e11 [(.cells [(.d (.sl (.int .i64) x0.1)), (.d (.sl (.int .i64) x0.2))]), (.arr (.pair .str .str) [(([97] : List UInt8), (p15_k1 x0))] true)]).run = some (.normal, p15_e12, [(.cells [(.d (.sl (.int .i64) x0.1)), (.d (.sl (.int .i64) x0.2))]), (.arr (.pair .str .str) [(([97] : List UInt8), (p15_k1 x0))] true)]) := M.run_of_path _ [true, true, true, false, false, false, false, false, false, false, false, false] _ _ (by kernel_rfl) (all_t rfl (all_t rfl (all_t rfl (all_f c41 (all_f c41 (all_f c41 (all_f c41 (all_f c41 (all_f c41 (all_f c41 (all_f c41 (all_f Bool.false_ne_true all_nil))))))))))))
                    have hs2 : (turns (hds 15 3610) 0 3610 (evC byref (evCall F S4 (m + 24)) (m + 24) 0 (hds 15) lbu15_0) (m + 21) p15_e12 [(.cells [(.d (.sl (.int .i64) x0.1)), (.d (.sl (.int .i64) x0.2))]), (.arr (.pair .str .str) [(([97] : List UInt8), (p15_k1 x0))] true)]).run = some (.exit 0, p15_e4, [(.cells [(.d (.sl (.int .i64) x0.1)), (.d (.sl (.int .i64) x0.2))]), (.arr (.pair .str .str) [(([97] : List UInt8), (p15_k1 x0))] true)]) := Eq.mp (by kernel_rfl) hp3
                    have hp2 := turns_step ht2 hs2
                    have ht1 : (turn (hds 15 3610) 0 3610 (evC byref (evCall F S4 (m + 24)) (m + 24) 0 (hds 15) lbu15_0) p15_e9 [(.cells [(.d (.sl (.int .i64) x0.1)), (.d (.sl (.int .i64) x0.2))]), (.arr (.pair .str .str) [(([97] : List UInt8), (p15_k1 x0))] true)]).run = some (.normal, p15_e11, [(.cells [(.d (.sl (.int .i64) x0.1)), (.d (.sl (.int .i64) x0.2))]), (.arr (.pair .str .str) [(([97] : List UInt8), (p15_k1 x0))] true)]) := M.run_of_path _ [true, true, true, true, true, true, true, true, true, true, true, true, true, false] _ _ (by kernel_rfl) (all_t rfl (all_t rfl (all_t rfl (all_t c27 (all_t c27 (all_t c27 (all_t c27 (all_t rfl (all_t c27 (all_t c27 (all_t c27 (all_t c27 (all_t c27 (all_f c37 all_nil))))))))))))))
                    have hs1 : (turns (hds 15 3610) 0 3610 (evC byref (evCall F S4 (m + 24)) (m + 24) 0 (hds 15) lbu15_0) (m + 22) p15_e11 [(.cells [(.d (.sl (.int .i64) x0.1)), (.d (.sl (.int .i64) x0.2))]), (.arr (.pair .str .str) [(([97] : List UInt8), (p15_k1 x0))] true)]).run = some (.exit 0, p15_e4, [(.cells [(.d (.sl (.int .i64) x0.1)), (.d (.sl (.int .i64) x0.2))]), (.arr (.pair .str .str) [(([97] : List UInt8), (p15_k1 x0))] true)]) := Eq.mp (by kernel_rfl) hp2
                    have hp1 := turns_step ht1 hs1
                    have ht0 : (turn (hds 15 3610) 0 3610 (evC byref (evCall F S4 (m + 24)) (m + 24) 0 (hds 15) lbu15_0) p15_e6 [(.cells [(.d (.sl (.int .i64) x0.1)), (.d (.sl (.int .i64) x0.2))]), (.arr (.pair .str .str) ([] : List ((List UInt8) × (List UInt8))) true)]).run = some (.normal, p15_e9, [(.cells [(.d (.sl (.int .i64) x0.1)), (.d (.sl (.int .i64) x0.2))]), (.arr (.pair .str .str) [(([97] : List UInt8), (p15_k1 x0))] true)]) := M.run_of_path _ [true, true, true, true, true, true, true, true, true, true, true, true, true, true, true, true, true, true, true, true, true] _ _ (by kernel_rfl) (all_t rfl (all_t rfl (all_t rfl (all_t c6 (all_t c6 (all_t c6 (all_t c6 (all_t rfl (all_t c6 (all_t c6 (all_t c6 (all_t c6 (all_t c6 (all_t c16 (all_t c17 (all_t rfl (all_t c19 (all_t c20 (all_t rfl (all_t rfl (all_t rfl all_nil)))))))))))))))))))))
                    have hs0 : (turns (hds 15 3610) 0 3610 (evC byref (evCall F S4 (m + 24)) (m + 24) 0 (hds 15) lbu15_0) (m + 23) p15_e9 [(.cells [(.d (.sl (.int .i64) x0.1)), (.d (.sl (.int .i64) x0.2))]), (.arr (.pair .str .str) [(([97] : List UInt8), (p15_k1 x0))] true)]).run = some (.exit 0, p15_e4, [(.cells [(.d (.sl (.int .i64) x0.1)), (.d (.sl (.int .i64) x0.2))]), (.arr (.pair .str .str) [(([97] : List UInt8), (p15_k1 x0))] true)]) := Eq.mp (by kernel_rfl) hp1
                    have hp0 := turns_step ht0 hs0
                    exact Eq.trans (Eq.mp (by kernel_rfl) hp0) hq
                  cases hp
            · skip
              refine ite_cases h (fun c39 h => ?_) (fun c39 h => ?_)
              · skip
                refine ite_cases h (fun c49 h => ?_) (fun c49 h => ?_)
                · skip
                  refine ite_cases h (fun c50 h => ?_) (fun c50 h => ?_)
                  · skip
                    refine ite_cases h (fun c52 h => ?_) (fun c52 h => ?_)
                    · skip
                      refine ite_cases h (fun c53 h => ?_) (fun c53 h => ?_)
                      · skip
                        cases h
                        refine ⟨(.d (.sl (.pair .str .str) [(([97] : List UInt8), (p15_k1 x0)), (([99] : List UInt8), (p15_k3 x0))])), [], runT_ok (LS := (fun k => if k = 3610 then some (.exit 0, p15_e3, [(.cells [(.d (.sl (.int .i64) x0.1)), (.d (.sl (.int .i64) x0.2))]), (.arr (.pair .str .str) [(([97] : List UInt8), (p15_k1 x0)), (([99] : List UInt8), (p15_k3 x0))] true)]) else none)) (fn := fn15) (vis := [(3610, p15_e6, [(.cells [(.d (.sl (.int .i64) x0.1)), (.d (.sl (.int .i64) x0.2))]), (.arr (.pair .str .str) ([] : List ((List UInt8) × (List UInt8))) true)])]) (by kernel_rfl) rfl (by kernel_rfl) (M.run_of_path _ [true, true, true, true] _ _ (by kernel_rfl) (all_t rfl (all_t rfl (all_t rfl (all_t rfl all_nil))))) ?_, by simp, (wkR.one (wkV.one (wk1.eq rfl))), trivial⟩
                        intro p hp p2 hq
                        rcases List.mem_cons.1 hp with rfl | hp
                        · skip
                          have ht3 : (turn (hds 15 3610) 0 3610 (evC byref (evCall F S4 (m + 24)) (m + 24) 0 (hds 15) lbu15_0) p15_e10 [(.cells [(.d (.sl (.int .i64) x0.1)), (.d (.sl (.int .i64) x0.2))]), (.arr (.pair .str .str) [(([97] : List UInt8), (p15_k1 x0)), (([99] : List UInt8), (p15_k3 x0))] true)]).run = some (.exit 0, p15_e3, [(.cells [(.d (.sl (.int .i64) x0.1)), (.d (.sl (.int .i64) x0.2))]), (.arr (.pair .str .str) [(([97] : List UInt8), (p15_k1 x0)), (([99] : List UInt8), (p15_k3 x0))] true)]) := M.run_of_path _ [false] _ _ (by kernel_rfl) (all_f Bool.false_ne_true all_nil)
                          have hp3 := turns_last (n := m + 20) (by simp) ht3
                          have ht2 : (turn (hds 15 3610) 0 3610 (evC byref (evCall F S4 (m + 24)) (m + 24) 0 (hds 15) lbu15_0) p15_e11 [(.cells [(.d (.sl (.int .i64) x0.1)), (.d (.sl (.int .i64) x0.2))]), (.arr (.pair .str .str) [(([97] : List UInt8), (p15_k1 x0))] true)]).run = some (.normal, p15_e10, [(.cells [(.d (.sl (.int .i64) x0.1)), (.d (.sl (.int .i64) x0.2))]), (.arr (.pair .str .str) [(([97] : List UInt8), (p15_k1 x0)), (([99] : List UInt8), (p15_k3 x0))] true)]) := M.run_of_path _ [true, true, true, true, true, true, true, true, true, true, true, true, true, true, true, true, true, true, true, true, true] _ _ (by kernel_rfl) (all_t rfl (all_t rfl (all_t rfl (all_t c39 (all_t c39 (all_t c39 (all_t c39 (all_t rfl (all_t c39 (all_t c39 (all_t c39 (all_t c39 (all_t c39 (all_t c49 (all_t c50 (all_t rfl (all_t c52 (all_t c53 (all_t rfl (all_t rfl (all_t rfl all_nil)))))))))))))))))))))
                          have hs2 : (turns (hds 15 3610) 0 3610 (evC byref (evCall F S4 (m + 24)) (m + 24) 0 (hds 15) lbu15_0) (m + 21) p15_e10 [(.cells [(.d (.sl (.int .i64) x0.1)), (.d (.sl (.int .i64) x0.2))]), (.arr (.pair .str .str) [(([97] : List UInt8), (p15_k1 x0)), (([99] : List UInt8), (p15_k3 x0))] true)]).run = some (.exit 0, p15_e3, [(.cells [(.d (.sl (.int .i64) x0.1)), (.d (.sl (.int .i64) x0.2))]), (.arr (.pair .str .str) [(([97] : List UInt8), (p15_k1 x0)), (([99] : List UInt8), (p15_k3 x0))] true)]) := Eq.mp (by kernel_rfl) hp3
                          have hp2 := turns_step ht2 hs2
                          have ht1 : (turn (hds 15 3610) 0 3610 (evC byref (evCall F S4 (m + 24)) (m + 24) 0 (hds 15) lbu15_0) p15_e9 [(.cells [(.d (.sl (.int .i64) x0.1)), (.d (.sl (.int .i64) x0.2))]), (.arr (.pair .str .str) [(([97] : List UInt8), (p15_k1 x0))] true)]).run = some (.normal, p15_e11, [(.cells [(.d (.sl (.int .i64) x0.1)), (.d (.sl (.int .i64) x0.2))]), (.arr (.pair .str .str) [(([97] : List UInt8), (p15_k1 x0))] true)]) := M.run_of_path _ [true, true, true, false, false, false, false, false, false, false, false, false] _ _ (by kernel_rfl) (all_t rfl (all_t rfl (all_t rfl (all_f c27 (all_f c27 (all_f c27 (all_f c27 (all_f c27 (all_f c27 (all_f c27 (all_f c27 (all_f Bool.false_ne_true all_nil))))))))))))
                          have hs1 : (turns (hds 15 3610) 0 3610 (evC byref (evCall F S4 (m + 24)) (m + 24) 0 (hds 15) lbu15_0) (m + 22) p15_e11 [(.cells [(.d (.sl (.int .i64) x0.1)), (.d (.sl (.int .i64) x0.2))]), (.arr (.pair .str .str) [(([97] : List UInt8), (p15_k1 x0))] true)]).run = some (.exit 0, p15_e3, [(.cells [(.d (.sl (.int .i64) x0.1)), (.d (.sl (.int .i64) x0.2))]), (.arr (.pair .str .str) [(([97] : List UInt8), (p15_k1 x0)), (([99] : List UInt8), (p15_k3 x0))] true)]) := Eq.mp (by kernel_rfl) hp2
                          have hp1 := turns_step ht1 hs1
                          have ht0 : (turn (hds 15 3610) 0 3610 (evC byref (evCall F S4 (m + 24)) (m + 24) 0 (hds 15) lbu15_0) p15_e6 [(.cells [(.d (.sl (.int .i64) x0.1)), (.d (.sl (.int .i64) x0.2))]), (.arr (.pair .str .str) ([] : List ((List UInt8) × (List UInt8))) true)]).run = some (.normal, p15_e9, [(.cells [(.d (.sl (.int .i64) x0.1)), (.d (.sl (.int .i64) x0.2))]), (.arr (.pair .str .str) [(([97] : List UInt8), (p15_k1 x0))] true)]) := M.run_of_path _ [true, true, true, true, true, true, true, true, true, true, true, true, true, true, true, true, true, true, true, true, true] _ _ (by kernel_rfl) (all_t rfl (all_t rfl (all_t rfl (all_t c6 (all_t c6 (all_t c6 (all_t c6 (all_t rfl (all_t c6 (all_t c6 (all_t c6 (all_t c6 (all_t c6 (all_t c16 (all_t c17 (all_t rfl (all_t c19 (all_t c20 (all_t rfl (all_t rfl (all_t rfl all_nil)))))))))))))))))))))
                          have hs0 : (turns (hds 15 3610) 0 3610 (evC byref (evCall F S4 (m + 24)) (m + 24) 0 (hds 15) lbu15_0) (m + 23) p15_e9 [(.cells [(.d (.sl (.int .i64) x0.1)), (.d (.sl (.int .i64) x0.2))]), (.arr (.pair .str .str) [(([97] : List UInt8), (p15_k1 x0))] true)]).run = some (.exit 0, p15_e3, [(.cells [(.d (.sl (.int .i64) x0.1)), (.d (.sl (.int .i64) x0.2))]), (.arr (.pair .str .str) [(([97] : List UInt8), (p15_k1 x0)), (([99] : List UInt8), (p15_k3 x0))] true)]) := Eq.mp (by kernel_rfl) hp1
                          have hp0 := turns_step ht0 hs0
                          exact Eq.trans (Eq.mp (by kernel_rfl) hp0) hq
                        cases hp
                      · skip
                        cases h
                    · skip
                      cases h
                  · skip
                    cases h
                · skip
                  cases h
                  refine ⟨(.d (.sl (.pair .str .str) [(([97] : List UInt8), (p15_k1 x0))])), [], runT_ok (LS := (fun k => if k = 3610 then some (.exit 0, p15_e4, [(.cells [(.d (.sl (.int .i64) x0.1)), (.d (.sl (.int .i64) x0.2))]), (.arr (.pair .str .str) [(([97] : List UInt8), (p15_k1 x0))] true)]) else none)) (fn := fn15) (vis := [(3610, p15_e6, [(.cells [(.d (.sl (.int .i64) x0.1)), (.d (.sl (.int .i64) x0.2))]), (.arr (.pair .str .str) ([] : List ((List UInt8) × (List UInt8))) true)])]) (by kernel_rfl) rfl (by kernel_rfl) (M.run_of_path _ [true, true, true, true] _ _ (by kernel_rfl) (all_t rfl (all_t rfl (all_t rfl (all_t rfl all_nil))))) ?_, by simp, (wkR.one (wkV.one (wk1.eq rfl))), trivial⟩
                  intro p hp p2 hq
                  rcases List.mem_cons.1 hp with rfl | hp
                  · skip
                    have ht3 : (turn (hds 15 3610) 0 3610 (evC byref (evCall F S4 (m + 24)) (m + 24) 0 (hds 15) lbu15_0) p15_e12 [(.cells [(.d (.sl (.int .i64) x0.1)), (.d (.sl (.int .i64) x0.2))]), (.arr (.pair .str .str) [(([97] : List UInt8), (p15_k1 x0))] true)]).run = some (.exit 0, p15_e4, [(.cells [(.d (.sl (.int .i64) x0.1)), (.d (.sl (.int .i64) x0.2))]), (.arr (.pair .str .str) [(([97] : List UInt8), (p15_k1 x0))] true)]) := M.run_of_path _ [false] _ _ (by kernel_rfl) (all_f Bool.false_ne_true all_nil)
                    have hp3 := turns_last (n := m + 20) (by simp) ht3
                    have ht2 : (turn (hds 15 3610) 0 3610 (evC byref (evCall F S4 (m + 24)) (m + 24) 0 (hds 15) lbu15_0) p15_e11 [(.cells [(.d (.sl (.int .i64) x0.1)), (.d (.sl (.int .i64) x0.2))]), (.arr (.pair .str .str) [(([97] : List UInt8), (p15_k1 x0))] true)]).run = some (.normal, p15_e12, [(.cells [(.d (.sl (.int .i64) x0.1)), (.d (.sl (.int .i64) x0.2))]), (.arr (.pair .str .str) [(([97] : List UInt8), (p15_k1 x0))] true)]) := M.run_of_path _ [true, true, true, true, true, true, true, true, true, true, true, true, true, false] _ _ (by kernel_rfl) (all_t rfl (all_t rfl (all_t rfl (all_t c39 (all_t c39 (all_t c39 (all_t c39 (all_t rfl (all_t c39 (all_t c39 (all_t c39 (all_t c39 (all_t c39 (all_f c49 all_nil))))))))))))))
                    have hs2 : (turns (hds 15 3610) 0 3610 (evC byref (evCall F S4 (m + 24)) (m + 24) 0 (hds 15) lbu15_0) (m + 21) p15_e12 [(.cells [(.d (.sl (.int .i64) x0.1)), (.d (.sl (.int .i64) x0.2))]), (.arr (.pair .str .str) [(([97] : List UInt8), (p15_k1 x0))] true)]).run = some (.exit 0, p15_e4, [(.cells [(.d (.sl (.int .i64) x0.1)), (.d (.sl (.int .i64) x0.2))]), (.arr (.pair .str .str) [(([97] : List UInt8), (p15_k1 x0))] true)]) := Eq.mp (by kernel_rfl) hp3
                    have hp2 := turns_step ht2 hs2
                    have ht1 : (turn (hds 15 3610) 0 3610 (evC byref (evCall F S4 (m + 24)) (m + 24) 0 (hds 15) lbu15_0) p15_e9 [(.cells [(.d (.sl (.int .i64) x0.1)), (.d (.sl (.int .i64) x0.2))]), (.arr (.pair .str .str) [(([97] : List UInt8), (p15_k1 x0))] true)]).run = some (.normal, p15_e11, [(.cells [(.d (.sl (.int .i64) x0.1)), (.d (.sl (.int .i64) x0.2))]), (.arr (.pair .str .str) [(([97] : List UInt8), (p15_k1 x0))] true)]) := M.run_of_path _ [true, true, true, false, false, false, false, false, false, false, false, false] _ _ (by kernel_rfl) (all_t rfl (all_t rfl (all_t rfl (all_f c27 (all_f c27 (all_f c27 (all_f c27 (all_f c27 (all_f c27 (all_f c27 (all_f c27 (all_f Bool.false_ne_true all_nil))))))))))))
                    have hs1 : (turns (hds 15 3610) 0 3610 (evC byref (evCall F S4 (m + 24)) (m + 24) 0 (hds 15) lbu15_0) (m + 22) p15_e11 [(.cells [(.d (.sl (.int .i64) x0.1)), (.d (.sl (.int .i64) x0.2))]), (.arr (.pair .str .str) [(([97] : List UInt8), (p15_k1 x0))] true)]).run = some (.exit 0, p15_e4, [(.cells [(.d (.sl (.int .i64) x0.1)), (.d (.sl (.int .i64) x0.2))]), (.arr (.pair .str .str) [(([97] : List UInt8), (p15_k1 x0))] true)]) := Eq.mp (by kernel_rfl) hp2
                    have hp1 := turns_step ht1 hs1
                    have ht0 : (turn (hds 15 3610) 0 3610 (evC byref (evCall F S4 (m + 24)) (m + 24) 0 (hds 15) lbu15_0) p15_e6 [(.cells [(.d (.sl (.int .i64) x0.1)), (.d (.sl (.int .i64) x0.2))]), (.arr (.pair .str .str) ([] : List ((List UInt8) × (List UInt8))) true)]).run = some (.normal, p15_e9, [(.cells [(.d (.sl (.int .i64) x0.1)), (.d (.sl (.int .i64) x0.2))]), (.arr (.pair .str .str) [(([97] : List UInt8), (p15_k1 x0))] true)]) := M.run_of_path _ [true, true, true, true, true, true, true, true, true, true, true, true, true, true, true, true, true, true, true, true, true] _ _ (by kernel_rfl) (all_t rfl (all_t rfl (all_t rfl (all_t c6 (all_t c6 (all_t c6 (all_t c6 (all_t rfl (all_t c6 (all_t c6 (all_t c6 (all_t c6 (all_t c6 (all_t c16 (all_t c17 (all_t rfl (all_t c19 (all_t c20 (all_t rfl (all_t rfl (all_t rfl all_nil)))))))))))))))))))))
                    have hs0 : (turns (hds 15 3610) 0 3610 (evC byref (evCall F S4 (m + 24)) (m + 24) 0 (hds 15) lbu15_0) (m + 23) p15_e9 [(.cells [(.d (.sl (.int .i64) x0.1)), (.d (.sl (.int .i64) x0.2))]), (.arr (.pair .str .str) [(([97] : List UInt8), (p15_k1 x0))] true)]).run = some (.exit 0, p15_e4, [(.cells [(.d (.sl (.int .i64) x0.1)), (.d (.sl (.int .i64) x0.2))]), (.arr (.pair .str .str) [(([97] : List UInt8), (p15_k1 x0))] true)]) := Eq.mp (by kernel_rfl) hp1
                    have hp0 := turns_step ht0 hs0
                    exact Eq.trans (Eq.mp (by kernel_rfl) hp0) hq
                  cases hp
              · skip
                cases h
                refine ⟨(.d (.sl (.pair .str .str) [(([97] : List UInt8), (p15_k1 x0))])), [], runT_ok (LS := (fun k => if k = 3610 then some (.exit 0, p15_e4, [(.cells [(.d (.sl (.int .i64) x0.1)), (.d (.sl (.int .i64) x0.2))]), (.arr (.pair .str .str) [(([97] : List UInt8), (p15_k1 x0))] true)]) else none)) (fn := fn15) (vis := [(3610, p15_e6, [(.cells [(.d (.sl (.int .i64) x0.1)), (.d (.sl (.int .i64) x0.2))]), (.arr (.pair .str .str) ([] : List ((List UInt8) × (List UInt8))) true)])]) (by kernel_rfl) rfl (by kernel_rfl) (M.run_of_path _ [true, true, true, true] _ _ (by kernel_rfl) (all_t rfl (all_t rfl (all_t rfl (all_t rfl all_nil))))) ?_, by simp, (wkR.one (wkV.one (wk1.eq rfl))), trivial⟩
                intro p hp p2 hq
                rcases List.mem_cons.1 hp with rfl | hp
                · skip
                  have ht3 : (turn (hds 15 3610) 0 3610 (evC byref (evCall F S4 (m + 24)) (m + 24) 0 (hds 15) lbu15_0) p15_e12 [(.cells [(.d (.sl (.int .i64) x0.1)), (.d (.sl (.int .i64) x0.2))]), (.arr (.pair .str .str) [(([97] : List UInt8), (p15_k1 x0))] true)]).run = some (.exit 0, p15_e4, [(.cells [(.d (.sl (.int .i64) x0.1)), (.d (.sl (.int .i64) x0.2))]), (.arr (.pair .str .str) [(([97] : List UInt8), (p15_k1 x0))] true)]) := M.run_of_path _ [false] _ _ (by kernel_rfl) (all_f Bool.false_ne_true all_nil)
                  have hp3 := turns_last (n := m + 20) (by simp) ht3
                  have ht2 : (turn (hds 15 3610) 0 3610 (evC byref (evCall F S4 (m + 24)) (m + 24) 0 (hds 15) lbu15_0) p15_e11 [(.cells [(.d (.sl (.int .i64) x0.1)), (.d (.sl (.int .i64) x0.2))]), (.arr (.pair .str .str) [(([97] : List UInt8), (p15_k1 x0))] true)]).run = some (.normal, p15_e12, [(.cells [(.d (.sl (.int .i64) x0.1)), (.d (.sl (.int .i64) x0.2))]), (.arr (.pair .str .str) [(([97] : List UInt8), (p15_k1 x0))] true)]) := M.run_of_path _ [true, true, true, false, false, false, false, false, false, false, false, false] _ _ (by kernel_rfl) (all_t rfl (all_t rfl (all_t rfl (all_f c39 (all_f c39 (all_f c39 (all_f c39 (all_f c39 (all_f c39 (all_f c39 (all_f c39 (all_f Bool.false_ne_true all_nil))))))))))))
                  have hs2 : (turns (hds 15 3610) 0 3610 (evC byref (evCall F S4 (m + 24)) (m + 24) 0 (hds 15) lbu15_0) (m + 21) p15_e12 [(.cells [(.d (.sl (.int .i64) x0.1)), (.d (.sl (.int .i64) x0.2))]), (.arr (.pair .str .str) [(([97] : List UInt8), (p15_k1 x0))] true)]).run = some (.exit 0, p15_e4, [(.cells [(.d (.sl (.int .i64) x0.1)), (.d (.sl (.int .i64) x0.2))]), (.arr (.pair .str .str) [(([97] : List UInt8), (p15_k1 x0))] true)]) := Eq.mp (by kernel_rfl) hp3
                  have hp2 := turns_step ht2 hs2
                  have ht1 : (turn (hds 15 3610) 0 3610 (evC byref (evCall F S4 (m + 24)) (m + 24) 0 (hds 15) lbu15_0) p15_e9 [(.cells [(.d (.sl (.int .i64) x0.1)), (.d (.sl (.int .i64) x0.2))]), (.arr (.pair .str .str) [(([97] : List UInt8), (p15_k1 x0))] true)]).run = some (.normal, p15_e11, [(.cells [(.d (.sl (.int .i64) x0.1)), (.d (.sl (.int .i64) x0.2))]), (.arr (.pair .str .str) [(([97] : List UInt8), (p15_k1 x0))] true)]) := M.run_of_path _ [true, true, true, false, false, false, false, false, false, false, false, false] _ _ (by kernel_rfl) (all_t rfl (all_t rfl (all_t rfl (all_f c27 (all_f c27 (all_f c27 (all_f c27 (all_f c27 (all_f c27 (all_f c27 (all_f c27 (all_f Bool.false_ne_true all_nil))))))))))))
                  have hs1 : (turns (hds 15 3610) 0 3610 (evC byref (evCall F S4 (m + 24)) (m + 24) 0 (hds 15) lbu15_0) (m + 22) p15_e11 [(.cells [(.d (.sl (.int .i64) x0.1)), (.d (.sl (.int .i64) x0.2))]), (.arr (.pair .str .str) [(([97] : List UInt8), (p15_k1 x0))] true)]).run = some (.exit 0, p15_e4, [(.cells [(.d (.sl (.int .i64) x0.1)), (.d (.sl (.int .i64) x0.2))]), (.arr (.pair .str .str) [(([97] : List UInt8), (p15_k1 x0))] true)]) := Eq.mp (by kernel_rfl) hp2
                  have hp1 := turns_step ht1 hs1
                  have ht0 : (turn (hds 15 3610) 0 3610 (evC byref (evCall F S4 (m + 24)) (m + 24) 0 (hds 15) lbu15_0) p15_e6 [(.cells [(.d (.sl (.int .i64) x0.1)), (.d (.sl (.int .i64) x0.2))]), (.arr (.pair .str .str) ([] : List ((List UInt8) × (List UInt8))) true)]).run = some (.normal, p15_e9, [(.cells [(.d (.sl (.int .i64) x0.1)), (.d (.sl (.int .i64) x0.2))]), (.arr (.pair .str .str) [(([97] : List UInt8), (p15_k1 x0))] true)]) := M.run_of_path _ [true, true, true, true, true, true, true, true, true, true, true, true, true, true, true, true, true, true, true, true, true] _ _ (by kernel_rfl) (all_t rfl (all_t rfl (all_t rfl (all_t c6 (all_t c6 (all_t c6 (all_t c6 (all_t rfl (all_t c6 (all_t c6 (all_t c6 (all_t c6 (all_t c6 (all_t c16 (all_t c17 (all_t rfl (all_t c19 (all_t c20 (all_t rfl (all_t rfl (all_t rfl all_nil)))))))))))))))))))))
                  have hs0 : (turns (hds 15 3610) 0 3610 (evC byref (evCall F S4 (m + 24)) (m + 24) 0 (hds 15) lbu15_0) (m + 23) p15_e9 [(.cells [(.d (.sl (.int .i64) x0.1)), (.d (.sl (.int .i64) x0.2))]), (.arr (.pair .str .str) [(([97] : List UInt8), (p15_k1 x0))] true)]).run = some (.exit 0, p15_e4, [(.cells [(.d (.sl (.int .i64) x0.1)), (.d (.sl (.int .i64) x0.2))]), (.arr (.pair .str .str) [(([97] : List UInt8), (p15_k1 x0))] true)]) := Eq.mp (by kernel_rfl) hp1
                  have hp0 := turns_step ht0 hs0
                  exact Eq.trans (Eq.mp (by kernel_rfl) hp0) hq
                cases hp
          · skip
            cases h
        · skip
          cases h
      · skip
        cases h
    · skip
      refine ite_cases h (fun c20 h => ?_) (fun c20 h => ?_)
      · skip
        refine ite_cases h (fun c30 h => ?_) (fun c30 h => ?_)
        · skip
          refine ite_cases h (fun c31 h => ?_) (fun c31 h => ?_)
          · skip
            refine ite_cases h (fun c33 h => ?_) (fun c33 h => ?_)
            · skip
              refine ite_cases h (fun c34 h => ?_) (fun c34 h => ?_)
              · skip
                refine ite_cases h (fun c41 h => ?_) (fun c41 h => ?_)
                · skip
                  refine ite_cases h (fun c51 h => ?_) (fun c51 h => ?_)
                  · skip
                    refine ite_cases h (fun c52 h => ?_) (fun c52 h => ?_)
                    · skip
                      refine ite_cases h (fun c54 h => ?_) (fun c54 h => ?_)
                      · skip
                        refine ite_cases h (fun c55 h => ?_) (fun c55 h => ?_)
                        · skip
                          cases h
                          refine ⟨(.d (.sl (.pair .str .str) [(([98] : List UInt8), (p15_k2 x0)), (([99] : List UInt8), (p15_k3 x0))])), [], runT_ok (LS := (fun k => if k = 3610 then some (.exit 0, p15_e3, [(.cells [(.d (.sl (.int .i64) x0.1)), (.d (.sl (.int .i64) x0.2))]), (.arr (.pair .str .str) [(([98] : List UInt8), (p15_k2 x0)), (([99] : List UInt8), (p15_k3 x0))] true)]) else none)) (fn := fn15) (vis := [(3610, p15_e6, [(.cells [(.d (.sl (.int .i64) x0.1)), (.d (.sl (.int .i64) x0.2))]), (.arr (.pair .str .str) ([] : List ((List UInt8) × (List UInt8))) true)])]) (by kernel_rfl) rfl (by kernel_rfl) (M.run_of_path _ [true, true, true, true] _ _ (by kernel_rfl) (all_t rfl (all_t rfl (all_t rfl (all_t rfl all_nil))))) ?_, by simp, (wkR.one (wkV.one (wk1.eq rfl))), trivial⟩
                          intro p hp p2 hq
                          rcases List.mem_cons.1 hp with rfl | hp
                          · skip
                            have ht3 : (turn (hds 15 3610) 0 3610 (evC byref (evCall F S4 (m + 24)) (m + 24) 0 (hds 15) lbu15_0) p15_e10 [(.cells [(.d (.sl (.int .i64) x0.1)), (.d (.sl (.int .i64) x0.2))]), (.arr (.pair .str .str) [(([98] : List UInt8), (p15_k2 x0)), (([99] : List UInt8), (p15_k3 x0))] true)]).run = some (.exit 0, p15_e3, [(.cells [(.d (.sl (.int .i64) x0.1)), (.d (.sl (.int .i64) x0.2))]), (.arr (.pair .str .str) [(([98] : List UInt8), (p15_k2 x0)), (([99] : List UInt8), (p15_k3 x0))] true)]) := M.run_of_path _ [false] _ _ (by kernel_rfl) (all_f Bool.false_ne_true all_nil)
                            have hp3 := turns_last (n := m + 20) (by simp) ht3
                            have ht2 : (turn (hds 15 3610) 0 3610 (evC byref (evCall F S4 (m + 24)) (m + 24) 0 (hds 15) lbu15_0) p15_e11 [(.cells [(.d (.sl (.int .i64) x0.1)), (.d (.sl (.int .i64) x0.2))]), (.arr (.pair .str .str) [(([98] : List UInt8), (p15_k2 x0))] true)]).run = some (.normal, p15_e10, [(.cells [(.d (.sl (.int .i64) x0.1)), (.d (.sl (.int .i64) x0.2))]), (.arr (.pair .str .str) [(([98] : List UInt8), (p15_k2 x0)), (([99] : List UInt8), (p15_k3 x0))] true)]) := M.run_of_path _ [true, true, true, true, true, true, true, true, true, true, true, true, true, true, true, true, true, true, true, true, true] _ _ (by kernel_rfl) (all_t rfl (all_t rfl (all_t rfl (all_t c41 (all_t c41 (all_t c41 (all_t c41 (all_t rfl (all_t c41 (all_t c41 (all_t c41 (all_t c41 (all_t c41 (all_t c51 (all_t c52 (all_t rfl (all_t c54 (all_t c55 (all_t rfl (all_t rfl (all_t rfl all_nil)))))))))))))))))))))
                            have hs2 : (turns (hds 15 3610) 0 3610 (evC byref (evCall F S4 (m + 24)) (m + 24) 0 (hds 15) lbu15_0) (m + 21) p15_e10 [(.cells [(.d (.sl (.int .i64) x0.1)), (.d (.sl (.int .i64) x0.2))]), (.arr (.pair .str .str) [(([98] : List UInt8), (p15_k2 x0)), (([99] : List UInt8), (p15_k3 x0))] true)]).run = some (.exit 0, p15_e3, [(.cells [(.d (.sl (.int .i64) x0.1)), (.d (.sl (.int .i64) x0.2))]), (.arr (.pair .str .str) [(([98] : List UInt8), (p15_k2 x0)), (([99] : List UInt8), (p15_k3 x0))] true)]) := Eq.mp (by kernel_rfl) hp3
                            have hp2 := turns_step ht2 hs2
                            have ht1 : (turn (hds 15 3610) 0 3610 (evC byref (evCall F S4 (m + 24)) (m + 24) 0 (hds 15) lbu15_0) p15_e13 [(.cells [(.d (.sl (.int .i64) x0.1)), (.d (.sl (.int .i64) x0.2))]), (.arr (.pair .str .str) ([] : List ((List UInt8) × (List UInt8))) true)]).run = some (.normal, p15_e11, [(.cells [(.d (.sl (.int .i64) x0.1)), (.d (.sl (.int .i64) x0.2))]), (.arr (.pair .str .str) [(([98] : List UInt8), (p15_k2 x0))] true)]) := M.run_of_path _ [true, true, true, true, true, true, true, true, true, true, true, true, true, true, true, true, true, true, true, true, true] _ _ (by kernel_rfl) (all_t rfl (all_t rfl (all_t rfl (all_t c20 (all_t c20 (all_t c20 (all_t c20 (all_t rfl (all_t c20 (all_t c20 (all_t c20 (all_t c20 (all_t c20 (all_t c30 (all_t c31 (all_t rfl (all_t c33 (all_t c34 (all_t rfl (all_t rfl (all_t rfl all_nil)))))))))))))))))))))
                            have hs1 : (turns (hds 15 3610) 0 3610 (evC byref (evCall F S4 (m + 24)) (m + 24) 0 (hds 15) lbu15_0) (m + 22) p15_e11 [(.cells [(.d (.sl (.int .i64) x0.1)), (.d (.sl (.int .i64) x0.2))]), (.arr (.pair .str .str) [(([98] : List UInt8), (p15_k2 x0))] true)]).run = some (.exit 0, p15_e3, [(.cells [(.d (.sl (.int .i64) x0.1)), (.d (.sl (.int .i64) x0.2))]), (.arr (.pair .str .str) [(([98] : List UInt8), (p15_k2 x0)), (([99] : List UInt8), (p15_k3 x0))] true)]) := Eq.mp (by kernel_rfl) hp2
                            have hp1 := turns_step ht1 hs1
                            have ht0 : (turn (hds 15 3610) 0 3610 (evC byref (evCall F S4 (m + 24)) (m + 24) 0 (hds 15) lbu15_0) p15_e6 [(.cells [(.d (.sl (.int .i64) x0.1)), (.d (.sl (.int .i64) x0.2))]), (.arr (.pair .str .str) ([] : List ((List UInt8) × (List UInt8))) true)]).run = some (.normal, p15_e13, [(.cells [(.d (.sl (.int .i64) x0.1)), (.d (.sl (.int .i64) x0.2))]), (.arr (.pair .str .str) ([] : List ((List UInt8) × (List UInt8))) true)]) := M.run_of_path _ [true, true, true, true, true, true, true, true, true, true, true, true, true, false] _ _ (by kernel_rfl) (all_t rfl (all_t rfl (all_t rfl (all_t c6 (all_t c6 (all_t c6 (all_t c6 (all_t rfl (all_t c6 (all_t c6 (all_t c6 (all_t c6 (all_t c6 (all_f c16 all_nil))))))))))))))
                            have hs0 : (turns (hds 15 3610) 0 3610 (evC byref (evCall F S4 (m + 24)) (m + 24) 0 (hds 15) lbu15_0) (m + 23) p15_e13 [(.cells [(.d (.sl (.int .i64) x0.1)), (.d (.sl (.int .i64) x0.2))]), (.arr (.pair .str .str) ([] : List ((List UInt8) × (List UInt8))) true)]).run = some (.exit 0, p15_e3, [(.cells [(.d (.sl (.int .i64) x0.1)), (.d (.sl (.int .i64) x0.2))]), (.arr (.pair .str .str) [(([98] : List UInt8), (p15_k2 x0)), (([99] : List UInt8), (p15_k3 x0))] true)]) := Eq.mp (by kernel_rfl) hp1
                            have hp0 := turns_step ht0 hs0
                            exact Eq.trans (Eq.mp (by kernel_rfl) hp0) hq
                          cases hp
                        · skip
                          cases h
                      · skip
                        cases h
                    · skip
                      cases h
                  · skip
                    cases h
                    refine ⟨(.d (.sl (.pair .str .str) [(([98] : List UInt8), (p15_k2 x0))])), [], runT_ok (LS := (fun k => if k = 3610 then some (.exit 0, p15_e4, [(.cells [(.d (.sl (.int .i64) x0.1)), (.d (.sl (.int .i64) x0.2))]), (.arr (.pair .str .str) [(([98] : List UInt8), (p15_k2 x0))] true)]) else none)) (fn := fn15) (vis := [(3610, p15_e6, [(.cells [(.d (.sl (.int .i64) x0.1)), (.d (.sl (.int .i64) x0.2))]), (.arr (.pair .str .str) ([] : List ((List UInt8) × (List UInt8))) true)])]) (by kernel_rfl) rfl (by kernel_rfl) (M.run_of_path _ [true, true, true, true] _ _ (by kernel_rfl) (all_t rfl (all_t rfl (all_t rfl (all_t rfl all_nil))))) ?_, by simp, (wkR.one (wkV.one (wk1.eq rfl))), trivial⟩
                    intro p hp p2 hq
                    rcases List.mem_cons.1 hp with rfl | hp
                    · skip
                      have ht3 : (turn (hds 15 3610) 0 3610 (evC byref (evCall F S4 (m + 24)) (m + 24) 0 (hds 15) lbu15_0) p15_e12 [(.cells [(.d (.sl (.int .i64) x0.1)), (.d (.sl (.int .i64) x0.2))]), (.arr (.pair .str .str) [(([98] : List UInt8), (p15_k2 x0))] true)]).run = some (.exit 0, p15_e4, [(.cells [(.d (.sl (.int .i64) x0.1)), (.d (.sl (.int .i64) x0.2))]), (.arr (.pair .str .str) [(([98] : List UInt8), (p15_k2 x0))] true)]) := M.run_of_path _ [false] _ _ (by kernel_rfl) (all_f Bool.false_ne_true all_nil)
                      have hp3 := turns_last (n := m + 20) (by simp) ht3
                      have ht2 : (turn (hds 15 3610) 0 3610 (evC byref (evCall F S4 (m + 24)) (m + 24) 0 (hds 15) lbu15_0) p15_e11 [(.cells [(.d (.sl (.int .i64) x0.1)), (.d (.sl (.int .i64) x0.2))]), (.arr (.pair .str .str) [(([98] : List UInt8), (p15_k2 x0))] true)]).run = some (.normal, p15_e12, [(.cells [(.d (.sl (.int .i64) x0.1)), (.d (.sl (.int .i64) x0.2))]), (.arr (.pair .str .str) [(([98] : List UInt8), (p15_k2 x0))] true)]) := M.run_of_path _ [true, true, true, true, true, true, true, true, true, true, true, true, true, false] _ _ (by kernel_rfl) (all_t rfl (all_t rfl (all_t rfl (all_t c41 (all_t c41 (all_t c41 (all_t c41 (all_t rfl (all_t c41 (all_t c41 (all_t c41 (all_t c41 (all_t c41 (all_f c51 all_nil))))))))))))))
                      have hs2 : (turns (hds 15 3610) 0 3610 (evC byref (evCall F S4 (m + 24)) (m + 24) 0 (hds 15) lbu15_0) (m + 21) p15_e12 [(.cells [(.d (.sl (.int .i64) x0.1)), (.d (.sl (.int .i64) x0.2))]), (.arr (.pair .str .str) [(([98] : List UInt8), (p15_k2 x0))] true)]).run = some (.exit 0, p15_e4, [(.cells [(.d (.sl (.int .i64) x0.1)), (.d (.sl (.int .i64) x0.2))]), (.arr (.pair .str .str) [(([98] : List UInt8), (p15_k2 x0))] true)]) := Eq.mp (by kernel_rfl) hp3
                      have hp2 := turns_step ht2 hs2
                      have ht1 : (turn (hds 15 3610) 0 3610 (evC byref (evCall F S4 (m + 24)) (m + 24) 0 (hds 15) lbu15_0) p15_e13 [(.cells [(.d (.sl (.int .i64) x0.1)), (.d (.sl (.int .i64) x0.2))]), (.arr (.pair .str .str) ([] : List ((List UInt8) × (List UInt8))) true)]).run = some (.normal, p15_e11, [(.cells [(.d (.sl (.int .i64) x0.1)), (.d (.sl (.int .i64) x0.2))]), (.arr (.pair .str .str) [(([98] : List UInt8), (p15_k2 x0))] true)]) := M.run_of_path _ [true, true, true, true, true, true, true, true, true, true, true, true, true, true, true, true, true, true, true, true, true] _ _ (by kernel_rfl) (all_t rfl (all_t rfl (all_t rfl (all_t c20 (all_t c20 (all_t c20 (all_t c20 (all_t rfl (all_t c20 (all_t c20 (all_t c20 (all_t c20 (all_t c20 (all_t c30 (all_t c31 (all_t rfl (all_t c33 (all_t c34 (all_t rfl (all_t rfl (all_t rfl all_nil)))))))))))))))))))))
                      have hs1 : (turns (hds 15 3610) 0 3610 (evC byref (evCall F S4 (m + 24)) (m + 24) 0 (hds 15) lbu15_0) (m + 22) p15_e11 [(.cells [(.d (.sl (.int .i64) x0.1)), (.d (.sl (.int .i64) x0.2))]), (.arr (.pair .str .str) [(([98] : List UInt8), (p15_k2 x0))] true)]).run = some (.exit 0, p15_e4, [(.cells [(.d (.sl (.int .i64) x0.1)), (.d (.sl (.int .i64) x0.2))]), (.arr (.pair .str .str) [(([98] : List UInt8), (p15_k2 x0))] true)]) := Eq.mp (by kernel_rfl) hp2
                      have hp1 := turns_step ht1 hs1
                      have ht0 : (turn (hds 15 3610) 0 3610 (evC byref (evCall F S4 (m + 24)) (m + 24) 0 (hds 15) lbu15_0) p15_e6 [(.cells [(.d (.sl (.int .i64) x0.1)), (.d (.sl (.int .i64) x0.2))]), (.arr (.pair .str .str) ([] : List ((List UInt8) × (List UInt8))) true)]).run = some (.normal, p15_e13, [(.cells [(.d (.sl (.int .i64) x0.1)), (.d (.sl (.int .i64) x0.2))]), (.arr (.pair .str .str) ([] : List ((List UInt8) × (List UInt8))) true)]) := M.run_of_path _ [true, true, true, true, true, true, true, true, true, true, true, true, true, false] _ _ (by kernel_rfl) (all_t rfl (all_t rfl (all_t rfl (all_t c6 (all_t c6 (all_t c6 (all_t c6 (all_t rfl (all_t c6 (all_t c6 (all_t c6 (all_t c6 (all_t c6 (all_f c16 all_nil))))))))))))))
                      have hs0 : (turns (hds 15 3610) 0 3610 (evC byref (evCall F S4 (m + 24)) (m + 24) 0 (hds 15) lbu15_0) (m + 23) p15_e13 [(.cells [(.d (.sl (.int .i64) x0.1)), (.d (.sl (.int .i64) x0.2))]), (.arr (.pair .str .str) ([] : List ((List UInt8) × (List UInt8))) true)]).run = some (.exit 0, p15_e4, [(.cells [(.d (.sl (.int .i64) x0.1)), (.d (.sl (.int .i64) x0.2))]), (.arr (.pair .str .str) [(([98] : List UInt8), (p15_k2 x0))] true)]) := Eq.mp (by kernel_rfl) hp1
                      have hp0 := turns_step ht0 hs0
                      exact Eq.trans (Eq.mp (by kernel_rfl) hp0) hq
                    cases hp
                · skip
                  cases h
                  refine ⟨(.d (.sl (.pair .str .str) [(([98] : List UInt8), (p15_k2 x0))])), [], runT_ok (LS := (fun k => if k = 3610 then some (.exit 0, p15_e4, [(.cells [(.d (.sl (.int .i64) x0.1)), (.d (.sl (.int .i64) x0.2))]), (.arr (.pair .str .str) [(([98] : List UInt8), (p15_k2 x0))] true)]) else none)) (fn := fn15) (vis := [(3610, p15_e6, [(.cells [(.d (.sl (.int .i64) x0.1)), (.d (.sl (.int .i64) x0.2))]), (.arr (.pair .str .str) ([] : List ((List UInt8) × (List UInt8))) true)])]) (by kernel_rfl) rfl (by kernel_rfl) (M.run_of_path _ [true, true, true, true] _ _ (by kernel_rfl) (all_t rfl (all_t rfl (all_t rfl (all_t rfl all_nil))))) ?_, by simp, (wkR.one (wkV.one (wk1.eq rfl))), trivial⟩
                  intro p hp p2 hq
                  rcases List.mem_cons.1 hp with rfl | hp
                  · skip
                    have ht3 : (turn (hds 15 3610) 0 3610 (evC byref (evCall F S4 (m + 24)) (m + 24) 0 (hds 15) lbu15_0) p15_e12 [(.cells [(.d (.sl (.int .i64) x0.1)), (.d (.sl (.int .i64) x0.2))]), (.arr (.pair .str .str) [(([98] : List UInt8), (p15_k2 x0))] true)]).run = some (.exit 0, p15_e4, [(.cells [(.d (.sl (.int .i64) x0.1)), (.d (.sl (.int .i64) x0.2))]), (.arr (.pair .str .str) [(([98] : List UInt8), (p15_k2 x0))] true)]) := M.run_of_path _ [false] _ _ (by kernel_rfl) (all_f Bool.false_ne_true all_nil)
                    have hp3 := turns_last (n := m + 20) (by simp) ht3
                    have ht2 : (turn (hds 15 3610) 0 3610 (evC byref (evCall F S4 (m + 24)) (m + 24) 0 (hds 15) lbu15_0) p15_e11 [(.cells [(.d (.sl (.int .i64) x0.1)), (.d (.sl (.int .i64) x0.2))]), (.arr (.pair .str .str) [(([98] : List UInt8), (p15_k2 x0))] true)]).run = some (.normal, p15_e12, [(.cells [(.d (.sl (.int .i64) x0.1)), (.d (.sl (.int .i64) x0.2))]), (.arr (.pair .str .str) [(([98] : List UInt8), (p15_k2 x0))] true)]) := M.run_of_path _ [true, true, true, false, false, false, false, false, false, false, false, false] _ _ (by kernel_rfl) (all_t rfl (all_t rfl (all_t rfl (all_f c41 (all_f c41 (all_f c41 (all_f c41 (all_f c41 (all_f c41 (all_f c41 (all_f c41 (all_f Bool.false_ne_true all_nil))))))))))))
                    have hs2 : (turns (hds 15 3610) 0 3610 (evC byref (evCall F S4 (m + 24)) (m + 24) 0 (hds 15) lbu15_0) (m + 21) p15_e12 [(.cells [(.d (.sl (.int .i64) x0.1)), (.d (.sl (.int .i64) x0.2))]), (.arr (.pair .str .str) [(([98] : List UInt8), (p15_k2 x0))] true)]).run = some (.exit 0, p15_e4, [(.cells [(.d (.sl (.int .i64) x0.1)), (.d (.sl (.int .i64) x0.2))]), (.arr (.pair .str .str) [(([98] : List UInt8), (p15_k2 x0))] true)]) := Eq.mp (by kernel_rfl) hp3
                    have hp2 := turns_step ht2 hs2
                    have ht1 : (turn (hds 15 3610) 0 3610 (evC byref (evCall F S4 (m + 24)) (m + 24) 0 (hds 15) lbu15_0) p15_e13 [(.cells [(.d (.sl (.int .i64) x0.1)), (.d (.sl (.int .i64) x0.2))]), (.arr (.pair .str .str) ([] : List ((List UInt8) × (List UInt8))) true)]).run = some (.normal, p15_e11, [(.cells [(.d (.sl (.int .i64) x0.1)), (.d (.sl (.int .i64) x0.2))]), (.arr (.pair .str .str) [(([98] : List UInt8), (p15_k2 x0))] true)]) := M.run_of_path _ [true, true, true, true, true, true, true, true, true, true, true, true, true, true, true, true, true, true, true, true, true] _ _ (by kernel_rfl) (all_t rfl (all_t rfl (all_t rfl (all_t c20 (all_t c20 (all_t c20 (all_t c20 (all_t rfl (all_t c20 (all_t c20 (all_t c20 (all_t c20 (all_t c20 (all_t c30 (all_t c31 (all_t rfl (all_t c33 (all_t c34 (all_t rfl (all_t rfl (all_t rfl all_nil)))))))))))))))))))))
                    have hs1 : (turns (hds 15 3610) 0 3610 (evC byref (evCall F S4 (m + 24)) (m + 24) 0 (hds 15) lbu15_0) (m + 22) p15_e11 [(.cells [(.d (.sl (.int .i64) x0.1)), (.d (.sl (.int .i64) x0.2))]), (.arr (.pair .str .str) [(([98] : List UInt8), (p15_k2 x0))] true)]).run = some (.exit 0, p15_e4, [(.cells [(.d (.sl (.int .i64) x0.1)), (.d (.sl (.int .i64) x0.2))]), (.arr (.pair .str .str) [(([98] : List UInt8), (p15_k2 x0))] true)]) := Eq.mp (by kernel_rfl) hp2
                    have hp1 := turns_step ht1 hs1
                    have ht0 : (turn (hds 15 3610) 0 3610 (evC byref (evCall F S4 (m + 24)) (m + 24) 0 (hds 15) lbu15_0) p15_e6 [(.cells [(.d (.sl (.int .i64) x0.1)), (.d (.sl (.int .i64) x0.2))]), (.arr (.pair .str .str) ([] : List ((List UInt8) × (List UInt8))) true)]).run = some (.normal, p15_e13, [(.cells [(.d (.sl (.int .i64) x0.1)), (.d (.sl (.int .i64) x0.2))]), (.arr (.pair .str .str) ([] : List ((List UInt8) × (List UInt8))) true)]) := M.run_of_path _ [true, true, true, true, true, true, true, true, true, true, true, true, true, false] _ _ (by kernel_rfl) (all_t rfl (all_t rfl (all_t rfl (all_t c6 (all_t c6 (all_t c6 (all_t c6 (all_t rfl (all_t c6 (all_t c6 (all_t c6 (all_t c6 (all_t c6 (all_f c16 all_nil))))))))))))))
                    have hs0 : (turns (hds 15 3610) 0 3610 (evC byref (evCall F S4 (m + 24)) (m + 24) 0 (hds 15) lbu15_0) (m + 23) p15_e13 [(.cells [(.d (.sl (.int .i64) x0.1)), (.d (.sl (.int .i64) x0.2))]), (.arr (.pair .str .str) ([] : List ((List UInt8) × (List UInt8))) true)]).run = some (.exit 0, p15_e4, [(.cells [(.d (.sl (.int .i64) x0.1)), (.d (.sl (.int .i64) x0.2))]), (.arr (.pair .str .str) [(([98] : List UInt8), (p15_k2 x0))] true)]) := Eq.mp (by kernel_rfl) hp1
                    have hp0 := turns_step ht0 hs0
                    exact Eq.trans (Eq.mp (by kernel_rfl) hp0) hq
                  cases hp
              · skip
                cases h
            · skip
              cases h
          · skip
            cases h
        · skip
          refine ite_cases h (fun c34 h => ?_) (fun c34 h => ?_)
          · skip
            refine ite_cases h (fun c44 h => ?_) (fun c44 h => ?_)
            · skip
              refine ite_cases h (fun c45 h => ?_) (fun c45 h => ?_)
              · skip
                refine ite_cases h (fun c47 h => ?_) (fun c47 h => ?_)
                · skip
                  refine ite_cases h (fun c48 h => ?_) (fun c48 h => ?_)
                  · skip
                    cases h
                    refine ⟨(.d (.sl (.pair .str .str) [(([99] : List UInt8), (p15_k3 x0))])), [], runT_ok (LS := (fun k => if k = 3610 then some (.exit 0, p15_e4, [(.cells [(.d (.sl (.int .i64) x0.1)), (.d (.sl (.int .i64) x0.2))]), (.arr (.pair .str .str) [(([99] : List UInt8), (p15_k3 x0))] true)]) else none)) (fn := fn15) (vis := [(3610, p15_e6, [(.cells [(.d (.sl (.int .i64) x0.1)), (.d (.sl (.int .i64) x0.2))]), (.arr (.pair .str .str) ([] : List ((List UInt8) × (List UInt8))) true)])]) (by kernel_rfl) rfl (by kernel_rfl) (M.run_of_path _ [true, true, true, true] _ _ (by kernel_rfl) (all_t rfl (all_t rfl (all_t rfl (all_t rfl all_nil))))) ?_, by simp, (wkR.one (wkV.one (wk1.eq rfl))), trivial⟩
                    intro p hp p2 hq
                    rcases List.mem_cons.1 hp with rfl | hp
                    · skip
                      have ht3 : (turn (hds 15 3610) 0 3610 (evC byref (evCall F S4 (m + 24)) (m + 24) 0 (hds 15) lbu15_0) p15_e12 [(.cells [(.d (.sl (.int .i64) x0.1)), (.d (.sl (.int .i64) x0.2))]), (.arr (.pair .str .str) [(([99] : List UInt8), (p15_k3 x0))] true)]).run = some (.exit 0, p15_e4, [(.cells [(.d (.sl (.int .i64) x0.1)), (.d (.sl (.int .i64) x0.2))]), (.arr (.pair .str .str) [(([99] : List UInt8), (p15_k3 x0))] true)]) := M.run_of_path _ [false] _ _ (by kernel_rfl) (all_f Bool.false_ne_true all_nil)
                      have hp3 := turns_last (n := m + 20) (by simp) ht3
                      have ht2 : (turn (hds 15 3610) 0 3610 (evC byref (evCall F S4 (m + 24)) (m + 24) 0 (hds 15) lbu15_0) p15_e14 [(.cells [(.d (.sl (.int .i64) x0.1)), (.d (.sl (.int .i64) x0.2))]), (.arr (.pair .str .str) ([] : List ((List UInt8) × (List UInt8))) true)]).run = some (.normal, p15_e12, [(.cells [(.d (.sl (.int .i64) x0.1)), (.d (.sl (.int .i64) x0.2))]), (.arr (.pair .str .str) [(([99] : List UInt8), (p15_k3 x0))] true)]) := M.run_of_path _ [true, true, true, true, true, true, true, true, true, true, true, true, true, true, true, true, true, true, true, true, true] _ _ (by kernel_rfl) (all_t rfl (all_t rfl (all_t rfl (all_t c34 (all_t c34 (all_t c34 (all_t c34 (all_t rfl (all_t c34 (all_t c34 (all_t c34 (all_t c34 (all_t c34 (all_t c44 (all_t c45 (all_t rfl (all_t c47 (all_t c48 (all_t rfl (all_t rfl (all_t rfl all_nil)))))))))))))))))))))
                      have hs2 : (turns (hds 15 3610) 0 3610 (evC byref (evCall F S4 (m + 24)) (m + 24) 0 (hds 15) lbu15_0) (m + 21) p15_e12 [(.cells [(.d (.sl (.int .i64) x0.1)), (.d (.sl (.int .i64) x0.2))]), (.arr (.pair .str .str) [(([99] : List UInt8), (p15_k3 x0))] true)]).run = some (.exit 0, p15_e4, [(.cells [(.d (.sl (.int .i64) x0.1)), (.d (.sl (.int .i64) x0.2))]), (.arr (.pair .str .str) [(([99] : List UInt8), (p15_k3 x0))] true)]) := Eq.mp (by kernel_rfl) hp3
                      have hp2 := turns_step ht2 hs2
                      have ht1 : (turn (hds 15 3610) 0 3610 (evC byref (evCall F S4 (m + 24)) (m + 24) 0 (hds 15) lbu15_0) p15_e13 [(.cells [(.d (.sl (.int .i64) x0.1)), (.d (.sl (.int .i64) x0.2))]), (.arr (.pair .str .str) ([] : List ((List UInt8) × (List UInt8))) true)]).run = some (.normal, p15_e14, [(.cells [(.d (.sl (.int .i64) x0.1)), (.d (.sl (.int .i64) x0.2))]), (.arr (.pair .str .str) ([] : List ((List UInt8) × (List UInt8))) true)]) := M.run_of_path _ [true, true, true, true, true, true, true, true, true, true, true, true, true, false] _ _ (by kernel_rfl) (all_t rfl (all_t rfl (all_t rfl (all_t c20 (all_t c20 (all_t c20 (all_t c20 (all_t rfl (all_t c20 (all_t c20 (all_t c20 (all_t c20 (all_t c20 (all_f c30 all_nil))))))))))))))
                      have hs1 : (turns (hds 15 3610) 0 3610 (evC byref (evCall F S4 (m + 24)) (m + 24) 0 (hds 15) lbu15_0) (m + 22) p15_e14 [(.cells [(.d (.sl (.int .i64) x0.1)), (.d (.sl (.int .i64) x0.2))]), (.arr (.pair .str .str) ([] : List ((List UInt8) × (List UInt8))) true)]).run = some (.exit 0, p15_e4, [(.cells [(.d (.sl (.int .i64) x0.1)), (.d (.sl (.int .i64) x0.2))]), (.arr (.pair .str .str) [(([99] : List UInt8), (p15_k3 x0))] true)]) := Eq.mp (by kernel_rfl) hp2
                      have hp1 := turns_step ht1 hs1
                      have ht0 : (turn (hds 15 3610) 0 3610 (evC byref (evCall F S4 (m + 24)) (m + 24) 0 (hds 15) lbu15_0) p15_e6 [(.cells [(.d (.sl (.int .i64) x0.1)), (.d (.sl (.int .i64) x0.2))]), (.arr (.pair .str .str) ([] : List ((List UInt8) × (List UInt8))) true)]).run = some (.normal, p15_e13, [(.cells [(.d (.sl (.int .i64) x0.1)), (.d (.sl (.int .i64) x0.2))]), (.arr (.pair .str .str) ([] : List ((List UInt8) × (List UInt8))) true)]) := M.run_of_path _ [true, true, true, true, true, true, true, true, true, true, true, true, true, false] _ _ (by kernel_rfl) (all_t rfl (all_t rfl (all_t rfl (all_t c6 (all_t c6 (all_t c6 (all_t c6 (all_t rfl (all_t c6 (all_t c6 (all_t c6 (all_t c6 (all_t c6 (all_f c16 all_nil))))))))))))))
                      have hs0 : (turns (hds 15 3610) 0 3610 (evC byref (evCall F S4 (m + 24)) (m + 24) 0 (hds 15) lbu15_0) (m + 23) p15_e13 [(.cells [(.d (.sl (.int .i64) x0.1)), (.d (.sl (.int .i64) x0.2))]), (.arr (.pair .str .str) ([] : List ((List UInt8) × (List UInt8))) true)]).run = some (.exit 0, p15_e4, [(.cells [(.d (.sl (.int .i64) x0.1)), (.d (.sl (.int .i64) x0.2))]), (.arr (.pair .str .str) [(([99] : List UInt8), (p15_k3 x0))] true)]) := Eq.mp (by kernel_rfl) hp1
                      have hp0 := turns_step ht0 hs0
                      exact Eq.trans (Eq.mp (by kernel_rfl) hp0) hq
                    cases hp
                  · skip
                    cases h
                · skip
                  cases h
              · skip
                cases h
            · skip
              cases h
              refine ⟨(.d (.sl (.pair .str .str) ([] : List ((List UInt8) × (List UInt8))))), [], runT_ok (LS := (fun k => if k = 3610 then some (.exit 0, p15_e5, [(.cells [(.d (.sl (.int .i64) x0.1)), (.d (.sl (.int .i64) x0.2))]), (.arr (.pair .str .str) ([] : List ((List UInt8) × (List UInt8))) true)]) else none)) (fn := fn15) (vis := [(3610, p15_e6, [(.cells [(.d (.sl (.int .i64) x0.1)), (.d (.sl (.int .i64) x0.2))]), (.arr (.pair .str .str) ([] : List ((List UInt8) × (List UInt8))) true)])]) (by kernel_rfl) rfl (by kernel_rfl) (M.run_of_path _ [true, true, true, true] _ _ (by kernel_rfl) (all_t rfl (all_t rfl (all_t rfl (all_t rfl all_nil))))) ?_, by simp, (wkR.one (wkV.one (wk1.eq rfl))), trivial⟩
              intro p hp p2 hq
              rcases List.mem_cons.1 hp with rfl | hp
              · skip
                have ht3 : (turn (hds 15 3610) 0 3610 (evC byref (evCall F S4 (m + 24)) (m + 24) 0 (hds 15) lbu15_0) p15_e15 [(.cells [(.d (.sl (.int .i64) x0.1)), (.d (.sl (.int .i64) x0.2))]), (.arr (.pair .str .str) ([] : List ((List UInt8) × (List UInt8))) true)]).run = some (.exit 0, p15_e5, [(.cells [(.d (.sl (.int .i64) x0.1)), (.d (.sl (.int .i64) x0.2))]), (.arr (.pair .str .str) ([] : List ((List UInt8) × (List UInt8))) true)]) := M.run_of_path _ [false] _ _ (by kernel_rfl) (all_f Bool.false_ne_true all_nil)
                have hp3 := turns_last (n := m + 20) (by simp) ht3
                have ht2 : (turn (hds 15 3610) 0 3610 (evC byref (evCall F S4 (m + 24)) (m + 24) 0 (hds 15) lbu15_0) p15_e14 [(.cells [(.d (.sl (.int .i64) x0.1)), (.d (.sl (.int .i64) x0.2))]), (.arr (.pair .str .str) ([] : List ((List UInt8) × (List UInt8))) true)]).run = some (.normal, p15_e15, [(.cells [(.d (.sl (.int .i64) x0.1)), (.d (.sl (.int .i64) x0.2))]), (.arr (.pair .str .str) ([] : List ((List UInt8) × (List UInt8))) true)]) := M.run_of_path _ [true, true, true, true, true, true, true, true, true, true, true, true, true, false] _ _ (by kernel_rfl) (all_t rfl (all_t rfl (all_t rfl (all_t c34 (all_t c34 (all_t c34 (all_t c34 (all_t rfl (all_t c34 (all_t c34 (all_t c34 (all_t c34 (all_t c34 (all_f c44 all_nil))))))))))))))
                have hs2 : (turns (hds 15 3610) 0 3610 (evC byref (evCall F S4 (m + 24)) (m + 24) 0 (hds 15) lbu15_0) (m + 21) p15_e15 [(.cells [(.d (.sl (.int .i64) x0.1)), (.d (.sl (.int .i64) x0.2))]), (.arr (.pair .str .str) ([] : List ((List UInt8) × (List UInt8))) true)]).run = some (.exit 0, p15_e5, [(.cells [(.d (.sl (.int .i64) x0.1)), (.d (.sl (.int .i64) x0.2))]), (.arr (.pair .str .str) ([] : List ((List UInt8) × (List UInt8))) true)]) := Eq.mp (by kernel_rfl) hp3
                have hp2 := turns_step ht2 hs2
                have ht1 : (turn (hds 15 3610) 0 3610 (evC byref (evCall F S4 (m + 24)) (m + 24) 0 (hds 15) lbu15_0) p15_e13 [(.cells [(.d (.sl (.int .i64) x0.1)), (.d (.sl (.int .i64) x0.2))]), (.arr (.pair .str .str) ([] : List ((List UInt8) × (List UInt8))) true)]).run = some (.normal, p15_e14, [(.cells [(.d (.sl (.int .i64) x0.1)), (.d (.sl (.int .i64) x0.2))]), (.arr (.pair .str .str) ([] : List ((List UInt8) × (List UInt8))) true)]) := M.run_of_path _ [true, true, true, true, true, true, true, true, true, true, true, true, true, false] _ _ (by kernel_rfl) (all_t rfl (all_t rfl (all_t rfl (all_t c20 (all_t c20 (all_t c20 (all_t c20 (all_t rfl (all_t c20 (all_t c20 (all_t c20 (all_t c20 (all_t c20 (all_f c30 all_nil))))))))))))))
                have hs1 : (turns (hds 15 3610) 0 3610 (evC byref (evCall F S4 (m + 24)) (m + 24) 0 (hds 15) lbu15_0) (m + 22) p15_e14 [(.cells [(.d (.sl (.int .i64) x0.1)), (.d (.sl (.int .i64) x0.2))]), (.arr (.pair .str .str) ([] : List ((List UInt8) × (List UInt8))) true)]).run = some (.exit 0, p15_e5, [(.cells [(.d (.sl (.int .i64) x0.1)), (.d (.sl (.int .i64) x0.2))]), (.arr (.pair .str .str) ([] : List ((List UInt8) × (List UInt8))) true)]) := Eq.mp (by kernel_rfl) hp2
                have hp1 := turns_step ht1 hs1
                have ht0 : (turn (hds 15 3610) 0 3610 (evC byref (evCall F S4 (m + 24)) (m + 24) 0 (hds 15) lbu15_0) p15_e6 [(.cells [(.d (.sl (.int .i64) x0.1)), (.d (.sl (.int .i64) x0.2))]), (.arr (.pair .str .str) ([] : List ((List UInt8) × (List UInt8))) true)]).run = some (.normal, p15_e13, [(.cells [(.d (.sl (.int .i64) x0.1)), (.d (.sl (.int .i64) x0.2))]), (.arr (.pair .str .str) ([] : List ((List UInt8) × (List UInt8))) true)]) := M.run_of_path _ [true, true, true, true, true, true, true, true, true, true, true, true, true, false] _ _ (by kernel_rfl) (all_t rfl (all_t rfl (all_t rfl (all_t c6 (all_t c6 (all_t c6 (all_t c6 (all_t rfl (all_t c6 (all_t c6 (all_t c6 (all_t c6 (all_t c6 (all_f c16 all_nil))))))))))))))
                have hs0 : (turns (hds 15 3610) 0 3610 (evC byref (evCall F S4 (m + 24)) (m + 24) 0 (hds 15) lbu15_0) (m + 23) p15_e13 [(.cells [(.d (.sl (.int .i64) x0.1)), (.d (.sl (.int .i64) x0.2))]), (.arr (.pair .str .str) ([] : List ((List UInt8) × (List UInt8))) true)]).run = some (.exit 0, p15_e5, [(.cells [(.d (.sl (.int .i64) x0.1)), (.d (.sl (.int .i64) x0.2))]), (.arr (.pair .str .str) ([] : List ((List UInt8) × (List UInt8))) true)]) := Eq.mp (by kernel_rfl) hp1
                have hp0 := turns_step ht0 hs0
                exact Eq.trans (Eq.mp (by kernel_rfl) hp0) hq
              cases hp
          · skip
            cases h
            refine ⟨(.d (.sl (.pair .str .str) ([] : List ((List UInt8) × (List UInt8))))), [], runT_ok (LS := (fun k => if k = 3610 then some (.exit 0, p15_e5, [(.cells [(.d (.sl (.int .i64) x0.1)), (.d (.sl (.int .i64) x0.2))]), (.arr (.pair .str .str) ([] : List ((List UInt8) × (List UInt8))) true)]) else none)) (fn := fn15) (vis := [(3610, p15_e6, [(.cells [(.d (.sl (.int .i64) x0.1)), (.d (.sl (.int .i64) x0.2))]), (.arr (.pair .str .str) ([] : List ((List UInt8) × (List UInt8))) true)])]) (by kernel_rfl) rfl (by kernel_rfl) (M.run_of_path _ [true, true, true, true] _ _ (by kernel_rfl) (all_t rfl (all_t rfl (all_t rfl (all_t rfl all_nil))))) ?_, by simp, (wkR.one (wkV.one (wk1.eq rfl))), trivial⟩
            intro p hp p2 hq
            rcases List.mem_cons.1 hp with rfl | hp
            · skip
              have ht3 : (turn (hds 15 3610) 0 3610 (evC byref (evCall F S4 (m + 24)) (m + 24) 0 (hds 15) lbu15_0) p15_e15 [(.cells [(.d (.sl (.int .i64) x0.1)), (.d (.sl (.int .i64) x0.2))]), (.arr (.pair .str .str) ([] : List ((List UInt8) × (List UInt8))) true)]).run = some (.exit 0, p15_e5, [(.cells [(.d (.sl (.int .i64) x0.1)), (.d (.sl (.int .i64) x0.2))]), (.arr (.pair .str .str) ([] : List ((List UInt8) × (List UInt8))) true)]) := M.run_of_path _ [false] _ _ (by kernel_rfl) (all_f Bool.false_ne_true all_nil)
              have hp3 := turns_last (n := m + 20) (by simp) ht3
              have ht2 : (turn (hds 15 3610) 0 3610 (evC byref (evCall F S4 (m + 24)) (m + 24) 0 (hds 15) lbu15_0) p15_e14 [(.cells [(.d (.sl (.int .i64) x0.1)), (.d (.sl (.int .i64) x0.2))]), (.arr (.pair .str .str) ([] : List ((List UInt8) × (List UInt8))) true)]).run = some (.normal, p15_e15, [(.cells [(.d (.sl (.int .i64) x0.1)), (.d (.sl (.int .i64) x0.2))]), (.arr (.pair .str .str) ([] : List ((List UInt8) × (List UInt8))) true)]) := M.run_of_path _ [true, true, true, false, false, false, false, false, false, false, false, false] _ _ (by kernel_rfl) (all_t rfl (all_t rfl (all_t rfl (all_f c34 (all_f c34 (all_f c34 (all_f c34 (all_f c34 (all_f c34 (all_f c34 (all_f c34 (all_f Bool.false_ne_true all_nil))))))))))))
              have hs2 : (turns (hds 15 3610) 0 3610 (evC byref (evCall F S4 (m + 24)) (m + 24) 0 (hds 15) lbu15_0) (m + 21) p15_e15 [(.cells [(.d (.sl (.int .i64) x0.1)), (.d (.sl (.int .i64) x0.2))]), (.arr (.pair .str .str) ([] : List ((List UInt8) × (List UInt8))) true)]).run = some (.exit 0, p15_e5, [(.cells [(.d (.sl (.int .i64) x0.1)), (.d (.sl (.int .i64) x0.2))]), (.arr (.pair .str .str) ([] : List ((List UInt8) × (List UInt8))) true)]) := Eq.mp (by kernel_rfl) hp3
              have hp2 := turns_step ht2 hs2
              have ht1 : (turn (hds 15 3610) 0 3610 (evC byref (evCall F S4 (m + 24)) (m + 24) 0 (hds 15) lbu15_0) p15_e13 [(.cells [(.d (.sl (.int .i64) x0.1)), (.d (.sl (.int .i64) x0.2))]), (.arr (.pair .str .str) ([] : List ((List UInt8) × (List UInt8))) true)]).run = some (.normal, p15_e14, [(.cells [(.d (.sl (.int .i64) x0.1)), (.d (.sl (.int .i64) x0.2))]), (.arr (.pair .str .str) ([] : List ((List UInt8) × (List UInt8))) true)]) := M.run_of_path _ [true, true, true, true, true, true, true, true, true, true, true, true, true, false] _ _ (by kernel_rfl) (all_t rfl (all_t rfl (all_t rfl (all_t c20 (all_t c20 (all_t c20 (all_t c20 (all_t rfl (all_t c20 (all_t c20 (all_t c20 (all_t c20 (all_t c20 (all_f c30 all_nil))))))))))))))
              have hs1 : (turns (hds 15 3610) 0 3610 (evC byref (evCall F S4 (m + 24)) (m + 24) 0 (hds 15) lbu15_0) (m + 22) p15_e14 [(.cells [(.d (.sl (.int .i64) x0.1)), (.d (.sl (.int .i64) x0.2))]), (.arr (.pair .str .str) ([] : List ((List UInt8) × (List UInt8))) true)]).run = some (.exit 0, p15_e5, [(.cells [(.d (.sl (.int .i64) x0.1)), (.d (.sl (.int .i64) x0.2))]), (.arr (.pair .str .str) ([] : List ((List UInt8) × (List UInt8))) true)]) := Eq.mp (by kernel_rfl) hp2
              have hp1 := turns_step ht1 hs1
              have ht0 : (turn (hds 15 3610) 0 3610 (evC byref (evCall F S4 (m + 24)) (m + 24) 0 (hds 15) lbu15_0) p15_e6 [(.cells [(.d (.sl (.int .i64) x0.1)), (.d (.sl (.int .i64) x0.2))]), (.arr (.pair .str .str) ([] : List ((List UInt8) × (List UInt8))) true)]).run = some (.normal, p15_e13, [(.cells [(.d (.sl (.int .i64) x0.1)), (.d (.sl (.int .i64) x0.2))]), (.arr (.pair .str .str) ([] : List ((List UInt8) × (List UInt8))) true)]) := M.run_of_path _ [true, true, true, true, true, true, true, true, true, true, true, true, true, false] _ _ (by kernel_rfl) (all_t rfl (all_t rfl (all_t rfl (all_t c6 (all_t c6 (all_t c6 (all_t c6 (all_t rfl (all_t c6 (all_t c6 (all_t c6 (all_t c6 (all_t c6 (all_f c16 all_nil))))))))))))))
              have hs0 : (turns (hds 15 3610) 0 3610 (evC byref (evCall F S4 (m + 24)) (m + 24) 0 (hds 15) lbu15_0) (m + 23) p15_e13 [(.cells [(.d (.sl (.int .i64) x0.1)), (.d (.sl (.int .i64) x0.2))]), (.arr (.pair .str .str) ([] : List ((List UInt8) × (List UInt8))) true)]).run = some (.exit 0, p15_e5, [(.cells [(.d (.sl (.int .i64) x0.1)), (.d (.sl (.int .i64) x0.2))]), (.arr (.pair .str .str) ([] : List ((List UInt8) × (List UInt8))) true)]) := Eq.mp (by kernel_rfl) hp1
              have hp0 := turns_step ht0 hs0
              exact Eq.trans (Eq.mp (by kernel_rfl) hp0) hq
            cases hp
      · skip
        refine ite_cases h (fun c32 h => ?_) (fun c32 h => ?_)
        · skip
          refine ite_cases h (fun c42 h => ?_) (fun c42 h => ?_)
          · skip
            refine ite_cases h (fun c43 h => ?_) (fun c43 h => ?_)
            · skip
              refine ite_cases h (fun c45 h => ?_) (fun c45 h => ?_)
              · skip
                refine ite_cases h (fun c46 h => ?_) (fun c46 h => ?_)
                · skip
                  cases h
                  refine ⟨(.d (.sl (.pair .str .str) [(([99] : List UInt8), (p15_k3 x0))])), [], runT_ok (LS := (fun k => if k = 3610 then some (.exit 0, p15_e4, [(.cells [(.d (.sl (.int .i64) x0.1)), (.d (.sl (.int .i64) x0.2))]), (.arr (.pair .str .str) [(([99] : List UInt8), (p15_k3 x0))] true)]) else none)) (fn := fn15) (vis := [(3610, p15_e6, [(.cells [(.d (.sl (.int .i64) x0.1)), (.d (.sl (.int .i64) x0.2))]), (.arr (.pair .str .str) ([] : List ((List UInt8) × (List UInt8))) true)])]) (by kernel_rfl) rfl (by kernel_rfl) (M.run_of_path _ [true, true, true, true] _ _ (by kernel_rfl) (all_t rfl (all_t rfl (all_t rfl (all_t rfl all_nil))))) ?_, by simp, (wkR.one (wkV.one (wk1.eq rfl))), trivial⟩
                  intro p hp p2 hq
                  rcases List.mem_cons.1 hp with rfl | hp
                  · skip
                    have ht3 : (turn (hds 15 3610) 0 3610 (evC byref (evCall F S4 (m + 24)) (m + 24) 0 (hds 15) lbu15_0) p15_e12 [(.cells [(.d (.sl (.int .i64) x0.1)), (.d (.sl (.int .i64) x0.2))]), (.arr (.pair .str .str) [(([99] : List UInt8), (p15_k3 x0))] true)]).run = some (.exit 0, p15_e4, [(.cells [(.d (.sl (.int .i64) x0.1)), (.d (.sl (.int .i64) x0.2))]), (.arr (.pair .str .str) [(([99] : List UInt8), (p15_k3 x0))] true)]) := M.run_of_path _ [false] _ _ (by kernel_rfl) (all_f Bool.false_ne_true all_nil)
                    have hp3 := turns_last (n := m + 20) (by simp) ht3
                    have ht2 : (turn (hds 15 3610) 0 3610 (evC byref (evCall F S4 (m + 24)) (m + 24) 0 (hds 15) lbu15_0) p15_e14 [(.cells [(.d (.sl (.int .i64) x0.1)), (.d (.sl (.int .i64) x0.2))]), (.arr (.pair .str .str) ([] : List ((List UInt8) × (List UInt8))) true)]).run = some (.normal, p15_e12, [(.cells [(.d (.sl (.int .i64) x0.1)), (.d (.sl (.int .i64) x0.2))]), (.arr (.pair .str .str) [(([99] : List UInt8), (p15_k3 x0))] true)]) := M.run_of_path _ [true, true, true, true, true, true, true, true, true, true, true, true, true, true, true, true, true, true, true, true, true] _ _ (by kernel_rfl) (all_t rfl (all_t rfl (all_t rfl (all_t c32 (all_t c32 (all_t c32 (all_t c32 (all_t rfl (all_t c32 (all_t c32 (all_t c32 (all_t c32 (all_t c32 (all_t c42 (all_t c43 (all_t rfl (all_t c45 (all_t c46 (all_t rfl (all_t rfl (all_t rfl all_nil)))))))))))))))))))))
                    have hs2 : (turns (hds 15 3610) 0 3610 (evC byref (evCall F S4 (m + 24)) (m + 24) 0 (hds 15) lbu15_0) (m + 21) p15_e12 [(.cells [(.d (.sl (.int .i64) x0.1)), (.d (.sl (.int .i64) x0.2))]), (.arr (.pair .str .str) [(([99] : List UInt8), (p15_k3 x0))] true)]).run = some (.exit 0, p15_e4, [(.cells [(.d (.sl (.int .i64) x0.1)), (.d (.sl (.int .i64) x0.2))]), (.arr (.pair .str .str) [(([99] : List UInt8), (p15_k3 x0))] true)]) := Eq.mp (by kernel_rfl) hp3
                    have hp2 := turns_step ht2 hs2
                    have ht1 : (turn (hds 15 3610) 0 3610 (evC byref (evCall F S4 (m + 24)) (m + 24) 0 (hds 15) lbu15_0) p15_e13 [(.cells [(.d (.sl (.int .i64) x0.1)), (.d (.sl (.int .i64) x0.2))]), (.arr (.pair .str .str) ([] : List ((List UInt8) × (List UInt8))) true)]).run = some (.normal, p15_e14, [(.cells [(.d (.sl (.int .i64) x0.1)), (.d (.sl (.int .i64) x0.2))]), (.arr (.pair .str .str) ([] : List ((List UInt8) × (List UInt8))) true)]) := M.run_of_path _ [true, true, true, false, false, false, false, false, false, false, false, false] _ _ (by kernel_rfl) (all_t rfl (all_t rfl (all_t rfl (all_f c20 (all_f c20 (all_f c20 (all_f c20 (all_f c20 (all_f c20 (all_f c20 (all_f c20 (all_f Bool.false_ne_true all_nil))))))))))))
                    have hs1 : (turns (hds 15 3610) 0 3610 (evC byref (evCall F S4 (m + 24)) (m + 24) 0 (hds 15) lbu15_0) (m + 22) p15_e14 [(.cells [(.d (.sl (.int .i64) x0.1)), (.d (.sl (.int .i64) x0.2))]), (.arr (.pair .str .str) ([] : List ((List UInt8) × (List UInt8))) true)]).run = some (.exit 0, p15_e4, [(.cells [(.d (.sl (.int .i64) x0.1)), (.d (.sl (.int .i64) x0.2))]), (.arr (.pair .str .str) [(([99] : List UInt8), (p15_k3 x0))] true)]) := Eq.mp (by kernel_rfl) hp2
                    have hp1 := turns_step ht1 hs1
                    have ht0 : (turn (hds 15 3610) 0 3610 (evC byref (evCall F S4 (m + 24)) (m + 24) 0 (hds 15) lbu15_0) p15_e6 [(.cells [(.d (.sl (.int .i64) x0.1)), (.d (.sl (.int .i64) x0.2))]), (.arr (.pair .str .str) ([] : List ((List UInt8) × (List UInt8))) true)]).run = some (.normal, p15_e13, [(.cells [(.d (.sl (.int .i64) x0.1)), (.d (.sl (.int .i64) x0.2))]), (.arr (.pair .str .str) ([] : List ((List UInt8) × (List UInt8))) true)]) := M.run_of_path _ [true, true, true, true, true, true, true, true, true, true, true, true, true, false] _ _ (by kernel_rfl) (all_t rfl (all_t rfl (all_t rfl (all_t c6 (all_t c6 (all_t c6 (all_t c6 (all_t rfl (all_t c6 (all_t c6 (all_t c6 (all_t c6 (all_t c6 (all_f c16 all_nil))))))))))))))
                    have hs0 : (turns (hds 15 3610) 0 3610 (evC byref (evCall F S4 (m + 24)) (m + 24) 0 (hds 15) lbu15_0) (m + 23) p15_e13 [(.cells [(.d (.sl (.int .i64) x0.1)), (.d (.sl (.int .i64) x0.2))]), (.arr (.pair .str .str) ([] : List ((List UInt8) × (List UInt8))) true)]).run = some (.exit 0, p15_e4, [(.cells [(.d (.sl (.int .i64) x0.1)), (.d (.sl (.int .i64) x0.2))]), (.arr (.pair .str .str) [(([99] : List UInt8), (p15_k3 x0))] true)]) := Eq.mp (by kernel_rfl) hp1
                    have hp0 := turns_step ht0 hs0
                    exact Eq.trans (Eq.mp (by kernel_rfl) hp0) hq
                  cases hp
                · skip
                  cases h
              · skip
                cases h
            · skip
              cases h
          · skip
            cases h
            refine ⟨(.d (.sl (.pair .str .str) ([] : List ((List UInt8) × (List UInt8))))), [], runT_ok (LS := (fun k => if k = 3610 then some (.exit 0, p15_e5, [(.cells [(.d (.sl (.int .i64) x0.1)), (.d (.sl (.int .i64) x0.2))]), (.arr (.pair .str .str) ([] : List ((List UInt8) × (List UInt8))) true)]) else none)) (fn := fn15) (vis := [(3610, p15_e6, [(.cells [(.d (.sl (.int .i64) x0.1)), (.d (.sl (.int .i64) x0.2))]), (.arr (.pair .str .str) ([] : List ((List UInt8) × (List UInt8))) true)])]) (by kernel_rfl) rfl (by kernel_rfl) (M.run_of_path _ [true, true, true, true] _ _ (by kernel_rfl) (all_t rfl (all_t rfl (all_t rfl (all_t rfl all_nil))))) ?_, by simp, (wkR.one (wkV.one (wk1.eq rfl))), trivial⟩
            intro p hp p2 hq
            rcases List.mem_cons.1 hp with rfl | hp
            · skip
              have ht3 : (turn (hds 15 3610) 0 3610 (evC byref (evCall F S4 (m + 24)) (m + 24) 0 (hds 15) lbu15_0) p15_e15 [(.cells [(.d (.sl (.int .i64) x0.1)), (.d (.sl (.int .i64) x0.2))]), (.arr (.pair .str .str) ([] : List ((List UInt8) × (List UInt8))) true)]).run = some (.exit 0, p15_e5, [(.cells [(.d (.sl (.int .i64) x0.1)), (.d (.sl (.int .i64) x0.2))]), (.arr (.pair .str .str) ([] : List ((List UInt8) × (List UInt8))) true)]) := M.run_of_path _ [false] _ _ (by kernel_rfl) (all_f Bool.false_ne_true all_nil)
              have hp3 := turns_last (n := m + 20) (by simp) ht3
              have ht2 : (turn (hds 15 3610) 0 3610 (evC byref (evCall F S4 (m + 24)) (m + 24) 0 (hds 15) lbu15_0) p15_e14 [(.cells [(.d (.sl (.int .i64) x0.1)), (.d (.sl (.int .i64) x0.2))]), (.arr (.pair .str .str) ([] : List ((List UInt8) × (List UInt8))) true)]).run = some (.normal, p15_e15, [(.cells [(.d (.sl (.int .i64) x0.1)), (.d (.sl (.int .i64) x0.2))]), (.arr (.pair .str .str) ([] : List ((List UInt8) × (List UInt8))) true)]) := M.run_of_path _ [true, true, true, true, true, true, true, true, true, true, true, true, true, false] _ _ (by kernel_rfl) (all_t rfl (all_t rfl (all_t rfl (all_t c32 (all_t c32 (all_t c32 (all_t c32 (all_t rfl (all_t c32 (all_t c32 (all_t c32 (all_t c32 (all_t c32 (all_f c42 all_nil))))))))))))))
              have hs2 : (turns (hds 15 3610) 0 3610 (evC byref (evCall F S4 (m + 24)) (m + 24) 0 (hds 15) lbu15_0) (m + 21) p15_e15 [(.cells [(.d (.sl (.int .i64) x0.1)), (.d (.sl (.int .i64) x0.2))]), (.arr (.pair .str .str) ([] : List ((List UInt8) × (List UInt8))) true)]).run = some (.exit 0, p15_e5, [(.cells [(.d (.sl (.int .i64) x0.1)), (.d (.sl (.int .i64) x0.2))]), (.arr (.pair .str .str) ([] : List ((List UInt8) × (List UInt8))) true)]) := Eq.mp (by kernel_rfl) hp3
              have hp2 := turns_step ht2 hs2
              have ht1 : (turn (hds 15 3610) 0 3610 (evC byref (evCall F S4 (m + 24)) (m + 24) 0 (hds 15) lbu15_0) p15_e13 [(.cells [(.d (.sl (.int .i64) x0.1)), (.d (.sl (.int .i64) x0.2))]), (.arr (.pair .str .str) ([] : List ((List UInt8) × (List UInt8))) true)]).run = some (.normal, p15_e14, [(.cells [(.d (.sl (.int .i64) x0.1)), (.d (.sl (.int .i64) x0.2))]), (.arr (.pair .str .str) ([] : List ((List UInt8) × (List UInt8))) true)]) := M.run_of_path _ [true, true, true, false, false, false, false, false, false, false, false, false] _ _ (by kernel_rfl) (all_t rfl (all_t rfl (all_t rfl (all_f c20 (all_f c20 (all_f c20 (all_f c20 (all_f c20 (all_f c20 (all_f c20 (all_f c20 (all_f Bool.false_ne_true all_nil))))))))))))
              have hs1 : (turns (hds 15 3610) 0 3610 (evC byref (evCall F S4 (m + 24)) (m + 24) 0 (hds 15) lbu15_0) (m + 22) p15_e14 [(.cells [(.d (.sl (.int .i64) x0.1)), (.d (.sl (.int .i64) x0.2))]), (.arr (.pair .str .str) ([] : List ((List UInt8) × (List UInt8))) true)]).run = some (.exit 0, p15_e5, [(.cells [(.d (.sl (.int .i64) x0.1)), (.d (.sl (.int .i64) x0.2))]), (.arr (.pair .str .str) ([] : List ((List UInt8) × (List UInt8))) true)]) := Eq.mp (by kernel_rfl) hp2
              have hp1 := turns_step ht1 hs1
              have ht0 : (turn (hds 15 3610) 0 3610 (evC byref (evCall F S4 (m + 24)) (m + 24) 0 (hds 15) lbu15_0) p15_e6 [(.cells [(.d (.sl (.int .i64) x0.1)), (.d (.sl (.int .i64) x0.2))]), (.arr (.pair .str .str) ([] : List ((List UInt8) × (List UInt8))) true)]).run = some (.normal, p15_e13, [(.cells [(.d (.sl (.int .i64) x0.1)), (.d (.sl (.int .i64) x0.2))]), (.arr (.pair .str .str) ([] : List ((List UInt8) × (List UInt8))) true)]) := M.run_of_path _ [true, true, true, true, true, true, true, true, true, true, true, true, true, false] _ _ (by kernel_rfl) (all_t rfl (all_t rfl (all_t rfl (all_t c6 (all_t c6 (all_t c6 (all_t c6 (all_t rfl (all_t c6 (all_t c6 (all_t c6 (all_t c6 (all_t c6 (all_f c16 all_nil))))))))))))))
              have hs0 : (turns (hds 15 3610) 0 3610 (evC byref (evCall F S4 (m + 24)) (m + 24) 0 (hds 15) lbu15_0) (m + 23) p15_e13 [(.cells [(.d (.sl (.int .i64) x0.1)), (.d (.sl (.int .i64) x0.2))]), (.arr (.pair .str .str) ([] : List ((List UInt8) × (List UInt8))) true)]).run = some (.exit 0, p15_e5, [(.cells [(.d (.sl (.int .i64) x0.1)), (.d (.sl (.int .i64) x0.2))]), (.arr (.pair .str .str) ([] : List ((List UInt8) × (List UInt8))) true)]) := Eq.mp (by kernel_rfl) hp1
              have hp0 := turns_step ht0 hs0
              exact Eq.trans (Eq.mp (by kernel_rfl) hp0) hq
            cases hp
        · skip
          cases h
          refine ⟨(.d (.sl (.pair .str .str) ([] : List ((List UInt8) × (List UInt8))))), [], runT_ok (LS := (fun k => if k = 3610 then some (.exit 0, p15_e5, [(.cells [(.d (.sl (.int .i64) x0.1)), (.d (.sl (.int .i64) x0.2))]), (.arr (.pair .str .str) ([] : List ((List UInt8) × (List UInt8))) true)]) else none)) (fn := fn15) (vis := [(3610, p15_e6, [(.cells [(.d (.sl (.int .i64) x0.1)), (.d (.sl (.int .i64) x0.2))]), (.arr (.pair .str .str) ([] : List ((List UInt8) × (List UInt8))) true)])]) (by kernel_rfl) rfl (by kernel_rfl) (M.run_of_path _ [true, true, true, true] _ _ (by kernel_rfl) (all_t rfl (all_t rfl (all_t rfl (all_t rfl all_nil))))) ?_, by simp, (wkR.one (wkV.one (wk1.eq rfl))), trivial⟩
          intro p hp p2 hq
          rcases List.mem_cons.1 hp with rfl | hp
          · skip
            have ht3 : (turn (hds 15 3610) 0 3610 (evC byref (evCall F S4 (m + 24)) (m + 24) 0 (hds 15) lbu15_0) p15_e15 [(.cells [(.d (.sl (.int .i64) x0.1)), (.d (.sl (.int .i64) x0.2))]), (.arr (.pair .str .str) ([] : List ((List UInt8) × (List UInt8))) true)]).run = some (.exit 0, p15_e5, [(.cells [(.d (.sl (.int .i64) x0.1)), (.d (.sl (.int .i64) x0.2))]), (.arr (.pair .str .str) ([] : List ((List UInt8) × (List UInt8))) true)]) := M.run_of_path _ [false] _ _ (by kernel_rfl) (all_f Bool.false_ne_true all_nil)
            have hp3 := turns_last (n := m + 20) (by simp) ht3
            have ht2 : (turn (hds 15 3610) 0 3610 (evC byref (evCall F S4 (m + 24)) (m + 24) 0 (hds 15) lbu15_0) p15_e14 [(.cells [(.d (.sl (.int .i64) x0.1)), (.d (.sl (.int .i64) x0.2))]), (.arr (.pair .str .str) ([] : List ((List UInt8) × (List UInt8))) true)]).run = some (.normal, p15_e15, [(.cells [(.d (.sl (.int .i64) x0.1)), (.d (.sl (.int .i64) x0.2))]), (.arr (.pair .str .str) ([] : List ((List UInt8) × (List UInt8))) true)]) := M.run_of_path _ [true, true, true, false, false, false, false, false, false, false, false, false] _ _ (by kernel_rfl) (all_t rfl (all_t rfl (all_t rfl (all_f c32 (all_f c32 (all_f c32 (all_f c32 (all_f c32 (all_f c32 (all_f c32 (all_f c32 (all_f Bool.false_ne_true all_nil))))))))))))
            have hs2 : (turns (hds 15 3610) 0 3610 (evC byref (evCall F S4 (m + 24)) (m + 24) 0 (hds 15) lbu15_0) (m + 21) p15_e15 [(.cells [(.d (.sl (.int .i64) x0.1)), (.d (.sl (.int .i64) x0.2))]), (.arr (.pair .str .str) ([] : List ((List UInt8) × (List UInt8))) true)]).run = some (.exit 0, p15_e5, [(.cells [(.d (.sl (.int .i64) x0.1)), (.d (.sl (.int .i64) x0.2))]), (.arr (.pair .str .str) ([] : List ((List UInt8) × (List UInt8))) true)]) := Eq.mp (by kernel_rfl) hp3
            have hp2 := turns_step ht2 hs2
            have ht1 : (turn (hds 15 3610) 0 3610 (evC byref (evCall F S4 (m + 24)) (m + 24) 0 (hds 15) lbu15_0) p15_e13 [(.cells [(.d (.sl (.int .i64) x0.1)), (.d (.sl (.int .i64) x0.2))]), (.arr (.pair .str .str) ([] : List ((List UInt8) × (List UInt8))) true)]).run = some (.normal, p15_e14, [(.cells [(.d (.sl (.int .i64) x0.1)), (.d (.sl (.int .i64) x0.2))]), (.arr (.pair .str .str) ([] : List ((List UInt8) × (List UInt8))) true)]) := M.run_of_path _ [true, true, true, false, false, false, false, false, false, false, false, false] _ _ (by kernel_rfl) (all_t rfl (all_t rfl (all_t rfl (all_f c20 (all_f c20 (all_f c20 (all_f c20 (all_f c20 (all_f c20 (all_f c20 (all_f c20 (all_f Bool.false_ne_true all_nil))))))))))))
            have hs1 : (turns (hds 15 3610) 0 3610 (evC byref (evCall F S4 (m + 24)) (m + 24) 0 (hds 15) lbu15_0) (m + 22) p15_e14 [(.cells [(.d (.sl (.int .i64) x0.1)), (.d (.sl (.int .i64) x0.2))]), (.arr (.pair .str .str) ([] : List ((List UInt8) × (List UInt8))) true)]).run = some (.exit 0, p15_e5, [(.cells [(.d (.sl (.int .i64) x0.1)), (.d (.sl (.int .i64) x0.2))]), (.arr (.pair .str .str) ([] : List ((List UInt8) × (List UInt8))) true)]) := Eq.mp (by kernel_rfl) hp2
            have hp1 := turns_step ht1 hs1
            have ht0 : (turn (hds 15 3610) 0 3610 (evC byref (evCall F S4 (m + 24)) (m + 24) 0 (hds 15) lbu15_0) p15_e6 [(.cells [(.d (.sl (.int .i64) x0.1)), (.d (.sl (.int .i64) x0.2))]), (.arr (.pair .str .str) ([] : List ((List UInt8) × (List UInt8))) true)]).run = some (.normal, p15_e13, [(.cells [(.d (.sl (.int .i64) x0.1)), (.d (.sl (.int .i64) x0.2))]), (.arr (.pair .str .str) ([] : List ((List UInt8) × (List UInt8))) true)]) := M.run_of_path _ [true, true, true, true, true, true, true, true, true, true, true, true, true, false] _ _ (by kernel_rfl) (all_t rfl (all_t rfl (all_t rfl (all_t c6 (all_t c6 (all_t c6 (all_t c6 (all_t rfl (all_t c6 (all_t c6 (all_t c6 (all_t c6 (all_t c6 (all_f c16 all_nil))))))))))))))
            have hs0 : (turns (hds 15 3610) 0 3610 (evC byref (evCall F S4 (m + 24)) (m + 24) 0 (hds 15) lbu15_0) (m + 23) p15_e13 [(.cells [(.d (.sl (.int .i64) x0.1)), (.d (.sl (.int .i64) x0.2))]), (.arr (.pair .str .str) ([] : List ((List UInt8) × (List UInt8))) true)]).run = some (.exit 0, p15_e5, [(.cells [(.d (.sl (.int .i64) x0.1)), (.d (.sl (.int .i64) x0.2))]), (.arr (.pair .str .str) ([] : List ((List UInt8) × (List UInt8))) true)]) := Eq.mp (by kernel_rfl) hp1
            have hp0 := turns_step ht0 hs0
            exact Eq.trans (Eq.mp (by kernel_rfl) hp0) hq
          cases hp
  · skip
    refine ite_cases h (fun c18 h => ?_) (fun c18 h => ?_)
    · skip
      refine ite_cases h (fun c28 h => ?_) (fun c28 h => ?_)
      · skip
        refine ite_cases h (fun c29 h => ?_) (fun c29 h => ?_)
        · skip
          refine ite_cases h (fun c31 h => ?_) (fun c31 h => ?_)
          · skip
            refine ite_cases h (fun c32 h => ?_) (fun c32 h => ?_)
            · skip
              refine ite_cases h (fun c39 h => ?_) (fun c39 h => ?_)
              · skip
                refine ite_cases h (fun c49 h => ?_) (fun c49 h => ?_)
                · skip
                  refine ite_cases h (fun c50 h => ?_) (fun c50 h => ?_)
                  · skip
                    refine ite_cases h (fun c52 h => ?_) (fun c52 h => ?_)
                    · skip
                      refine ite_cases h (fun c53 h => ?_) (fun c53 h => ?_)
                      · skip
                        cases h
                        refine ⟨(.d (.sl (.pair .str .str) [(([98] : List UInt8), (p15_k2 x0)), (([99] : List UInt8), (p15_k3 x0))])), [], runT_ok (LS := (fun k => if k = 3610 then some (.exit 0, p15_e3, [(.cells [(.d (.sl (.int .i64) x0.1)), (.d (.sl (.int .i64) x0.2))]), (.arr (.pair .str .str) [(([98] : List UInt8), (p15_k2 x0)), (([99] : List UInt8), (p15_k3 x0))] true)]) else none)) (fn := fn15) (vis := [(3610, p15_e6, [(.cells [(.d (.sl (.int .i64) x0.1)), (.d (.sl (.int .i64) x0.2))]), (.arr (.pair .str .str) ([] : List ((List UInt8) × (List UInt8))) true)])]) (by kernel_rfl) rfl (by kernel_rfl) (M.run_of_path _ [true, true, true, true] _ _ (by kernel_rfl) (all_t rfl (all_t rfl (all_t rfl (all_t rfl all_nil))))) ?_, by simp, (wkR.one (wkV.one (wk1.eq rfl))), trivial⟩
                        intro p hp p2 hq
                        rcases List.mem_cons.1 hp with rfl | hp
                        · skip
                          have ht3 : (turn (hds 15 3610) 0 3610 (evC byref (evCall F S4 (m + 24)) (m + 24) 0 (hds 15) lbu15_0) p15_e10 [(.cells [(.d (.sl (.int .i64) x0.1)), (.d (.sl (.int .i64) x0.2))]), (.arr (.pair .str .str) [(([98] : List UInt8), (p15_k2 x0)), (([99] : List UInt8), (p15_k3 x0))] true)]).run = some (.exit 0, p15_e3, [(.cells [(.d (.sl (.int .i64) x0.1)), (.d (.sl (.int .i64) x0.2))]), (.arr (.pair .str .str) [(([98] : List UInt8), (p15_k2 x0)), (([99] : List UInt8), (p15_k3 x0))] true)]) := M.run_of_path _ [false] _ _ (by kernel_rfl) (all_f Bool.false_ne_true all_nil)
                          have hp3 := turns_last (n := m + 20) (by simp) ht3
                          have ht2 : (turn (hds 15 3610) 0 3610 (evC byref (evCall F S4 (m + 24)) (m + 24) 0 (hds 15) lbu15_0) p15_e11 [(.cells [(.d (.sl (.int .i64) x0.1)), (.d (.sl (.int .i64) x0.2))]), (.arr (.pair .str .str) [(([98] : List UInt8), (p15_k2 x0))] true)]).run = some (.normal, p15_e10, [(.cells [(.d (.sl (.int .i64) x0.1)), (.d (.sl (.int .i64) x0.2))]), (.arr (.pair .str .str) [(([98] : List UInt8), (p15_k2 x0)), (([99] : List UInt8), (p15_k3 x0))] true)]) := M.run_of_path _ [true, true, true, true, true, true, true, true, true, true, true, true, true, true, true, true, true, true, true, true, true] _ _ (by kernel_rfl) (all_t rfl (all_t rfl (all_t rfl (all_t c39 (all_t c39 (all_t c39 (all_t c39 (all_t rfl (all_t c39 (all_t c39 (all_t c39 (all_t c39 (all_t c39 (all_t c49 (all_t c50 (all_t rfl (all_t c52 (all_t c53 (all_t rfl (all_t rfl (all_t rfl all_nil)))))))))))))))))))))
                          have hs2 : (turns (hds 15 3610) 0 3610 (evC byref (evCall F S4 (m + 24)) (m + 24) 0 (hds 15) lbu15_0) (m + 21) p15_e10 [(.cells [(.d (.sl (.int .i64) x0.1)), (.d (.sl (.int .i64) x0.2))]), (.arr (.pair .str .str) [(([98] : List UInt8), (p15_k2 x0)), (([99] : List UInt8), (p15_k3 x0))] true)]).run = some (.exit 0, p15_e3, [(.cells [(.d (.sl (.int .i64) x0.1)), (.d (.sl (.int .i64) x0.2))]), (.arr (.pair .str .str) [(([98] : List UInt8), (p15_k2 x0)), (([99] : List UInt8), (p15_k3 x0))] true)]) := Eq.mp (by kernel_rfl) hp3
                          have hp2 := turns_step ht2 hs2
                          have ht1 : (turn (hds 15 3610) 0 3610 (evC byref (evCall F S4 (m + 24)) (m + 24) 0 (hds 15) lbu15_0) p15_e13 [(.cells [(.d (.sl (.int .i64) x0.1)), (.d (.sl (.int .i64) x0.2))]), (.arr (.pair .str .str) ([] : List ((List UInt8) × (List UInt8))) true)]).run = some (.normal, p15_e11, [(.cells [(.d (.sl (.int .i64) x0.1)), (.d (.sl (.int .i64) x0.2))]), (.arr (.pair .str .str) [(([98] : List UInt8), (p15_k2 x0))] true)]) := M.run_of_path _ [true, true, true, true, true, true, true, true, true, true, true, true, true, true, true, true, true, true, true, true, true] _ _ (by kernel_rfl) (all_t rfl (all_t rfl (all_t rfl (all_t c18 (all_t c18 (all_t c18 (all_t c18 (all_t rfl (all_t c18 (all_t c18 (all_t c18 (all_t c18 (all_t c18 (all_t c28 (all_t c29 (all_t rfl (all_t c31 (all_t c32 (all_t rfl (all_t rfl (all_t rfl all_nil)))))))))))))))))))))
                          have hs1 : (turns (hds 15 3610) 0 3610 (evC byref (evCall F S4 (m + 24)) (m + 24) 0 (hds 15) lbu15_0) (m + 22) p15_e11 [(.cells [(.d (.sl (.int .i64) x0.1)), (.d (.sl (.int .i64) x0.2))]), (.arr (.pair .str .str) [(([98] : List UInt8), (p15_k2 x0))] true)]).run = some (.exit 0, p15_e3, [(.cells [(.d (.sl (.int .i64) x0.1)), (.d (.sl (.int .i64) x0.2))]), (.arr (.pair .str .str) [(([98] : List UInt8), (p15_k2 x0)), (([99] : List UInt8), (p15_k3 x0))] true)]) := Eq.mp (by kernel_rfl) hp2
                          have hp1 := turns_step ht1 hs1
                          have ht0 : (turn (hds 15 3610) 0 3610 (evC byref (evCall F S4 (m + 24)) (m + 24) 0 (hds 15) lbu15_0) p15_e6 [(.cells [(.d (.sl (.int .i64) x0.1)), (.d (.sl (.int .i64) x0.2))]), (.arr (.pair .str .str) ([] : List ((List UInt8) × (List UInt8))) true)]).run = some (.normal, p15_e13, [(.cells [(.d (.sl (.int .i64) x0.1)), (.d (.sl (.int .i64) x0.2))]), (.arr (.pair .str .str) ([] : List ((List UInt8) × (List UInt8))) true)]) := M.run_of_path _ [true, true, true, false, false, false, false, false, false, false, false, false] _ _ (by kernel_rfl) (all_t rfl (all_t rfl (all_t rfl (all_f c6 (all_f c6 (all_f c6 (all_f c6 (all_f c6 (all_f c6 (all_f c6 (all_f c6 (all_f Bool.false_ne_true all_nil))))))))))))
                          have hs0 : (turns (hds 15 3610) 0 3610 (evC byref (evCall F S4 (m + 24)) (m + 24) 0 (hds 15) lbu15_0) (m + 23) p15_e13 [(.cells [(.d (.sl (.int .i64) x0.1)), (.d (.sl (.int .i64) x0.2))]), (.arr (.pair .str .str) ([] : List ((List UInt8) × (List UInt8))) true)]).run = some (.exit 0, p15_e3, [(.cells [(.d (.sl (.int .i64) x0.1)), (.d (.sl (.int .i64) x0.2))]), (.arr (.pair .str .str) [(([98] : List UInt8), (p15_k2 x0)), (([99] : List UInt8), (p15_k3 x0))] true)]) := Eq.mp (by kernel_rfl) hp1
                          have hp0 := turns_step ht0 hs0
                          exact Eq.trans (Eq.mp (by kernel_rfl) hp0) hq
                        cases hp
                      · skip
                        cases h
                    · skip
                      cases h
                  · skip
                    cases h
                · skip
                  cases h
                  refine ⟨(.d (.sl (.pair .str .str) [(([98] : List UInt8), (p15_k2 x0))])), [], runT_ok (LS := (fun k => if k = 3610 then some (.exit 0, p15_e4, [(.cells [(.d (.sl (.int .i64) x0.1)), (.d (.sl (.int .i64) x0.2))]), (.arr (.pair .str .str) [(([98] : List UInt8), (p15_k2 x0))] true)]) else none)) (fn := fn15) (vis := [(3610, p15_e6, [(.cells [(.d (.sl (.int .i64) x0.1)), (.d (.sl (.int .i64) x0.2))]), (.arr (.pair .str .str) ([] : List ((List UInt8) × (List UInt8))) true)])]) (by kernel_rfl) rfl (by kernel_rfl) (M.run_of_path _ [true, true, true, true] _ _ (by kernel_rfl) (all_t rfl (all_t rfl (all_t rfl (all_t rfl all_nil))))) ?_, by simp, (wkR.one (wkV.one (wk1.eq rfl))), trivial⟩
                  intro p hp p2 hq
                  rcases List.mem_cons.1 hp with rfl | hp
                  · skip
                    have ht3 : (turn (hds 15 3610) 0 3610 (evC byref (evCall F S4 (m + 24)) (m + 24) 0 (hds 15) lbu15_0) p15_e12 [(.cells [(.d (.sl (.int .i64) x0.1)), (.d (.sl (.int .i64) x0.2))]), (.arr (.pair .str .str) [(([98] : List UInt8), (p15_k2 x0))] true)]).run = some (.exit 0, p15_e4, [(.cells [(.d (.sl (.int .i64) x0.1)), (.d (.sl (.int .i64) x0.2))]), (.arr (.pair .str .str) [(([98] : List UInt8), (p15_k2 x0))] true)]) := M.run_of_path _ [false] _ _ (by kernel_rfl) (all_f Bool.false_ne_true all_nil)
                    have hp3 := turns_last (n := m + 20) (by simp) ht3
                    have ht2 : (turn (hds 15 3610) 0 3610 (evC byref (evCall F S4 (m + 24)) (m + 24) 0 (hds 15) lbu15_0) p15_e11 [(.cells [(.d (.sl (.int .i64) x0.1)), (.d (.sl (.int .i64) x0.2))]), (.arr (.pair .str .str) [(([98] : List UInt8), (p15_k2 x0))] true)]).run = some (.normal, p15_e12, [(.cells [(.d (.sl (.int .i64) x0.1)), (.d (.sl (.int .i64) x0.2))]), (.arr (.pair .str .str) [(([98] : List UInt8), (p15_k2 x0))] true)]) := M.run_of_path _ [true, true, true, true, true, true, true, true, true, true, true, true, true, false] _ _ (by kernel_rfl) (all_t rfl (all_t rfl (all_t rfl (all_t c39 (all_t c39 (all_t c39 (all_t c39 (all_t rfl (all_t c39 (all_t c39 (all_t c39 (all_t c39 (all_t c39 (all_f c49 all_nil))))))))))))))
                    have hs2 : (turns (hds 15 3610) 0 3610 (evC byref (evCall F S4 (m + 24)) (m + 24) 0 (hds 15) lbu15_0) (m + 21) p15_e12 [(.cells [(.d (.sl (.int .i64) x0.1)), (.d (.sl (.int .i64) x0.2))]), (.arr (.pair .str .str) [(([98] : List UInt8), (p15_k2 x0))] true)]).run = some (.exit 0, p15_e4, [(.cells [(.d (.sl (.int .i64) x0.1)), (.d (.sl (.int .i64) x0.2))]), (.arr (.pair .str .str) [(([98] : List UInt8), (p15_k2 x0))] true)]) := Eq.mp (by kernel_rfl) hp3
                    have hp2 := turns_step ht2 hs2
                    have ht1 : (turn (hds 15 3610) 0 3610 (evC byref (evCall F S4 (m + 24)) (m + 24) 0 (hds 15) lbu15_0) p15_e13 [(.cells [(.d (.sl (.int .i64) x0.1)), (.d (.sl (.int .i64) x0.2))]), (.arr (.pair .str .str) ([] : List ((List UInt8) × (List UInt8))) true)]).run = some (.normal, p15_e11, [(.cells [(.d (.sl (.int .i64) x0.1)), (.d (.sl (.int .i64) x0.2))]), (.arr (.pair .str .str) [(([98] : List UInt8), (p15_k2 x0))] true)]) := M.run_of_path _ [true, true, true, true, true, true, true, true, true, true, true, true, true, true, true, true, true, true, true, true, true] _ _ (by kernel_rfl) (all_t rfl (all_t rfl (all_t rfl (all_t c18 (all_t c18 (all_t c18 (all_t c18 (all_t rfl (all_t c18 (all_t c18 (all_t c18 (all_t c18 (all_t c18 (all_t c28 (all_t c29 (all_t rfl (all_t c31 (all_t c32 (all_t rfl (all_t rfl (all_t rfl all_nil)))))))))))))))))))))
                    have hs1 : (turns (hds 15 3610) 0 3610 (evC byref (evCall F S4 (m + 24)) (m + 24) 0 (hds 15) lbu15_0) (m + 22) p15_e11 [(.cells [(.d (.sl (.int .i64) x0.1)), (.d (.sl (.int .i64) x0.2))]), (.arr (.pair .str .str) [(([98] : List UInt8), (p15_k2 x0))] true)]).run = some (.exit 0, p15_e4, [(.cells [(.d (.sl (.int .i64) x0.1)), (.d (.sl (.int .i64) x0.2))]), (.arr (.pair .str .str) [(([98] : List UInt8), (p15_k2 x0))] true)]) := Eq.mp (by kernel_rfl) hp2
                    have hp1 := turns_step ht1 hs1
                    have ht0 : (turn (hds 15 3610) 0 3610 (evC byref (evCall F S4 (m + 24)) (m + 24) 0 (hds 15) lbu15_0) p15_e6 [(.cells [(.d (.sl (.int .i64) x0.1)), (.d (.sl (.int .i64) x0.2))]), (.arr (.pair .str .str) ([] : List ((List UInt8) × (List UInt8))) true)]).run = some (.normal, p15_e13, [(.cells [(.d (.sl (.int .i64) x0.1)), (.d (.sl (.int .i64) x0.2))]), (.arr (.pair .str .str) ([] : List ((List UInt8) × (List UInt8))) true)]) := M.run_of_path _ [true, true, true, false, false, false, false, false, false, false, false, false] _ _ (by kernel_rfl) (all_t rfl (all_t rfl (all_t rfl (all_f c6 (all_f c6 (all_f c6 (all_f c6 (all_f c6 (all_f c6 (all_f c6 (all_f c6 (all_f Bool.false_ne_true all_nil))))))))))))
                    have hs0 : (turns (hds 15 3610) 0 3610 (evC byref (evCall F S4 (m + 24)) (m + 24) 0 (hds 15) lbu15_0) (m + 23) p15_e13 [(.cells [(.d (.sl (.int .i64) x0.1)), (.d (.sl (.int .i64) x0.2))]), (.arr (.pair .str .str) ([] : List ((List UInt8) × (List UInt8))) true)]).run = some (.exit 0, p15_e4, [(.cells [(.d (.sl (.int .i64) x0.1)), (.d (.sl (.int .i64) x0.2))]), (.arr (.pair .str .str) [(([98] : List UInt8), (p15_k2 x0))] true)]) := Eq.mp (by kernel_rfl) hp1
                    have hp0 := turns_step ht0 hs0
                    exact Eq.trans (Eq.mp (by kernel_rfl) hp0) hq
                  cases hp
              · skip
                cases h
                refine ⟨(.d (.sl (.pair .str .str) [(([98] : List UInt8), (p15_k2 x0))])), [], runT_ok (LS := (fun k => if k = 3610 then some (.exit 0, p15_e4, [(.cells [(.d (.sl (.int .i64) x0.1)), (.d (.sl (.int .i64) x0.2))]), (.arr (.pair .str .str) [(([98] : List UInt8), (p15_k2 x0))] true)]) else none)) (fn := fn15) (vis := [(3610, p15_e6, [(.cells [(.d (.sl (.int .i64) x0.1)), (.d (.sl (.int .i64) x0.2))]), (.arr (.pair .str .str) ([] : List ((List UInt8) × (List UInt8))) true)])]) (by kernel_rfl) rfl (by kernel_rfl) (M.run_of_path _ [true, true, true, true] _ _ (by kernel_rfl) (all_t rfl (all_t rfl (all_t rfl (all_t rfl all_nil))))) ?_, by simp, (wkR.one (wkV.one (wk1.eq rfl))), trivial⟩
                intro p hp p2 hq
                rcases List.mem_cons.1 hp with rfl | hp
                · skip
                  have ht3 : (turn (hds 15 3610) 0 3610 (evC byref (evCall F S4 (m + 24)) (m + 24) 0 (hds 15) lbu15_0) p15_e12 [(.cells [(.d (.sl (.int .i64) x0.1)), (.d (.sl (.int .i64) x0.2))]), (.arr (.pair .str .str) [(([98] : List UInt8), (p15_k2 x0))] true)]).run = some (.exit 0, p15_e4, [(.cells [(.d (.sl (.int .i64) x0.1)), (.d (.sl (.int .i64) x0.2))]), (.arr (.pair .str .str) [(([98] : List UInt8), (p15_k2 x0))] true)]) := M.run_of_path _ [false] _ _ (by kernel_rfl) (all_f Bool.false_ne_true all_nil)
                  have hp3 := turns_last (n := m + 20) (by simp) ht3
                  have ht2 : (turn (hds 15 3610) 0 3610 (evC byref (evCall F S4 (m + 24)) (m + 24) 0 (hds 15) lbu15_0) p15_e11 [(.cells [(.d (.sl (.int .i64) x0.1)), (.d (.sl (.int .i64) x0.2))]), (.arr (.pair .str .str) [(([98] : List UInt8), (p15_k2 x0))] true)]).run = some (.normal, p15_e12, [(.cells [(.d (.sl (.int .i64) x0.1)), (.d (.sl (.int .i64) x0.2))]), (.arr (.pair .str .str) [(([98] : List UInt8), (p15_k2 x0))] true)]) := M.run_of_path _ [true, true, true, false, false, false, false, false, false, false, false, false] _ _ (by kernel_rfl) (all_t rfl (all_t rfl (all_t rfl (all_f c39 (all_f c39 (all_f c39 (all_f c39 (all_f c39 (all_f c39 (all_f c39 (all_f c39 (all_f Bool.false_ne_true all_nil))))))))))))
                  have hs2 : (turns (hds 15 3610) 0 3610 (evC byref (evCall F S4 (m + 24)) (m + 24) 0 (hds 15) lbu15_0) (m + 21) p15_e12 [(.cells [(.d (.sl (.int .i64) x0.1)), (.d (.sl (.int .i64) x0.2))]), (.arr (.pair .str .str) [(([98] : List UInt8), (p15_k2 x0))] true)]).run = some (.exit 0, p15_e4, [(.cells [(.d (.sl (.int .i64) x0.1)), (.d (.sl (.int .i64) x0.2))]), (.arr (.pair .str .str) [(([98] : List UInt8), (p15_k2 x0))] true)]) := Eq.mp (by kernel_rfl) hp3
                  have hp2 := turns_step ht2 hs2
                  have ht1 : (turn (hds 15 3610) 0 3610 (evC byref (evCall F S4 (m + 24)) (m + 24) 0 (hds 15) lbu15_0) p15_e13 [(.cells [(.d (.sl (.int .i64) x0.1)), (.d (.sl (.int .i64) x0.2))]), (.arr (.pair .str .str) ([] : List ((List UInt8) × (List UInt8))) true)]).run = some (.normal, p15_e11, [(.cells [(.d (.sl (.int .i64) x0.1)), (.d (.sl (.int .i64) x0.2))]), (.arr (.pair .str .str) [(([98] : List UInt8), (p15_k2 x0))] true)]) := M.run_of_path _ [true, true, true, true, true, true, true, true, true, true, true, true, true, true, true, true, true, true, true, true, true] _ _ (by kernel_rfl) (all_t rfl (all_t rfl (all_t rfl (all_t c18 (all_t c18 (all_t c18 (all_t c18 (all_t rfl (all_t c18 (all_t c18 (all_t c18 (all_t c18 (all_t c18 (all_t c28 (all_t c29 (all_t rfl (all_t c31 (all_t c32 (all_t rfl (all_t rfl (all_t rfl all_nil)))))))))))))))))))))
                  have hs1 : (turns (hds 15 3610) 0 3610 (evC byref (evCall F S4 (m + 24)) (m + 24) 0 (hds 15) lbu15_0) (m + 22) p15_e11 [(.cells [(.d (.sl (.int .i64) x0.1)), (.d (.sl (.int .i64) x0.2))]), (.arr (.pair .str .str) [(([98] : List UInt8), (p15_k2 x0))] true)]).run = some (.exit 0, p15_e4, [(.cells [(.d (.sl (.int .i64) x0.1)), (.d (.sl (.int .i64) x0.2))]), (.arr (.pair .str .str) [(([98] : List UInt8), (p15_k2 x0))] true)]) := Eq.mp (by kernel_rfl) hp2
                  have hp1 := turns_step ht1 hs1
                  have ht0 : (turn (hds 15 3610) 0 3610 (evC byref (evCall F S4 (m + 24)) (m + 24) 0 (hds 15) lbu15_0) p15_e6 [(.cells [(.d (.sl (.int .i64) x0.1)), (.d (.sl (.int .i64) x0.2))]), (.arr (.pair .str .str) ([] : List ((List UInt8) × (List UInt8))) true)]).run = some (.normal, p15_e13, [(.cells [(.d (.sl (.int .i64) x0.1)), (.d (.sl (.int .i64) x0.2))]), (.arr (.pair .str .str) ([] : List ((List UInt8) × (List UInt8))) true)]) := M.run_of_path _ [true, true, true, false, false, false, false, false, false, false, false, false] _ _ (by kernel_rfl) (all_t rfl (all_t rfl (all_t rfl (all_f c6 (all_f c6 (all_f c6 (all_f c6 (all_f c6 (all_f c6 (all_f c6 (all_f c6 (all_f Bool.false_ne_true all_nil))))))))))))
                  have hs0 : (turns (hds 15 3610) 0 3610 (evC byref (evCall F S4 (m + 24)) (m + 24) 0 (hds 15) lbu15_0) (m + 23) p15_e13 [(.cells [(.d (.sl (.int .i64) x0.1)), (.d (.sl (.int .i64) x0.2))]), (.arr (.pair .str .str) ([] : List ((List UInt8) × (List UInt8))) true)]).run = some (.exit 0, p15_e4, [(.cells [(.d (.sl (.int .i64) x0.1)), (.d (.sl (.int .i64) x0.2))]), (.arr (.pair .str .str) [(([98] : List UInt8), (p15_k2 x0))] true)]) := Eq.mp (by kernel_rfl) hp1
                  have hp0 := turns_step ht0 hs0
                  exact Eq.trans (Eq.mp (by kernel_rfl) hp0) hq
                cases hp
            · skip
              cases h
          · skip
            cases h
        · skip
          cases h
      · skip
        refine ite_cases h (fun c32 h => ?_) (fun c32 h => ?_)
        · skip
          refine ite_cases h (fun c42 h => ?_) (fun c42 h => ?_)
          · skip
            refine ite_cases h (fun c43 h => ?_) (fun c43 h => ?_)
            · skip
              refine ite_cases h (fun c45 h => ?_) (fun c45 h => ?_)
              · skip
                refine ite_cases h (fun c46 h => ?_) (fun c46 h => ?_)
                · skip
                  cases h
                  refine ⟨(.d (.sl (.pair .str .str) [(([99] : List UInt8), (p15_k3 x0))])), [], runT_ok (LS := (fun k => if k = 3610 then some (.exit 0, p15_e4, [(.cells [(.d (.sl (.int .i64) x0.1)), (.d (.sl (.int .i64) x0.2))]), (.arr (.pair .str .str) [(([99] : List UInt8), (p15_k3 x0))] true)]) else none)) (fn := fn15) (vis := [(3610, p15_e6, [(.cells [(.d (.sl (.int .i64) x0.1)), (.d (.sl (.int .i64) x0.2))]), (.arr (.pair .str .str) ([] : List ((List UInt8) × (List UInt8))) true)])]) (by kernel_rfl) rfl (by kernel_rfl) (M.run_of_path _ [true, true, true, true] _ _ (by kernel_rfl) (all_t rfl (all_t rfl (all_t rfl (all_t rfl all_nil))))) ?_, by simp, (wkR.one (wkV.one (wk1.eq rfl))), trivial⟩
                  intro p hp p2 hq
                  rcases List.mem_cons.1 hp with rfl | hp
                  · skip
                    have ht3 : (turn (hds 15 3610) 0 3610 (evC byref (evCall F S4 (m + 24)) (m + 24) 0 (hds 15) lbu15_0) p15_e12 [(.cells [(.d (.sl (.int .i64) x0.1)), (.d (.sl (.int .i64) x0.2))]), (.arr (.pair .str .str) [(([99] : List UInt8), (p15_k3 x0))] true)]).run = some (.exit 0, p15_e4, [(.cells [(.d (.sl (.int .i64) x0.1)), (.d (.sl (.int .i64) x0.2))]), (.arr (.pair .str .str) [(([99] : List UInt8), (p15_k3 x0))] true)]) := M.run_of_path _ [false] _ _ (by kernel_rfl) (all_f Bool.false_ne_true all_nil)
                    have hp3 := turns_last (n := m + 20) (by simp) ht3
                    have ht2 : (turn (hds 15 3610) 0 3610 (evC byref (evCall F S4 (m + 24)) (m + 24) 0 (hds 15) lbu15_0) p15_e14 [(.cells [(.d (.sl (.int .i64) x0.1)), (.d (.sl (.int .i64) x0.2))]), (.arr (.pair .str .str) ([] : List ((List UInt8) × (List UInt8))) true)]).run = some (.normal, p15_e12, [(.cells [(.d (.sl (.int .i64) x0.1)), (.d (.sl (.int .i64) x0.2))]), (.arr (.pair .str .str) [(([99] : List UInt8), (p15_k3 x0))] true)]) := M.run_of_path _ [true, true, true, true, true, true, true, true, true, true, true, true, true, true, true, true, true, true, true, true, true] _ _ (by kernel_rfl) (all_t rfl (all_t rfl (all_t rfl (all_t c32 (all_t c32 (all_t c32 (all_t c32 (all_t rfl (all_t c32 (all_t c32 (all_t c32 (all_t c32 (all_t c32 (all_t c42 (all_t c43 (all_t rfl (all_t c45 (all_t c46 (all_t rfl (all_t rfl (all_t rfl all_nil)))))))))))))))))))))
                    have hs2 : (turns (hds 15 3610) 0 3610 (evC byref (evCall F S4 (m + 24)) (m + 24) 0 (hds 15) lbu15_0) (m + 21) p15_e12 [(.cells [(.d (.sl (.int .i64) x0.1)), (.d (.sl (.int .i64) x0.2))]), (.arr (.pair .str .str) [(([99] : List UInt8), (p15_k3 x0))] true)]).run = some (.exit 0, p15_e4, [(.cells [(.d (.sl (.int .i64) x0.1)), (.d (.sl (.int .i64) x0.2))]), (.arr (.pair .str .str) [(([99] : List UInt8), (p15_k3 x0))] true)]) := Eq.mp (by kernel_rfl) hp3
                    have hp2 := turns_step ht2 hs2
                    have ht1 : (turn (hds 15 3610) 0 3610 (evC byref (evCall F S4 (m + 24)) (m + 24) 0 (hds 15) lbu15_0) p15_e13 [(.cells [(.d (.sl (.int .i64) x0.1)), (.d (.sl (.int .i64) x0.2))]), (.arr (.pair .str .str) ([] : List ((List UInt8) × (List UInt8))) true)]).run = some (.normal, p15_e14, [(.cells [(.d (.sl (.int .i64) x0.1)), (.d (.sl (.int .i64) x0.2))]), (.arr (.pair .str .str) ([] : List ((List UInt8) × (List UInt8))) true)]) := M.run_of_path _ [true, true, true, true, true, true, true, true, true, true, true, true, true, false] _ _ (by kernel_rfl) (all_t rfl (all_t rfl (all_t rfl (all_t c18 (all_t c18 (all_t c18 (all_t c18 (all_t rfl (all_t c18 (all_t c18 (all_t c18 (all_t c18 (all_t c18 (all_f c28 all_nil))))))))))))))
                    have hs1 : (turns (hds 15 3610) 0 3610 (evC byref (evCall F S4 (m + 24)) (m + 24) 0 (hds 15) lbu15_0) (m + 22) p15_e14 [(.cells [(.d (.sl (.int .i64) x0.1)), (.d (.sl (.int .i64) x0.2))]), (.arr (.pair .str .str) ([] : List ((List UInt8) × (List UInt8))) true)]).run = some (.exit 0, p15_e4, [(.cells [(.d (.sl (.int .i64) x0.1)), (.d (.sl (.int .i64) x0.2))]), (.arr (.pair .str .str) [(([99] : List UInt8), (p15_k3 x0))] true)]) := Eq.mp (by kernel_rfl) hp2
                    have hp1 := turns_step ht1 hs1
                    have ht0 : (turn (hds 15 3610) 0 3610 (evC byref (evCall F S4 (m + 24)) (m + 24) 0 (hds 15) lbu15_0) p15_e6 [(.cells [(.d (.sl (.int .i64) x0.1)), (.d (.sl (.int .i64) x0.2))]), (.arr (.pair .str .str) ([] : List ((List UInt8) × (List UInt8))) true)]).run = some (.normal, p15_e13, [(.cells [(.d (.sl (.int .i64) x0.1)), (.d (.sl (.int .i64) x0.2))]), (.arr (.pair .str .str) ([] : List ((List UInt8) × (List UInt8))) true)]) := M.run_of_path _ [true, true, true, false, false, false, false, false, false, false, false, false] _ _ (by kernel_rfl) (all_t rfl (all_t rfl (all_t rfl (all_f c6 (all_f c6 (all_f c6 (all_f c6 (all_f c6 (all_f c6 (all_f c6 (all_f c6 (all_f Bool.false_ne_true all_nil))))))))))))
                    have hs0 : (turns (hds 15 3610) 0 3610 (evC byref (evCall F S4 (m + 24)) (m + 24) 0 (hds 15) lbu15_0) (m + 23) p15_e13 [(.cells [(.d (.sl (.int .i64) x0.1)), (.d (.sl (.int .i64) x0.2))]), (.arr (.pair .str .str) ([] : List ((List UInt8) × (List UInt8))) true)]).run = some (.exit 0, p15_e4, [(.cells [(.d (.sl (.int .i64) x0.1)), (.d (.sl (.int .i64) x0.2))]), (.arr (.pair .str .str) [(([99] : List UInt8), (p15_k3 x0))] true)]) := Eq.mp (by kernel_rfl) hp1
                    have hp0 := turns_step ht0 hs0
                    exact Eq.trans (Eq.mp (by kernel_rfl) hp0) hq
                  cases hp
                · skip
                  cases h
              · skip
                cases h
            · skip
              cases h
          · skip
            cases h
            refine ⟨(.d (.sl (.pair .str .str) ([] : List ((List UInt8) × (List UInt8))))), [], runT_ok (LS := (fun k => if k = 3610 then some (.exit 0, p15_e5, [(.cells [(.d (.sl (.int .i64) x0.1)), (.d (.sl (.int .i64) x0.2))]), (.arr (.pair .str .str) ([] : List ((List UInt8) × (List UInt8))) true)]) else none)) (fn := fn15) (vis := [(3610, p15_e6, [(.cells [(.d (.sl (.int .i64) x0.1)), (.d (.sl (.int .i64) x0.2))]), (.arr (.pair .str .str) ([] : List ((List UInt8) × (List UInt8))) true)])]) (by kernel_rfl) rfl (by kernel_rfl) (M.run_of_path _ [true, true, true, true] _ _ (by kernel_rfl) (all_t rfl (all_t rfl (all_t rfl (all_t rfl all_nil))))) ?_, by simp, (wkR.one (wkV.one (wk1.eq rfl))), trivial⟩
            intro p hp p2 hq
            rcases List.mem_cons.1 hp with rfl | hp
            · skip
              have ht3 : (turn (hds 15 3610) 0 3610 (evC byref (evCall F S4 (m + 24)) (m + 24) 0 (hds 15) lbu15_0) p15_e15 [(.cells [(.d (.sl (.int .i64) x0.1)), (.d (.sl (.int .i64) x0.2))]), (.arr (.pair .str .str) ([] : List ((List UInt8) × (List UInt8))) true)]).run = some (.exit 0, p15_e5, [(.cells [(.d (.sl (.int .i64) x0.1)), (.d (.sl (.int .i64) x0.2))]), (.arr (.pair .str .str) ([] : List ((List UInt8) × (List UInt8))) true)]) := M.run_of_path _ [false] _ _ (by kernel_rfl) (all_f Bool.false_ne_true all_nil)
              have hp3 := turns_last (n := m + 20) (by simp) ht3
              have ht2 : (turn (hds 15 3610) 0 3610 (evC byref (evCall F S4 (m + 24)) (m + 24) 0 (hds 15) lbu15_0) p15_e14 [(.cells [(.d (.sl (.int .i64) x0.1)), (.d (.sl (.int .i64) x0.2))]), (.arr (.pair .str .str) ([] : List ((List UInt8) × (List UInt8))) true)]).run = some (.normal, p15_e15, [(.cells [(.d (.sl (.int .i64) x0.1)), (.d (.sl (.int .i64) x0.2))]), (.arr (.pair .str .str) ([] : List ((List UInt8) × (List UInt8))) true)]) := M.run_of_path _ [true, true, true, true, true, true, true, true, true, true, true, true, true, false] _ _ (by kernel_rfl) (all_t rfl (all_t rfl (all_t rfl (all_t c32 (all_t c32 (all_t c32 (all_t c32 (all_t rfl (all_t c32 (all_t c32 (all_t c32 (all_t c32 (all_t c32 (all_f c42 all_nil))))))))))))))
              have hs2 : (turns (hds 15 3610) 0 3610 (evC byref (evCall F S4 (m + 24)) (m + 24) 0 (hds 15) lbu15_0) (m + 21) p15_e15 [(.cells [(.d (.sl (.int .i64) x0.1)), (.d (.sl (.int .i64) x0.2))]), (.arr (.pair .str .str) ([] : List ((List UInt8) × (List UInt8))) true)]).run = some (.exit 0, p15_e5, [(.cells [(.d (.sl (.int .i64) x0.1)), (.d (.sl (.int .i64) x0.2))]), (.arr (.pair .str .str) ([] : List ((List UInt8) × (List UInt8))) true)]) := Eq.mp (by kernel_rfl) hp3
              have hp2 := turns_step ht2 hs2
              have ht1 : (turn (hds 15 3610) 0 3610 (evC byref (evCall F S4 (m + 24)) (m + 24) 0 (hds 15) lbu15_0) p15_e13 [(.cells [(.d (.sl (.int .i64) x0.1)), (.d (.sl (.int .i64) x0.2))]), (.arr (.pair .str .str) ([] : List ((List UInt8) × (List UInt8))) true)]).run = some (.normal, p15_e14, [(.cells [(.d (.sl (.int .i64) x0.1)), (.d (.sl (.int .i64) x0.2))]), (.arr (.pair .str .str) ([] : List ((List UInt8) × (List UInt8))) true)]) := M.run_of_path _ [true, true, true, true, true, true, true, true, true, true, true, true, true, false] _ _ (by kernel_rfl) (all_t rfl (all_t rfl (all_t rfl (all_t c18 (all_t c18 (all_t c18 (all_t c18 (all_t rfl (all_t c18 (all_t c18 (all_t c18 (all_t c18 (all_t c18 (all_f c28 all_nil))))))))))))))
              have hs1 : (turns (hds 15 3610) 0 3610 (evC byref (evCall F S4 (m + 24)) (m + 24) 0 (hds 15) lbu15_0) (m + 22) p15_e14 [(.cells [(.d (.sl (.int .i64) x0.1)), (.d (.sl (.int .i64) x0.2))]), (.arr (.pair .str .str) ([] : List ((List UInt8) × (List UInt8))) true)]).run = some (.exit 0, p15_e5, [(.cells [(.d (.sl (.int .i64) x0.1)), (.d (.sl (.int .i64) x0.2))]), (.arr (.pair .str .str) ([] : List ((List UInt8) × (List UInt8))) true)]) := Eq.mp (by kernel_rfl) hp2
              have hp1 := turns_step ht1 hs1
              have ht0 : (turn (hds 15 3610) 0 3610 (evC byref (evCall F S4 (m + 24)) (m + 24) 0 (hds 15) lbu15_0) p15_e6 [(.cells [(.d (.sl (.int .i64) x0.1)), (.d (.sl (.int .i64) x0.2))]), (.arr (.pair .str .str) ([] : List ((List UInt8) × (List UInt8))) true)]).run = some (.normal, p15_e13, [(.cells [(.d (.sl (.int .i64) x0.1)), (.d (.sl (.int .i64) x0.2))]), (.arr (.pair .str .str) ([] : List ((List UInt8) × (List UInt8))) true)]) := M.run_of_path _ [true, true, true, false, false, false, false, false, false, false, false, false] _ _ (by kernel_rfl) (all_t rfl (all_t rfl (all_t rfl (all_f c6 (all_f c6 (all_f c6 (all_f c6 (all_f c6 (all_f c6 (all_f c6 (all_f c6 (all_f Bool.false_ne_true all_nil))))))))))))
              have hs0 : (turns (hds 15 3610) 0 3610 (evC byref (evCall F S4 (m + 24)) (m + 24) 0 (hds 15) lbu15_0) (m + 23) p15_e13 [(.cells [(.d (.sl (.int .i64) x0.1)), (.d (.sl (.int .i64) x0.2))]), (.arr (.pair .str .str) ([] : List ((List UInt8) × (List UInt8))) true)]).run = some (.exit 0, p15_e5, [(.cells [(.d (.sl (.int .i64) x0.1)), (.d (.sl (.int .i64) x0.2))]), (.arr (.pair .str .str) ([] : List ((List UInt8) × (List UInt8))) true)]) := Eq.mp (by kernel_rfl) hp1
              have hp0 := turns_step ht0 hs0
              exact Eq.trans (Eq.mp (by kernel_rfl) hp0) hq
            cases hp
        · skip
          cases h
          refine ⟨(.d (.sl (.pair .str .str) ([] : List ((List UInt8) × (List UInt8))))), [], runT_ok (LS := (fun k => if k = 3610 then some (.exit 0, p15_e5, [(.cells [(.d (.sl (.int .i64) x0.1)), (.d (.sl (.int .i64) x0.2))]), (.arr (.pair .str .str) ([] : List ((List UInt8) × (List UInt8))) true)]) else none)) (fn := fn15) (vis := [(3610, p15_e6, [(.cells [(.d (.sl (.int .i64) x0.1)), (.d (.sl (.int .i64) x0.2))]), (.arr (.pair .str .str) ([] : List ((List UInt8) × (List UInt8))) true)])]) (by kernel_rfl) rfl (by kernel_rfl) (M.run_of_path _ [true, true, true, true] _ _ (by kernel_rfl) (all_t rfl (all_t rfl (all_t rfl (all_t rfl all_nil))))) ?_, by simp, (wkR.one (wkV.one (wk1.eq rfl))), trivial⟩
          intro p hp p2 hq
          rcases List.mem_cons.1 hp with rfl | hp
          · skip
            have ht3 : (turn (hds 15 3610) 0 3610 (evC byref (evCall F S4 (m + 24)) (m + 24) 0 (hds 15) lbu15_0) p15_e15 [(.cells [(.d (.sl (.int .i64) x0.1)), (.d (.sl (.int .i64) x0.2))]), (.arr (.pair .str .str) ([] : List ((List UInt8) × (List UInt8))) true)]).run = some (.exit 0, p15_e5, [(.cells [(.d (.sl (.int .i64) x0.1)), (.d (.sl (.int .i64) x0.2))]), (.arr (.pair .str .str) ([] : List ((List UInt8) × (List UInt8))) true)]) := M.run_of_path _ [false] _ _ (by kernel_rfl) (all_f Bool.false_ne_true all_nil)
            have hp3 := turns_last (n := m + 20) (by simp) ht3
            have ht2 : (turn (hds 15 3610) 0 3610 (evC byref (evCall F S4 (m + 24)) (m + 24) 0 (hds 15) lbu15_0) p15_e14 [(.cells [(.d (.sl (.int .i64) x0.1)), (.d (.sl (.int .i64) x0.2))]), (.arr (.pair .str .str) ([] : List ((List UInt8) × (List UInt8))) true)]).run = some (.normal, p15_e15, [(.cells [(.d (.sl (.int .i64) x0.1)), (.d (.sl (.int .i64) x0.2))]), (.arr (.pair .str .str) ([] : List ((List UInt8) × (List UInt8))) true)]) := M.run_of_path _ [true, true, true, false, false, false, false, false, false, false, false, false] _ _ (by kernel_rfl) (all_t rfl (all_t rfl (all_t rfl (all_f c32 (all_f c32 (all_f c32 (all_f c32 (all_f c32 (all_f c32 (all_f c32 (all_f c32 (all_f Bool.false_ne_true all_nil))))))))))))
            have hs2 : (turns (hds 15 3610) 0 3610 (evC byref (evCall F S4 (m + 24)) (m + 24) 0 (hds 15) lbu15_0) (m + 21) p15_e15 [(.cells [(.d (.sl (.int .i64) x0.1)), (.d (.sl (.int .i64) x0.2))]), (.arr (.pair .str .str) ([] : List ((List UInt8) × (List UInt8))) true)]).run = some (.exit 0, p15_e5, [(.cells [(.d (.sl (.int .i64) x0.1)), (.d (.sl (.int .i64) x0.2))]), (.arr (.pair .str .str) ([] : List ((List UInt8) × (List UInt8))) true)]) := Eq.mp (by kernel_rfl) hp3
            have hp2 := turns_step ht2 hs2
            have ht1 : (turn (hds 15 3610) 0 3610 (evC byref (evCall F S4 (m + 24)) (m + 24) 0 (hds 15) lbu15_0) p15_e13 [(.cells [(.d (.sl (.int .i64) x0.1)), (.d (.sl (.int .i64) x0.2))]), (.arr (.pair .str .str) ([] : List ((List UInt8) × (List UInt8))) true)]).run = some (.normal, p15_e14, [(.cells [(.d (.sl (.int .i64) x0.1)), (.d (.sl (.int .i64) x0.2))]), (.arr (.pair .str .str) ([] : List ((List UInt8) × (List UInt8))) true)]) := M.run_of_path _ [true, true, true, true, true, true, true, true, true, true, true, true, true, false] _ _ (by kernel_rfl) (all_t rfl (all_t rfl (all_t rfl (all_t c18 (all_t c18 (all_t c18 (all_t c18 (all_t rfl (all_t c18 (all_t c18 (all_t c18 (all_t c18 (all_t c18 (all_f c28 all_nil))))))))))))))
            have hs1 : (turns (hds 15 3610) 0 3610 (evC byref (evCall F S4 (m + 24)) (m + 24) 0 (hds 15) lbu15_0) (m + 22) p15_e14 [(.cells [(.d (.sl (.int .i64) x0.1)), (.d (.sl (.int .i64) x0.2))]), (.arr (.pair .str .str) ([] : List ((List UInt8) × (List UInt8))) true)]).run = some (.exit 0, p15_e5, [(.cells [(.d (.sl (.int .i64) x0.1)), (.d (.sl (.int .i64) x0.2))]), (.arr (.pair .str .str) ([] : List ((List UInt8) × (List UInt8))) true)]) := Eq.mp (by kernel_rfl) hp2
            have hp1 := turns_step ht1 hs1
            have ht0 : (turn (hds 15 3610) 0 3610 (evC byref (evCall F S4 (m + 24)) (m + 24) 0 (hds 15) lbu15_0) p15_e6 [(.cells [(.d (.sl (.int .i64) x0.1)), (.d (.sl (.int .i64) x0.2))]), (.arr (.pair .str .str) ([] : List ((List UInt8) × (List UInt8))) true)]).run = some (.normal, p15_e13, [(.cells [(.d (.sl (.int .i64) x0.1)), (.d (.sl (.int .i64) x0.2))]), (.arr (.pair .str .str) ([] : List ((List UInt8) × (List UInt8))) true)]) := M.run_of_path _ [true, true, true, false, false, false, false, false, false, false, false, false] _ _ (by kernel_rfl) (all_t rfl (all_t rfl (all_t rfl (all_f c6 (all_f c6 (all_f c6 (all_f c6 (all_f c6 (all_f c6 (all_f c6 (all_f c6 (all_f Bool.false_ne_true all_nil))))))))))))
            have hs0 : (turns (hds 15 3610) 0 3610 (evC byref (evCall F S4 (m + 24)) (m + 24) 0 (hds 15) lbu15_0) (m + 23) p15_e13 [(.cells [(.d (.sl (.int .i64) x0.1)), (.d (.sl (.int .i64) x0.2))]), (.arr (.pair .str .str) ([] : List ((List UInt8) × (List UInt8))) true)]).run = some (.exit 0, p15_e5, [(.cells [(.d (.sl (.int .i64) x0.1)), (.d (.sl (.int .i64) x0.2))]), (.arr (.pair .str .str) ([] : List ((List UInt8) × (List UInt8))) true)]) := Eq.mp (by kernel_rfl) hp1
            have hp0 := turns_step ht0 hs0
            exact Eq.trans (Eq.mp (by kernel_rfl) hp0) hq
          cases hp
    · skip
      refine ite_cases h (fun c30 h => ?_) (fun c30 h => ?_)
      · skip
        refine ite_cases h (fun c40 h => ?_) (fun c40 h => ?_)
        · skip
          refine ite_cases h (fun c41 h => ?_) (fun c41 h => ?_)
          · skip
            refine ite_cases h (fun c43 h => ?_) (fun c43 h => ?_)
            · skip
              refine ite_cases h (fun c44 h => ?_) (fun c44 h => ?_)
              · skip
                cases h
                refine ⟨(.d (.sl (.pair .str .str) [(([99] : List UInt8), (p15_k3 x0))])), [], runT_ok (LS := (fun k => if k = 3610 then some (.exit 0, p15_e4, [(.cells [(.d (.sl (.int .i64) x0.1)), (.d (.sl (.int .i64) x0.2))]), (.arr (.pair .str .str) [(([99] : List UInt8), (p15_k3 x0))] true)]) else none)) (fn := fn15) (vis := [(3610, p15_e6, [(.cells [(.d (.sl (.int .i64) x0.1)), (.d (.sl (.int .i64) x0.2))]), (.arr (.pair .str .str) ([] : List ((List UInt8) × (List UInt8))) true)])]) (by kernel_rfl) rfl (by kernel_rfl) (M.run_of_path _ [true, true, true, true] _ _ (by kernel_rfl) (all_t rfl (all_t rfl (all_t rfl (all_t rfl all_nil))))) ?_, by simp, (wkR.one (wkV.one (wk1.eq rfl))), trivial⟩
                intro p hp p2 hq
                rcases List.mem_cons.1 hp with rfl | hp
                · skip
                  have ht3 : (turn (hds 15 3610) 0 3610 (evC byref (evCall F S4 (m + 24)) (m + 24) 0 (hds 15) lbu15_0) p15_e12 [(.cells [(.d (.sl (.int .i64) x0.1)), (.d (.sl (.int .i64) x0.2))]), (.arr (.pair .str .str) [(([99] : List UInt8), (p15_k3 x0))] true)]).run = some (.exit 0, p15_e4, [(.cells [(.d (.sl (.int .i64) x0.1)), (.d (.sl (.int .i64) x0.2))]), (.arr (.pair .str .str) [(([99] : List UInt8), (p15_k3 x0))] true)]) := M.run_of_path _ [false] _ _ (by kernel_rfl) (all_f Bool.false_ne_true all_nil)
                  have hp3 := turns_last (n := m + 20) (by simp) ht3
                  have ht2 : (turn (hds 15 3610) 0 3610 (evC byref (evCall F S4 (m + 24)) (m + 24) 0 (hds 15) lbu15_0) p15_e14 [(.cells [(.d (.sl (.int .i64) x0.1)), (.d (.sl (.int .i64) x0.2))]), (.arr (.pair .str .str) ([] : List ((List UInt8) × (List UInt8))) true)]).run = some (.normal, p15_e12, [(.cells [(.d (.sl (.int .i64) x0.1)), (.d (.sl (.int .i64) x0.2))]), (.arr (.pair .str .str) [(([99] : List UInt8), (p15_k3 x0))] true)]) := M.run_of_path _ [true, true, true, true, true, true, true, true, true, true, true, true, true, true, true, true, true, true, true, true, true] _ _ (by kernel_rfl) (all_t rfl (all_t rfl (all_t rfl (all_t c30 (all_t c30 (all_t c30 (all_t c30 (all_t rfl (all_t c30 (all_t c30 (all_t c30 (all_t c30 (all_t c30 (all_t c40 (all_t c41 (all_t rfl (all_t c43 (all_t c44 (all_t rfl (all_t rfl (all_t rfl all_nil)))))))))))))))))))))
                  have hs2 : (turns (hds 15 3610) 0 3610 (evC byref (evCall F S4 (m + 24)) (m + 24) 0 (hds 15) lbu15_0) (m + 21) p15_e12 [(.cells [(.d (.sl (.int .i64) x0.1)), (.d (.sl (.int .i64) x0.2))]), (.arr (.pair .str .str) [(([99] : List UInt8), (p15_k3 x0))] true)]).run = some (.exit 0, p15_e4, [(.cells [(.d (.sl (.int .i64) x0.1)), (.d (.sl (.int .i64) x0.2))]), (.arr (.pair .str .str) [(([99] : List UInt8), (p15_k3 x0))] true)]) := Eq.mp (by kernel_rfl) hp3
                  have hp2 := turns_step ht2 hs2
                  have ht1 : (turn (hds 15 3610) 0 3610 (evC byref (evCall F S4 (m + 24)) (m + 24) 0 (hds 15) lbu15_0) p15_e13 [(.cells [(.d (.sl (.int .i64) x0.1)), (.d (.sl (.int .i64) x0.2))]), (.arr (.pair .str .str) ([] : List ((List UInt8) × (List UInt8))) true)]).run = some (.normal, p15_e14, [(.cells [(.d (.sl (.int .i64) x0.1)), (.d (.sl (.int .i64) x0.2))]), (.arr (.pair .str .str) ([] : List ((List UInt8) × (List UInt8))) true)]) := M.run_of_path _ [true, true, true, false, false, false, false, false, false, false, false, false] _ _ (by kernel_rfl) (all_t rfl (all_t rfl (all_t rfl (all_f c18 (all_f c18 (all_f c18 (all_f c18 (all_f c18 (all_f c18 (all_f c18 (all_f c18 (all_f Bool.false_ne_true all_nil))))))))))))
                  have hs1 : (turns (hds 15 3610) 0 3610 (evC byref (evCall F S4 (m + 24)) (m + 24) 0 (hds 15) lbu15_0) (m + 22) p15_e14 [(.cells [(.d (.sl (.int .i64) x0.1)), (.d (.sl (.int .i64) x0.2))]), (.arr (.pair .str .str) ([] : List ((List UInt8) × (List UInt8))) true)]).run = some (.exit 0, p15_e4, [(.cells [(.d (.sl (.int .i64) x0.1)), (.d (.sl (.int .i64) x0.2))]), (.arr (.pair .str .str) [(([99] : List UInt8), (p15_k3 x0))] true)]) := Eq.mp (by kernel_rfl) hp2
                  have hp1 := turns_step ht1 hs1
                  have ht0 : (turn (hds 15 3610) 0 3610 (evC byref (evCall F S4 (m + 24)) (m + 24) 0 (hds 15) lbu15_0) p15_e6 [(.cells [(.d (.sl (.int .i64) x0.1)), (.d (.sl (.int .i64) x0.2))]), (.arr (.pair .str .str) ([] : List ((List UInt8) × (List UInt8))) true)]).run = some (.normal, p15_e13, [(.cells [(.d (.sl (.int .i64) x0.1)), (.d (.sl (.int .i64) x0.2))]), (.arr (.pair .str .str) ([] : List ((List UInt8) × (List UInt8))) true)]) := M.run_of_path _ [true, true, true, false, false, false, false, false, false, false, false, false] _ _ (by kernel_rfl) (all_t rfl (all_t rfl (all_t rfl (all_f c6 (all_f c6 (all_f c6 (all_f c6 (all_f c6 (all_f c6 (all_f c6 (all_f c6 (all_f Bool.false_ne_true all_nil))))))))))))
                  have hs0 : (turns (hds 15 3610) 0 3610 (evC byref (evCall F S4 (m + 24)) (m + 24) 0 (hds 15) lbu15_0) (m + 23) p15_e13 [(.cells [(.d (.sl (.int .i64) x0.1)), (.d (.sl (.int .i64) x0.2))]), (.arr (.pair .str .str) ([] : List ((List UInt8) × (List UInt8))) true)]).run = some (.exit 0, p15_e4, [(.cells [(.d (.sl (.int .i64) x0.1)), (.d (.sl (.int .i64) x0.2))]), (.arr (.pair .str .str) [(([99] : List UInt8), (p15_k3 x0))] true)]) := Eq.mp (by kernel_rfl) hp1
                  have hp0 := turns_step ht0 hs0
                  exact Eq.trans (Eq.mp (by kernel_rfl) hp0) hq
                cases hp
              · skip
                cases h
            · skip
              cases h
          · skip
            cases h
        · skip
          cases h
          refine ⟨(.d (.sl (.pair .str .str) ([] : List ((List UInt8) × (List UInt8))))), [], runT_ok (LS := (fun k => if k = 3610 then some (.exit 0, p15_e5, [(.cells [(.d (.sl (.int .i64) x0.1)), (.d (.sl (.int .i64) x0.2))]), (.arr (.pair .str .str) ([] : List ((List UInt8) × (List UInt8))) true)]) else none)) (fn := fn15) (vis := [(3610, p15_e6, [(.cells [(.d (.sl (.int .i64) x0.1)), (.d (.sl (.int .i64) x0.2))]), (.arr (.pair .str .str) ([] : List ((List UInt8) × (List UInt8))) true)])]) (by kernel_rfl) rfl (by kernel_rfl) (M.run_of_path _ [true, true, true, true] _ _ (by kernel_rfl) (all_t rfl (all_t rfl (all_t rfl (all_t rfl all_nil))))) ?_, by simp, (wkR.one (wkV.one (wk1.eq rfl))), trivial⟩
          intro p hp p2 hq
          rcases List.mem_cons.1 hp with rfl | hp
          · skip
            have ht3 : (turn (hds 15 3610) 0 3610 (evC byref (evCall F S4 (m + 24)) (m + 24) 0 (hds 15) lbu15_0) p15_e15 [(.cells [(.d (.sl (.int .i64) x0.1)), (.d (.sl (.int .i64) x0.2))]), (.arr (.pair .str .str) ([] : List ((List UInt8) × (List UInt8))) true)]).run = some (.exit 0, p15_e5, [(.cells [(.d (.sl (.int .i64) x0.1)), (.d (.sl (.int .i64) x0.2))]), (.arr (.pair .str .str) ([] : List ((List UInt8) × (List UInt8))) true)]) := M.run_of_path _ [false] _ _ (by kernel_rfl) (all_f Bool.false_ne_true all_nil)
            have hp3 := turns_last (n := m + 20) (by simp) ht3
            have ht2 : (turn (hds 15 3610) 0 3610 (evC byref (evCall F S4 (m + 24)) (m + 24) 0 (hds 15) lbu15_0) p15_e14 [(.cells [(.d (.sl (.int .i64) x0.1)), (.d (.sl (.int .i64) x0.2))]), (.arr (.pair .str .str) ([] : List ((List UInt8) × (List UInt8))) true)]).run = some (.normal, p15_e15, [(.cells [(.d (.sl (.int .i64) x0.1)), (.d (.sl (.int .i64) x0.2))]), (.arr (.pair .str .str) ([] : List ((List UInt8) × (List UInt8))) true)]) := M.run_of_path _ [true, true, true, true, true, true, true, true, true, true, true, true, true, false] _ _ (by kernel_rfl) (all_t rfl (all_t rfl (all_t rfl (all_t c30 (all_t c30 (all_t c30 (all_t c30 (all_t rfl (all_t c30 (all_t c30 (all_t c30 (all_t c30 (all_t c30 (all_f c40 all_nil))))))))))))))
            have hs2 : (turns (hds 15 3610) 0 3610 (evC byref (evCall F S4 (m + 24)) (m + 24) 0 (hds 15) lbu15_0) (m + 21) p15_e15 [(.cells [(.d (.sl (.int .i64) x0.1)), (.d (.sl (.int .i64) x0.2))]), (.arr (.pair .str .str) ([] : List ((List UInt8) × (List UInt8))) true)]).run = some (.exit 0, p15_e5, [(.cells [(.d (.sl (.int .i64) x0.1)), (.d (.sl (.int .i64) x0.2))]), (.arr (.pair .str .str) ([] : List ((List UInt8) × (List UInt8))) true)]) := Eq.mp (by kernel_rfl) hp3
            have hp2 := turns_step ht2 hs2
            have ht1 : (turn (hds 15 3610) 0 3610 (evC byref (evCall F S4 (m + 24)) (m + 24) 0 (hds 15) lbu15_0) p15_e13 [(.cells [(.d (.sl (.int .i64) x0.1)), (.d (.sl (.int .i64) x0.2))]), (.arr (.pair .str .str) ([] : List ((List UInt8) × (List UInt8))) true)]).run = some (.normal, p15_e14, [(.cells [(.d (.sl (.int .i64) x0.1)), (.d (.sl (.int .i64) x0.2))]), (.arr (.pair .str .str) ([] : List ((List UInt8) × (List UInt8))) true)]) := M.run_of_path _ [true, true, true, false, false, false, false, false, false, false, false, false] _ _ (by kernel_rfl) (all_t rfl (all_t rfl (all_t rfl (all_f c18 (all_f c18 (all_f c18 (all_f c18 (all_f c18 (all_f c18 (all_f c18 (all_f c18 (all_f Bool.false_ne_true all_nil))))))))))))
            have hs1 : (turns (hds 15 3610) 0 3610 (evC byref (evCall F S4 (m + 24)) (m + 24) 0 (hds 15) lbu15_0) (m + 22) p15_e14 [(.cells [(.d (.sl (.int .i64) x0.1)), (.d (.sl (.int .i64) x0.2))]), (.arr (.pair .str .str) ([] : List ((List UInt8) × (List UInt8))) true)]).run = some (.exit 0, p15_e5, [(.cells [(.d (.sl (.int .i64) x0.1)), (.d (.sl (.int .i64) x0.2))]), (.arr (.pair .str .str) ([] : List ((List UInt8) × (List UInt8))) true)]) := Eq.mp (by kernel_rfl) hp2
            have hp1 := turns_step ht1 hs1
            have ht0 : (turn (hds 15 3610) 0 3610 (evC byref (evCall F S4 (m + 24)) (m + 24) 0 (hds 15) lbu15_0) p15_e6 [(.cells [(.d (.sl (.int .i64) x0.1)), (.d (.sl (.int .i64) x0.2))]), (.arr (.pair .str .str) ([] : List ((List UInt8) × (List UInt8))) true)]).run = some (.normal, p15_e13, [(.cells [(.d (.sl (.int .i64) x0.1)), (.d (.sl (.int .i64) x0.2))]), (.arr (.pair .str .str) ([] : List ((List UInt8) × (List UInt8))) true)]) := M.run_of_path _ [true, true, true, false, false, false, false, false, false, false, false, false] _ _ (by kernel_rfl) (all_t rfl (all_t rfl (all_t rfl (all_f c6 (all_f c6 (all_f c6 (all_f c6 (all_f c6 (all_f c6 (all_f c6 (all_f c6 (all_f Bool.false_ne_true all_nil))))))))))))
            have hs0 : (turns (hds 15 3610) 0 3610 (evC byref (evCall F S4 (m + 24)) (m + 24) 0 (hds 15) lbu15_0) (m + 23) p15_e13 [(.cells [(.d (.sl (.int .i64) x0.1)), (.d (.sl (.int .i64) x0.2))]), (.arr (.pair .str .str) ([] : List ((List UInt8) × (List UInt8))) true)]).run = some (.exit 0, p15_e5, [(.cells [(.d (.sl (.int .i64) x0.1)), (.d (.sl (.int .i64) x0.2))]), (.arr (.pair .str .str) ([] : List ((List UInt8) × (List UInt8))) true)]) := Eq.mp (by kernel_rfl) hp1
            have hp0 := turns_step ht0 hs0
            exact Eq.trans (Eq.mp (by kernel_rfl) hp0) hq
          cases hp
      · skip
        cases h
        refine ⟨(.d (.sl (.pair .str .str) ([] : List ((List UInt8) × (List UInt8))))), [], runT_ok (LS := (fun k => if k = 3610 then some (.exit 0, p15_e5, [(.cells [(.d (.sl (.int .i64) x0.1)), (.d (.sl (.int .i64) x0.2))]), (.arr (.pair .str .str) ([] : List ((List UInt8) × (List UInt8))) true)]) else none)) (fn := fn15) (vis := [(3610, p15_e6, [(.cells [(.d (.sl (.int .i64) x0.1)), (.d (.sl (.int .i64) x0.2))]), (.arr (.pair .str .str) ([] : List ((List UInt8) × (List UInt8))) true)])]) (by kernel_rfl) rfl (by kernel_rfl) (M.run_of_path _ [true, true, true, true] _ _ (by kernel_rfl) (all_t rfl (all_t rfl (all_t rfl (all_t rfl all_nil))))) ?_, by simp, (wkR.one (wkV.one (wk1.eq rfl))), trivial⟩
        intro p hp p2 hq
        rcases List.mem_cons.1 hp with rfl | hp
        · skip
          have ht3 : (turn (hds 15 3610) 0 3610 (evC byref (evCall F S4 (m + 24)) (m + 24) 0 (hds 15) lbu15_0) p15_e15 [(.cells [(.d (.sl (.int .i64) x0.1)), (.d (.sl (.int .i64) x0.2))]), (.arr (.pair .str .str) ([] : List ((List UInt8) × (List UInt8))) true)]).run = some (.exit 0, p15_e5, [(.cells [(.d (.sl (.int .i64) x0.1)), (.d (.sl (.int .i64) x0.2))]), (.arr (.pair .str .str) ([] : List ((List UInt8) × (List UInt8))) true)]) := M.run_of_path _ [false] _ _ (by kernel_rfl) (all_f Bool.false_ne_true all_nil)
          have hp3 := turns_last (n := m + 20) (by simp) ht3
          have ht2 : (turn (hds 15 3610) 0 3610 (evC byref (evCall F S4 (m + 24)) (m + 24) 0 (hds 15) lbu15_0) p15_e14 [(.cells [(.d (.sl (.int .i64) x0.1)), (.d (.sl (.int .i64) x0.2))]), (.arr (.pair .str .str) ([] : List ((List UInt8) × (List UInt8))) true)]).run = some (.normal, p15_e15, [(.cells [(.d (.sl (.int .i64) x0.1)), (.d (.sl (.int .i64) x0.2))]), (.arr (.pair .str .str) ([] : List ((List UInt8) × (List UInt8))) true)]) := M.run_of_path _ [true, true, true, false, false, false, false, false, false, false, false, false] _ _ (by kernel_rfl) (all_t rfl (all_t rfl (all_t rfl (all_f c30 (all_f c30 (all_f c30 (all_f c30 (all_f c30 (all_f c30 (all_f c30 (all_f c30 (all_f Bool.false_ne_true all_nil))))))))))))
          have hs2 : (turns (hds 15 3610) 0 3610 (evC byref (evCall F S4 (m + 24)) (m + 24) 0 (hds 15) lbu15_0) (m + 21) p15_e15 [(.cells [(.d (.sl (.int .i64) x0.1)), (.d (.sl (.int .i64) x0.2))]), (.arr (.pair .str .str) ([] : List ((List UInt8) × (List UInt8))) true)]).run = some (.exit 0, p15_e5, [(.cells [(.d (.sl (.int .i64) x0.1)), (.d (.sl (.int .i64) x0.2))]), (.arr (.pair .str .str) ([] : List ((List UInt8) × (List UInt8))) true)]) := Eq.mp (by kernel_rfl) hp3
          have hp2 := turns_step ht2 hs2
          have ht1 : (turn (hds 15 3610) 0 3610 (evC byref (evCall F S4 (m + 24)) (m + 24) 0 (hds 15) lbu15_0) p15_e13 [(.cells [(.d (.sl (.int .i64) x0.1)), (.d (.sl (.int .i64) x0.2))]), (.arr (.pair .str .str) ([] : List ((List UInt8) × (List UInt8))) true)]).run = some (.normal, p15_e14, [(.cells [(.d (.sl (.int .i64) x0.1)), (.d (.sl (.int .i64) x0.2))]), (.arr (.pair .str .str) ([] : List ((List UInt8) × (List UInt8))) true)]) := M.run_of_path _ [true, true, true, false, false, false, false, false, false, false, false, false] _ _ (by kernel_rfl) (all_t rfl (all_t rfl (all_t rfl (all_f c18 (all_f c18 (all_f c18 (all_f c18 (all_f c18 (all_f c18 (all_f c18 (all_f c18 (all_f Bool.false_ne_true all_nil))))))))))))
          have hs1 : (turns (hds 15 3610) 0 3610 (evC byref (evCall F S4 (m + 24)) (m + 24) 0 (hds 15) lbu15_0) (m + 22) p15_e14 [(.cells [(.d (.sl (.int .i64) x0.1)), (.d (.sl (.int .i64) x0.2))]), (.arr (.pair .str .str) ([] : List ((List UInt8) × (List UInt8))) true)]).run = some (.exit 0, p15_e5, [(.cells [(.d (.sl (.int .i64) x0.1)), (.d (.sl (.int .i64) x0.2))]), (.arr (.pair .str .str) ([] : List ((List UInt8) × (List UInt8))) true)]) := Eq.mp (by kernel_rfl) hp2
          have hp1 := turns_step ht1 hs1
          have ht0 : (turn (hds 15 3610) 0 3610 (evC byref (evCall F S4 (m + 24)) (m + 24) 0 (hds 15) lbu15_0) p15_e6 [(.cells [(.d (.sl (.int .i64) x0.1)), (.d (.sl (.int .i64) x0.2))]), (.arr (.pair .str .str) ([] : List ((List UInt8) × (List UInt8))) true)]).run = some (.normal, p15_e13, [(.cells [(.d (.sl (.int .i64) x0.1)), (.d (.sl (.int .i64) x0.2))]), (.arr (.pair .str .str) ([] : List ((List UInt8) × (List UInt8))) true)]) := M.run_of_path _ [true, true, true, false, false, false, false, false, false, false, false, false] _ _ (by kernel_rfl) (all_t rfl (all_t rfl (all_t rfl (all_f c6 (all_f c6 (all_f c6 (all_f c6 (all_f c6 (all_f c6 (all_f c6 (all_f c6 (all_f Bool.false_ne_true all_nil))))))))))))
          have hs0 : (turns (hds 15 3610) 0 3610 (evC byref (evCall F S4 (m + 24)) (m + 24) 0 (hds 15) lbu15_0) (m + 23) p15_e13 [(.cells [(.d (.sl (.int .i64) x0.1)), (.d (.sl (.int .i64) x0.2))]), (.arr (.pair .str .str) ([] : List ((List UInt8) × (List UInt8))) true)]).run = some (.exit 0, p15_e5, [(.cells [(.d (.sl (.int .i64) x0.1)), (.d (.sl (.int .i64) x0.2))]), (.arr (.pair .str .str) ([] : List ((List UInt8) × (List UInt8))) true)]) := Eq.mp (by kernel_rfl) hp1
          have hp0 := turns_step ht0 hs0
          exact Eq.trans (Eq.mp (by kernel_rfl) hp0) hq
        cases hp

def valuesG : List (List UInt8) := [([120] : List UInt8), ([121] : List UInt8), ([120, 121] : List UInt8), ([49] : List UInt8), ([34] : List UInt8), ([92] : List UInt8), ([123, 125] : List UInt8), ([122, 32, 122] : List UInt8)]
def bit1 (l : List Int) (i : Int) (j : Nat) : Bool := decide (i < (((List.length l) : Nat) : Int)) && ((IntKind.wrap .i64 ((((BitVec.ofInt 64 (List.getD l j 0) &&& BitVec.ofInt 64 (1)).toNat : Nat) : Int))) == (1))
def valG (l : List Int) (i : Int) : List UInt8 := List.getD valuesG (Int.toNat (withinI (pickG l i) (0) (7))) ([] : List UInt8)
/-- A set of numbers. -/
def setG (k : List Int × List Int) : LB := (if bit1 k.1 0 0 then [(([97] : List UInt8), valG k.2 0)] else []) ++ (if bit1 k.1 1 1 then [(([98] : List UInt8), valG k.2 1)] else []) ++ (if bit1 k.1 2 2 then [(([99] : List UInt8), valG k.2 2)] else [])
theorem set15 (k : List Int × List Int) (_ : true = true) : ∃ m, p15 m k = some (setG k) := by
  refine ⟨0, ?_⟩
  have p0 : pickPre k.2 (0) = true := decide_eq_true (by omega)
  have p1 : pickPre k.2 (1) = true := decide_eq_true (by omega)
  have p2 : pickPre k.2 (2) = true := decide_eq_true (by omega)
  have w : ∀ n : Int, 0 ≤ withinI n (0) (7) ∧ withinI n (0) (7) < 8 := fun n => by unfold withinI; omega
  have w1 : ∀ n : Int, decide (0 ≤ (withinI n (0) (7))) = true := fun n => decide_eq_true (w n).1
  have w2 : ∀ n : Int, decide ((withinI n (0) (7)) < 8) = true := fun n => decide_eq_true (w n).2
  unfold p15 setG bit1 valG valuesG
  simp only [p0, p1, p2, w1, w2, ↓reduceIte]
  generalize decide (0 < (((List.length k.1) : Nat) : Int)) = a0
  generalize decide (1 < (((List.length k.1) : Nat) : Int)) = a1
  generalize decide (2 < (((List.length k.1) : Nat) : Int)) = a2
  generalize ((IntKind.wrap .i64 ((((BitVec.ofInt 64 (List.getD k.1 0 0) &&& BitVec.ofInt 64 (1)).toNat : Nat) : Int))) == (1)) = b0
  generalize ((IntKind.wrap .i64 ((((BitVec.ofInt 64 (List.getD k.1 1 0) &&& BitVec.ofInt 64 (1)).toNat : Nat) : Int))) == (1)) = b1
  generalize ((IntKind.wrap .i64 ((((BitVec.ofInt 64 (List.getD k.1 2 0) &&& BitVec.ofInt 64 (1)).toNat : Nat) : Int))) == (1)) = b2
  cases a0 <;> cases b0 <;> cases a1 <;> cases b1 <;> cases a2 <;> cases b2 <;> rfl
def s15 : List AV → Boxes → M (AV × Boxes) := normS [.val (.pair (.sl (.int .i64)) (.sl (.int .i64)))] [] fun xs B => match xs, B with
  | [(.agg [(.d (.sl (.int .i64) c1)), (.d (.sl (.int .i64) c2))])], [] => .chk (true) (.ret ((.d (.sl (.pair .str .str) (setG ((c1, c2))))), []))
  | _, _ => .fail
theorem s15_at : CallAt Tryd.prog 15 s15 := by
  refine CallAt.norm (CallAt.weakE (g := fun n => evCall F S4 n 15) (fun n => evCall_atH mixed kinds hds S4 S4_ok n 15) fun xs B r' B' hr => ?_) _ _
  split at hr
  · rename_i c1 c2
    obtain ⟨hp, hr⟩ := (M.run_chk _ _ _).1 hr
    simp only [M.run, Option.some.injEq, Prod.mk.injEq] at hr
    obtain ⟨rfl, rfl⟩ := hr
    obtain ⟨m, hm⟩ := set15 ((c1, c2)) hp
    obtain ⟨r, B1, h1, h2, h3, h4⟩ := p15_ok m ((c1, c2)) _ hm
    exact ⟨m + 25, r, B1, h1, by simp, h2, h3, h4⟩
  · simp [M.run] at hr
noncomputable def S5 : FuncId → Option (List AV → Boxes → M (AV × Boxes)) := fun f => if f = 15 then some s15 else S4 f
set_option maxHeartbeats 20000000 in
theorem S5_ok : ∀ f s, S5 f = some s → CallAt Tryd.prog f s := by
  intro f s h
  unfold S5 at h
  split at h
  · rename_i e; subst e; cases h; exact s15_at
  · exact S4_ok f s h

end Go.Proofs.YtghkbjflejgieaaDoor.Dec
namespace Go.Proofs.YtghkbjflejgieaaDoor.Dec
open Go.Ev
set_option linter.unusedVariables false
set_option linter.unusedSimpArgs false
set_option maxRecDepth 100000
theorem runs6 : Known Tryd.prog 6 [] (.d (.bool true)) := known Go.Proofs.YtghkbjflejgieaaDoor.Ev.mixed (kinds := Go.Proofs.YtghkbjflejgieaaDoor.Ev.kinds) (n := 300) Go.Proofs.YtghkbjflejgieaaDoor.Ev.S_ok (by kernel_rfl)
def trueG : List D → M AV
  | [] => .ret (.d (.bool true))
  | _ => .fail
theorem true6 : CallAt Tryd.prog 6 (plainV trueG) := by
  refine plainV_at fun ds r hr => ?_
  unfold trueG at hr
  split at hr
  · simp only [M.run, Option.some.injEq] at hr
    subst hr
    exact runs6
  · simp [M.run] at hr
theorem runs3 : Known Tryd.prog 3 [] (.d (.bool true)) := known Go.Proofs.YtghkbjflejgieaaDoor.Ev.mixed (kinds := Go.Proofs.YtghkbjflejgieaaDoor.Ev.kinds) (n := 300) Go.Proofs.YtghkbjflejgieaaDoor.Ev.S_ok (by kernel_rfl)
theorem true3 : CallAt Tryd.prog 3 (plainV trueG) := by
  refine plainV_at fun ds r hr => ?_
  unfold trueG at hr
  split at hr
  · simp only [M.run, Option.some.injEq] at hr
    subst hr
    exact runs3
  · simp [M.run] at hr

noncomputable def S6 : FuncId → Option (List AV → Boxes → M (AV × Boxes)) := fun f => if f = 6 then some (plainV trueG) else S5 f
set_option maxHeartbeats 20000000 in
theorem S6_ok : ∀ f s, S6 f = some s → CallAt Tryd.prog f s := by
  intro f s h
  unfold S6 at h
  split at h
  · rename_i e; subst e; cases h; exact true6
  · exact S5_ok f s h

noncomputable def S7 : FuncId → Option (List AV → Boxes → M (AV × Boxes)) := fun f => if f = 3 then some (plainV trueG) else S6 f
set_option maxHeartbeats 20000000 in
theorem S7_ok : ∀ f s, S7 f = some s → CallAt Tryd.prog f s := by
  intro f s h
  unfold S7 at h
  split at h
  · rename_i e; subst e; cases h; exact true3
  · exact S6_ok f s h

end Go.Proofs.YtghkbjflejgieaaDoor.Dec
