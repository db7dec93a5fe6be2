/- ExprDeep at some depths. Conditions: none. -/
import Derived.Test.YtnmakkgomplchaaGreatDoorExprDeepB
namespace Go.Proofs.YtnmakkgomplchaaGreatDoor.EvS.ExprDeep
open Go.Ev
set_option linter.unusedVariables false
set_option maxRecDepth 100000
theorem d4true (n : Int) : (evCall (fnsOf Tryz.prog kinds) (Sd n 4) 300 3 [.d (.int .i64 n), .d (.bool true)] []).mixed [true] = some ((.d (.bool true), []), [decide (n = n) == true]) := by kernel_rfl
theorem d4false (n : Int) : (evCall (fnsOf Tryz.prog kinds) (Sd n 4) 300 3 [.d (.int .i64 n), .d (.bool false)] []).mixed [true] = some ((.d (.bool true), []), [decide (n = n) == true]) := by kernel_rfl
theorem d9true (n : Int) : (evCall (fnsOf Tryz.prog kinds) (Sd n 9) 300 3 [.d (.int .i64 n), .d (.bool true)] []).mixed [true] = some ((.d (.bool true), []), [decide (n = n) == true]) := by kernel_rfl
theorem d9false (n : Int) : (evCall (fnsOf Tryz.prog kinds) (Sd n 9) 300 3 [.d (.int .i64 n), .d (.bool false)] []).mixed [true] = some ((.d (.bool true), []), [decide (n = n) == true]) := by kernel_rfl
theorem d5true (n : Int) : (evCall (fnsOf Tryz.prog kinds) (Sd n 5) 300 3 [.d (.int .i64 n), .d (.bool true)] []).mixed [true] = some ((.d (.bool true), []), [decide (n = n) == true]) := by kernel_rfl
theorem d5false (n : Int) : (evCall (fnsOf Tryz.prog kinds) (Sd n 5) 300 3 [.d (.int .i64 n), .d (.bool false)] []).mixed [true] = some ((.d (.bool true), []), [decide (n = n) == true]) := by kernel_rfl
theorem d8true (n : Int) : (evCall (fnsOf Tryz.prog kinds) (Sd n 8) 300 3 [.d (.int .i64 n), .d (.bool true)] []).mixed [true] = some ((.d (.bool true), []), [decide (n = n) == true]) := by kernel_rfl
theorem d8false (n : Int) : (evCall (fnsOf Tryz.prog kinds) (Sd n 8) 300 3 [.d (.int .i64 n), .d (.bool false)] []).mixed [true] = some ((.d (.bool true), []), [decide (n = n) == true]) := by kernel_rfl
theorem d6true (n : Int) : (evCall (fnsOf Tryz.prog kinds) (Sd n 6) 300 3 [.d (.int .i64 n), .d (.bool true)] []).mixed [true] = some ((.d (.bool true), []), [decide (n = n) == true]) := by kernel_rfl
theorem d6false (n : Int) : (evCall (fnsOf Tryz.prog kinds) (Sd n 6) 300 3 [.d (.int .i64 n), .d (.bool false)] []).mixed [true] = some ((.d (.bool true), []), [decide (n = n) == true]) := by kernel_rfl
theorem d7true (n : Int) : (evCall (fnsOf Tryz.prog kinds) (Sd n 7) 300 3 [.d (.int .i64 n), .d (.bool true)] []).mixed [true] = some ((.d (.bool true), []), [decide (n = n) == true]) := by kernel_rfl
theorem d7false (n : Int) : (evCall (fnsOf Tryz.prog kinds) (Sd n 7) 300 3 [.d (.int .i64 n), .d (.bool false)] []).mixed [true] = some ((.d (.bool true), []), [decide (n = n) == true]) := by kernel_rfl
end Go.Proofs.YtnmakkgomplchaaGreatDoor.EvS.ExprDeep
