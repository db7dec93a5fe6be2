/- ExprDeep at some depths. Conditions: none. -/
import Derived.Test.YtnmakkgomplchaaGreatDoorExprDeepB
namespace Go.Proofs.YtnmakkgomplchaaGreatDoor.EvS.ExprDeep
open Go.Ev
set_option linter.unusedVariables false
set_option maxRecDepth 100000
theorem d1true (n : Int) : (evCall (fnsOf Tryz.prog kinds) (Sd n 1) 300 3 [.d (.int .i64 n), .d (.bool true)] []).mixed [true] = some ((.d (.bool true), []), [decide (n = n) == true]) := by kernel_rfl
theorem d1false (n : Int) : (evCall (fnsOf Tryz.prog kinds) (Sd n 1) 300 3 [.d (.int .i64 n), .d (.bool false)] []).mixed [true] = some ((.d (.bool true), []), [decide (n = n) == true]) := by kernel_rfl
theorem d12true (n : Int) : (evCall (fnsOf Tryz.prog kinds) (Sd n 12) 300 3 [.d (.int .i64 n), .d (.bool true)] []).mixed [true] = some ((.d (.bool true), []), [decide (n = n) == true]) := by kernel_rfl
theorem d12false (n : Int) : (evCall (fnsOf Tryz.prog kinds) (Sd n 12) 300 3 [.d (.int .i64 n), .d (.bool false)] []).mixed [true] = some ((.d (.bool true), []), [decide (n = n) == true]) := by kernel_rfl
theorem d2true (n : Int) : (evCall (fnsOf Tryz.prog kinds) (Sd n 2) 300 3 [.d (.int .i64 n), .d (.bool true)] []).mixed [true] = some ((.d (.bool true), []), [decide (n = n) == true]) := by kernel_rfl
theorem d2false (n : Int) : (evCall (fnsOf Tryz.prog kinds) (Sd n 2) 300 3 [.d (.int .i64 n), .d (.bool false)] []).mixed [true] = some ((.d (.bool true), []), [decide (n = n) == true]) := by kernel_rfl
theorem d11true (n : Int) : (evCall (fnsOf Tryz.prog kinds) (Sd n 11) 300 3 [.d (.int .i64 n), .d (.bool true)] []).mixed [true] = some ((.d (.bool true), []), [decide (n = n) == true]) := by kernel_rfl
theorem d11false (n : Int) : (evCall (fnsOf Tryz.prog kinds) (Sd n 11) 300 3 [.d (.int .i64 n), .d (.bool false)] []).mixed [true] = some ((.d (.bool true), []), [decide (n = n) == true]) := by kernel_rfl
theorem d3true (n : Int) : (evCall (fnsOf Tryz.prog kinds) (Sd n 3) 300 3 [.d (.int .i64 n), .d (.bool true)] []).mixed [true] = some ((.d (.bool true), []), [decide (n = n) == true]) := by kernel_rfl
theorem d3false (n : Int) : (evCall (fnsOf Tryz.prog kinds) (Sd n 3) 300 3 [.d (.int .i64 n), .d (.bool false)] []).mixed [true] = some ((.d (.bool true), []), [decide (n = n) == true]) := by kernel_rfl
theorem d10true (n : Int) : (evCall (fnsOf Tryz.prog kinds) (Sd n 10) 300 3 [.d (.int .i64 n), .d (.bool true)] []).mixed [true] = some ((.d (.bool true), []), [decide (n = n) == true]) := by kernel_rfl
theorem d10false (n : Int) : (evCall (fnsOf Tryz.prog kinds) (Sd n 10) 300 3 [.d (.int .i64 n), .d (.bool false)] []).mixed [true] = some ((.d (.bool true), []), [decide (n = n) == true]) := by kernel_rfl
end Go.Proofs.YtnmakkgomplchaaGreatDoor.EvS.ExprDeep
