/- Inhibited. Heard. -/
import Derived.Test.YtghkbjflejgieaaDoorQM6
import Derived.KernelRfl
namespace Go.Proofs.YtghkbjflejgieaaDoor.Dec
open Go.Ev
set_option linter.unusedVariables false
set_option linter.unusedSimpArgs false
set_option maxRecDepth 100000
noncomputable def fn11 : AFn := (F 11).getD ⟨0, [], .bad, false, false, noHd⟩
noncomputable def body11 : AC := fn11.body
def l11_1 (m : Nat) : Nat → List (List ((List UInt8) × (List UInt8))) → List ((List ((List UInt8) × (List UInt8) × Int)) × (List ((List UInt8) × (List UInt8) × Int)) × (List (List UInt8))) → List ((List UInt8) × (List UInt8)) → Int → Int → Int → Int → (List ((List UInt8) × (List UInt8) × Int)) × (List ((List UInt8) × (List UInt8) × Int)) × (List (List UInt8)) → Option (Nat × Int)
  | 0, _, _, _, _, _, _, _, _ => none
  | n + 1, x0, x2, s7, s25, s26, s36', s37', b0' => if decide (s37' < s36') = true then
      if decide (0 ≤ s37') = true then
        if decide (s37' < (((List.length x0) : Nat) : Int)) = true then
          if decide (List.length (List.getD x0 (Int.toNat s37') ([] : List ((List UInt8) × (List UInt8)))) < 4611686018427387904) = true then
            if ((show List ((List UInt8) × (List UInt8)) from (List.getD x0 (Int.toNat s37') ([] : List ((List UInt8) × (List UInt8))))) == s7) = true then
              l11_1 m n x0 x2 s7 s25 s26 s36' ((IntKind.wrap .i64 (s37' + (1)))) b0'
            else
              if decide (List.length (List.getD x0 (Int.toNat s37') ([] : List ((List UInt8) × (List UInt8)))) ≤ 1000000 ∧ List.length b0'.1 ≤ 9223372036854775807) = true then
                if (allG (List.getD x0 (Int.toNat s37') ([] : List ((List UInt8) × (List UInt8)))) b0'.1) = true then
                  if equPre (List.getD x0 (Int.toNat s37') ([] : List ((List UInt8) × (List UInt8)))) s7 b0'.2.2 = true then
                    if (equG (List.getD x0 (Int.toNat s37') ([] : List ((List UInt8) × (List UInt8)))) s7 b0'.2.2) = true then
                      some (0, s37')
                    else
                      l11_1 m n x0 x2 s7 s25 s26 s36' ((IntKind.wrap .i64 (s37' + (1)))) b0'
                  else
                    none
                else
                  l11_1 m n x0 x2 s7 s25 s26 s36' ((IntKind.wrap .i64 (s37' + (1)))) b0'
              else
                none
          else
            none
        else
          none
      else
        none
    else
      some (1, s37')
def l11_1D : Nat × Int := (0, 0)
@[reducible] def l11_1R (m n : Nat) (x0 : List (List ((List UInt8) × (List UInt8)))) (x2 : List ((List ((List UInt8) × (List UInt8) × Int)) × (List ((List UInt8) × (List UInt8) × Int)) × (List (List UInt8)))) (s7 : List ((List UInt8) × (List UInt8))) (s25 : Int) (s26 : Int) (s36' : Int) (s37' : Int) (b0' : (List ((List UInt8) × (List UInt8) × Int)) × (List ((List UInt8) × (List UInt8) × Int)) × (List (List UInt8))) : Nat × Int := Option.getD (l11_1 m n x0 x2 s7 s25 s26 s36' s37' b0') l11_1D
def l11_1H (x0 : List (List ((List UInt8) × (List UInt8)))) (x2 : List ((List ((List UInt8) × (List UInt8) × Int)) × (List ((List UInt8) × (List UInt8) × Int)) × (List (List UInt8)))) (s7 : List ((List UInt8) × (List UInt8))) (s25 : Int) (s26 : Int) (s36' : Int) (s37' : Int) (b0' : (List ((List UInt8) × (List UInt8) × Int)) × (List ((List UInt8) × (List UInt8) × Int)) × (List (List UInt8))) : Env := [(.d (.sl (.sl (.pair .str .str)) x0)), .top, .top, .top, .top, .top, .top, (.d (.sl (.pair .str .str) s7)), .top, (.ptr 0 0), .top, .top, .top, .top, .top, .top, .top, .top, .top, .top, .top, .top, .top, .top, (.d (.sl (.pair (.sl (.pair .str (.pair .str (.int .i64)))) (.pair (.sl (.pair .str (.pair .str (.int .i64)))) (.sl .str))) x2)), (.d (.int .i64 s25)), (.d (.int .i64 s26)), .top, .top, .top, .top, .top, .top, .top, .top, (.d (.sl (.sl (.pair .str .str)) x0)), (.d (.int .i64 s36')), (.d (.int .i64 s37')), .top, .top, .top, .top, .top, .top, .top, .top, .top, .top, .top, .top, .top, .top, .top, .top, .top, .top, .top, .top, .top, .top]
def l11_1B (x0 : List (List ((List UInt8) × (List UInt8)))) (x2 : List ((List ((List UInt8) × (List UInt8) × Int)) × (List ((List UInt8) × (List UInt8) × Int)) × (List (List UInt8)))) (s7 : List ((List UInt8) × (List UInt8))) (s25 : Int) (s26 : Int) (s36' : Int) (s37' : Int) (b0' : (List ((List UInt8) × (List UInt8) × Int)) × (List ((List UInt8) × (List UInt8) × Int)) × (List (List UInt8))) : Boxes := [(.cells [(.d (.sl (.pair .str (.pair .str (.int .i64))) b0'.1)), (.d (.sl (.pair .str (.pair .str (.int .i64))) b0'.2.1)), (.d (.sl .str b0'.2.2))])]
def l11_1E (x0 : List (List ((List UInt8) × (List UInt8)))) (x2 : List ((List ((List UInt8) × (List UInt8) × Int)) × (List ((List UInt8) × (List UInt8) × Int)) × (List (List UInt8)))) (s7 : List ((List UInt8) × (List UInt8))) (s25 : Int) (s26 : Int) (s36' : Int) (s37' : Int) (b0' : (List ((List UInt8) × (List UInt8) × Int)) × (List ((List UInt8) × (List UInt8) × Int)) × (List (List UInt8))) : Nat → AEx × Env × Boxes
  | 0 => (.ret, [(.d (.sl (.sl (.pair .str .str)) x0)), .top, .top, .top, .top, .top, (.d (.bool true)), (.d (.sl (.pair .str .str) s7)), .top, (.ptr 0 0), .top, (.d (.sl (.pair .str .str) (List.getD x0 (Int.toNat s37') ([] : List ((List UInt8) × (List UInt8)))))), .top, .top, .top, .top, .top, .top, .top, .top, .top, .top, .top, .top, (.d (.sl (.pair (.sl (.pair .str (.pair .str (.int .i64)))) (.pair (.sl (.pair .str (.pair .str (.int .i64)))) (.sl .str))) x2)), (.d (.int .i64 s25)), (.d (.int .i64 s26)), .top, .top, .top, .top, .top, .top, .top, .top, (.d (.sl (.sl (.pair .str .str)) x0)), (.d (.int .i64 s36')), (.d (.int .i64 s37')), (.d (.bool (decide (s37' < s36')))), (.cptr [(.sl (.pair .str .str) (List.getD x0 (Int.toNat s37') ([] : List ((List UInt8) × (List UInt8)))))] 0), (.d (.sl (.pair .str .str) (List.getD x0 (Int.toNat s37') ([] : List ((List UInt8) × (List UInt8)))))), (.d (.sl (.pair .str .str) (List.getD x0 (Int.toNat s37') ([] : List ((List UInt8) × (List UInt8)))))), (.d (.sl (.pair .str .str) s7)), (.d (.bool ((show List ((List UInt8) × (List UInt8)) from (List.getD x0 (Int.toNat s37') ([] : List ((List UInt8) × (List UInt8))))) == s7))), (.d (.bool (!((show List ((List UInt8) × (List UInt8)) from (List.getD x0 (Int.toNat s37') ([] : List ((List UInt8) × (List UInt8))))) == s7)))), (.d (.bool (!((show List ((List UInt8) × (List UInt8)) from (List.getD x0 (Int.toNat s37') ([] : List ((List UInt8) × (List UInt8))))) == s7)))), (.d (.sl (.pair .str .str) (List.getD x0 (Int.toNat s37') ([] : List ((List UInt8) × (List UInt8)))))), (.ptr 0 0), (.d (.sl (.pair .str (.pair .str (.int .i64))) b0'.1)), (.d (.bool (allG (List.getD x0 (Int.toNat s37') ([] : List ((List UInt8) × (List UInt8)))) b0'.1))), (.d (.bool (allG (List.getD x0 (Int.toNat s37') ([] : List ((List UInt8) × (List UInt8)))) b0'.1))), (.d (.bool (allG (List.getD x0 (Int.toNat s37') ([] : List ((List UInt8) × (List UInt8)))) b0'.1))), (.d (.sl (.pair .str .str) (List.getD x0 (Int.toNat s37') ([] : List ((List UInt8) × (List UInt8)))))), (.d (.sl (.pair .str .str) s7)), (.ptr 0 2), (.d (.sl .str b0'.2.2)), (.d (.bool (equG (List.getD x0 (Int.toNat s37') ([] : List ((List UInt8) × (List UInt8)))) s7 b0'.2.2))), (.d (.bool (equG (List.getD x0 (Int.toNat s37') ([] : List ((List UInt8) × (List UInt8)))) s7 b0'.2.2))), .top, .top], [(.cells [(.d (.sl (.pair .str (.pair .str (.int .i64))) b0'.1)), (.d (.sl (.pair .str (.pair .str (.int .i64))) b0'.2.1)), (.d (.sl .str b0'.2.2))])])
  | _ => (.exit 2, [(.d (.sl (.sl (.pair .str .str)) x0)), .top, .top, .top, .top, .top, .top, (.d (.sl (.pair .str .str) s7)), .top, (.ptr 0 0), .top, .top, .top, .top, .top, .top, .top, .top, .top, .top, .top, .top, .top, .top, (.d (.sl (.pair (.sl (.pair .str (.pair .str (.int .i64)))) (.pair (.sl (.pair .str (.pair .str (.int .i64)))) (.sl .str))) x2)), (.d (.int .i64 s25)), (.d (.int .i64 s26)), .top, .top, .top, .top, .top, .top, .top, .top, (.d (.sl (.sl (.pair .str .str)) x0)), (.d (.int .i64 s36')), (.d (.int .i64 s37')), (.d (.bool (decide (s37' < s36')))), .top, .top, .top, .top, .top, .top, .top, .top, .top, .top, .top, .top, .top, .top, .top, .top, .top, .top, .top, .top, .top], [(.cells [(.d (.sl (.pair .str (.pair .str (.int .i64))) b0'.1)), (.d (.sl (.pair .str (.pair .str (.int .i64))) b0'.2.1)), (.d (.sl .str b0'.2.2))])])
noncomputable def lbl11_1 : AC := loopBody 240635609729 body11

set_option maxHeartbeats 20000000 in
theorem l11_1_w0 (m n : Nat) (x0 : List (List ((List UInt8) × (List UInt8)))) (x2 : List ((List ((List UInt8) × (List UInt8) × Int)) × (List ((List UInt8) × (List UInt8) × Int)) × (List (List UInt8)))) (s7 : List ((List UInt8) × (List UInt8))) (s25 : Int) (s26 : Int) (s36' : Int) (s37' : Int) (b0' : (List ((List UInt8) × (List UInt8) × Int)) × (List ((List UInt8) × (List UInt8) × Int)) × (List (List UInt8))) (r : AEx × Env × Boxes) (c0 : decide (s37' < s36') = true) (c1 : decide (0 ≤ s37') = true) (c2 : decide (s37' < (((List.length x0) : Nat) : Int)) = true) (c3 : decide (List.length (List.getD x0 (Int.toNat s37') ([] : List ((List UInt8) × (List UInt8)))) < 4611686018427387904) = true) (c4 : ((show List ((List UInt8) × (List UInt8)) from (List.getD x0 (Int.toNat s37') ([] : List ((List UInt8) × (List UInt8))))) == s7) = true) (ih : (turns (hds 11 240635609729) 0 240635609729 (evC byref (evCall F S11 (m + 24)) (m + 24) 0 (hds 11) lbl11_1) n (l11_1H x0 x2 s7 s25 s26 s36' ((IntKind.wrap .i64 (s37' + (1)))) b0') (l11_1B x0 x2 s7 s25 s26 s36' ((IntKind.wrap .i64 (s37' + (1)))) b0')).run = some r) : (turns (hds 11 240635609729) 0 240635609729 (evC byref (evCall F S11 (m + 24)) (m + 24) 0 (hds 11) lbl11_1) (n + 1) (l11_1H x0 x2 s7 s25 s26 s36' s37' b0') (l11_1B x0 x2 s7 s25 s26 s36' s37' b0')).run = some r := by
  exact turns_step (M.run_of_path _ [true, true, true, true, false, false, false, false, false, false, false, false, false, false, false, false] _ _ (by kernel_rfl) (all_t c0 (all_t c1 (all_t c2 (all_t c3 (all_nt c4 (all_nt c4 (all_nt c4 (all_nt c4 (all_nt c4 (all_f Bool.false_ne_true (all_f Bool.false_ne_true (all_f Bool.false_ne_true (all_f Bool.false_ne_true (all_f Bool.false_ne_true (all_f Bool.false_ne_true (all_f Bool.false_ne_true all_nil))))))))))))))))) ih
set_option maxHeartbeats 20000000 in
theorem l11_1_w1 (m n : Nat) (x0 : List (List ((List UInt8) × (List UInt8)))) (x2 : List ((List ((List UInt8) × (List UInt8) × Int)) × (List ((List UInt8) × (List UInt8) × Int)) × (List (List UInt8)))) (s7 : List ((List UInt8) × (List UInt8))) (s25 : Int) (s26 : Int) (s36' : Int) (s37' : Int) (b0' : (List ((List UInt8) × (List UInt8) × Int)) × (List ((List UInt8) × (List UInt8) × Int)) × (List (List UInt8))) (c0 : decide (s37' < s36') = true) (c1 : decide (0 ≤ s37') = true) (c2 : decide (s37' < (((List.length x0) : Nat) : Int)) = true) (c3 : decide (List.length (List.getD x0 (Int.toNat s37') ([] : List ((List UInt8) × (List UInt8)))) < 4611686018427387904) = true) (c4 : ¬ ((show List ((List UInt8) × (List UInt8)) from (List.getD x0 (Int.toNat s37') ([] : List ((List UInt8) × (List UInt8))))) == s7) = true) (c8 : decide (List.length (List.getD x0 (Int.toNat s37') ([] : List ((List UInt8) × (List UInt8)))) ≤ 1000000 ∧ List.length b0'.1 ≤ 9223372036854775807) = true) (c10 : (allG (List.getD x0 (Int.toNat s37') ([] : List ((List UInt8) × (List UInt8)))) b0'.1) = true) (c15 : equPre (List.getD x0 (Int.toNat s37') ([] : List ((List UInt8) × (List UInt8)))) s7 b0'.2.2 = true) (c17 : (equG (List.getD x0 (Int.toNat s37') ([] : List ((List UInt8) × (List UInt8)))) s7 b0'.2.2) = true) : (turns (hds 11 240635609729) 0 240635609729 (evC byref (evCall F S11 (m + 24)) (m + 24) 0 (hds 11) lbl11_1) (n + 1) (l11_1H x0 x2 s7 s25 s26 s36' s37' b0') (l11_1B x0 x2 s7 s25 s26 s36' s37' b0')).run = some (let r1 := (allG (List.getD x0 (Int.toNat s37') ([] : List ((List UInt8) × (List UInt8)))) b0'.1); (.ret, [(.d (.sl (.sl (.pair .str .str)) x0)), .top, .top, .top, .top, .top, (.d (.bool true)), (.d (.sl (.pair .str .str) s7)), .top, (.ptr 0 0), .top, (.d (.sl (.pair .str .str) (List.getD x0 (Int.toNat s37') ([] : List ((List UInt8) × (List UInt8)))))), .top, .top, .top, .top, .top, .top, .top, .top, .top, .top, .top, .top, (.d (.sl (.pair (.sl (.pair .str (.pair .str (.int .i64)))) (.pair (.sl (.pair .str (.pair .str (.int .i64)))) (.sl .str))) x2)), (.d (.int .i64 s25)), (.d (.int .i64 s26)), .top, .top, .top, .top, .top, .top, .top, .top, (.d (.sl (.sl (.pair .str .str)) x0)), (.d (.int .i64 s36')), (.d (.int .i64 s37')), (.d (.bool (decide (s37' < s36')))), (.cptr [(.sl (.pair .str .str) (List.getD x0 (Int.toNat s37') ([] : List ((List UInt8) × (List UInt8)))))] 0), (.d (.sl (.pair .str .str) (List.getD x0 (Int.toNat s37') ([] : List ((List UInt8) × (List UInt8)))))), (.d (.sl (.pair .str .str) (List.getD x0 (Int.toNat s37') ([] : List ((List UInt8) × (List UInt8)))))), (.d (.sl (.pair .str .str) s7)), (.d (.bool ((show List ((List UInt8) × (List UInt8)) from (List.getD x0 (Int.toNat s37') ([] : List ((List UInt8) × (List UInt8))))) == s7))), (.d (.bool (!((show List ((List UInt8) × (List UInt8)) from (List.getD x0 (Int.toNat s37') ([] : List ((List UInt8) × (List UInt8))))) == s7)))), (.d (.bool (!((show List ((List UInt8) × (List UInt8)) from (List.getD x0 (Int.toNat s37') ([] : List ((List UInt8) × (List UInt8))))) == s7)))), (.d (.sl (.pair .str .str) (List.getD x0 (Int.toNat s37') ([] : List ((List UInt8) × (List UInt8)))))), (.ptr 0 0), (.d (.sl (.pair .str (.pair .str (.int .i64))) b0'.1)), (.d (.bool r1)), (.d (.bool r1)), (.d (.bool r1)), (.d (.sl (.pair .str .str) (List.getD x0 (Int.toNat s37') ([] : List ((List UInt8) × (List UInt8)))))), (.d (.sl (.pair .str .str) s7)), (.ptr 0 2), (.d (.sl .str b0'.2.2)), (.d (.bool (equG (List.getD x0 (Int.toNat s37') ([] : List ((List UInt8) × (List UInt8)))) s7 b0'.2.2))), (.d (.bool (equG (List.getD x0 (Int.toNat s37') ([] : List ((List UInt8) × (List UInt8)))) s7 b0'.2.2))), .top, .top], [(.cells [(.d (.sl (.pair .str (.pair .str (.int .i64))) b0'.1)), (.d (.sl (.pair .str (.pair .str (.int .i64))) b0'.2.1)), (.d (.sl .str b0'.2.2))])])) := by
  exact turns_last (by simp) (M.run_of_path _ [true, true, true, true, true, true, true, true, true, true, true, true, true, true, true, true, true, true] _ _ (by kernel_rfl) (all_t c0 (all_t c1 (all_t c2 (all_t c3 (all_nf c4 (all_nf c4 (all_nf c4 (all_nf c4 (all_t c8 (all_nf c4 (all_t c10 (all_t c10 (all_t c10 (all_t c10 (all_t c10 (all_t c15 (all_t c10 (all_t c17 all_nil))))))))))))))))))) 
set_option maxHeartbeats 20000000 in
theorem l11_1_w2 (m n : Nat) (x0 : List (List ((List UInt8) × (List UInt8)))) (x2 : List ((List ((List UInt8) × (List UInt8) × Int)) × (List ((List UInt8) × (List UInt8) × Int)) × (List (List UInt8)))) (s7 : List ((List UInt8) × (List UInt8))) (s25 : Int) (s26 : Int) (s36' : Int) (s37' : Int) (b0' : (List ((List UInt8) × (List UInt8) × Int)) × (List ((List UInt8) × (List UInt8) × Int)) × (List (List UInt8))) (r : AEx × Env × Boxes) (c0 : decide (s37' < s36') = true) (c1 : decide (0 ≤ s37') = true) (c2 : decide (s37' < (((List.length x0) : Nat) : Int)) = true) (c3 : decide (List.length (List.getD x0 (Int.toNat s37') ([] : List ((List UInt8) × (List UInt8)))) < 4611686018427387904) = true) (c4 : ¬ ((show List ((List UInt8) × (List UInt8)) from (List.getD x0 (Int.toNat s37') ([] : List ((List UInt8) × (List UInt8))))) == s7) = true) (c8 : decide (List.length (List.getD x0 (Int.toNat s37') ([] : List ((List UInt8) × (List UInt8)))) ≤ 1000000 ∧ List.length b0'.1 ≤ 9223372036854775807) = true) (c10 : (allG (List.getD x0 (Int.toNat s37') ([] : List ((List UInt8) × (List UInt8)))) b0'.1) = true) (c15 : equPre (List.getD x0 (Int.toNat s37') ([] : List ((List UInt8) × (List UInt8)))) s7 b0'.2.2 = true) (c17 : ¬ (equG (List.getD x0 (Int.toNat s37') ([] : List ((List UInt8) × (List UInt8)))) s7 b0'.2.2) = true) (ih : (turns (hds 11 240635609729) 0 240635609729 (evC byref (evCall F S11 (m + 24)) (m + 24) 0 (hds 11) lbl11_1) n (l11_1H x0 x2 s7 s25 s26 s36' ((IntKind.wrap .i64 (s37' + (1)))) b0') (l11_1B x0 x2 s7 s25 s26 s36' ((IntKind.wrap .i64 (s37' + (1)))) b0')).run = some r) : (turns (hds 11 240635609729) 0 240635609729 (evC byref (evCall F S11 (m + 24)) (m + 24) 0 (hds 11) lbl11_1) (n + 1) (l11_1H x0 x2 s7 s25 s26 s36' s37' b0') (l11_1B x0 x2 s7 s25 s26 s36' s37' b0')).run = some r := by
  exact turns_step (M.run_of_path _ [true, true, true, true, true, true, true, true, true, true, true, true, true, true, true, true, true, false] _ _ (by kernel_rfl) (all_t c0 (all_t c1 (all_t c2 (all_t c3 (all_nf c4 (all_nf c4 (all_nf c4 (all_nf c4 (all_t c8 (all_nf c4 (all_t c10 (all_t c10 (all_t c10 (all_t c10 (all_t c10 (all_t c15 (all_t c10 (all_f c17 all_nil))))))))))))))))))) ih
set_option maxHeartbeats 20000000 in
theorem l11_1_w3 (m n : Nat) (x0 : List (List ((List UInt8) × (List UInt8)))) (x2 : List ((List ((List UInt8) × (List UInt8) × Int)) × (List ((List UInt8) × (List UInt8) × Int)) × (List (List UInt8)))) (s7 : List ((List UInt8) × (List UInt8))) (s25 : Int) (s26 : Int) (s36' : Int) (s37' : Int) (b0' : (List ((List UInt8) × (List UInt8) × Int)) × (List ((List UInt8) × (List UInt8) × Int)) × (List (List UInt8))) (r : AEx × Env × Boxes) (c0 : decide (s37' < s36') = true) (c1 : decide (0 ≤ s37') = true) (c2 : decide (s37' < (((List.length x0) : Nat) : Int)) = true) (c3 : decide (List.length (List.getD x0 (Int.toNat s37') ([] : List ((List UInt8) × (List UInt8)))) < 4611686018427387904) = true) (c4 : ¬ ((show List ((List UInt8) × (List UInt8)) from (List.getD x0 (Int.toNat s37') ([] : List ((List UInt8) × (List UInt8))))) == s7) = true) (c8 : decide (List.length (List.getD x0 (Int.toNat s37') ([] : List ((List UInt8) × (List UInt8)))) ≤ 1000000 ∧ List.length b0'.1 ≤ 9223372036854775807) = true) (c10 : ¬ (allG (List.getD x0 (Int.toNat s37') ([] : List ((List UInt8) × (List UInt8)))) b0'.1) = true) (ih : (turns (hds 11 240635609729) 0 240635609729 (evC byref (evCall F S11 (m + 24)) (m + 24) 0 (hds 11) lbl11_1) n (l11_1H x0 x2 s7 s25 s26 s36' ((IntKind.wrap .i64 (s37' + (1)))) b0') (l11_1B x0 x2 s7 s25 s26 s36' ((IntKind.wrap .i64 (s37' + (1)))) b0')).run = some r) : (turns (hds 11 240635609729) 0 240635609729 (evC byref (evCall F S11 (m + 24)) (m + 24) 0 (hds 11) lbl11_1) (n + 1) (l11_1H x0 x2 s7 s25 s26 s36' s37' b0') (l11_1B x0 x2 s7 s25 s26 s36' s37' b0')).run = some r := by
  exact turns_step (M.run_of_path _ [true, true, true, true, true, true, true, true, true, true, false, false, false, false, false, false, false] _ _ (by kernel_rfl) (all_t c0 (all_t c1 (all_t c2 (all_t c3 (all_nf c4 (all_nf c4 (all_nf c4 (all_nf c4 (all_t c8 (all_nf c4 (all_f c10 (all_f c10 (all_f c10 (all_f c10 (all_f c10 (all_f c10 (all_f Bool.false_ne_true all_nil)))))))))))))))))) ih
set_option maxHeartbeats 20000000 in
theorem l11_1_w4 (m n : Nat) (x0 : List (List ((List UInt8) × (List UInt8)))) (x2 : List ((List ((List UInt8) × (List UInt8) × Int)) × (List ((List UInt8) × (List UInt8) × Int)) × (List (List UInt8)))) (s7 : List ((List UInt8) × (List UInt8))) (s25 : Int) (s26 : Int) (s36' : Int) (s37' : Int) (b0' : (List ((List UInt8) × (List UInt8) × Int)) × (List ((List UInt8) × (List UInt8) × Int)) × (List (List UInt8))) (c0 : ¬ decide (s37' < s36') = true) : (turns (hds 11 240635609729) 0 240635609729 (evC byref (evCall F S11 (m + 24)) (m + 24) 0 (hds 11) lbl11_1) (n + 1) (l11_1H x0 x2 s7 s25 s26 s36' s37' b0') (l11_1B x0 x2 s7 s25 s26 s36' s37' b0')).run = some (.exit 2, [(.d (.sl (.sl (.pair .str .str)) x0)), .top, .top, .top, .top, .top, .top, (.d (.sl (.pair .str .str) s7)), .top, (.ptr 0 0), .top, .top, .top, .top, .top, .top, .top, .top, .top, .top, .top, .top, .top, .top, (.d (.sl (.pair (.sl (.pair .str (.pair .str (.int .i64)))) (.pair (.sl (.pair .str (.pair .str (.int .i64)))) (.sl .str))) x2)), (.d (.int .i64 s25)), (.d (.int .i64 s26)), .top, .top, .top, .top, .top, .top, .top, .top, (.d (.sl (.sl (.pair .str .str)) x0)), (.d (.int .i64 s36')), (.d (.int .i64 s37')), (.d (.bool (decide (s37' < s36')))), .top, .top, .top, .top, .top, .top, .top, .top, .top, .top, .top, .top, .top, .top, .top, .top, .top, .top, .top, .top, .top], [(.cells [(.d (.sl (.pair .str (.pair .str (.int .i64))) b0'.1)), (.d (.sl (.pair .str (.pair .str (.int .i64))) b0'.2.1)), (.d (.sl .str b0'.2.2))])]) := by
  exact turns_last (by simp) (M.run_of_path _ [false] _ _ (by kernel_rfl) (all_f c0 all_nil)) 

set_option maxHeartbeats 20000000 in
theorem l11_1_step (m n : Nat) (ih : ∀ (x0 : List (List ((List UInt8) × (List UInt8)))) (x2 : List ((List ((List UInt8) × (List UInt8) × Int)) × (List ((List UInt8) × (List UInt8) × Int)) × (List (List UInt8)))) (s7 : List ((List UInt8) × (List UInt8))) (s25 : Int) (s26 : Int) (s36' : Int) (s37' : Int) (b0' : (List ((List UInt8) × (List UInt8) × Int)) × (List ((List UInt8) × (List UInt8) × Int)) × (List (List UInt8))) (q : Nat × Int), l11_1 m n x0 x2 s7 s25 s26 s36' s37' b0' = some q → (turns (hds 11 240635609729) 0 240635609729 (evC byref (evCall F S11 (m + 24)) (m + 24) 0 (hds 11) lbl11_1) n (l11_1H x0 x2 s7 s25 s26 s36' s37' b0') (l11_1B x0 x2 s7 s25 s26 s36' s37' b0')).run = some (l11_1E (x0) (x2) (s7) (s25) (s26) (s36') (q.2) (b0') q.1)) (x0 : List (List ((List UInt8) × (List UInt8)))) (x2 : List ((List ((List UInt8) × (List UInt8) × Int)) × (List ((List UInt8) × (List UInt8) × Int)) × (List (List UInt8)))) (s7 : List ((List UInt8) × (List UInt8))) (s25 : Int) (s26 : Int) (s36' : Int) (s37' : Int) (b0' : (List ((List UInt8) × (List UInt8) × Int)) × (List ((List UInt8) × (List UInt8) × Int)) × (List (List UInt8))) (q : Nat × Int) (h : l11_1 m (n + 1) x0 x2 s7 s25 s26 s36' s37' b0' = some q) : (turns (hds 11 240635609729) 0 240635609729 (evC byref (evCall F S11 (m + 24)) (m + 24) 0 (hds 11) lbl11_1) (n + 1) (l11_1H x0 x2 s7 s25 s26 s36' s37' b0') (l11_1B x0 x2 s7 s25 s26 s36' s37' b0')).run = some (l11_1E (x0) (x2) (s7) (s25) (s26) (s36') (q.2) (b0') q.1) := by
  rw [l11_1] at h
  refine ite_cases h (fun c0 h => ?_) (fun c0 h => ?_)
  · skip
    refine ite_cases h (fun c1 h => ?_) (fun c1 h => ?_)
    · skip
      refine ite_cases h (fun c2 h => ?_) (fun c2 h => ?_)
      · skip
        refine ite_cases h (fun c3 h => ?_) (fun c3 h => ?_)
        · skip
          refine ite_cases h (fun c4 h => ?_) (fun c4 h => ?_)
          · skip
            exact l11_1_w0 m n x0 x2 s7 s25 s26 s36' s37' b0' _ c0 c1 c2 c3 c4 (ih _ _ _ _ _ _ _ _ q h)
          · skip
            refine ite_cases h (fun c8 h => ?_) (fun c8 h => ?_)
            · skip
              refine ite_cases h (fun c10 h => ?_) (fun c10 h => ?_)
              · skip
                refine ite_cases h (fun c15 h => ?_) (fun c15 h => ?_)
                · skip
                  refine ite_cases h (fun c17 h => ?_) (fun c17 h => ?_)
                  · skip
                    cases h
                    exact l11_1_w1 m n x0 x2 s7 s25 s26 s36' s37' b0' c0 c1 c2 c3 c4 c8 c10 c15 c17
                  · skip
                    exact l11_1_w2 m n x0 x2 s7 s25 s26 s36' s37' b0' _ c0 c1 c2 c3 c4 c8 c10 c15 c17 (ih _ _ _ _ _ _ _ _ q h)
                · skip
                  cases h
              · skip
                exact l11_1_w3 m n x0 x2 s7 s25 s26 s36' s37' b0' _ c0 c1 c2 c3 c4 c8 c10 (ih _ _ _ _ _ _ _ _ q h)
            · skip
              cases h
        · skip
          cases h
      · skip
        cases h
    · skip
      cases h
  · skip
    cases h
    exact l11_1_w4 m n x0 x2 s7 s25 s26 s36' s37' b0' c0
set_option maxHeartbeats 20000000 in
theorem l11_1_ok (m : Nat) : ∀ (n : Nat) (x0 : List (List ((List UInt8) × (List UInt8)))) (x2 : List ((List ((List UInt8) × (List UInt8) × Int)) × (List ((List UInt8) × (List UInt8) × Int)) × (List (List UInt8)))) (s7 : List ((List UInt8) × (List UInt8))) (s25 : Int) (s26 : Int) (s36' : Int) (s37' : Int) (b0' : (List ((List UInt8) × (List UInt8) × Int)) × (List ((List UInt8) × (List UInt8) × Int)) × (List (List UInt8))) (q : Nat × Int), l11_1 m n x0 x2 s7 s25 s26 s36' s37' b0' = some q → (turns (hds 11 240635609729) 0 240635609729 (evC byref (evCall F S11 (m + 24)) (m + 24) 0 (hds 11) lbl11_1) n (l11_1H x0 x2 s7 s25 s26 s36' s37' b0') (l11_1B x0 x2 s7 s25 s26 s36' s37' b0')).run = some (l11_1E (x0) (x2) (s7) (s25) (s26) (s36') (q.2) (b0') q.1)
  | 0, x0, x2, s7, s25, s26, s36', s37', b0', q, h => by cases h
  | n + 1, x0, x2, s7, s25, s26, s36', s37', b0', q, h => l11_1_step m n (l11_1_ok m n) x0 x2 s7 s25 s26 s36' s37' b0' q h

def l11_0 (m : Nat) : Nat → List (List ((List UInt8) × (List UInt8))) → List ((List ((List UInt8) × (List UInt8) × Int)) × (List ((List UInt8) × (List UInt8) × Int)) × (List (List UInt8))) → List ((List UInt8) × (List UInt8)) → Int → Int → Option (Nat × Int)
  | 0, _, _, _, _, _ => none
  | n + 1, x0, x2, s7, s25, s26 => if decide (s26 < s25) = true then
      if decide (0 ≤ s26) = true then
        if decide (s26 < (((List.length x2) : Nat) : Int)) = true then
          if decide (List.length s7 ≤ 1000000 ∧ List.length (List.getD x2 (Int.toNat s26) (([] : List ((List UInt8) × (List UInt8) × Int)), (([] : List ((List UInt8) × (List UInt8) × Int)), ([] : List (List UInt8))))).2.1 ≤ 9223372036854775807) = true then
            if (allG s7 (List.getD x2 (Int.toNat s26) (([] : List ((List UInt8) × (List UInt8) × Int)), (([] : List ((List UInt8) × (List UInt8) × Int)), ([] : List (List UInt8))))).2.1) = true then
              if (Option.isSome (l11_1 m (m + 24) x0 x2 s7 s25 s26 ((((List.length x0) : Nat) : Int)) 0 ((List.getD x2 (Int.toNat s26) (([] : List ((List UInt8) × (List UInt8) × Int)), (([] : List ((List UInt8) × (List UInt8) × Int)), ([] : List (List UInt8)))))))) = true then
                if ((l11_1R m (m + 24) x0 x2 s7 s25 s26 ((((List.length x0) : Nat) : Int)) 0 ((List.getD x2 (Int.toNat s26) (([] : List ((List UInt8) × (List UInt8) × Int)), (([] : List ((List UInt8) × (List UInt8) × Int)), ([] : List (List UInt8))))))).1 == 0) = true then
                  some (0, s26)
                else
                  if ((l11_1R m (m + 24) x0 x2 s7 s25 s26 ((((List.length x0) : Nat) : Int)) 0 ((List.getD x2 (Int.toNat s26) (([] : List ((List UInt8) × (List UInt8) × Int)), (([] : List ((List UInt8) × (List UInt8) × Int)), ([] : List (List UInt8))))))).1 == 1) = true then
                    l11_0 m n x0 x2 s7 s25 ((IntKind.wrap .i64 (s26 + (1))))
                  else
                    none
              else
                none
            else
              l11_0 m n x0 x2 s7 s25 ((IntKind.wrap .i64 (s26 + (1))))
          else
            none
        else
          none
      else
        none
    else
      some (1, s26)
def l11_0D : Nat × Int := (0, 0)
@[reducible] def l11_0R (m n : Nat) (x0 : List (List ((List UInt8) × (List UInt8)))) (x2 : List ((List ((List UInt8) × (List UInt8) × Int)) × (List ((List UInt8) × (List UInt8) × Int)) × (List (List UInt8)))) (s7 : List ((List UInt8) × (List UInt8))) (s25 : Int) (s26 : Int) : Nat × Int := Option.getD (l11_0 m n x0 x2 s7 s25 s26) l11_0D
def l11_0H (x0 : List (List ((List UInt8) × (List UInt8)))) (x2 : List ((List ((List UInt8) × (List UInt8) × Int)) × (List ((List UInt8) × (List UInt8) × Int)) × (List (List UInt8)))) (s7 : List ((List UInt8) × (List UInt8))) (s25 : Int) (s26 : Int) : Env := [(.d (.sl (.sl (.pair .str .str)) x0)), .top, .top, .top, .top, .top, .top, (.d (.sl (.pair .str .str) s7)), .top, .top, .top, .top, .top, .top, .top, .top, .top, .top, .top, .top, .top, .top, .top, .top, (.d (.sl (.pair (.sl (.pair .str (.pair .str (.int .i64)))) (.pair (.sl (.pair .str (.pair .str (.int .i64)))) (.sl .str))) x2)), (.d (.int .i64 s25)), (.d (.int .i64 s26)), .top, .top, .top, .top, .top, .top, .top, .top, .top, .top, .top, .top, .top, .top, .top, .top, .top, .top, .top, .top, .top, .top, .top, .top, .top, .top, .top, .top, .top, .top, .top, .top, .top]
def l11_0B (x0 : List (List ((List UInt8) × (List UInt8)))) (x2 : List ((List ((List UInt8) × (List UInt8) × Int)) × (List ((List UInt8) × (List UInt8) × Int)) × (List (List UInt8)))) (s7 : List ((List UInt8) × (List UInt8))) (s25 : Int) (s26 : Int) : Boxes := []
def l11_0E (m : Nat) (x0 : List (List ((List UInt8) × (List UInt8)))) (x2 : List ((List ((List UInt8) × (List UInt8) × Int)) × (List ((List UInt8) × (List UInt8) × Int)) × (List (List UInt8)))) (s7 : List ((List UInt8) × (List UInt8))) (s25 : Int) (s26 : Int) : Nat → AEx × Env × Boxes
  | 0 => (.ret, [(.d (.sl (.sl (.pair .str .str)) x0)), .top, .top, .top, .top, .top, (.d (.bool true)), (.d (.sl (.pair .str .str) s7)), .top, (.ptr 0 0), .top, (.d (.sl (.pair .str .str) (List.getD x0 (Int.toNat (l11_1R m (m + 24) x0 x2 s7 s25 s26 ((((List.length x0) : Nat) : Int)) 0 ((List.getD x2 (Int.toNat s26) (([] : List ((List UInt8) × (List UInt8) × Int)), (([] : List ((List UInt8) × (List UInt8) × Int)), ([] : List (List UInt8))))))).2) ([] : List ((List UInt8) × (List UInt8)))))), .top, .top, .top, .top, .top, .top, .top, .top, .top, .top, .top, .top, (.d (.sl (.pair (.sl (.pair .str (.pair .str (.int .i64)))) (.pair (.sl (.pair .str (.pair .str (.int .i64)))) (.sl .str))) x2)), (.d (.int .i64 s25)), (.d (.int .i64 s26)), .top, .top, .top, .top, .top, .top, .top, .top, (.d (.sl (.sl (.pair .str .str)) x0)), (.d (.int .i64 ((((List.length x0) : Nat) : Int)))), (.d (.int .i64 (l11_1R m (m + 24) x0 x2 s7 s25 s26 ((((List.length x0) : Nat) : Int)) 0 ((List.getD x2 (Int.toNat s26) (([] : List ((List UInt8) × (List UInt8) × Int)), (([] : List ((List UInt8) × (List UInt8) × Int)), ([] : List (List UInt8))))))).2)), (.d (.bool (decide ((l11_1R m (m + 24) x0 x2 s7 s25 s26 ((((List.length x0) : Nat) : Int)) 0 ((List.getD x2 (Int.toNat s26) (([] : List ((List UInt8) × (List UInt8) × Int)), (([] : List ((List UInt8) × (List UInt8) × Int)), ([] : List (List UInt8))))))).2 < ((((List.length x0) : Nat) : Int)))))), (.cptr [(.sl (.pair .str .str) (List.getD x0 (Int.toNat (l11_1R m (m + 24) x0 x2 s7 s25 s26 ((((List.length x0) : Nat) : Int)) 0 ((List.getD x2 (Int.toNat s26) (([] : List ((List UInt8) × (List UInt8) × Int)), (([] : List ((List UInt8) × (List UInt8) × Int)), ([] : List (List UInt8))))))).2) ([] : List ((List UInt8) × (List UInt8)))))] 0), (.d (.sl (.pair .str .str) (List.getD x0 (Int.toNat (l11_1R m (m + 24) x0 x2 s7 s25 s26 ((((List.length x0) : Nat) : Int)) 0 ((List.getD x2 (Int.toNat s26) (([] : List ((List UInt8) × (List UInt8) × Int)), (([] : List ((List UInt8) × (List UInt8) × Int)), ([] : List (List UInt8))))))).2) ([] : List ((List UInt8) × (List UInt8)))))), (.d (.sl (.pair .str .str) (List.getD x0 (Int.toNat (l11_1R m (m + 24) x0 x2 s7 s25 s26 ((((List.length x0) : Nat) : Int)) 0 ((List.getD x2 (Int.toNat s26) (([] : List ((List UInt8) × (List UInt8) × Int)), (([] : List ((List UInt8) × (List UInt8) × Int)), ([] : List (List UInt8))))))).2) ([] : List ((List UInt8) × (List UInt8)))))), (.d (.sl (.pair .str .str) s7)), (.d (.bool ((show List ((List UInt8) × (List UInt8)) from (List.getD x0 (Int.toNat (l11_1R m (m + 24) x0 x2 s7 s25 s26 ((((List.length x0) : Nat) : Int)) 0 ((List.getD x2 (Int.toNat s26) (([] : List ((List UInt8) × (List UInt8) × Int)), (([] : List ((List UInt8) × (List UInt8) × Int)), ([] : List (List UInt8))))))).2) ([] : List ((List UInt8) × (List UInt8))))) == s7))), (.d (.bool (!((show List ((List UInt8) × (List UInt8)) from (List.getD x0 (Int.toNat (l11_1R m (m + 24) x0 x2 s7 s25 s26 ((((List.length x0) : Nat) : Int)) 0 ((List.getD x2 (Int.toNat s26) (([] : List ((List UInt8) × (List UInt8) × Int)), (([] : List ((List UInt8) × (List UInt8) × Int)), ([] : List (List UInt8))))))).2) ([] : List ((List UInt8) × (List UInt8))))) == s7)))), (.d (.bool (!((show List ((List UInt8) × (List UInt8)) from (List.getD x0 (Int.toNat (l11_1R m (m + 24) x0 x2 s7 s25 s26 ((((List.length x0) : Nat) : Int)) 0 ((List.getD x2 (Int.toNat s26) (([] : List ((List UInt8) × (List UInt8) × Int)), (([] : List ((List UInt8) × (List UInt8) × Int)), ([] : List (List UInt8))))))).2) ([] : List ((List UInt8) × (List UInt8))))) == s7)))), (.d (.sl (.pair .str .str) (List.getD x0 (Int.toNat (l11_1R m (m + 24) x0 x2 s7 s25 s26 ((((List.length x0) : Nat) : Int)) 0 ((List.getD x2 (Int.toNat s26) (([] : List ((List UInt8) × (List UInt8) × Int)), (([] : List ((List UInt8) × (List UInt8) × Int)), ([] : List (List UInt8))))))).2) ([] : List ((List UInt8) × (List UInt8)))))), (.ptr 0 0), (.d (.sl (.pair .str (.pair .str (.int .i64))) ((List.getD x2 (Int.toNat s26) (([] : List ((List UInt8) × (List UInt8) × Int)), (([] : List ((List UInt8) × (List UInt8) × Int)), ([] : List (List UInt8)))))).1)), (.d (.bool (allG (List.getD x0 (Int.toNat (l11_1R m (m + 24) x0 x2 s7 s25 s26 ((((List.length x0) : Nat) : Int)) 0 ((List.getD x2 (Int.toNat s26) (([] : List ((List UInt8) × (List UInt8) × Int)), (([] : List ((List UInt8) × (List UInt8) × Int)), ([] : List (List UInt8))))))).2) ([] : List ((List UInt8) × (List UInt8)))) ((List.getD x2 (Int.toNat s26) (([] : List ((List UInt8) × (List UInt8) × Int)), (([] : List ((List UInt8) × (List UInt8) × Int)), ([] : List (List UInt8)))))).1))), (.d (.bool (allG (List.getD x0 (Int.toNat (l11_1R m (m + 24) x0 x2 s7 s25 s26 ((((List.length x0) : Nat) : Int)) 0 ((List.getD x2 (Int.toNat s26) (([] : List ((List UInt8) × (List UInt8) × Int)), (([] : List ((List UInt8) × (List UInt8) × Int)), ([] : List (List UInt8))))))).2) ([] : List ((List UInt8) × (List UInt8)))) ((List.getD x2 (Int.toNat s26) (([] : List ((List UInt8) × (List UInt8) × Int)), (([] : List ((List UInt8) × (List UInt8) × Int)), ([] : List (List UInt8)))))).1))), (.d (.bool (allG (List.getD x0 (Int.toNat (l11_1R m (m + 24) x0 x2 s7 s25 s26 ((((List.length x0) : Nat) : Int)) 0 ((List.getD x2 (Int.toNat s26) (([] : List ((List UInt8) × (List UInt8) × Int)), (([] : List ((List UInt8) × (List UInt8) × Int)), ([] : List (List UInt8))))))).2) ([] : List ((List UInt8) × (List UInt8)))) ((List.getD x2 (Int.toNat s26) (([] : List ((List UInt8) × (List UInt8) × Int)), (([] : List ((List UInt8) × (List UInt8) × Int)), ([] : List (List UInt8)))))).1))), (.d (.sl (.pair .str .str) (List.getD x0 (Int.toNat (l11_1R m (m + 24) x0 x2 s7 s25 s26 ((((List.length x0) : Nat) : Int)) 0 ((List.getD x2 (Int.toNat s26) (([] : List ((List UInt8) × (List UInt8) × Int)), (([] : List ((List UInt8) × (List UInt8) × Int)), ([] : List (List UInt8))))))).2) ([] : List ((List UInt8) × (List UInt8)))))), (.d (.sl (.pair .str .str) s7)), (.ptr 0 2), (.d (.sl .str ((List.getD x2 (Int.toNat s26) (([] : List ((List UInt8) × (List UInt8) × Int)), (([] : List ((List UInt8) × (List UInt8) × Int)), ([] : List (List UInt8)))))).2.2)), (.d (.bool (equG (List.getD x0 (Int.toNat (l11_1R m (m + 24) x0 x2 s7 s25 s26 ((((List.length x0) : Nat) : Int)) 0 ((List.getD x2 (Int.toNat s26) (([] : List ((List UInt8) × (List UInt8) × Int)), (([] : List ((List UInt8) × (List UInt8) × Int)), ([] : List (List UInt8))))))).2) ([] : List ((List UInt8) × (List UInt8)))) s7 ((List.getD x2 (Int.toNat s26) (([] : List ((List UInt8) × (List UInt8) × Int)), (([] : List ((List UInt8) × (List UInt8) × Int)), ([] : List (List UInt8)))))).2.2))), (.d (.bool (equG (List.getD x0 (Int.toNat (l11_1R m (m + 24) x0 x2 s7 s25 s26 ((((List.length x0) : Nat) : Int)) 0 ((List.getD x2 (Int.toNat s26) (([] : List ((List UInt8) × (List UInt8) × Int)), (([] : List ((List UInt8) × (List UInt8) × Int)), ([] : List (List UInt8))))))).2) ([] : List ((List UInt8) × (List UInt8)))) s7 ((List.getD x2 (Int.toNat s26) (([] : List ((List UInt8) × (List UInt8) × Int)), (([] : List ((List UInt8) × (List UInt8) × Int)), ([] : List (List UInt8)))))).2.2))), .top, .top], [(.cells [(.d (.sl (.pair .str (.pair .str (.int .i64))) ((List.getD x2 (Int.toNat s26) (([] : List ((List UInt8) × (List UInt8) × Int)), (([] : List ((List UInt8) × (List UInt8) × Int)), ([] : List (List UInt8)))))).1)), (.d (.sl (.pair .str (.pair .str (.int .i64))) ((List.getD x2 (Int.toNat s26) (([] : List ((List UInt8) × (List UInt8) × Int)), (([] : List ((List UInt8) × (List UInt8) × Int)), ([] : List (List UInt8)))))).2.1)), (.d (.sl .str ((List.getD x2 (Int.toNat s26) (([] : List ((List UInt8) × (List UInt8) × Int)), (([] : List ((List UInt8) × (List UInt8) × Int)), ([] : List (List UInt8)))))).2.2))])])
  | _ => (.exit 0, [(.d (.sl (.sl (.pair .str .str)) x0)), .top, .top, .top, .top, .top, .top, (.d (.sl (.pair .str .str) s7)), .top, .top, .top, .top, .top, .top, .top, .top, .top, .top, .top, .top, .top, .top, .top, .top, (.d (.sl (.pair (.sl (.pair .str (.pair .str (.int .i64)))) (.pair (.sl (.pair .str (.pair .str (.int .i64)))) (.sl .str))) x2)), (.d (.int .i64 s25)), (.d (.int .i64 s26)), (.d (.bool (decide (s26 < s25)))), .top, .top, .top, .top, .top, .top, .top, .top, .top, .top, .top, .top, .top, .top, .top, .top, .top, .top, .top, .top, .top, .top, .top, .top, .top, .top, .top, .top, .top, .top, .top, .top], [])
noncomputable def lbl11_0 : AC := loopBody 117440641 body11

set_option maxHeartbeats 20000000 in
theorem l11_0_w0 (m n : Nat) (x0 : List (List ((List UInt8) × (List UInt8)))) (x2 : List ((List ((List UInt8) × (List UInt8) × Int)) × (List ((List UInt8) × (List UInt8) × Int)) × (List (List UInt8)))) (s7 : List ((List UInt8) × (List UInt8))) (s25 : Int) (s26 : Int) (c0 : decide (s26 < s25) = true) (c1 : decide (0 ≤ s26) = true) (c2 : decide (s26 < (((List.length x2) : Nat) : Int)) = true) (c3 : decide (List.length s7 ≤ 1000000 ∧ List.length (List.getD x2 (Int.toNat s26) (([] : List ((List UInt8) × (List UInt8) × Int)), (([] : List ((List UInt8) × (List UInt8) × Int)), ([] : List (List UInt8))))).2.1 ≤ 9223372036854775807) = true) (c4 : (allG s7 (List.getD x2 (Int.toNat s26) (([] : List ((List UInt8) × (List UInt8) × Int)), (([] : List ((List UInt8) × (List UInt8) × Int)), ([] : List (List UInt8))))).2.1) = true) (c5 : (Option.isSome (l11_1 m (m + 24) x0 x2 s7 s25 s26 ((((List.length x0) : Nat) : Int)) 0 ((List.getD x2 (Int.toNat s26) (([] : List ((List UInt8) × (List UInt8) × Int)), (([] : List ((List UInt8) × (List UInt8) × Int)), ([] : List (List UInt8)))))))) = true) (c6 : ((l11_1R m (m + 24) x0 x2 s7 s25 s26 ((((List.length x0) : Nat) : Int)) 0 ((List.getD x2 (Int.toNat s26) (([] : List ((List UInt8) × (List UInt8) × Int)), (([] : List ((List UInt8) × (List UInt8) × Int)), ([] : List (List UInt8))))))).1 == 0) = true) : (turns (hds 11 117440641) 0 117440641 (evC byref (evCall F S11 (m + 24)) (m + 24) 0 (hds 11) lbl11_0) (n + 1) (l11_0H x0 x2 s7 s25 s26) (l11_0B x0 x2 s7 s25 s26)).run = some (let r2 := (equG (List.getD x0 (Int.toNat (l11_1R m (m + 24) x0 x2 s7 s25 s26 ((((List.length x0) : Nat) : Int)) 0 ((List.getD x2 (Int.toNat s26) (([] : List ((List UInt8) × (List UInt8) × Int)), (([] : List ((List UInt8) × (List UInt8) × Int)), ([] : List (List UInt8))))))).2) ([] : List ((List UInt8) × (List UInt8)))) s7 ((List.getD x2 (Int.toNat s26) (([] : List ((List UInt8) × (List UInt8) × Int)), (([] : List ((List UInt8) × (List UInt8) × Int)), ([] : List (List UInt8)))))).2.2); let r1 := (allG (List.getD x0 (Int.toNat (l11_1R m (m + 24) x0 x2 s7 s25 s26 ((((List.length x0) : Nat) : Int)) 0 ((List.getD x2 (Int.toNat s26) (([] : List ((List UInt8) × (List UInt8) × Int)), (([] : List ((List UInt8) × (List UInt8) × Int)), ([] : List (List UInt8))))))).2) ([] : List ((List UInt8) × (List UInt8)))) ((List.getD x2 (Int.toNat s26) (([] : List ((List UInt8) × (List UInt8) × Int)), (([] : List ((List UInt8) × (List UInt8) × Int)), ([] : List (List UInt8)))))).1); (.ret, [(.d (.sl (.sl (.pair .str .str)) x0)), .top, .top, .top, .top, .top, (.d (.bool true)), (.d (.sl (.pair .str .str) s7)), .top, (.ptr 0 0), .top, (.d (.sl (.pair .str .str) (List.getD x0 (Int.toNat (l11_1R m (m + 24) x0 x2 s7 s25 s26 ((((List.length x0) : Nat) : Int)) 0 ((List.getD x2 (Int.toNat s26) (([] : List ((List UInt8) × (List UInt8) × Int)), (([] : List ((List UInt8) × (List UInt8) × Int)), ([] : List (List UInt8))))))).2) ([] : List ((List UInt8) × (List UInt8)))))), .top, .top, .top, .top, .top, .top, .top, .top, .top, .top, .top, .top, (.d (.sl (.pair (.sl (.pair .str (.pair .str (.int .i64)))) (.pair (.sl (.pair .str (.pair .str (.int .i64)))) (.sl .str))) x2)), (.d (.int .i64 s25)), (.d (.int .i64 s26)), .top, .top, .top, .top, .top, .top, .top, .top, (.d (.sl (.sl (.pair .str .str)) x0)), (.d (.int .i64 ((((List.length x0) : Nat) : Int)))), (.d (.int .i64 (l11_1R m (m + 24) x0 x2 s7 s25 s26 ((((List.length x0) : Nat) : Int)) 0 ((List.getD x2 (Int.toNat s26) (([] : List ((List UInt8) × (List UInt8) × Int)), (([] : List ((List UInt8) × (List UInt8) × Int)), ([] : List (List UInt8))))))).2)), (.d (.bool (decide ((l11_1R m (m + 24) x0 x2 s7 s25 s26 ((((List.length x0) : Nat) : Int)) 0 ((List.getD x2 (Int.toNat s26) (([] : List ((List UInt8) × (List UInt8) × Int)), (([] : List ((List UInt8) × (List UInt8) × Int)), ([] : List (List UInt8))))))).2 < ((((List.length x0) : Nat) : Int)))))), (.cptr [(.sl (.pair .str .str) (List.getD x0 (Int.toNat (l11_1R m (m + 24) x0 x2 s7 s25 s26 ((((List.length x0) : Nat) : Int)) 0 ((List.getD x2 (Int.toNat s26) (([] : List ((List UInt8) × (List UInt8) × Int)), (([] : List ((List UInt8) × (List UInt8) × Int)), ([] : List (List UInt8))))))).2) ([] : List ((List UInt8) × (List UInt8)))))] 0), (.d (.sl (.pair .str .str) (List.getD x0 (Int.toNat (l11_1R m (m + 24) x0 x2 s7 s25 s26 ((((List.length x0) : Nat) : Int)) 0 ((List.getD x2 (Int.toNat s26) (([] : List ((List UInt8) × (List UInt8) × Int)), (([] : List ((List UInt8) × (List UInt8) × Int)), ([] : List (List UInt8))))))).2) ([] : List ((List UInt8) × (List UInt8)))))), (.d (.sl (.pair .str .str) (List.getD x0 (Int.toNat (l11_1R m (m + 24) x0 x2 s7 s25 s26 ((((List.length x0) : Nat) : Int)) 0 ((List.getD x2 (Int.toNat s26) (([] : List ((List UInt8) × (List UInt8) × Int)), (([] : List ((List UInt8) × (List UInt8) × Int)), ([] : List (List UInt8))))))).2) ([] : List ((List UInt8) × (List UInt8)))))), (.d (.sl (.pair .str .str) s7)), (.d (.bool ((show List ((List UInt8) × (List UInt8)) from (List.getD x0 (Int.toNat (l11_1R m (m + 24) x0 x2 s7 s25 s26 ((((List.length x0) : Nat) : Int)) 0 ((List.getD x2 (Int.toNat s26) (([] : List ((List UInt8) × (List UInt8) × Int)), (([] : List ((List UInt8) × (List UInt8) × Int)), ([] : List (List UInt8))))))).2) ([] : List ((List UInt8) × (List UInt8))))) == s7))), (.d (.bool (!((show List ((List UInt8) × (List UInt8)) from (List.getD x0 (Int.toNat (l11_1R m (m + 24) x0 x2 s7 s25 s26 ((((List.length x0) : Nat) : Int)) 0 ((List.getD x2 (Int.toNat s26) (([] : List ((List UInt8) × (List UInt8) × Int)), (([] : List ((List UInt8) × (List UInt8) × Int)), ([] : List (List UInt8))))))).2) ([] : List ((List UInt8) × (List UInt8))))) == s7)))), (.d (.bool (!((show List ((List UInt8) × (List UInt8)) from (List.getD x0 (Int.toNat (l11_1R m (m + 24) x0 x2 s7 s25 s26 ((((List.length x0) : Nat) : Int)) 0 ((List.getD x2 (Int.toNat s26) (([] : List ((List UInt8) × (List UInt8) × Int)), (([] : List ((List UInt8) × (List UInt8) × Int)), ([] : List (List UInt8))))))).2) ([] : List ((List UInt8) × (List UInt8))))) == s7)))), (.d (.sl (.pair .str .str) (List.getD x0 (Int.toNat (l11_1R m (m + 24) x0 x2 s7 s25 s26 ((((List.length x0) : Nat) : Int)) 0 ((List.getD x2 (Int.toNat s26) (([] : List ((List UInt8) × (List UInt8) × Int)), (([] : List ((List UInt8) × (List UInt8) × Int)), ([] : List (List UInt8))))))).2) ([] : List ((List UInt8) × (List UInt8)))))), (.ptr 0 0), (.d (.sl (.pair .str (.pair .str (.int .i64))) ((List.getD x2 (Int.toNat s26) (([] : List ((List UInt8) × (List UInt8) × Int)), (([] : List ((List UInt8) × (List UInt8) × Int)), ([] : List (List UInt8)))))).1)), (.d (.bool r1)), (.d (.bool r1)), (.d (.bool r1)), (.d (.sl (.pair .str .str) (List.getD x0 (Int.toNat (l11_1R m (m + 24) x0 x2 s7 s25 s26 ((((List.length x0) : Nat) : Int)) 0 ((List.getD x2 (Int.toNat s26) (([] : List ((List UInt8) × (List UInt8) × Int)), (([] : List ((List UInt8) × (List UInt8) × Int)), ([] : List (List UInt8))))))).2) ([] : List ((List UInt8) × (List UInt8)))))), (.d (.sl (.pair .str .str) s7)), (.ptr 0 2), (.d (.sl .str ((List.getD x2 (Int.toNat s26) (([] : List ((List UInt8) × (List UInt8) × Int)), (([] : List ((List UInt8) × (List UInt8) × Int)), ([] : List (List UInt8)))))).2.2)), (.d (.bool r2)), (.d (.bool r2)), .top, .top], [(.cells [(.d (.sl (.pair .str (.pair .str (.int .i64))) ((List.getD x2 (Int.toNat s26) (([] : List ((List UInt8) × (List UInt8) × Int)), (([] : List ((List UInt8) × (List UInt8) × Int)), ([] : List (List UInt8)))))).1)), (.d (.sl (.pair .str (.pair .str (.int .i64))) ((List.getD x2 (Int.toNat s26) (([] : List ((List UInt8) × (List UInt8) × Int)), (([] : List ((List UInt8) × (List UInt8) × Int)), ([] : List (List UInt8)))))).2.1)), (.d (.sl .str ((List.getD x2 (Int.toNat s26) (([] : List ((List UInt8) × (List UInt8) × Int)), (([] : List ((List UInt8) × (List UInt8) × Int)), ([] : List (List UInt8)))))).2.2))])])) := by
  have ht : (turn (hds 11 117440641) 0 117440641 (evC byref (evCall F S11 (m + 24)) (m + 24) 0 (hds 11) lbl11_0) (l11_0H x0 x2 s7 s25 s26) (l11_0B x0 x2 s7 s25 s26)).run = some (let r2 := (equG (List.getD x0 (Int.toNat (l11_1R m (m + 24) x0 x2 s7 s25 s26 ((((List.length x0) : Nat) : Int)) 0 ((List.getD x2 (Int.toNat s26) (([] : List ((List UInt8) × (List UInt8) × Int)), (([] : List ((List UInt8) × (List UInt8) × Int)), ([] : List (List UInt8))))))).2) ([] : List ((List UInt8) × (List UInt8)))) s7 ((List.getD x2 (Int.toNat s26) (([] : List ((List UInt8) × (List UInt8) × Int)), (([] : List ((List UInt8) × (List UInt8) × Int)), ([] : List (List UInt8)))))).2.2); let r1 := (allG (List.getD x0 (Int.toNat (l11_1R m (m + 24) x0 x2 s7 s25 s26 ((((List.length x0) : Nat) : Int)) 0 ((List.getD x2 (Int.toNat s26) (([] : List ((List UInt8) × (List UInt8) × Int)), (([] : List ((List UInt8) × (List UInt8) × Int)), ([] : List (List UInt8))))))).2) ([] : List ((List UInt8) × (List UInt8)))) ((List.getD x2 (Int.toNat s26) (([] : List ((List UInt8) × (List UInt8) × Int)), (([] : List ((List UInt8) × (List UInt8) × Int)), ([] : List (List UInt8)))))).1); (.ret, [(.d (.sl (.sl (.pair .str .str)) x0)), .top, .top, .top, .top, .top, (.d (.bool true)), (.d (.sl (.pair .str .str) s7)), .top, (.ptr 0 0), .top, (.d (.sl (.pair .str .str) (List.getD x0 (Int.toNat (l11_1R m (m + 24) x0 x2 s7 s25 s26 ((((List.length x0) : Nat) : Int)) 0 ((List.getD x2 (Int.toNat s26) (([] : List ((List UInt8) × (List UInt8) × Int)), (([] : List ((List UInt8) × (List UInt8) × Int)), ([] : List (List UInt8))))))).2) ([] : List ((List UInt8) × (List UInt8)))))), .top, .top, .top, .top, .top, .top, .top, .top, .top, .top, .top, .top, (.d (.sl (.pair (.sl (.pair .str (.pair .str (.int .i64)))) (.pair (.sl (.pair .str (.pair .str (.int .i64)))) (.sl .str))) x2)), (.d (.int .i64 s25)), (.d (.int .i64 s26)), .top, .top, .top, .top, .top, .top, .top, .top, (.d (.sl (.sl (.pair .str .str)) x0)), (.d (.int .i64 ((((List.length x0) : Nat) : Int)))), (.d (.int .i64 (l11_1R m (m + 24) x0 x2 s7 s25 s26 ((((List.length x0) : Nat) : Int)) 0 ((List.getD x2 (Int.toNat s26) (([] : List ((List UInt8) × (List UInt8) × Int)), (([] : List ((List UInt8) × (List UInt8) × Int)), ([] : List (List UInt8))))))).2)), (.d (.bool (decide ((l11_1R m (m + 24) x0 x2 s7 s25 s26 ((((List.length x0) : Nat) : Int)) 0 ((List.getD x2 (Int.toNat s26) (([] : List ((List UInt8) × (List UInt8) × Int)), (([] : List ((List UInt8) × (List UInt8) × Int)), ([] : List (List UInt8))))))).2 < ((((List.length x0) : Nat) : Int)))))), (.cptr [(.sl (.pair .str .str) (List.getD x0 (Int.toNat (l11_1R m (m + 24) x0 x2 s7 s25 s26 ((((List.length x0) : Nat) : Int)) 0 ((List.getD x2 (Int.toNat s26) (([] : List ((List UInt8) × (List UInt8) × Int)), (([] : List ((List UInt8) × (List UInt8) × Int)), ([] : List (List UInt8))))))).2) ([] : List ((List UInt8) × (List UInt8)))))] 0), (.d (.sl (.pair .str .str) (List.getD x0 (Int.toNat (l11_1R m (m + 24) x0 x2 s7 s25 s26 ((((List.length x0) : Nat) : Int)) 0 ((List.getD x2 (Int.toNat s26) (([] : List ((List UInt8) × (List UInt8) × Int)), (([] : List ((List UInt8) × (List UInt8) × Int)), ([] : List (List UInt8))))))).2) ([] : List ((List UInt8) × (List UInt8)))))), (.d (.sl (.pair .str .str) (List.getD x0 (Int.toNat (l11_1R m (m + 24) x0 x2 s7 s25 s26 ((((List.length x0) : Nat) : Int)) 0 ((List.getD x2 (Int.toNat s26) (([] : List ((List UInt8) × (List UInt8) × Int)), (([] : List ((List UInt8) × (List UInt8) × Int)), ([] : List (List UInt8))))))).2) ([] : List ((List UInt8) × (List UInt8)))))), (.d (.sl (.pair .str .str) s7)), (.d (.bool ((show List ((List UInt8) × (List UInt8)) from (List.getD x0 (Int.toNat (l11_1R m (m + 24) x0 x2 s7 s25 s26 ((((List.length x0) : Nat) : Int)) 0 ((List.getD x2 (Int.toNat s26) (([] : List ((List UInt8) × (List UInt8) × Int)), (([] : List ((List UInt8) × (List UInt8) × Int)), ([] : List (List UInt8))))))).2) ([] : List ((List UInt8) × (List UInt8))))) == s7))), (.d (.bool (!((show List ((List UInt8) × (List UInt8)) from (List.getD x0 (Int.toNat (l11_1R m (m + 24) x0 x2 s7 s25 s26 ((((List.length x0) : Nat) : Int)) 0 ((List.getD x2 (Int.toNat s26) (([] : List ((List UInt8) × (List UInt8) × Int)), (([] : List ((List UInt8) × (List UInt8) × Int)), ([] : List (List UInt8))))))).2) ([] : List ((List UInt8) × (List UInt8))))) == s7)))), (.d (.bool (!((show List ((List UInt8) × (List UInt8)) from (List.getD x0 (Int.toNat (l11_1R m (m + 24) x0 x2 s7 s25 s26 ((((List.length x0) : Nat) : Int)) 0 ((List.getD x2 (Int.toNat s26) (([] : List ((List UInt8) × (List UInt8) × Int)), (([] : List ((List UInt8) × (List UInt8) × Int)), ([] : List (List UInt8))))))).2) ([] : List ((List UInt8) × (List UInt8))))) == s7)))), (.d (.sl (.pair .str .str) (List.getD x0 (Int.toNat (l11_1R m (m + 24) x0 x2 s7 s25 s26 ((((List.length x0) : Nat) : Int)) 0 ((List.getD x2 (Int.toNat s26) (([] : List ((List UInt8) × (List UInt8) × Int)), (([] : List ((List UInt8) × (List UInt8) × Int)), ([] : List (List UInt8))))))).2) ([] : List ((List UInt8) × (List UInt8)))))), (.ptr 0 0), (.d (.sl (.pair .str (.pair .str (.int .i64))) ((List.getD x2 (Int.toNat s26) (([] : List ((List UInt8) × (List UInt8) × Int)), (([] : List ((List UInt8) × (List UInt8) × Int)), ([] : List (List UInt8)))))).1)), (.d (.bool r1)), (.d (.bool r1)), (.d (.bool r1)), (.d (.sl (.pair .str .str) (List.getD x0 (Int.toNat (l11_1R m (m + 24) x0 x2 s7 s25 s26 ((((List.length x0) : Nat) : Int)) 0 ((List.getD x2 (Int.toNat s26) (([] : List ((List UInt8) × (List UInt8) × Int)), (([] : List ((List UInt8) × (List UInt8) × Int)), ([] : List (List UInt8))))))).2) ([] : List ((List UInt8) × (List UInt8)))))), (.d (.sl (.pair .str .str) s7)), (.ptr 0 2), (.d (.sl .str ((List.getD x2 (Int.toNat s26) (([] : List ((List UInt8) × (List UInt8) × Int)), (([] : List ((List UInt8) × (List UInt8) × Int)), ([] : List (List UInt8)))))).2.2)), (.d (.bool r2)), (.d (.bool r2)), .top, .top], [(.cells [(.d (.sl (.pair .str (.pair .str (.int .i64))) ((List.getD x2 (Int.toNat s26) (([] : List ((List UInt8) × (List UInt8) × Int)), (([] : List ((List UInt8) × (List UInt8) × Int)), ([] : List (List UInt8)))))).1)), (.d (.sl (.pair .str (.pair .str (.int .i64))) ((List.getD x2 (Int.toNat s26) (([] : List ((List UInt8) × (List UInt8) × Int)), (([] : List ((List UInt8) × (List UInt8) × Int)), ([] : List (List UInt8)))))).2.1)), (.d (.sl .str ((List.getD x2 (Int.toNat s26) (([] : List ((List UInt8) × (List UInt8) × Int)), (([] : List ((List UInt8) × (List UInt8) × Int)), ([] : List (List UInt8)))))).2.2))])])) := by
    refine turnT_ok (LS := (fun k => if k = 240635609729 then some (l11_1E x0 x2 s7 s25 s26 (((((List.length x0) : Nat) : Int))) ((l11_1R m (m + 24) x0 x2 s7 s25 s26 ((((List.length x0) : Nat) : Int)) 0 ((List.getD x2 (Int.toNat s26) (([] : List ((List UInt8) × (List UInt8) × Int)), (([] : List ((List UInt8) × (List UInt8) × Int)), ([] : List (List UInt8))))))).2) (((List.getD x2 (Int.toNat s26) (([] : List ((List UInt8) × (List UInt8) × Int)), (([] : List ((List UInt8) × (List UInt8) × Int)), ([] : List (List UInt8))))))) 0) else none)) (vis := [(240635609729, l11_1H x0 x2 s7 s25 s26 ((((List.length x0) : Nat) : Int)) 0 ((List.getD x2 (Int.toNat s26) (([] : List ((List UInt8) × (List UInt8) × Int)), (([] : List ((List UInt8) × (List UInt8) × Int)), ([] : List (List UInt8)))))), l11_1B x0 x2 s7 s25 s26 ((((List.length x0) : Nat) : Int)) 0 ((List.getD x2 (Int.toNat s26) (([] : List ((List UInt8) × (List UInt8) × Int)), (([] : List ((List UInt8) × (List UInt8) × Int)), ([] : List (List UInt8)))))))]) (by kernel_rfl) (M.run_of_path _ [true, true, true, true, false] _ _ (by kernel_rfl) (all_t c0 (all_t c1 (all_t c2 (all_t c3 (all_nt c4 all_nil)))))) ?_
    intro p hp p2 hq
    rcases List.mem_cons.1 hp with rfl | hp
    · skip
      have h3 := l11_1_ok m (m + 24) x0 x2 s7 s25 s26 ((((List.length x0) : Nat) : Int)) 0 ((List.getD x2 (Int.toNat s26) (([] : List ((List UInt8) × (List UInt8) × Int)), (([] : List ((List UInt8) × (List UInt8) × Int)), ([] : List (List UInt8)))))) _ (some_getD (d := l11_1D) c5)
      rw [eq_of_beq c6] at h3
      exact Eq.trans (Eq.mp (by kernel_rfl) h3) hq
    cases hp
  exact turns_last (by simp) ht
set_option maxHeartbeats 20000000 in
theorem l11_0_w1 (m n : Nat) (x0 : List (List ((List UInt8) × (List UInt8)))) (x2 : List ((List ((List UInt8) × (List UInt8) × Int)) × (List ((List UInt8) × (List UInt8) × Int)) × (List (List UInt8)))) (s7 : List ((List UInt8) × (List UInt8))) (s25 : Int) (s26 : Int) (r : AEx × Env × Boxes) (c0 : decide (s26 < s25) = true) (c1 : decide (0 ≤ s26) = true) (c2 : decide (s26 < (((List.length x2) : Nat) : Int)) = true) (c3 : decide (List.length s7 ≤ 1000000 ∧ List.length (List.getD x2 (Int.toNat s26) (([] : List ((List UInt8) × (List UInt8) × Int)), (([] : List ((List UInt8) × (List UInt8) × Int)), ([] : List (List UInt8))))).2.1 ≤ 9223372036854775807) = true) (c4 : (allG s7 (List.getD x2 (Int.toNat s26) (([] : List ((List UInt8) × (List UInt8) × Int)), (([] : List ((List UInt8) × (List UInt8) × Int)), ([] : List (List UInt8))))).2.1) = true) (c5 : (Option.isSome (l11_1 m (m + 24) x0 x2 s7 s25 s26 ((((List.length x0) : Nat) : Int)) 0 ((List.getD x2 (Int.toNat s26) (([] : List ((List UInt8) × (List UInt8) × Int)), (([] : List ((List UInt8) × (List UInt8) × Int)), ([] : List (List UInt8)))))))) = true) (c6 : ¬ ((l11_1R m (m + 24) x0 x2 s7 s25 s26 ((((List.length x0) : Nat) : Int)) 0 ((List.getD x2 (Int.toNat s26) (([] : List ((List UInt8) × (List UInt8) × Int)), (([] : List ((List UInt8) × (List UInt8) × Int)), ([] : List (List UInt8))))))).1 == 0) = true) (c7 : ((l11_1R m (m + 24) x0 x2 s7 s25 s26 ((((List.length x0) : Nat) : Int)) 0 ((List.getD x2 (Int.toNat s26) (([] : List ((List UInt8) × (List UInt8) × Int)), (([] : List ((List UInt8) × (List UInt8) × Int)), ([] : List (List UInt8))))))).1 == 1) = true) (ih : (turns (hds 11 117440641) 0 117440641 (evC byref (evCall F S11 (m + 24)) (m + 24) 0 (hds 11) lbl11_0) n (l11_0H x0 x2 s7 s25 ((IntKind.wrap .i64 (s26 + (1))))) (l11_0B x0 x2 s7 s25 ((IntKind.wrap .i64 (s26 + (1)))))).run = some r) : (turns (hds 11 117440641) 0 117440641 (evC byref (evCall F S11 (m + 24)) (m + 24) 0 (hds 11) lbl11_0) (n + 1) (l11_0H x0 x2 s7 s25 s26) (l11_0B x0 x2 s7 s25 s26)).run = some r := by
  have ht : (turn (hds 11 117440641) 0 117440641 (evC byref (evCall F S11 (m + 24)) (m + 24) 0 (hds 11) lbl11_0) (l11_0H x0 x2 s7 s25 s26) (l11_0B x0 x2 s7 s25 s26)).run = some (.normal, l11_0H x0 x2 s7 s25 ((IntKind.wrap .i64 (s26 + (1)))), l11_0B x0 x2 s7 s25 ((IntKind.wrap .i64 (s26 + (1))))) := by
    refine turnT_ok (LS := (fun k => if k = 240635609729 then some (l11_1E x0 x2 s7 s25 s26 (((((List.length x0) : Nat) : Int))) ((l11_1R m (m + 24) x0 x2 s7 s25 s26 ((((List.length x0) : Nat) : Int)) 0 ((List.getD x2 (Int.toNat s26) (([] : List ((List UInt8) × (List UInt8) × Int)), (([] : List ((List UInt8) × (List UInt8) × Int)), ([] : List (List UInt8))))))).2) (((List.getD x2 (Int.toNat s26) (([] : List ((List UInt8) × (List UInt8) × Int)), (([] : List ((List UInt8) × (List UInt8) × Int)), ([] : List (List UInt8))))))) 1) else none)) (vis := [(240635609729, l11_1H x0 x2 s7 s25 s26 ((((List.length x0) : Nat) : Int)) 0 ((List.getD x2 (Int.toNat s26) (([] : List ((List UInt8) × (List UInt8) × Int)), (([] : List ((List UInt8) × (List UInt8) × Int)), ([] : List (List UInt8)))))), l11_1B x0 x2 s7 s25 s26 ((((List.length x0) : Nat) : Int)) 0 ((List.getD x2 (Int.toNat s26) (([] : List ((List UInt8) × (List UInt8) × Int)), (([] : List ((List UInt8) × (List UInt8) × Int)), ([] : List (List UInt8)))))))]) (by kernel_rfl) (M.run_of_path _ [true, true, true, true, false] _ _ (by kernel_rfl) (all_t c0 (all_t c1 (all_t c2 (all_t c3 (all_nt c4 all_nil)))))) ?_
    intro p hp p2 hq
    rcases List.mem_cons.1 hp with rfl | hp
    · skip
      have h3 := l11_1_ok m (m + 24) x0 x2 s7 s25 s26 ((((List.length x0) : Nat) : Int)) 0 ((List.getD x2 (Int.toNat s26) (([] : List ((List UInt8) × (List UInt8) × Int)), (([] : List ((List UInt8) × (List UInt8) × Int)), ([] : List (List UInt8)))))) _ (some_getD (d := l11_1D) c5)
      rw [eq_of_beq c7] at h3
      exact Eq.trans (Eq.mp (by kernel_rfl) h3) hq
    cases hp
  exact turns_step ht ih
set_option maxHeartbeats 20000000 in
theorem l11_0_w2 (m n : Nat) (x0 : List (List ((List UInt8) × (List UInt8)))) (x2 : List ((List ((List UInt8) × (List UInt8) × Int)) × (List ((List UInt8) × (List UInt8) × Int)) × (List (List UInt8)))) (s7 : List ((List UInt8) × (List UInt8))) (s25 : Int) (s26 : Int) (r : AEx × Env × Boxes) (c0 : decide (s26 < s25) = true) (c1 : decide (0 ≤ s26) = true) (c2 : decide (s26 < (((List.length x2) : Nat) : Int)) = true) (c3 : decide (List.length s7 ≤ 1000000 ∧ List.length (List.getD x2 (Int.toNat s26) (([] : List ((List UInt8) × (List UInt8) × Int)), (([] : List ((List UInt8) × (List UInt8) × Int)), ([] : List (List UInt8))))).2.1 ≤ 9223372036854775807) = true) (c4 : ¬ (allG s7 (List.getD x2 (Int.toNat s26) (([] : List ((List UInt8) × (List UInt8) × Int)), (([] : List ((List UInt8) × (List UInt8) × Int)), ([] : List (List UInt8))))).2.1) = true) (ih : (turns (hds 11 117440641) 0 117440641 (evC byref (evCall F S11 (m + 24)) (m + 24) 0 (hds 11) lbl11_0) n (l11_0H x0 x2 s7 s25 ((IntKind.wrap .i64 (s26 + (1))))) (l11_0B x0 x2 s7 s25 ((IntKind.wrap .i64 (s26 + (1)))))).run = some r) : (turns (hds 11 117440641) 0 117440641 (evC byref (evCall F S11 (m + 24)) (m + 24) 0 (hds 11) lbl11_0) (n + 1) (l11_0H x0 x2 s7 s25 s26) (l11_0B x0 x2 s7 s25 s26)).run = some r := by
  exact turns_step (M.run_of_path _ [true, true, true, true, true] _ _ (by kernel_rfl) (all_t c0 (all_t c1 (all_t c2 (all_t c3 (all_nf c4 all_nil)))))) ih
set_option maxHeartbeats 20000000 in
theorem l11_0_w3 (m n : Nat) (x0 : List (List ((List UInt8) × (List UInt8)))) (x2 : List ((List ((List UInt8) × (List UInt8) × Int)) × (List ((List UInt8) × (List UInt8) × Int)) × (List (List UInt8)))) (s7 : List ((List UInt8) × (List UInt8))) (s25 : Int) (s26 : Int) (c0 : ¬ decide (s26 < s25) = true) : (turns (hds 11 117440641) 0 117440641 (evC byref (evCall F S11 (m + 24)) (m + 24) 0 (hds 11) lbl11_0) (n + 1) (l11_0H x0 x2 s7 s25 s26) (l11_0B x0 x2 s7 s25 s26)).run = some (.exit 0, [(.d (.sl (.sl (.pair .str .str)) x0)), .top, .top, .top, .top, .top, .top, (.d (.sl (.pair .str .str) s7)), .top, .top, .top, .top, .top, .top, .top, .top, .top, .top, .top, .top, .top, .top, .top, .top, (.d (.sl (.pair (.sl (.pair .str (.pair .str (.int .i64)))) (.pair (.sl (.pair .str (.pair .str (.int .i64)))) (.sl .str))) x2)), (.d (.int .i64 s25)), (.d (.int .i64 s26)), (.d (.bool (decide (s26 < s25)))), .top, .top, .top, .top, .top, .top, .top, .top, .top, .top, .top, .top, .top, .top, .top, .top, .top, .top, .top, .top, .top, .top, .top, .top, .top, .top, .top, .top, .top, .top, .top, .top], []) := by
  exact turns_last (by simp) (M.run_of_path _ [false] _ _ (by kernel_rfl) (all_f c0 all_nil)) 

set_option maxHeartbeats 20000000 in
theorem l11_0_step (m n : Nat) (ih : ∀ (x0 : List (List ((List UInt8) × (List UInt8)))) (x2 : List ((List ((List UInt8) × (List UInt8) × Int)) × (List ((List UInt8) × (List UInt8) × Int)) × (List (List UInt8)))) (s7 : List ((List UInt8) × (List UInt8))) (s25 : Int) (s26 : Int) (q : Nat × Int), l11_0 m n x0 x2 s7 s25 s26 = some q → (turns (hds 11 117440641) 0 117440641 (evC byref (evCall F S11 (m + 24)) (m + 24) 0 (hds 11) lbl11_0) n (l11_0H x0 x2 s7 s25 s26) (l11_0B x0 x2 s7 s25 s26)).run = some (l11_0E m (x0) (x2) (s7) (s25) (q.2) q.1)) (x0 : List (List ((List UInt8) × (List UInt8)))) (x2 : List ((List ((List UInt8) × (List UInt8) × Int)) × (List ((List UInt8) × (List UInt8) × Int)) × (List (List UInt8)))) (s7 : List ((List UInt8) × (List UInt8))) (s25 : Int) (s26 : Int) (q : Nat × Int) (h : l11_0 m (n + 1) x0 x2 s7 s25 s26 = some q) : (turns (hds 11 117440641) 0 117440641 (evC byref (evCall F S11 (m + 24)) (m + 24) 0 (hds 11) lbl11_0) (n + 1) (l11_0H x0 x2 s7 s25 s26) (l11_0B x0 x2 s7 s25 s26)).run = some (l11_0E m (x0) (x2) (s7) (s25) (q.2) q.1) := by
  rw [l11_0] at h
  refine ite_cases h (fun c0 h => ?_) (fun c0 h => ?_)
  · skip
    refine ite_cases h (fun c1 h => ?_) (fun c1 h => ?_)
    · skip
      refine ite_cases h (fun c2 h => ?_) (fun c2 h => ?_)
      · skip
        refine ite_cases h (fun c3 h => ?_) (fun c3 h => ?_)
        · skip
          refine ite_cases h (fun c4 h => ?_) (fun c4 h => ?_)
          · skip
            refine ite_cases h (fun c5 h => ?_) (fun c5 h => ?_)
            · skip
              refine ite_cases h (fun c6 h => ?_) (fun c6 h => ?_)
              · skip
                cases h
                exact l11_0_w0 m n x0 x2 s7 s25 s26 c0 c1 c2 c3 c4 c5 c6
              · skip
                refine ite_cases h (fun c7 h => ?_) (fun c7 h => ?_)
                · skip
                  exact l11_0_w1 m n x0 x2 s7 s25 s26 _ c0 c1 c2 c3 c4 c5 c6 c7 (ih _ _ _ _ _ q h)
                · skip
                  cases h
            · skip
              cases h
          · skip
            exact l11_0_w2 m n x0 x2 s7 s25 s26 _ c0 c1 c2 c3 c4 (ih _ _ _ _ _ q h)
        · skip
          cases h
      · skip
        cases h
    · skip
      cases h
  · skip
    cases h
    exact l11_0_w3 m n x0 x2 s7 s25 s26 c0
set_option maxHeartbeats 20000000 in
theorem l11_0_ok (m : Nat) : ∀ (n : Nat) (x0 : List (List ((List UInt8) × (List UInt8)))) (x2 : List ((List ((List UInt8) × (List UInt8) × Int)) × (List ((List UInt8) × (List UInt8) × Int)) × (List (List UInt8)))) (s7 : List ((List UInt8) × (List UInt8))) (s25 : Int) (s26 : Int) (q : Nat × Int), l11_0 m n x0 x2 s7 s25 s26 = some q → (turns (hds 11 117440641) 0 117440641 (evC byref (evCall F S11 (m + 24)) (m + 24) 0 (hds 11) lbl11_0) n (l11_0H x0 x2 s7 s25 s26) (l11_0B x0 x2 s7 s25 s26)).run = some (l11_0E m (x0) (x2) (s7) (s25) (q.2) q.1)
  | 0, x0, x2, s7, s25, s26, q, h => by cases h
  | n + 1, x0, x2, s7, s25, s26, q, h => l11_0_step m n (l11_0_ok m n) x0 x2 s7 s25 s26 q h

def p11 (m : Nat) (x0 : List (List ((List UInt8) × (List UInt8)))) (x1 : Int) (x2 : List ((List ((List UInt8) × (List UInt8) × Int)) × (List ((List UInt8) × (List UInt8) × Int)) × (List (List UInt8)))) : Option (Bool) :=
  if decide (x1 < 0) = true then
    some (false)
  else
    if decide (x1 ≥ (((List.length x0) : Nat) : Int)) = true then
      some (false)
    else
      if decide (0 ≤ x1) = true then
        if decide (x1 < (((List.length x0) : Nat) : Int)) = true then
          if (Option.isSome (l11_0 m (m + 24) x0 x2 ((List.getD x0 (Int.toNat x1) ([] : List ((List UInt8) × (List UInt8))))) ((((List.length x2) : Nat) : Int)) 0)) = true then
            if ((l11_0R m (m + 24) x0 x2 ((List.getD x0 (Int.toNat x1) ([] : List ((List UInt8) × (List UInt8))))) ((((List.length x2) : Nat) : Int)) 0).1 == 0) = true then
              some (true)
            else
              if ((l11_0R m (m + 24) x0 x2 ((List.getD x0 (Int.toNat x1) ([] : List ((List UInt8) × (List UInt8))))) ((((List.length x2) : Nat) : Int)) 0).1 == 1) = true then
                some (false)
              else
                none
          else
            none
        else
          none
      else
        none
set_option maxHeartbeats 20000000 in
theorem p11_ok (m : Nat) (x0 : List (List ((List UInt8) × (List UInt8)))) (x1 : Int) (x2 : List ((List ((List UInt8) × (List UInt8) × Int)) × (List ((List UInt8) × (List UInt8) × Int)) × (List (List UInt8)))) (q : Bool) (h : p11 m x0 x1 x2 = some q) : ∃ r B1, (evCall F S11 (m + 25) 11 [(.d (.sl (.sl (.pair .str .str)) x0)), (.d (.int .i64 x1)), (.d (.sl (.pair (.sl (.pair .str (.pair .str (.int .i64)))) (.pair (.sl (.pair .str (.pair .str (.int .i64)))) (.sl .str))) x2))] []).run = some (r, B1) ∧ 0 ≤ B1.length ∧ wkR B1 [] r (.d (.bool (q))) ∧ wkBs B1 [] 0 [] := by
  unfold p11 at h
  refine ite_cases h (fun c0 h => ?_) (fun c0 h => ?_)
  · skip
    cases h
    refine ⟨(.d (.bool false)), [], runT_ok (LS := (fun k => none)) (fn := fn11) (vis := []) (by kernel_rfl) rfl (by kernel_rfl) (M.run_of_path _ [true, true, true, true, true, true] _ _ (by kernel_rfl) (all_t c0 (all_t c0 (all_t c0 (all_t c0 (all_t c0 (all_t rfl all_nil))))))) ?_, by simp, (wkR.one (wkV.one (wk1.eq rfl))), trivial⟩
    intro p hp; cases hp
  · skip
    refine ite_cases h (fun c5 h => ?_) (fun c5 h => ?_)
    · skip
      cases h
      refine ⟨(.d (.bool false)), [], runT_ok (LS := (fun k => none)) (fn := fn11) (vis := []) (by kernel_rfl) rfl (by kernel_rfl) (M.run_of_path _ [false, false, false, false, false, true] _ _ (by kernel_rfl) (all_f c0 (all_f c0 (all_f c0 (all_f c0 (all_f c0 (all_t c5 all_nil))))))) ?_, by simp, (wkR.one (wkV.one (wk1.eq rfl))), trivial⟩
      intro p hp; cases hp
    · skip
      refine ite_cases h (fun c6 h => ?_) (fun c6 h => ?_)
      · skip
        refine ite_cases h (fun c7 h => ?_) (fun c7 h => ?_)
        · skip
          refine ite_cases h (fun c8 h => ?_) (fun c8 h => ?_)
          · skip
            refine ite_cases h (fun c9 h => ?_) (fun c9 h => ?_)
            · skip
              cases h
              refine ⟨(.d (.bool true)), [], runT_ok (LS := (fun k => if k = 117440641 then some (l11_0E m x0 x2 (((List.getD x0 (Int.toNat x1) ([] : List ((List UInt8) × (List UInt8)))))) (((((List.length x2) : Nat) : Int))) ((l11_0R m (m + 24) x0 x2 ((List.getD x0 (Int.toNat x1) ([] : List ((List UInt8) × (List UInt8))))) ((((List.length x2) : Nat) : Int)) 0).2) 0) else none)) (fn := fn11) (vis := [(117440641, l11_0H x0 x2 ((List.getD x0 (Int.toNat x1) ([] : List ((List UInt8) × (List UInt8))))) ((((List.length x2) : Nat) : Int)) 0, l11_0B x0 x2 ((List.getD x0 (Int.toNat x1) ([] : List ((List UInt8) × (List UInt8))))) ((((List.length x2) : Nat) : Int)) 0)]) (by kernel_rfl) rfl (by kernel_rfl) (M.run_of_path _ [false, false, false, false, false, false, true, true] _ _ (by kernel_rfl) (all_f c0 (all_f c0 (all_f c0 (all_f c0 (all_f c0 (all_f c5 (all_t c6 (all_t c7 all_nil))))))))) ?_, by simp, (wkR.one (wkV.one (wk1.eq rfl))), trivial⟩
              intro p hp p2 hq
              rcases List.mem_cons.1 hp with rfl | hp
              · skip
                have h3 := l11_0_ok m (m + 24) x0 x2 ((List.getD x0 (Int.toNat x1) ([] : List ((List UInt8) × (List UInt8))))) ((((List.length x2) : Nat) : Int)) 0 _ (some_getD (d := l11_0D) c8)
                rw [eq_of_beq c9] at h3
                exact Eq.trans (Eq.mp (by kernel_rfl) h3) hq
              cases hp
            · skip
              refine ite_cases h (fun c10 h => ?_) (fun c10 h => ?_)
              · skip
                cases h
                refine ⟨(.d (.bool false)), [], runT_ok (LS := (fun k => if k = 117440641 then some (l11_0E m x0 x2 (((List.getD x0 (Int.toNat x1) ([] : List ((List UInt8) × (List UInt8)))))) (((((List.length x2) : Nat) : Int))) ((l11_0R m (m + 24) x0 x2 ((List.getD x0 (Int.toNat x1) ([] : List ((List UInt8) × (List UInt8))))) ((((List.length x2) : Nat) : Int)) 0).2) 1) else none)) (fn := fn11) (vis := [(117440641, l11_0H x0 x2 ((List.getD x0 (Int.toNat x1) ([] : List ((List UInt8) × (List UInt8))))) ((((List.length x2) : Nat) : Int)) 0, l11_0B x0 x2 ((List.getD x0 (Int.toNat x1) ([] : List ((List UInt8) × (List UInt8))))) ((((List.length x2) : Nat) : Int)) 0)]) (by kernel_rfl) rfl (by kernel_rfl) (M.run_of_path _ [false, false, false, false, false, false, true, true] _ _ (by kernel_rfl) (all_f c0 (all_f c0 (all_f c0 (all_f c0 (all_f c0 (all_f c5 (all_t c6 (all_t c7 all_nil))))))))) ?_, by simp, (wkR.one (wkV.one (wk1.eq rfl))), trivial⟩
                intro p hp p2 hq
                rcases List.mem_cons.1 hp with rfl | hp
                · skip
                  have h3 := l11_0_ok m (m + 24) x0 x2 ((List.getD x0 (Int.toNat x1) ([] : List ((List UInt8) × (List UInt8))))) ((((List.length x2) : Nat) : Int)) 0 _ (some_getD (d := l11_0D) c8)
                  rw [eq_of_beq c10] at h3
                  exact Eq.trans (Eq.mp (by kernel_rfl) h3) hq
                cases hp
              · skip
                cases h
          · skip
            cases h
        · skip
          cases h
      · skip
        cases h

def hitG (own : LB) (h : (List MT) × (List MT) × (List (List UInt8))) (o : LB) : Bool := !(o == own) && (allG o h.1 && equG o own h.2.2)
def inhBy (all : List LB) (own : LB) (h : (List MT) × (List MT) × (List (List UInt8))) : Bool := allG own h.2.1 && all.any (hitG own h)
def inhG (all : List LB) (i : Int) (hs : HS) : Bool := if i < 0 then false else if i ≥ ((all.length : Nat) : Int) then false else hs.any (inhBy all (all.getD i.toNat []))
def inhPre (all : List LB) (hs : HS) : Bool := decide (all.length ≤ 1000000 ∧ (∀ x ∈ all, x.length ≤ 1000000) ∧ hs.length ≤ 1000000 ∧ ∀ h ∈ hs, h.1.length ≤ 9223372036854775807 ∧ h.2.1.length ≤ 9223372036854775807 ∧ h.2.2.length ≤ 9223372036854775807)
theorem inh1_loop (m : Nat) (all : List LB) (hs : HS) (own : LB) (s25 s26 : Int) (h : (List MT) × (List MT) × (List (List UInt8))) (h1 : all.length ≤ 1000000) (h2 : ∀ x ∈ all, x.length ≤ 1000000) (h3 : own.length ≤ 1000000) (h4 : h.1.length ≤ 9223372036854775807 ∧ h.2.1.length ≤ 9223372036854775807 ∧ h.2.2.length ≤ 9223372036854775807) : ∀ (n k : Nat), k ≤ all.length → all.length - k < n → ∃ e j, l11_1 m n all hs own s25 s26 (all.length : Nat) (k : Nat) h = some (e, j) ∧ ((e = 0 ∧ (all.drop k).any (hitG own h) = true) ∨ (e = 1 ∧ (all.drop k).any (hitG own h) = false))
  | 0, k, _, h => by omega
  | n + 1, k, g1, g2 => by
    rw [l11_1]
    by_cases hk : k < all.length
    · have e1 : decide (((k : Nat) : Int) < (((List.length all) : Nat) : Int)) = true := decide_eq_true (by omega)
      have e2 : decide ((0 : Int) ≤ ((k : Nat) : Int)) = true := decide_eq_true (by omega)
      have e7 : IntKind.wrap .i64 (((k : Nat) : Int) + (1)) = ((k + 1 : Nat) : Int) := by rw [wrap_id (by omega) (by omega)]; rfl
      have hq := h2 _ (getD_mem all k ([] : LB) hk)
      have go := inh1_loop m all hs own s25 s26 h h1 h2 h3 h4 n (k + 1) (by omega) (by omega)
      rw [drop_getD all k ([] : LB) hk]
      simp only [show Int.toNat ((k : Nat) : Int) = k from rfl, e1, e2, e7, ↓reduceIte]
      generalize all.getD k ([] : LB) = o at *
      have e3 : decide (List.length o < 4611686018427387904) = true := decide_eq_true (by omega)
      have e4 : decide (List.length o ≤ 1000000 ∧ List.length h.1 ≤ 9223372036854775807) = true := decide_eq_true ⟨hq, h4.1⟩
      have e5 : equPre o own h.2.2 = true := decide_eq_true ⟨hq, h3, h4.2.2⟩
      have hc : (o :: all.drop (k + 1)).any (hitG own h) = ((!(o == own) && (allG o h.1 && equG o own h.2.2)) || (all.drop (k + 1)).any (hitG own h)) := rfl
      rw [hc]
      simp only [e3, e4, e5, ↓reduceIte]
      cases c1 : (o == own) with
      | true => simp only [Bool.not_true, Bool.false_and, Bool.false_or, ↓reduceIte]; exact go
      | false =>
        cases c2 : allG o h.1 with
        | false => simp only [Bool.false_and, Bool.and_false, Bool.false_or, ↓reduceIte, Bool.false_eq_true]; exact go
        | true =>
          cases c3 : equG o own h.2.2 with
          | false => simp only [Bool.and_false, Bool.false_or, ↓reduceIte, Bool.false_eq_true]; exact go
          | true =>
            simp only [Bool.not_false, Bool.and_self, Bool.true_or, ↓reduceIte, Bool.false_eq_true]
            exact ⟨0, _, rfl, .inl ⟨rfl, by first | rfl | trivial⟩⟩
    · have e1 : decide (((k : Nat) : Int) < (((List.length all) : Nat) : Int)) = false := decide_eq_false (by omega)
      rw [e1, if_neg (by simp), List.drop_eq_nil_of_le (by omega)]
      exact ⟨1, _, rfl, .inr ⟨rfl, by first | rfl | trivial⟩⟩
theorem inh0_loop (m : Nat) (all : List LB) (hs : HS) (own : LB) (hm : all.length ≤ m) (h1 : all.length ≤ 1000000) (h2 : ∀ x ∈ all, x.length ≤ 1000000) (h3 : own.length ≤ 1000000) (h5 : hs.length ≤ 1000000) (h4 : ∀ h ∈ hs, h.1.length ≤ 9223372036854775807 ∧ h.2.1.length ≤ 9223372036854775807 ∧ h.2.2.length ≤ 9223372036854775807) : ∀ (n k : Nat), k ≤ hs.length → hs.length - k < n → ∃ e j, l11_0 m n all hs own (hs.length : Nat) (k : Nat) = some (e, j) ∧ ((e = 0 ∧ (hs.drop k).any (inhBy all own) = true) ∨ (e = 1 ∧ (hs.drop k).any (inhBy all own) = false))
  | 0, k, _, h => by omega
  | n + 1, k, g1, g2 => by
    rw [l11_0]
    by_cases hk : k < hs.length
    · have e1 : decide (((k : Nat) : Int) < (((List.length hs) : Nat) : Int)) = true := decide_eq_true (by omega)
      have e2 : decide ((0 : Int) ≤ ((k : Nat) : Int)) = true := decide_eq_true (by omega)
      have e7 : IntKind.wrap .i64 (((k : Nat) : Int) + (1)) = ((k + 1 : Nat) : Int) := by rw [wrap_id (by omega) (by omega)]; rfl
      have hq := h4 _ (getD_mem hs k (([] : List MT), (([] : List MT), ([] : List (List UInt8)))) hk)
      have go := inh0_loop m all hs own hm h1 h2 h3 h5 h4 n (k + 1) (by omega) (by omega)
      rw [drop_getD hs k (([] : List MT), (([] : List MT), ([] : List (List UInt8)))) hk]
      simp only [show Int.toNat ((k : Nat) : Int) = k from rfl, e1, e2, e7, ↓reduceIte]
      generalize hs.getD k (([] : List MT), (([] : List MT), ([] : List (List UInt8)))) = q at *
      have e3 : decide (List.length own ≤ 1000000 ∧ List.length q.2.1 ≤ 9223372036854775807) = true := decide_eq_true ⟨h3, hq.2.1⟩
      have hc : (q :: hs.drop (k + 1)).any (inhBy all own) = ((allG own q.2.1 && all.any (hitG own q)) || (hs.drop (k + 1)).any (inhBy all own)) := rfl
      rw [hc]
      simp only [e3, ↓reduceIte]
      cases c1 : allG own q.2.1 with
      | false => simp only [Bool.false_and, Bool.false_or, ↓reduceIte, Bool.false_eq_true]; exact go
      | true =>
        obtain ⟨e, j, hr, hd⟩ := inh1_loop m all hs own (hs.length : Nat) (k : Nat) q h1 h2 h3 hq (m + 24) 0 (by omega) (by omega)
        rw [Int.natCast_zero, List.drop_zero] at *
        simp only [l11_1R, hr, Option.isSome_some, Option.getD_some, Bool.true_and, ↓reduceIte]
        rcases hd with ⟨rfl, hd⟩ | ⟨rfl, hd⟩
        · have z0 : ((0 : Nat) == 0) = true := rfl
          rw [hd]
          simp only [z0, Bool.true_or, ↓reduceIte]
          exact ⟨0, _, rfl, .inl ⟨rfl, by first | rfl | trivial⟩⟩
        · have z0 : ((1 : Nat) == 0) = false := rfl
          have z1 : ((1 : Nat) == 1) = true := rfl
          rw [hd]
          simp only [z0, z1, Bool.false_or, ↓reduceIte, Bool.false_eq_true]
          exact go
    · have e1 : decide (((k : Nat) : Int) < (((List.length hs) : Nat) : Int)) = false := decide_eq_false (by omega)
      rw [e1, if_neg (by simp), List.drop_eq_nil_of_le (by omega)]
      exact ⟨1, _, rfl, .inr ⟨rfl, by first | rfl | trivial⟩⟩
theorem inh11 (all : List LB) (i : Int) (hs : HS) (h : inhPre all hs = true) : ∃ m, p11 m all i hs = some (inhG all i hs) := by
  have ⟨h1, h2, h3, h4⟩ := of_decide_eq_true h
  refine ⟨all.length + hs.length, ?_⟩
  unfold p11 inhG
  by_cases c1 : i < 0
  · rw [if_pos (decide_eq_true c1), if_pos c1]
  · rw [if_neg (by simpa using c1), if_neg c1]
    by_cases c2 : i ≥ ((all.length : Nat) : Int)
    · rw [if_pos (decide_eq_true c2), if_pos c2]
    · have e1 : decide (0 ≤ i) = true := decide_eq_true (by omega)
      have e2 : decide (i < (((List.length all) : Nat) : Int)) = true := decide_eq_true (by omega)
      rw [if_neg (by simpa using c2), if_neg c2, if_pos e1, if_pos e2]
      have hown := h2 _ (getD_mem all i.toNat ([] : LB) (by omega))
      obtain ⟨e, j, hr, hc⟩ := inh0_loop (all.length + hs.length) all hs (all.getD i.toNat ([] : LB)) (by omega) h1 h2 hown h3 h4 (all.length + hs.length + 24) 0 (by omega) (by omega)
      simp only [Int.natCast_zero, List.drop_zero] at hr hc
      simp only [l11_0R, hr, Option.isSome_some, Option.getD_some, ↓reduceIte]
      rcases hc with ⟨rfl, hc⟩ | ⟨rfl, hc⟩ <;> rw [hc] <;> rfl
def s11 : List AV → Boxes → M (AV × Boxes) := normS [.val (.sl (.sl (.pair .str .str))), .val (.int .i64), .val (.sl (.pair (.sl (.pair .str (.pair .str (.int .i64)))) (.pair (.sl (.pair .str (.pair .str (.int .i64)))) (.sl .str))))] [] fun xs B => match xs, B with
  | [(.d (.sl (.sl (.pair .str .str)) c1)), (.d (.int .i64 c2)), (.d (.sl (.pair (.sl (.pair .str (.pair .str (.int .i64)))) (.pair (.sl (.pair .str (.pair .str (.int .i64)))) (.sl .str))) c3))], [] => .chk (inhPre c1 c3) (.ret ((.d (.bool (inhG c1 c2 c3))), []))
  | _, _ => .fail
theorem s11_at : CallAt Tryd.prog 11 s11 := by
  refine CallAt.norm (CallAt.weakE (g := fun n => evCall F S11 n 11) (fun n => evCall_atH mixed kinds hds S11 S11_ok n 11) fun xs B r' B' hr => ?_) _ _
  split at hr
  · rename_i c1 c2 c3
    obtain ⟨hp, hr⟩ := (M.run_chk _ _ _).1 hr
    simp only [M.run, Option.some.injEq, Prod.mk.injEq] at hr
    obtain ⟨rfl, rfl⟩ := hr
    obtain ⟨m, hm⟩ := inh11 c1 c2 c3 hp
    obtain ⟨r, B1, h1, h2, h3, h4⟩ := p11_ok m c1 c2 c3 _ hm
    exact ⟨m + 25, r, B1, h1, by simp, h2, h3, h4⟩
  · simp [M.run] at hr
noncomputable def S12 : FuncId → Option (List AV → Boxes → M (AV × Boxes)) := fun f => if f = 11 then some s11 else S11 f
set_option maxHeartbeats 20000000 in
theorem S12_ok : ∀ f s, S12 f = some s → CallAt Tryd.prog f s := by
  intro f s h
  unfold S12 at h
  split at h
  · rename_i e; subst e; cases h; exact s11_at
  · exact S11_ok f s h

end Go.Proofs.YtghkbjflejgieaaDoor.Dec
namespace Go.Proofs.YtghkbjflejgieaaDoor.Dec
open Go.Ev
set_option linter.unusedVariables false
set_option linter.unusedSimpArgs false
set_option maxRecDepth 100000
noncomputable def fn13 : AFn := (F 13).getD ⟨0, [], .bad, false, false, noHd⟩
noncomputable def body13 : AC := fn13.body
def l13_0 (m : Nat) : Nat → List (List ((List UInt8) × (List UInt8))) → Int → List ((List ((List UInt8) × (List UInt8) × Int)) × Int × Int) → List ((List ((List UInt8) × (List UInt8) × Int)) × (List ((List UInt8) × (List UInt8) × Int)) × (List (List UInt8))) → Int → Int → List (List ((List UInt8) × (List UInt8))) → Option (Nat × Int × (List (List ((List UInt8) × (List UInt8)))))
  | 0, _, _, _, _, _, _, _ => none
  | n + 1, x0, x1, x2, x3, s13, s14, b0 => if decide (s14 < s13) = true then
      if decide (0 ≤ s14) = true then
        if decide (s14 < (((List.length x0) : Nat) : Int)) = true then
          if silPre (List.getD x0 (Int.toNat s14) ([] : List ((List UInt8) × (List UInt8)))) x2 = true then
            if (silG (List.getD x0 (Int.toNat s14) ([] : List ((List UInt8) × (List UInt8)))) x1 x2) = true then
              l13_0 m n x0 x1 x2 x3 s13 ((IntKind.wrap .i64 (s14 + (1)))) b0
            else
              if inhPre x0 x3 = true then
                if (inhG x0 s14 x3) = true then
                  l13_0 m n x0 x1 x2 x3 s13 ((IntKind.wrap .i64 (s14 + (1)))) b0
                else
                  if decide ((List.length (List.getD x0 (Int.toNat s14) ([] : List ((List UInt8) × (List UInt8)))) * 32) ≤ 70368744177664) = true then
                    if decide ((((List.length b0) + 1) * 24) ≤ 70368744177664) = true then
                      l13_0 m n x0 x1 x2 x3 s13 ((IntKind.wrap .i64 (s14 + (1)))) ((b0 ++ [(List.getD x0 (Int.toNat s14) ([] : List ((List UInt8) × (List UInt8))))]))
                    else
                      none
                  else
                    none
              else
                none
          else
            none
        else
          none
      else
        none
    else
      some (0, s14, b0)
def l13_0D : Nat × Int × (List (List ((List UInt8) × (List UInt8)))) := (0, 0, [])
@[reducible] def l13_0R (m n : Nat) (x0 : List (List ((List UInt8) × (List UInt8)))) (x1 : Int) (x2 : List ((List ((List UInt8) × (List UInt8) × Int)) × Int × Int)) (x3 : List ((List ((List UInt8) × (List UInt8) × Int)) × (List ((List UInt8) × (List UInt8) × Int)) × (List (List UInt8)))) (s13 : Int) (s14 : Int) (b0 : List (List ((List UInt8) × (List UInt8)))) : Nat × Int × (List (List ((List UInt8) × (List UInt8)))) := Option.getD (l13_0 m n x0 x1 x2 x3 s13 s14 b0) l13_0D
def l13_0H (x0 : List (List ((List UInt8) × (List UInt8)))) (x1 : Int) (x2 : List ((List ((List UInt8) × (List UInt8) × Int)) × Int × Int)) (x3 : List ((List ((List UInt8) × (List UInt8) × Int)) × (List ((List UInt8) × (List UInt8) × Int)) × (List (List UInt8)))) (s13 : Int) (s14 : Int) (b0 : List (List ((List UInt8) × (List UInt8)))) : Env := [(.d (.sl (.sl (.pair .str .str)) x0)), (.d (.int .i64 x1)), (.d (.sl (.pair (.sl (.pair .str (.pair .str (.int .i64)))) (.pair (.int .i64) (.int .i64))) x2)), (.d (.sl (.pair (.sl (.pair .str (.pair .str (.int .i64)))) (.pair (.sl (.pair .str (.pair .str (.int .i64)))) (.sl .str))) x3)), .top, .top, .top, .top, .top, (.sr 0 0 (List.length b0) 1 none), .top, .top, (.d (.sl (.sl (.pair .str .str)) x0)), (.d (.int .i64 s13)), (.d (.int .i64 s14)), .top, .top, .top, .top, .top, .top, .top, .top, .top, .top, .top, .top, .top, .top, .top, .top, .top, .top, .top, .top, .top, .top, .top]
def l13_0B (x0 : List (List ((List UInt8) × (List UInt8)))) (x1 : Int) (x2 : List ((List ((List UInt8) × (List UInt8) × Int)) × Int × Int)) (x3 : List ((List ((List UInt8) × (List UInt8) × Int)) × (List ((List UInt8) × (List UInt8) × Int)) × (List (List UInt8)))) (s13 : Int) (s14 : Int) (b0 : List (List ((List UInt8) × (List UInt8)))) : Boxes := [(.arr (.sl (.pair .str .str)) b0 true)]
def l13_0E (x0 : List (List ((List UInt8) × (List UInt8)))) (x1 : Int) (x2 : List ((List ((List UInt8) × (List UInt8) × Int)) × Int × Int)) (x3 : List ((List ((List UInt8) × (List UInt8) × Int)) × (List ((List UInt8) × (List UInt8) × Int)) × (List (List UInt8)))) (s13 : Int) (s14 : Int) (b0 : List (List ((List UInt8) × (List UInt8)))) : Nat → AEx × Env × Boxes
  | _ => (.exit 0, [(.d (.sl (.sl (.pair .str .str)) x0)), (.d (.int .i64 x1)), (.d (.sl (.pair (.sl (.pair .str (.pair .str (.int .i64)))) (.pair (.int .i64) (.int .i64))) x2)), (.d (.sl (.pair (.sl (.pair .str (.pair .str (.int .i64)))) (.pair (.sl (.pair .str (.pair .str (.int .i64)))) (.sl .str))) x3)), .top, .top, .top, .top, .top, (.sr 0 0 (List.length b0) 1 none), .top, .top, (.d (.sl (.sl (.pair .str .str)) x0)), (.d (.int .i64 s13)), (.d (.int .i64 s14)), (.d (.bool (decide (s14 < s13)))), .top, .top, .top, .top, .top, .top, .top, .top, .top, .top, .top, .top, .top, .top, .top, .top, .top, .top, .top, .top, .top, .top], [(.arr (.sl (.pair .str .str)) b0 true)])
noncomputable def lbl13_0 : AC := loopBody 29199 body13

set_option maxHeartbeats 20000000 in
theorem l13_0_w0 (m n : Nat) (x0 : List (List ((List UInt8) × (List UInt8)))) (x1 : Int) (x2 : List ((List ((List UInt8) × (List UInt8) × Int)) × Int × Int)) (x3 : List ((List ((List UInt8) × (List UInt8) × Int)) × (List ((List UInt8) × (List UInt8) × Int)) × (List (List UInt8)))) (s13 : Int) (s14 : Int) (b0 : List (List ((List UInt8) × (List UInt8)))) (r : AEx × Env × Boxes) (c0 : decide (s14 < s13) = true) (c1 : decide (0 ≤ s14) = true) (c2 : decide (s14 < (((List.length x0) : Nat) : Int)) = true) (c3 : silPre (List.getD x0 (Int.toNat s14) ([] : List ((List UInt8) × (List UInt8)))) x2 = true) (c4 : (silG (List.getD x0 (Int.toNat s14) ([] : List ((List UInt8) × (List UInt8)))) x1 x2) = true) (ih : (turns (hds 13 29199) 0 29199 (evC byref (evCall F S12 (m + 24)) (m + 24) 0 (hds 13) lbl13_0) n (l13_0H x0 x1 x2 x3 s13 ((IntKind.wrap .i64 (s14 + (1)))) b0) (l13_0B x0 x1 x2 x3 s13 ((IntKind.wrap .i64 (s14 + (1)))) b0)).run = some r) : (turns (hds 13 29199) 0 29199 (evC byref (evCall F S12 (m + 24)) (m + 24) 0 (hds 13) lbl13_0) (n + 1) (l13_0H x0 x1 x2 x3 s13 s14 b0) (l13_0B x0 x1 x2 x3 s13 s14 b0)).run = some r := by
  exact turns_step (M.run_of_path _ [true, true, true, true, false, false, false, false, false, false, false] _ _ (by kernel_rfl) (all_t c0 (all_t c1 (all_t c2 (all_t c3 (all_nt c4 (all_nt c4 (all_nt c4 (all_nt c4 (all_nt c4 (all_nt c4 (all_f Bool.false_ne_true all_nil)))))))))))) ih
set_option maxHeartbeats 20000000 in
theorem l13_0_w1 (m n : Nat) (x0 : List (List ((List UInt8) × (List UInt8)))) (x1 : Int) (x2 : List ((List ((List UInt8) × (List UInt8) × Int)) × Int × Int)) (x3 : List ((List ((List UInt8) × (List UInt8) × Int)) × (List ((List UInt8) × (List UInt8) × Int)) × (List (List UInt8)))) (s13 : Int) (s14 : Int) (b0 : List (List ((List UInt8) × (List UInt8)))) (r : AEx × Env × Boxes) (c0 : decide (s14 < s13) = true) (c1 : decide (0 ≤ s14) = true) (c2 : decide (s14 < (((List.length x0) : Nat) : Int)) = true) (c3 : silPre (List.getD x0 (Int.toNat s14) ([] : List ((List UInt8) × (List UInt8)))) x2 = true) (c4 : ¬ (silG (List.getD x0 (Int.toNat s14) ([] : List ((List UInt8) × (List UInt8)))) x1 x2) = true) (c8 : inhPre x0 x3 = true) (c11 : (inhG x0 s14 x3) = true) (ih : (turns (hds 13 29199) 0 29199 (evC byref (evCall F S12 (m + 24)) (m + 24) 0 (hds 13) lbl13_0) n (l13_0H x0 x1 x2 x3 s13 ((IntKind.wrap .i64 (s14 + (1)))) b0) (l13_0B x0 x1 x2 x3 s13 ((IntKind.wrap .i64 (s14 + (1)))) b0)).run = some r) : (turns (hds 13 29199) 0 29199 (evC byref (evCall F S12 (m + 24)) (m + 24) 0 (hds 13) lbl13_0) (n + 1) (l13_0H x0 x1 x2 x3 s13 s14 b0) (l13_0B x0 x1 x2 x3 s13 s14 b0)).run = some r := by
  exact turns_step (M.run_of_path _ [true, true, true, true, true, true, true, true, true, true, true, false] _ _ (by kernel_rfl) (all_t c0 (all_t c1 (all_t c2 (all_t c3 (all_nf c4 (all_nf c4 (all_nf c4 (all_nf c4 (all_t c8 (all_nf c4 (all_nf c4 (all_nt c11 all_nil))))))))))))) ih
set_option maxHeartbeats 20000000 in
theorem l13_0_w2 (m n : Nat) (x0 : List (List ((List UInt8) × (List UInt8)))) (x1 : Int) (x2 : List ((List ((List UInt8) × (List UInt8) × Int)) × Int × Int)) (x3 : List ((List ((List UInt8) × (List UInt8) × Int)) × (List ((List UInt8) × (List UInt8) × Int)) × (List (List UInt8)))) (s13 : Int) (s14 : Int) (b0 : List (List ((List UInt8) × (List UInt8)))) (r : AEx × Env × Boxes) (c0 : decide (s14 < s13) = true) (c1 : decide (0 ≤ s14) = true) (c2 : decide (s14 < (((List.length x0) : Nat) : Int)) = true) (c3 : silPre (List.getD x0 (Int.toNat s14) ([] : List ((List UInt8) × (List UInt8)))) x2 = true) (c4 : ¬ (silG (List.getD x0 (Int.toNat s14) ([] : List ((List UInt8) × (List UInt8)))) x1 x2) = true) (c8 : inhPre x0 x3 = true) (c11 : ¬ (inhG x0 s14 x3) = true) (c12 : decide ((List.length (List.getD x0 (Int.toNat s14) ([] : List ((List UInt8) × (List UInt8)))) * 32) ≤ 70368744177664) = true) (c14 : decide ((((List.length b0) + 1) * 24) ≤ 70368744177664) = true) (ih : (turns (hds 13 29199) 0 29199 (evC byref (evCall F S12 (m + 24)) (m + 24) 0 (hds 13) lbl13_0) n (l13_0H x0 x1 x2 x3 s13 ((IntKind.wrap .i64 (s14 + (1)))) ((b0 ++ [(List.getD x0 (Int.toNat s14) ([] : List ((List UInt8) × (List UInt8))))]))) (l13_0B x0 x1 x2 x3 s13 ((IntKind.wrap .i64 (s14 + (1)))) ((b0 ++ [(List.getD x0 (Int.toNat s14) ([] : List ((List UInt8) × (List UInt8))))])))).run = some r) : (turns (hds 13 29199) 0 29199 (evC byref (evCall F S12 (m + 24)) (m + 24) 0 (hds 13) lbl13_0) (n + 1) (l13_0H x0 x1 x2 x3 s13 s14 b0) (l13_0B x0 x1 x2 x3 s13 s14 b0)).run = some r := by
  have ht : (turn (hds 13 29199) 0 29199 (evC byref (evCall F S12 (m + 24)) (m + 24) 0 (hds 13) lbl13_0) (l13_0H x0 x1 x2 x3 s13 s14 b0) (l13_0B x0 x1 x2 x3 s13 s14 b0)).run = some (.normal, [(.d (.sl (.sl (.pair .str .str)) x0)), (.d (.int .i64 x1)), (.d (.sl (.pair (.sl (.pair .str (.pair .str (.int .i64)))) (.pair (.int .i64) (.int .i64))) x2)), (.d (.sl (.pair (.sl (.pair .str (.pair .str (.int .i64)))) (.pair (.sl (.pair .str (.pair .str (.int .i64)))) (.sl .str))) x3)), .top, .top, .top, .top, .top, (.sr 0 0 ((List.length b0) + 1) 1 none), .top, .top, (.d (.sl (.sl (.pair .str .str)) x0)), (.d (.int .i64 s13)), (.d (.int .i64 (IntKind.wrap .i64 (s14 + (1))))), .top, .top, .top, .top, .top, .top, .top, .top, .top, .top, .top, .top, .top, .top, .top, .top, .top, .top, .top, .top, .top, .top, .top], [(.arr (.sl (.pair .str .str)) (b0 ++ [(List.getD x0 (Int.toNat s14) ([] : List ((List UInt8) × (List UInt8))))]) true)]) := M.run_of_path _ [true, true, true, true, true, true, true, true, true, true, true, true, true, true, true, true] _ _ (by kernel_rfl) (all_t c0 (all_t c1 (all_t c2 (all_t c3 (all_nf c4 (all_nf c4 (all_nf c4 (all_nf c4 (all_t c8 (all_nf c4 (all_nf c4 (all_nf c11 (all_t c12 (all_t rfl (all_t c14 (all_t (show decide ((List.length b0) = (List.length b0)) = true from decide_eq_true rfl) all_nil))))))))))))))))
  refine turns_step ht (turns_eq ?_ ?_ ih)
  · unfold l13_0H
    first | (simp; done) | (simp [Nat.add_assoc]; done)
  · unfold l13_0B
    simp
set_option maxHeartbeats 20000000 in
theorem l13_0_w3 (m n : Nat) (x0 : List (List ((List UInt8) × (List UInt8)))) (x1 : Int) (x2 : List ((List ((List UInt8) × (List UInt8) × Int)) × Int × Int)) (x3 : List ((List ((List UInt8) × (List UInt8) × Int)) × (List ((List UInt8) × (List UInt8) × Int)) × (List (List UInt8)))) (s13 : Int) (s14 : Int) (b0 : List (List ((List UInt8) × (List UInt8)))) (c0 : ¬ decide (s14 < s13) = true) : (turns (hds 13 29199) 0 29199 (evC byref (evCall F S12 (m + 24)) (m + 24) 0 (hds 13) lbl13_0) (n + 1) (l13_0H x0 x1 x2 x3 s13 s14 b0) (l13_0B x0 x1 x2 x3 s13 s14 b0)).run = some (.exit 0, [(.d (.sl (.sl (.pair .str .str)) x0)), (.d (.int .i64 x1)), (.d (.sl (.pair (.sl (.pair .str (.pair .str (.int .i64)))) (.pair (.int .i64) (.int .i64))) x2)), (.d (.sl (.pair (.sl (.pair .str (.pair .str (.int .i64)))) (.pair (.sl (.pair .str (.pair .str (.int .i64)))) (.sl .str))) x3)), .top, .top, .top, .top, .top, (.sr 0 0 (List.length b0) 1 none), .top, .top, (.d (.sl (.sl (.pair .str .str)) x0)), (.d (.int .i64 s13)), (.d (.int .i64 s14)), (.d (.bool (decide (s14 < s13)))), .top, .top, .top, .top, .top, .top, .top, .top, .top, .top, .top, .top, .top, .top, .top, .top, .top, .top, .top, .top, .top, .top], [(.arr (.sl (.pair .str .str)) b0 true)]) := by
  exact turns_last (by simp) (M.run_of_path _ [false] _ _ (by kernel_rfl) (all_f c0 all_nil)) 

set_option maxHeartbeats 20000000 in
theorem l13_0_step (m n : Nat) (ih : ∀ (x0 : List (List ((List UInt8) × (List UInt8)))) (x1 : Int) (x2 : List ((List ((List UInt8) × (List UInt8) × Int)) × Int × Int)) (x3 : List ((List ((List UInt8) × (List UInt8) × Int)) × (List ((List UInt8) × (List UInt8) × Int)) × (List (List UInt8)))) (s13 : Int) (s14 : Int) (b0 : List (List ((List UInt8) × (List UInt8)))) (q : Nat × Int × (List (List ((List UInt8) × (List UInt8))))), l13_0 m n x0 x1 x2 x3 s13 s14 b0 = some q → (turns (hds 13 29199) 0 29199 (evC byref (evCall F S12 (m + 24)) (m + 24) 0 (hds 13) lbl13_0) n (l13_0H x0 x1 x2 x3 s13 s14 b0) (l13_0B x0 x1 x2 x3 s13 s14 b0)).run = some (l13_0E (x0) (x1) (x2) (x3) (s13) (q.2.1) (q.2.2) q.1)) (x0 : List (List ((List UInt8) × (List UInt8)))) (x1 : Int) (x2 : List ((List ((List UInt8) × (List UInt8) × Int)) × Int × Int)) (x3 : List ((List ((List UInt8) × (List UInt8) × Int)) × (List ((List UInt8) × (List UInt8) × Int)) × (List (List UInt8)))) (s13 : Int) (s14 : Int) (b0 : List (List ((List UInt8) × (List UInt8)))) (q : Nat × Int × (List (List ((List UInt8) × (List UInt8))))) (h : l13_0 m (n + 1) x0 x1 x2 x3 s13 s14 b0 = some q) : (turns (hds 13 29199) 0 29199 (evC byref (evCall F S12 (m + 24)) (m + 24) 0 (hds 13) lbl13_0) (n + 1) (l13_0H x0 x1 x2 x3 s13 s14 b0) (l13_0B x0 x1 x2 x3 s13 s14 b0)).run = some (l13_0E (x0) (x1) (x2) (x3) (s13) (q.2.1) (q.2.2) q.1) := by
  rw [l13_0] at h
  refine ite_cases h (fun c0 h => ?_) (fun c0 h => ?_)
  · skip
    refine ite_cases h (fun c1 h => ?_) (fun c1 h => ?_)
    · skip
      refine ite_cases h (fun c2 h => ?_) (fun c2 h => ?_)
      · skip
        refine ite_cases h (fun c3 h => ?_) (fun c3 h => ?_)
        · skip
          refine ite_cases h (fun c4 h => ?_) (fun c4 h => ?_)
          · skip
            exact l13_0_w0 m n x0 x1 x2 x3 s13 s14 b0 _ c0 c1 c2 c3 c4 (ih _ _ _ _ _ _ _ q h)
          · skip
            refine ite_cases h (fun c8 h => ?_) (fun c8 h => ?_)
            · skip
              refine ite_cases h (fun c11 h => ?_) (fun c11 h => ?_)
              · skip
                exact l13_0_w1 m n x0 x1 x2 x3 s13 s14 b0 _ c0 c1 c2 c3 c4 c8 c11 (ih _ _ _ _ _ _ _ q h)
              · skip
                refine ite_cases h (fun c12 h => ?_) (fun c12 h => ?_)
                · skip
                  refine ite_cases h (fun c14 h => ?_) (fun c14 h => ?_)
                  · skip
                    exact l13_0_w2 m n x0 x1 x2 x3 s13 s14 b0 _ c0 c1 c2 c3 c4 c8 c11 c12 c14 (ih _ _ _ _ _ _ _ q h)
                  · skip
                    cases h
                · skip
                  cases h
            · skip
              cases h
        · skip
          cases h
      · skip
        cases h
    · skip
      cases h
  · skip
    cases h
    exact l13_0_w3 m n x0 x1 x2 x3 s13 s14 b0 c0
set_option maxHeartbeats 20000000 in
theorem l13_0_ok (m : Nat) : ∀ (n : Nat) (x0 : List (List ((List UInt8) × (List UInt8)))) (x1 : Int) (x2 : List ((List ((List UInt8) × (List UInt8) × Int)) × Int × Int)) (x3 : List ((List ((List UInt8) × (List UInt8) × Int)) × (List ((List UInt8) × (List UInt8) × Int)) × (List (List UInt8)))) (s13 : Int) (s14 : Int) (b0 : List (List ((List UInt8) × (List UInt8)))) (q : Nat × Int × (List (List ((List UInt8) × (List UInt8))))), l13_0 m n x0 x1 x2 x3 s13 s14 b0 = some q → (turns (hds 13 29199) 0 29199 (evC byref (evCall F S12 (m + 24)) (m + 24) 0 (hds 13) lbl13_0) n (l13_0H x0 x1 x2 x3 s13 s14 b0) (l13_0B x0 x1 x2 x3 s13 s14 b0)).run = some (l13_0E (x0) (x1) (x2) (x3) (s13) (q.2.1) (q.2.2) q.1)
  | 0, x0, x1, x2, x3, s13, s14, b0, q, h => by cases h
  | n + 1, x0, x1, x2, x3, s13, s14, b0, q, h => l13_0_step m n (l13_0_ok m n) x0 x1 x2 x3 s13 s14 b0 q h

def p13 (m : Nat) (x0 : List (List ((List UInt8) × (List UInt8)))) (x1 : Int) (x2 : List ((List ((List UInt8) × (List UInt8) × Int)) × Int × Int)) (x3 : List ((List ((List UInt8) × (List UInt8) × Int)) × (List ((List UInt8) × (List UInt8) × Int)) × (List (List UInt8)))) : Option ((List (List ((List UInt8) × (List UInt8))))) :=
  if (Option.isSome (l13_0 m (m + 24) x0 x1 x2 x3 ((((List.length x0) : Nat) : Int)) 0 (([] : List (List ((List UInt8) × (List UInt8))))))) = true then
    some ((List.take (List.length (l13_0R m (m + 24) x0 x1 x2 x3 ((((List.length x0) : Nat) : Int)) 0 (([] : List (List ((List UInt8) × (List UInt8)))))).2.2) (List.drop 0 (l13_0R m (m + 24) x0 x1 x2 x3 ((((List.length x0) : Nat) : Int)) 0 (([] : List (List ((List UInt8) × (List UInt8)))))).2.2)))
  else
    none
set_option maxHeartbeats 20000000 in
theorem p13_ok (m : Nat) (x0 : List (List ((List UInt8) × (List UInt8)))) (x1 : Int) (x2 : List ((List ((List UInt8) × (List UInt8) × Int)) × Int × Int)) (x3 : List ((List ((List UInt8) × (List UInt8) × Int)) × (List ((List UInt8) × (List UInt8) × Int)) × (List (List UInt8)))) (q : (List (List ((List UInt8) × (List UInt8))))) (h : p13 m x0 x1 x2 x3 = some q) : ∃ r B1, (evCall F S12 (m + 25) 13 [(.d (.sl (.sl (.pair .str .str)) x0)), (.d (.int .i64 x1)), (.d (.sl (.pair (.sl (.pair .str (.pair .str (.int .i64)))) (.pair (.int .i64) (.int .i64))) x2)), (.d (.sl (.pair (.sl (.pair .str (.pair .str (.int .i64)))) (.pair (.sl (.pair .str (.pair .str (.int .i64)))) (.sl .str))) x3))] []).run = some (r, B1) ∧ 0 ≤ B1.length ∧ wkR B1 [] r (.d (.sl (.sl (.pair .str .str)) q)) ∧ wkBs B1 [] 0 [] := by
  unfold p13 at h
  refine ite_cases h (fun c0 h => ?_) (fun c0 h => ?_)
  · skip
    cases h
    refine ⟨(.d (.sl (.sl (.pair .str .str)) (List.take (List.length (l13_0R m (m + 24) x0 x1 x2 x3 ((((List.length x0) : Nat) : Int)) 0 (([] : List (List ((List UInt8) × (List UInt8)))))).2.2) (List.drop 0 (l13_0R m (m + 24) x0 x1 x2 x3 ((((List.length x0) : Nat) : Int)) 0 (([] : List (List ((List UInt8) × (List UInt8)))))).2.2)))), [], runT_ok (LS := (fun k => if k = 29199 then some (l13_0E x0 x1 x2 x3 (((((List.length x0) : Nat) : Int))) ((l13_0R m (m + 24) x0 x1 x2 x3 ((((List.length x0) : Nat) : Int)) 0 (([] : List (List ((List UInt8) × (List UInt8)))))).2.1) ((l13_0R m (m + 24) x0 x1 x2 x3 ((((List.length x0) : Nat) : Int)) 0 (([] : List (List ((List UInt8) × (List UInt8)))))).2.2) 0) else none)) (fn := fn13) (vis := [(29199, l13_0H x0 x1 x2 x3 ((((List.length x0) : Nat) : Int)) 0 (([] : List (List ((List UInt8) × (List UInt8))))), l13_0B x0 x1 x2 x3 ((((List.length x0) : Nat) : Int)) 0 (([] : List (List ((List UInt8) × (List UInt8))))))]) (by kernel_rfl) rfl (by kernel_rfl) (M.run_of_path _ [true] _ _ (by kernel_rfl) (all_t (show decide ((0 + (List.length (l13_0R m (m + 24) x0 x1 x2 x3 ((((List.length x0) : Nat) : Int)) 0 (([] : List (List ((List UInt8) × (List UInt8)))))).2.2)) ≤ (List.length (l13_0R m (m + 24) x0 x1 x2 x3 ((((List.length x0) : Nat) : Int)) 0 (([] : List (List ((List UInt8) × (List UInt8)))))).2.2)) = true from decide_eq_true (Nat.le_of_eq (Nat.zero_add _))) all_nil)) ?_, by simp, (wkR.one (wkV.one (wk1.eq rfl))), trivial⟩
    intro p hp p2 hq
    rcases List.mem_cons.1 hp with rfl | hp
    · skip
      have h3 := l13_0_ok m (m + 24) x0 x1 x2 x3 ((((List.length x0) : Nat) : Int)) 0 (([] : List (List ((List UInt8) × (List UInt8))))) _ (some_getD (d := l13_0D) c0)
      exact Eq.trans (Eq.mp (by kernel_rfl) h3) hq
    cases hp
  · skip
    cases h

def quietG (all : List LB) (t : Int) (ss : SS) (hs : HS) (x : LB) : Bool := !silG x t ss && !hs.any (inhBy all x)
def heardG (all : List LB) (t : Int) (ss : SS) (hs : HS) : List LB := all.filter (quietG all t ss hs)
def heardPre (all : List LB) (ss : SS) (hs : HS) : Bool := decide (ss.length ≤ 1000000 ∧ ∀ s ∈ ss, s.1.length ≤ 9223372036854775807) && inhPre all hs
theorem heard_loop (m : Nat) (all : List LB) (t : Int) (ss : SS) (hs : HS) (h1 : ss.length ≤ 1000000) (h2 : ∀ s ∈ ss, s.1.length ≤ 9223372036854775807) (h3 : inhPre all hs = true) : ∀ (n k : Nat) (b : List LB), k ≤ all.length → all.length - k < n → b.length ≤ k → ∃ j, l13_0 m n all t ss hs (all.length : Nat) (k : Nat) b = some (0, j, b ++ (all.drop k).filter (quietG all t ss hs))
  | 0, k, b, _, h, _ => by omega
  | n + 1, k, b, g1, g2, g3 => by
    rw [l13_0]
    have ⟨a1, a2, _, _⟩ := of_decide_eq_true h3
    by_cases hk : k < all.length
    · have e1 : decide (((k : Nat) : Int) < (((List.length all) : Nat) : Int)) = true := decide_eq_true (by omega)
      have e2 : decide ((0 : Int) ≤ ((k : Nat) : Int)) = true := decide_eq_true (by omega)
      have e7 : IntKind.wrap .i64 (((k : Nat) : Int) + (1)) = ((k + 1 : Nat) : Int) := by rw [wrap_id (by omega) (by omega)]; rfl
      have hq := a2 _ (getD_mem all k ([] : LB) hk)
      have hi : inhG all ((k : Nat) : Int) hs = hs.any (inhBy all (all.getD k [])) := by
        unfold inhG
        rw [if_neg (by omega), if_neg (by omega)]; rfl
      have go := fun b' => heard_loop m all t ss hs h1 h2 h3 n (k + 1) b' (by omega) (by omega)
      rw [drop_getD all k ([] : LB) hk]
      simp only [show Int.toNat ((k : Nat) : Int) = k from rfl, e1, e2, e7, hi, h3, ↓reduceIte]
      generalize all.getD k ([] : LB) = o at *
      have e3 : silPre o ss = true := decide_eq_true ⟨hq, h1, h2⟩
      have e4 : decide ((List.length o * 32) ≤ 70368744177664) = true := decide_eq_true (by omega)
      have e5 : decide ((((List.length b) + 1) * 24) ≤ 70368744177664) = true := decide_eq_true (by omega)
      rw [List.filter_cons]
      have hqu : quietG all t ss hs o = (!silG o t ss && !hs.any (inhBy all o)) := rfl
      rw [hqu]
      simp only [e3, e4, e5, ↓reduceIte]
      cases c1 : silG o t ss with
      | true => simp only [Bool.not_true, Bool.false_and, ↓reduceIte, Bool.false_eq_true]; exact go b (by omega)
      | false =>
        cases c2 : hs.any (inhBy all o) with
        | true => simp only [Bool.not_true, Bool.and_false, ↓reduceIte, Bool.false_eq_true]; exact go b (by omega)
        | false =>
          simp only [Bool.not_false, Bool.and_self, ↓reduceIte, Bool.false_eq_true]
          obtain ⟨j, hj⟩ := go (b ++ [o]) (by simp; omega)
          exact ⟨j, by rw [hj]; simp⟩
    · have e1 : decide (((k : Nat) : Int) < (((List.length all) : Nat) : Int)) = false := decide_eq_false (by omega)
      rw [e1, if_neg (by simp), List.drop_eq_nil_of_le (by omega)]
      exact ⟨((k : Nat) : Int), by simp⟩
theorem heard13 (all : List LB) (t : Int) (ss : SS) (hs : HS) (h : heardPre all ss hs = true) : ∃ m, p13 m all t ss hs = some (heardG all t ss hs) := by
  unfold heardPre at h
  rw [Bool.and_eq_true] at h
  have ⟨h1, h2⟩ := of_decide_eq_true h.1
  refine ⟨all.length, ?_⟩
  obtain ⟨j, hr⟩ := heard_loop all.length all t ss hs h1 h2 h.2 (all.length + 24) 0 [] (by omega) (by omega) (by simp)
  simp only [Int.natCast_zero, List.drop_zero, List.nil_append] at hr
  unfold p13
  simp only [l13_0R, hr, Option.isSome_some, Option.getD_some, ↓reduceIte]
  rw [List.drop_zero, List.take_length]
  rfl
def s13 : List AV → Boxes → M (AV × Boxes) := normS [.val (.sl (.sl (.pair .str .str))), .val (.int .i64), .val (.sl (.pair (.sl (.pair .str (.pair .str (.int .i64)))) (.pair (.int .i64) (.int .i64)))), .val (.sl (.pair (.sl (.pair .str (.pair .str (.int .i64)))) (.pair (.sl (.pair .str (.pair .str (.int .i64)))) (.sl .str))))] [] fun xs B => match xs, B with
  | [(.d (.sl (.sl (.pair .str .str)) c1)), (.d (.int .i64 c2)), (.d (.sl (.pair (.sl (.pair .str (.pair .str (.int .i64)))) (.pair (.int .i64) (.int .i64))) c3)), (.d (.sl (.pair (.sl (.pair .str (.pair .str (.int .i64)))) (.pair (.sl (.pair .str (.pair .str (.int .i64)))) (.sl .str))) c4))], [] => .chk (heardPre c1 c3 c4) (.ret ((.d (.sl (.sl (.pair .str .str)) (heardG c1 c2 c3 c4))), []))
  | _, _ => .fail
theorem s13_at : CallAt Tryd.prog 13 s13 := by
  refine CallAt.norm (CallAt.weakE (g := fun n => evCall F S12 n 13) (fun n => evCall_atH mixed kinds hds S12 S12_ok n 13) fun xs B r' B' hr => ?_) _ _
  split at hr
  · rename_i c1 c2 c3 c4
    obtain ⟨hp, hr⟩ := (M.run_chk _ _ _).1 hr
    simp only [M.run, Option.some.injEq, Prod.mk.injEq] at hr
    obtain ⟨rfl, rfl⟩ := hr
    obtain ⟨m, hm⟩ := heard13 c1 c2 c3 c4 hp
    obtain ⟨r, B1, h1, h2, h3, h4⟩ := p13_ok m c1 c2 c3 c4 _ hm
    exact ⟨m + 25, r, B1, h1, by simp, h2, h3, h4⟩
  · simp [M.run] at hr
noncomputable def S13 : FuncId → Option (List AV → Boxes → M (AV × Boxes)) := fun f => if f = 13 then some s13 else S12 f
set_option maxHeartbeats 20000000 in
theorem S13_ok : ∀ f s, S13 f = some s → CallAt Tryd.prog f s := by
  intro f s h
  unfold S13 at h
  split at h
  · rename_i e; subst e; cases h; exact s13_at
  · exact S12_ok f s h

end Go.Proofs.YtghkbjflejgieaaDoor.Dec
