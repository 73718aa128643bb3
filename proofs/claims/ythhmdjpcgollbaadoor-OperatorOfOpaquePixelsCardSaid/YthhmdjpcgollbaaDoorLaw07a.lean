/- The walks of the laws on operators: awake, OperatorFactorsAgree, OperatorAlphaBelowShape, OperatorUnion. -/
import Derived.Test.YthhmdjpcgollbaaDoorRefOp
namespace Go.Proofs.YthhmdjpcgollbaaDoor
open Go.RowKit
set_option linter.unusedVariables false

set_option maxHeartbeats 1000000 in
theorem awake07 (w : World) (hR : Ruled w) : Calls Tryd.prog 15 #[] w fun e w' => e = .returned (.bool true) ∧ ∃ p, w' = more w p := by
  have hR' := ruled_more hR
  have c1 : Calls Tryd.prog 13 #[.int .i64 12, .int .u16 255, .int .u16 64, .int .u16 255] w fun e w' => e = .returned (.tuple #[.int .u16 191, .int .u16 0, .bool true]) ∧ ∃ p, w' = more w p := factors_call 12 255 64 255 w hR (by omega) (by omega) (by omega) (by omega) (by omega) (by omega)
  have c2 : ∀ p, Calls Tryd.prog 16 #[.int .i64 4, .int .u16 128, .int .u16 128, .int .u16 255] (more w p) fun e w' => e = .returned (.int .u16 192) ∧ ∃ q, w' = more w q := fun p => calls_more (alpha_op 4 128 128 255 _ (hR' p) (by omega) (by omega) (by omega) (by omega) (by omega) (by omega))
  have c3 : ∀ p, Calls Tryd.prog 18 #[.int .i64 6, .int .u16 255, .int .u16 128, .int .u16 255] (more w p) fun e w' => e = .returned (.int .u16 128) ∧ ∃ q, w' = more w q := fun p => calls_more (shape_op 6 255 128 255 _ (hR' p) (by omega) (by omega) (by omega) (by omega) (by omega) (by omega))
  have c4 : ∀ p, Calls Tryd.prog 25 #[.int .i64 11] (more w p) fun e w' => e = .returned (.string ⟨#[100, 115, 116, 45, 97, 116, 111, 112]⟩) ∧ ∃ q, w' = more w q := fun p => calls_more (name_call 11 _ (hR' p))
  replace c1 := Lib.hid @c1
  replace c2 := Lib.hid @c2
  replace c3 := Lib.hid @c3
  replace c4 := Lib.hid @c4
  clear hR' hR
  go_enter Tryd.func15, Tryd.ntmps15
  go_wp2_with (first
    | (go_at_call 13; (with_reducible refine (c1.out).mono ?_); rintro e w1 ⟨rfl, p, rfl⟩)
    | (go_at_call 16; (with_reducible refine (c2.out _).mono ?_); rintro e w1 ⟨rfl, p, rfl⟩)
    | (go_at_call 18; (with_reducible refine (c3.out _).mono ?_); rintro e w1 ⟨rfl, p, rfl⟩)
    | (go_at_call 25; (with_reducible refine (c4.out _).mono ?_); rintro e w1 ⟨rfl, p, rfl⟩))
  go_ret
  exact ⟨rfl, _, rfl⟩

set_option maxHeartbeats 4000000 in
set_option maxRecDepth 100000 in
theorem operatorFactorsAgree_walk (op a b most x y max : Int) (w : World) (hR : Ruled w) (opl : -9223372036854775808 ≤ op) (oph : op ≤ 9223372036854775807) (a0 : 0 ≤ a) (a1 : a ≤ 65535) (b0 : 0 ≤ b) (b1 : b ≤ 65535) (most0 : 0 ≤ most) (most1 : most ≤ 65535) (xl : -9223372036854775808 ≤ x) (xh : x ≤ 9223372036854775807) (yl : -9223372036854775808 ≤ y) (yh : y ≤ 9223372036854775807) (maxl : -9223372036854775808 ≤ max) (maxh : max ≤ 9223372036854775807) :
    Calls Tryd.prog 3 #[.int .i64 op, .int .u16 a, .int .u16 b, .int .u16 most, .int .i64 x, .int .i64 y, .int .i64 max] w fun e w' => e = .returned (.bool true) ∧ Below w.heap.size w w' := by
  have hR' := ruled_more hR
  have hm : 0 ≤ gmax max ∧ gmax max ≤ 65535 := by rcases gmax_cases max with h | h <;> omega
  obtain ⟨hm0, hm1⟩ := hm
  obtain ⟨s0, s1⟩ := gsam_bounds x (gmax max) hm0
  obtain ⟨d0, d1⟩ := gsam_bounds y (gmax max) hm0
  go_enter Tryd.func3, Tryd.ntmps3
  go_wp2_with (first
    | (go_at_call 10; (with_reducible refine (max_call _ _).mono ?_); rintro e w' ⟨rfl, rfl⟩)
    | (go_at_call 11; (with_reducible refine (mod_call _ _ _ (by omega) (by omega)).mono ?_); rintro e w' ⟨rfl, rfl⟩)
    | (go_at_call 12; (with_reducible refine (sample_call _ _ _ (by omega) (by omega) (by omega) (by omega)).mono ?_); rintro e w' ⟨rfl, rfl⟩)
    | (go_at_call 13; first | ((with_reducible refine (calls_more (factors_call _ _ _ _ _ (hR' _) (by omega) (by omega) (by omega) (by omega) (by omega) (by omega))).mono ?_); rintro e w1 ⟨rfl, p, rfl⟩) | ((with_reducible refine (factors_call _ _ _ _ _ hR (by omega) (by omega) (by omega) (by omega) (by omega) (by omega)).mono ?_); rintro e w1 ⟨rfl, p, rfl⟩))
    | (go_at_call 14; first | ((with_reducible refine (calls_more (refFactors_call _ _ _ _ _ (by omega) (by omega) (by omega) (by omega) (by omega) (by omega))).mono ?_); rintro e w1 ⟨rfl, p, rfl⟩) | ((with_reducible refine (refFactors_call _ _ _ _ _ (by omega) (by omega) (by omega) (by omega) (by omega) (by omega)).mono ?_); rintro e w1 ⟨rfl, p, rfl⟩))
    | (go_at_call 15; first | ((with_reducible refine (calls_more (awake07 _ (hR' _))).mono ?_); rintro e w1 ⟨rfl, p, rfl⟩) | ((with_reducible refine (awake07 _ hR).mono ?_); rintro e w1 ⟨rfl, p, rfl⟩))
    | (go_at_call 16; first | ((with_reducible refine (calls_more (alpha_op _ _ _ _ _ (hR' _) (by omega) (by omega) (by omega) (by omega) (by omega) (by omega))).mono ?_); rintro e w1 ⟨rfl, p, rfl⟩) | ((with_reducible refine (alpha_op _ _ _ _ _ hR (by omega) (by omega) (by omega) (by omega) (by omega) (by omega)).mono ?_); rintro e w1 ⟨rfl, p, rfl⟩))
    | (go_at_call 17; first | ((with_reducible refine (calls_more (refAlpha_op _ _ _ _ _ (by omega) (by omega) (by omega) (by omega) (by omega) (by omega))).mono ?_); rintro e w1 ⟨rfl, p, rfl⟩) | ((with_reducible refine (refAlpha_op _ _ _ _ _ (by omega) (by omega) (by omega) (by omega) (by omega) (by omega)).mono ?_); rintro e w1 ⟨rfl, p, rfl⟩))
    | (go_at_call 18; first | ((with_reducible refine (calls_more (shape_op _ _ _ _ _ (hR' _) (by omega) (by omega) (by omega) (by omega) (by omega) (by omega))).mono ?_); rintro e w1 ⟨rfl, p, rfl⟩) | ((with_reducible refine (shape_op _ _ _ _ _ hR (by omega) (by omega) (by omega) (by omega) (by omega) (by omega)).mono ?_); rintro e w1 ⟨rfl, p, rfl⟩))
    | (go_at_call 19; first | ((with_reducible refine (calls_more (refShape_op _ _ _ _ _ (by omega) (by omega) (by omega) (by omega) (by omega) (by omega))).mono ?_); rintro e w1 ⟨rfl, p, rfl⟩) | ((with_reducible refine (refShape_op _ _ _ _ _ (by omega) (by omega) (by omega) (by omega) (by omega) (by omega)).mono ?_); rintro e w1 ⟨rfl, p, rfl⟩)))
  go_ret
  exact ⟨rfl, more_below _ _⟩

end Go.Proofs.YthhmdjpcgollbaaDoor
