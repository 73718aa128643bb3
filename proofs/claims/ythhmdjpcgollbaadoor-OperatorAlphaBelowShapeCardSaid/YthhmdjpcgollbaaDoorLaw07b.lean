/- The walks of OperatorAlphaBelowShape, OperatorUnion, OperatorNeutralAndFresh. -/
import Derived.Test.YthhmdjpcgollbaaDoorLaw07a
import Derived.Test.YthhmdjpcgollbaaDoorOpLaws
namespace Go.Proofs.YthhmdjpcgollbaaDoor
open Go.RowKit
set_option linter.unusedVariables false

set_option maxHeartbeats 4000000 in
set_option maxRecDepth 100000 in
theorem operatorAlphaBelowShape_walk (op x y f g max : Int) (w : World) (hR : Ruled w) (opl : -9223372036854775808 ≤ op) (oph : op ≤ 9223372036854775807) (xl : -9223372036854775808 ≤ x) (xh : x ≤ 9223372036854775807) (yl : -9223372036854775808 ≤ y) (yh : y ≤ 9223372036854775807) (fl : -9223372036854775808 ≤ f) (fh : f ≤ 9223372036854775807) (gl : -9223372036854775808 ≤ g) (gh : g ≤ 9223372036854775807) (maxl : -9223372036854775808 ≤ max) (maxh : max ≤ 9223372036854775807) :
    Calls Tryd.prog 4 #[.int .i64 op, .int .i64 x, .int .i64 y, .int .i64 f, .int .i64 g, .int .i64 max] w fun e w' => e = .returned (.bool true) ∧ Below w.heap.size w w' := by
  have hR' := ruled_more hR
  have hm : 1 ≤ gmax max ∧ gmax max ≤ 65535 := by rcases gmax_cases max with h | h <;> omega
  obtain ⟨hm0, hm1⟩ := hm
  obtain ⟨s0, s1⟩ := gsam_bounds f (gmax max) (by omega)
  obtain ⟨d0, d1⟩ := gsam_bounds g (gmax max) (by omega)
  obtain ⟨a0, a1⟩ := gsam_bounds x (gsam f (gmax max)) s0
  obtain ⟨b0, b1⟩ := gsam_bounds y (gsam g (gmax max)) d0
  have k0 : 0 ≤ op % 12 := by omega
  have k1 : op % 12 ≤ 11 := by omega
  have hle := alp_le_sh (1 + op % 12) _ _ _ _ (gmax max) (by omega) (by omega) a0 b0 a1 b1 s1 d1 hm0
  obtain ⟨sh0, sh1⟩ := shI_bounds (1 + op % 12) (gsam f (gmax max)) (gsam g (gmax max)) (gmax max) s0 d0 (by omega)
  go_enter Tryd.func4, Tryd.ntmps4
  go_wp2_with (first
    | (go_at_call 10; (with_reducible refine (max_call _ _).mono ?_); rintro e w' ⟨rfl, rfl⟩)
    | (go_at_call 11; (with_reducible refine (mod_call _ _ _ (by omega) (by omega)).mono ?_); rintro e w' ⟨rfl, rfl⟩)
    | (go_at_call 20; (with_reducible refine (alpha_call _ _ _ _ (by omega) (by omega) (by omega) (by omega) (by omega) (by omega)).mono ?_); rintro e w' ⟨rfl, rfl⟩)
    | (go_at_call 15; first | ((with_reducible refine (calls_more (awake07 _ (hR' _))).mono ?_); rintro e w1 ⟨rfl, p, rfl⟩) | ((with_reducible refine (awake07 _ hR).mono ?_); rintro e w1 ⟨rfl, p, rfl⟩))
    | (go_at_call 16; first | ((with_reducible refine (calls_more (alpha_op _ _ _ _ _ (hR' _) (by omega) (by omega) (by omega) (by omega) (by omega) (by omega))).mono ?_); rintro e w1 ⟨rfl, p, rfl⟩) | ((with_reducible refine (alpha_op _ _ _ _ _ hR (by omega) (by omega) (by omega) (by omega) (by omega) (by omega)).mono ?_); rintro e w1 ⟨rfl, p, rfl⟩))
    | (go_at_call 18; first | ((with_reducible refine (calls_more (shape_op _ _ _ _ _ (hR' _) (by omega) (by omega) (by omega) (by omega) (by omega) (by omega))).mono ?_); rintro e w1 ⟨rfl, p, rfl⟩) | ((with_reducible refine (shape_op _ _ _ _ _ hR (by omega) (by omega) (by omega) (by omega) (by omega) (by omega)).mono ?_); rintro e w1 ⟨rfl, p, rfl⟩)))
  go_ret
  exact ⟨rfl, more_below _ _⟩

set_option maxHeartbeats 4000000 in
set_option maxRecDepth 100000 in
theorem operatorUnion_walk (x y max : Int) (w : World) (hR : Ruled w) (xl : -9223372036854775808 ≤ x) (xh : x ≤ 9223372036854775807) (yl : -9223372036854775808 ≤ y) (yh : y ≤ 9223372036854775807) (maxl : -9223372036854775808 ≤ max) (maxh : max ≤ 9223372036854775807) :
    Calls Tryd.prog 7 #[.int .i64 x, .int .i64 y, .int .i64 max] w fun e w' => e = .returned (.bool true) ∧ Below w.heap.size w w' := by
  have hR' := ruled_more hR
  have hm : 1 ≤ gmax max ∧ gmax max ≤ 65535 := by rcases gmax_cases max with h | h <;> omega
  obtain ⟨hm0, hm1⟩ := hm
  obtain ⟨s0, s1⟩ := gsam_bounds x (gmax max) (by omega)
  obtain ⟨d0, d1⟩ := gsam_bounds y (gmax max) (by omega)
  obtain ⟨u1, u2, u3, u4, u5⟩ := union_law _ _ _ s0 d0 s1 d1 hm0
  obtain ⟨sh0, sh1⟩ := shI_bounds 4 (gsam x (gmax max)) (gsam y (gmax max)) (gmax max) s0 d0 (by omega)
  obtain ⟨pr0, pr1⟩ := mul_bound (gsam x (gmax max)) (gsam y (gmax max)) 65535 65535 s0 d0 (by omega) (by omega)
  obtain ⟨ph0, ph1⟩ := half_m (gsam x (gmax max) * gsam y (gmax max)) (gmax max) (by omega) pr0 (by obtain ⟨_, h⟩ := mul_bound (gsam x (gmax max)) (gsam y (gmax max)) (gmax max) (gmax max) s0 d0 s1 d1; exact h)
  go_enter Tryd.func7, Tryd.ntmps7
  go_wp2_with (first
    | (go_at_call 10; (with_reducible refine (max_call _ _).mono ?_); rintro e w' ⟨rfl, rfl⟩)
    | (go_at_call 11; (with_reducible refine (mod_call _ _ _ (by omega) (by omega)).mono ?_); rintro e w' ⟨rfl, rfl⟩)
    | (go_at_call 12; (with_reducible refine (sample_call _ _ _ (by omega) (by omega) (by omega) (by omega)).mono ?_); rintro e w' ⟨rfl, rfl⟩)
    | (go_at_call 21; first | ((with_reducible refine (calls_more_drewN (refHalf_call _ _ _ (by omega) (by omega) (by omega) (by omega))).mono ?_); rintro e w1 ⟨rfl, p, rfl⟩))
    | (go_at_call 15; first | ((with_reducible refine (calls_more (awake07 _ (hR' _))).mono ?_); rintro e w1 ⟨rfl, p, rfl⟩) | ((with_reducible refine (awake07 _ hR).mono ?_); rintro e w1 ⟨rfl, p, rfl⟩))
    | (go_at_call 18; first | ((with_reducible refine (calls_more (shape_op _ _ _ _ _ (hR' _) (by omega) (by omega) (by omega) (by omega) (by omega) (by omega))).mono ?_); rintro e w1 ⟨rfl, p, rfl⟩) | ((with_reducible refine (shape_op _ _ _ _ _ hR (by omega) (by omega) (by omega) (by omega) (by omega) (by omega)).mono ?_); rintro e w1 ⟨rfl, p, rfl⟩)))
  go_ret
  exact ⟨rfl, more_below _ _⟩

set_option maxHeartbeats 4000000 in
set_option maxRecDepth 100000 in
theorem operatorNeutralAndFresh_walk (op x f max : Int) (w : World) (hR : Ruled w) (opl : -9223372036854775808 ≤ op) (oph : op ≤ 9223372036854775807) (xl : -9223372036854775808 ≤ x) (xh : x ≤ 9223372036854775807) (fl : -9223372036854775808 ≤ f) (fh : f ≤ 9223372036854775807) (maxl : -9223372036854775808 ≤ max) (maxh : max ≤ 9223372036854775807) :
    Calls Tryd.prog 9 #[.int .i64 op, .int .i64 x, .int .i64 f, .int .i64 max] w fun e w' => e = .returned (.bool true) ∧ Below w.heap.size w w' := by
  have hR' := ruled_more hR
  have hm : 1 ≤ gmax max ∧ gmax max ≤ 65535 := by rcases gmax_cases max with h | h <;> omega
  obtain ⟨hm0, hm1⟩ := hm
  obtain ⟨s0, s1⟩ := gsam_bounds f (gmax max) (by omega)
  obtain ⟨a0, a1⟩ := gsam_bounds x (gsam f (gmax max)) s0
  have k0 : 0 ≤ op % 15 := by omega
  have k1 : op % 15 ≤ 14 := by omega
  obtain ⟨k, hk⟩ : ∃ k, op % 15 - 1 = k := ⟨_, rfl⟩
  have CM : ∀ W : World, Calls Tryd.prog 11 #[.int .i64 op, .int .i64 15] W fun e w' => e = .returned (.int .i64 (k + 1)) ∧ W = w' := fun W => by rw [show k + 1 = op % 15 by omega]; exact mod_call _ _ _ (by omega) (by omega)
  replace CM := Lib.hid @CM
  have kb0 : -1 ≤ k := by omega
  have kb1 : k ≤ 13 := by omega
  clear hk k0 k1
  rcases Bool.eq_false_or_eq_true (neuB k) with hn | hn
  · have hnl := neutral_law k (gsam x (gsam f (gmax max))) (gsam f (gmax max)) (gmax max) hn a0 (by omega) s0 s1 hm0
    obtain ⟨n1, n2⟩ := hnl
    rcases Bool.eq_false_or_eq_true (freB k) with hf | hf
    · obtain ⟨f1, f2⟩ := fresh_law k (gsam x (gsam f (gmax max))) (gsam f (gmax max)) (gmax max) hf a0 (by omega) s0 s1 hm0
      go_enter Tryd.func9, Tryd.ntmps9
      go_wp2_with (first
        | (go_at_call 10; (with_reducible refine (max_call _ _).mono ?_); rintro e w' ⟨rfl, rfl⟩)
        | (go_at_call 11; (with_reducible refine (CM.out _).mono ?_); rintro e w' ⟨rfl, rfl⟩)
        | (go_at_call 20; (with_reducible refine (alpha_call _ _ _ _ (by omega) (by omega) (by omega) (by omega) (by omega) (by omega)).mono ?_); rintro e w' ⟨rfl, rfl⟩)
        | (go_at_call 15; first | ((with_reducible refine (calls_more (awake07 _ (hR' _))).mono ?_); rintro e w1 ⟨rfl, p, rfl⟩) | ((with_reducible refine (awake07 _ hR).mono ?_); rintro e w1 ⟨rfl, p, rfl⟩))
        | (go_at_call 16; first | ((with_reducible refine (calls_more (alpha_op _ _ _ _ _ (hR' _) (by omega) (by omega) (by omega) (by omega) (by omega) (by omega))).mono ?_); rintro e w1 ⟨rfl, p, rfl⟩) | ((with_reducible refine (alpha_op _ _ _ _ _ hR (by omega) (by omega) (by omega) (by omega) (by omega) (by omega)).mono ?_); rintro e w1 ⟨rfl, p, rfl⟩))
        | (go_at_call 18; first | ((with_reducible refine (calls_more (shape_op _ _ _ _ _ (hR' _) (by omega) (by omega) (by omega) (by omega) (by omega) (by omega))).mono ?_); rintro e w1 ⟨rfl, p, rfl⟩) | ((with_reducible refine (shape_op _ _ _ _ _ hR (by omega) (by omega) (by omega) (by omega) (by omega) (by omega)).mono ?_); rintro e w1 ⟨rfl, p, rfl⟩))
        | (go_at_call 26; first | ((with_reducible refine (calls_more (neutral_call _ _ (hR' _))).mono ?_); rintro e w1 ⟨rfl, p, rfl⟩) | ((with_reducible refine (neutral_call _ _ hR).mono ?_); rintro e w1 ⟨rfl, p, rfl⟩))
        | (go_at_call 27; first | ((with_reducible refine (calls_more (refNeutral_call _ _)).mono ?_); rintro e w1 ⟨rfl, p, rfl⟩) | ((with_reducible refine (refNeutral_call _ _).mono ?_); rintro e w1 ⟨rfl, p, rfl⟩))
        | (go_at_call 28; first | ((with_reducible refine (calls_more (fresh_call _ _ (hR' _))).mono ?_); rintro e w1 ⟨rfl, p, rfl⟩) | ((with_reducible refine (fresh_call _ _ hR).mono ?_); rintro e w1 ⟨rfl, p, rfl⟩))
        | (go_at_call 29; first | ((with_reducible refine (calls_more (refFresh_call _ _)).mono ?_); rintro e w1 ⟨rfl, p, rfl⟩) | ((with_reducible refine (refFresh_call _ _).mono ?_); rintro e w1 ⟨rfl, p, rfl⟩)))
      go_ret
      exact ⟨rfl, more_below _ _⟩
    · go_enter Tryd.func9, Tryd.ntmps9
      go_wp2_with (first
        | (go_at_call 10; (with_reducible refine (max_call _ _).mono ?_); rintro e w' ⟨rfl, rfl⟩)
        | (go_at_call 11; (with_reducible refine (CM.out _).mono ?_); rintro e w' ⟨rfl, rfl⟩)
        | (go_at_call 20; (with_reducible refine (alpha_call _ _ _ _ (by omega) (by omega) (by omega) (by omega) (by omega) (by omega)).mono ?_); rintro e w' ⟨rfl, rfl⟩)
        | (go_at_call 15; first | ((with_reducible refine (calls_more (awake07 _ (hR' _))).mono ?_); rintro e w1 ⟨rfl, p, rfl⟩) | ((with_reducible refine (awake07 _ hR).mono ?_); rintro e w1 ⟨rfl, p, rfl⟩))
        | (go_at_call 16; first | ((with_reducible refine (calls_more (alpha_op _ _ _ _ _ (hR' _) (by omega) (by omega) (by omega) (by omega) (by omega) (by omega))).mono ?_); rintro e w1 ⟨rfl, p, rfl⟩) | ((with_reducible refine (alpha_op _ _ _ _ _ hR (by omega) (by omega) (by omega) (by omega) (by omega) (by omega)).mono ?_); rintro e w1 ⟨rfl, p, rfl⟩))
        | (go_at_call 18; first | ((with_reducible refine (calls_more (shape_op _ _ _ _ _ (hR' _) (by omega) (by omega) (by omega) (by omega) (by omega) (by omega))).mono ?_); rintro e w1 ⟨rfl, p, rfl⟩) | ((with_reducible refine (shape_op _ _ _ _ _ hR (by omega) (by omega) (by omega) (by omega) (by omega) (by omega)).mono ?_); rintro e w1 ⟨rfl, p, rfl⟩))
        | (go_at_call 26; first | ((with_reducible refine (calls_more (neutral_call _ _ (hR' _))).mono ?_); rintro e w1 ⟨rfl, p, rfl⟩) | ((with_reducible refine (neutral_call _ _ hR).mono ?_); rintro e w1 ⟨rfl, p, rfl⟩))
        | (go_at_call 27; first | ((with_reducible refine (calls_more (refNeutral_call _ _)).mono ?_); rintro e w1 ⟨rfl, p, rfl⟩) | ((with_reducible refine (refNeutral_call _ _).mono ?_); rintro e w1 ⟨rfl, p, rfl⟩))
        | (go_at_call 28; first | ((with_reducible refine (calls_more (fresh_call _ _ (hR' _))).mono ?_); rintro e w1 ⟨rfl, p, rfl⟩) | ((with_reducible refine (fresh_call _ _ hR).mono ?_); rintro e w1 ⟨rfl, p, rfl⟩))
        | (go_at_call 29; first | ((with_reducible refine (calls_more (refFresh_call _ _)).mono ?_); rintro e w1 ⟨rfl, p, rfl⟩) | ((with_reducible refine (refFresh_call _ _).mono ?_); rintro e w1 ⟨rfl, p, rfl⟩)))
      go_ret
      exact ⟨rfl, more_below _ _⟩

  · rcases Bool.eq_false_or_eq_true (freB k) with hf | hf
    · obtain ⟨f1, f2⟩ := fresh_law k (gsam x (gsam f (gmax max))) (gsam f (gmax max)) (gmax max) hf a0 (by omega) s0 s1 hm0
      go_enter Tryd.func9, Tryd.ntmps9
      go_wp2_with (first
        | (go_at_call 10; (with_reducible refine (max_call _ _).mono ?_); rintro e w' ⟨rfl, rfl⟩)
        | (go_at_call 11; (with_reducible refine (CM.out _).mono ?_); rintro e w' ⟨rfl, rfl⟩)
        | (go_at_call 20; (with_reducible refine (alpha_call _ _ _ _ (by omega) (by omega) (by omega) (by omega) (by omega) (by omega)).mono ?_); rintro e w' ⟨rfl, rfl⟩)
        | (go_at_call 15; first | ((with_reducible refine (calls_more (awake07 _ (hR' _))).mono ?_); rintro e w1 ⟨rfl, p, rfl⟩) | ((with_reducible refine (awake07 _ hR).mono ?_); rintro e w1 ⟨rfl, p, rfl⟩))
        | (go_at_call 16; first | ((with_reducible refine (calls_more (alpha_op _ _ _ _ _ (hR' _) (by omega) (by omega) (by omega) (by omega) (by omega) (by omega))).mono ?_); rintro e w1 ⟨rfl, p, rfl⟩) | ((with_reducible refine (alpha_op _ _ _ _ _ hR (by omega) (by omega) (by omega) (by omega) (by omega) (by omega)).mono ?_); rintro e w1 ⟨rfl, p, rfl⟩))
        | (go_at_call 18; first | ((with_reducible refine (calls_more (shape_op _ _ _ _ _ (hR' _) (by omega) (by omega) (by omega) (by omega) (by omega) (by omega))).mono ?_); rintro e w1 ⟨rfl, p, rfl⟩) | ((with_reducible refine (shape_op _ _ _ _ _ hR (by omega) (by omega) (by omega) (by omega) (by omega) (by omega)).mono ?_); rintro e w1 ⟨rfl, p, rfl⟩))
        | (go_at_call 26; first | ((with_reducible refine (calls_more (neutral_call _ _ (hR' _))).mono ?_); rintro e w1 ⟨rfl, p, rfl⟩) | ((with_reducible refine (neutral_call _ _ hR).mono ?_); rintro e w1 ⟨rfl, p, rfl⟩))
        | (go_at_call 27; first | ((with_reducible refine (calls_more (refNeutral_call _ _)).mono ?_); rintro e w1 ⟨rfl, p, rfl⟩) | ((with_reducible refine (refNeutral_call _ _).mono ?_); rintro e w1 ⟨rfl, p, rfl⟩))
        | (go_at_call 28; first | ((with_reducible refine (calls_more (fresh_call _ _ (hR' _))).mono ?_); rintro e w1 ⟨rfl, p, rfl⟩) | ((with_reducible refine (fresh_call _ _ hR).mono ?_); rintro e w1 ⟨rfl, p, rfl⟩))
        | (go_at_call 29; first | ((with_reducible refine (calls_more (refFresh_call _ _)).mono ?_); rintro e w1 ⟨rfl, p, rfl⟩) | ((with_reducible refine (refFresh_call _ _).mono ?_); rintro e w1 ⟨rfl, p, rfl⟩)))
      go_ret
      exact ⟨rfl, more_below _ _⟩
    · go_enter Tryd.func9, Tryd.ntmps9
      go_wp2_with (first
        | (go_at_call 10; (with_reducible refine (max_call _ _).mono ?_); rintro e w' ⟨rfl, rfl⟩)
        | (go_at_call 11; (with_reducible refine (CM.out _).mono ?_); rintro e w' ⟨rfl, rfl⟩)
        | (go_at_call 20; (with_reducible refine (alpha_call _ _ _ _ (by omega) (by omega) (by omega) (by omega) (by omega) (by omega)).mono ?_); rintro e w' ⟨rfl, rfl⟩)
        | (go_at_call 15; first | ((with_reducible refine (calls_more (awake07 _ (hR' _))).mono ?_); rintro e w1 ⟨rfl, p, rfl⟩) | ((with_reducible refine (awake07 _ hR).mono ?_); rintro e w1 ⟨rfl, p, rfl⟩))
        | (go_at_call 16; first | ((with_reducible refine (calls_more (alpha_op _ _ _ _ _ (hR' _) (by omega) (by omega) (by omega) (by omega) (by omega) (by omega))).mono ?_); rintro e w1 ⟨rfl, p, rfl⟩) | ((with_reducible refine (alpha_op _ _ _ _ _ hR (by omega) (by omega) (by omega) (by omega) (by omega) (by omega)).mono ?_); rintro e w1 ⟨rfl, p, rfl⟩))
        | (go_at_call 18; first | ((with_reducible refine (calls_more (shape_op _ _ _ _ _ (hR' _) (by omega) (by omega) (by omega) (by omega) (by omega) (by omega))).mono ?_); rintro e w1 ⟨rfl, p, rfl⟩) | ((with_reducible refine (shape_op _ _ _ _ _ hR (by omega) (by omega) (by omega) (by omega) (by omega) (by omega)).mono ?_); rintro e w1 ⟨rfl, p, rfl⟩))
        | (go_at_call 26; first | ((with_reducible refine (calls_more (neutral_call _ _ (hR' _))).mono ?_); rintro e w1 ⟨rfl, p, rfl⟩) | ((with_reducible refine (neutral_call _ _ hR).mono ?_); rintro e w1 ⟨rfl, p, rfl⟩))
        | (go_at_call 27; first | ((with_reducible refine (calls_more (refNeutral_call _ _)).mono ?_); rintro e w1 ⟨rfl, p, rfl⟩) | ((with_reducible refine (refNeutral_call _ _).mono ?_); rintro e w1 ⟨rfl, p, rfl⟩))
        | (go_at_call 28; first | ((with_reducible refine (calls_more (fresh_call _ _ (hR' _))).mono ?_); rintro e w1 ⟨rfl, p, rfl⟩) | ((with_reducible refine (fresh_call _ _ hR).mono ?_); rintro e w1 ⟨rfl, p, rfl⟩))
        | (go_at_call 29; first | ((with_reducible refine (calls_more (refFresh_call _ _)).mono ?_); rintro e w1 ⟨rfl, p, rfl⟩) | ((with_reducible refine (refFresh_call _ _).mono ?_); rintro e w1 ⟨rfl, p, rfl⟩)))
      go_ret
      exact ⟨rfl, more_below _ _⟩

end Go.Proofs.YthhmdjpcgollbaaDoor
