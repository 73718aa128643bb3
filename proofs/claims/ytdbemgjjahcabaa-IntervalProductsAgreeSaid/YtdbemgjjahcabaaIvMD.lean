/- Contracts of Mul and Div, and of the reference's. -/
import Derived.Test.YtdbemgjjahcabaaIvCorD
import Derived.Test.YtdbemgjjahcabaaIvFour
namespace Go.Proofs.Ytdbemgjjahcabaa
open Go.RowKit
set_option linter.unusedVariables false

theorem corn_plain (P1 d1 P2 d2 P3 d3 P4 d4 : Int) :
    mkL (min4 (rD P1 d1) (rD P2 d2) (rD P3 d3) (rD P4 d4)) (max4 (rU P1 d1) (rU P2 d2) (rU P3 d3) (rU P4 d4)) (rok P1 d1 && rok P2 d2 && rok P3 d3 && rok P4 d4) = mkL (cLo P1 d1 P2 d2 P3 d3 P4 d4) (cHi P1 d1 P2 d2 P3 d3 P4 d4) (cokB P1 d1 P2 d2 P3 d3 P4 d4) ∧
    mkH (min4 (rD P1 d1) (rD P2 d2) (rD P3 d3) (rD P4 d4)) (max4 (rU P1 d1) (rU P2 d2) (rU P3 d3) (rU P4 d4)) (rok P1 d1 && rok P2 d2 && rok P3 d3 && rok P4 d4) = mkH (cLo P1 d1 P2 d2 P3 d3 P4 d4) (cHi P1 d1 P2 d2 P3 d3 P4 d4) (cokB P1 d1 P2 d2 P3 d3 P4 d4) ∧
    mkB (min4 (rD P1 d1) (rD P2 d2) (rD P3 d3) (rD P4 d4)) (max4 (rU P1 d1) (rU P2 d2) (rU P3 d3) (rU P4 d4)) (rok P1 d1 && rok P2 d2 && rok P3 d3 && rok P4 d4) = mkB (cLo P1 d1 P2 d2 P3 d3 P4 d4) (cHi P1 d1 P2 d2 P3 d3 P4 d4) (cokB P1 d1 P2 d2 P3 d3 P4 d4) := by
  by_cases h : cokB P1 d1 P2 d2 P3 d3 P4 d4 = true
  · have h' := h
    unfold cokB at h'
    rw [h, h']
    simp only [Bool.and_eq_true] at h'
    obtain ⟨⟨⟨k1, k2⟩, k3⟩, k4⟩ := h'
    rw [(r_good k1).1, (r_good k2).1, (r_good k3).1, (r_good k4).1, (r_good k1).2, (r_good k2).2, (r_good k3).2, (r_good k4).2]
    exact ⟨rfl, rfl, rfl⟩
  · have h : cokB P1 d1 P2 d2 P3 d3 P4 d4 = false := by simpa using h
    have h' := h
    unfold cokB at h'
    rw [h, h']
    exact ⟨rfl, rfl, rfl⟩
def mLo (xl xh yl yh : Int) : Int := cLo (xl * yl) 1099511627776 (xl * yh) 1099511627776 (xh * yl) 1099511627776 (xh * yh) 1099511627776
def mHi (xl xh yl yh : Int) : Int := cHi (xl * yl) 1099511627776 (xl * yh) 1099511627776 (xh * yl) 1099511627776 (xh * yh) 1099511627776
def mOk (xl xh yl yh : Int) : Bool := ivB xl xh && ivB yl yh && cokB (xl * yl) 1099511627776 (xl * yh) 1099511627776 (xh * yl) 1099511627776 (xh * yh) 1099511627776
def dLo (xl xh yl yh : Int) : Int := cLo (xl * 1099511627776) yl (xl * 1099511627776) yh (xh * 1099511627776) yl (xh * 1099511627776) yh
def dHi (xl xh yl yh : Int) : Int := cHi (xl * 1099511627776) yl (xl * 1099511627776) yh (xh * 1099511627776) yl (xh * 1099511627776) yh
def dOk (xl xh yl yh : Int) : Bool := ivB xl xh && ivB yl yh && decide (0 < yl) && cokB (xl * 1099511627776) yl (xl * 1099511627776) yh (xh * 1099511627776) yl (xh * 1099511627776) yh

set_option maxHeartbeats 1000000 in
theorem ivMul_x (xl xh yl yh : Int) (hx : ivB xl xh = false) (w : World) : Calls Try.prog 26 #[.agg #[.int .i64 xl, .int .i64 xh], .agg #[.int .i64 yl, .int .i64 yh]] w fun e w' => e = .returned (.tuple #[.agg #[.int .i64 (0), .int .i64 (0)], .bool (false)]) ∧ ∃ p, w' = more w p := by
  have vx := fun w => valid_call xl xh w
  rw [hx] at vx
  have VX := Lib.hid @vx
  clear vx hx
  go_enter Try.func26, Try.ntmps26
  go_upto_region 1 with fail
  refine at_world (fun W => F3 w W xl xh yl yh) (f3_of w xl xh yl yh) ?_
  rintro W ⟨⟨k0, k1, k2, k3⟩, ⟨k4, k5, k6, k7⟩, ⟨k8, k9, k10, k11⟩, k12, k13, k14⟩
  have K := Lib.hid @k14
  clear k14
  have hmc := more_cell
  have hmh := more_heap
  have hmf := more_frozen
  refine at_world (fun W' => ∃ p, W' = more W p) ⟨⟨[], 0⟩, rfl⟩ ?_
  rintro _ ⟨p, rfl⟩
  go_wp2_with (first
    | (go_at_call 18; (with_reducible refine (calls_more_o (VX.out _)).mono ?_); rintro e w' ⟨rfl, q, rfl⟩))
  exact bodyPost_ret (v := .tuple #[.agg #[.int .i64 (0), .int .i64 (0)], .bool (false)]) (by simp [results, Try.results26, go_sem, *]) rfl ⟨rfl, K.out _ _ _⟩

set_option maxHeartbeats 1000000 in
theorem ivMul_y (xl xh yl yh : Int) (hx : ivB xl xh = true) (hy : ivB yl yh = false) (w : World) : Calls Try.prog 26 #[.agg #[.int .i64 xl, .int .i64 xh], .agg #[.int .i64 yl, .int .i64 yh]] w fun e w' => e = .returned (.tuple #[.agg #[.int .i64 (0), .int .i64 (0)], .bool (false)]) ∧ ∃ p, w' = more w p := by
  have vx := fun w => valid_call xl xh w
  rw [hx] at vx
  have VX := Lib.hid @vx
  have vy := fun w => valid_call yl yh w
  rw [hy] at vy
  have VY := Lib.hid @vy
  clear vx hx vy hy
  go_enter Try.func26, Try.ntmps26
  go_upto_region 1 with fail
  refine at_world (fun W => F3 w W xl xh yl yh) (f3_of w xl xh yl yh) ?_
  rintro W ⟨⟨k0, k1, k2, k3⟩, ⟨k4, k5, k6, k7⟩, ⟨k8, k9, k10, k11⟩, k12, k13, k14⟩
  have K := Lib.hid @k14
  clear k14
  have hmc := more_cell
  have hmh := more_heap
  have hmf := more_frozen
  refine at_world (fun W' => ∃ p, W' = more W p) ⟨⟨[], 0⟩, rfl⟩ ?_
  rintro _ ⟨p, rfl⟩
  go_wp2_with (first
    | (go_at_call 18; (with_reducible refine (calls_more_o (VX.out _)).mono ?_); rintro e w' ⟨rfl, q, rfl⟩)
    | (go_at_call 18; (with_reducible refine (calls_more_o (VY.out _)).mono ?_); rintro e w' ⟨rfl, q, rfl⟩))
  exact bodyPost_ret (v := .tuple #[.agg #[.int .i64 (0), .int .i64 (0)], .bool (false)]) (by simp [results, Try.results26, go_sem, *]) rfl ⟨rfl, K.out _ _ _⟩

set_option maxHeartbeats 1000000 in
theorem ivMul_yes (xl xh yl yh : Int) (hx : ivB xl xh = true) (hy : ivB yl yh = true) (w : World) : Calls Try.prog 26 #[.agg #[.int .i64 xl, .int .i64 xh], .agg #[.int .i64 yl, .int .i64 yh]] w fun e w' => e = .returned (.tuple #[.agg #[.int .i64 (mkL (cLo (xl * yl) 1099511627776 (xl * yh) 1099511627776 (xh * yl) 1099511627776 (xh * yh) 1099511627776) (cHi (xl * yl) 1099511627776 (xl * yh) 1099511627776 (xh * yl) 1099511627776 (xh * yh) 1099511627776) (cokB (xl * yl) 1099511627776 (xl * yh) 1099511627776 (xh * yl) 1099511627776 (xh * yh) 1099511627776)), .int .i64 (mkH (cLo (xl * yl) 1099511627776 (xl * yh) 1099511627776 (xh * yl) 1099511627776 (xh * yh) 1099511627776) (cHi (xl * yl) 1099511627776 (xl * yh) 1099511627776 (xh * yl) 1099511627776 (xh * yh) 1099511627776) (cokB (xl * yl) 1099511627776 (xl * yh) 1099511627776 (xh * yl) 1099511627776 (xh * yh) 1099511627776))], .bool (mkB (cLo (xl * yl) 1099511627776 (xl * yh) 1099511627776 (xh * yl) 1099511627776 (xh * yh) 1099511627776) (cHi (xl * yl) 1099511627776 (xl * yh) 1099511627776 (xh * yl) 1099511627776 (xh * yh) 1099511627776) (cokB (xl * yl) 1099511627776 (xl * yh) 1099511627776 (xh * yl) 1099511627776 (xh * yh) 1099511627776))]) ∧ ∃ p, w' = more w p := by
  have vx := fun w => valid_call xl xh w
  rw [hx] at vx
  have VX := Lib.hid @vx
  have vy := fun w => valid_call yl yh w
  rw [hy] at vy
  have VY := Lib.hid @vy
  obtain ⟨x0, x1, x2⟩ := ivB_parts hx
  obtain ⟨y0, y1, y2⟩ := ivB_parts hy
  have hc := fun w => corn_mul xl xh yl yh _ _ _ _ _ _ _ _ _ _ _ _ (fun w => mul1_call xl yl w (by omega) (by omega) (by omega) (by omega)) (fun w => mul1_call xl yh w (by omega) (by omega) (by omega) (by omega)) (fun w => mul1_call xh yl w (by omega) (by omega) (by omega) (by omega)) (fun w => mul1_call xh yh w (by omega) (by omega) (by omega) (by omega)) w
  obtain ⟨g1, g2, g3⟩ := corn_plain (xl * yl) 1099511627776 (xl * yh) 1099511627776 (xh * yl) 1099511627776 (xh * yh) 1099511627776
  rw [g1, g2, g3] at hc
  clear g1 g2 g3
  have HC := Lib.hid @hc
  clear hc
  clear vx hx vy hy
  go_enter Try.func26, Try.ntmps26
  go_upto_region 1 with fail
  refine at_world (fun W => F3 w W xl xh yl yh) (f3_of w xl xh yl yh) ?_
  rintro W ⟨⟨k0, k1, k2, k3⟩, ⟨k4, k5, k6, k7⟩, ⟨k8, k9, k10, k11⟩, k12, k13, k14⟩
  have K := Lib.hid @k14
  clear k14
  have hmc := more_cell
  have hmh := more_heap
  have hmf := more_frozen
  refine at_world (fun W' => ∃ p, W' = more W p) ⟨⟨[], 0⟩, rfl⟩ ?_
  rintro _ ⟨p, rfl⟩
  go_wp2_with (first
    | (go_at_call 18; (with_reducible refine (calls_more_o (VX.out _)).mono ?_); rintro e w' ⟨rfl, q, rfl⟩)
    | (go_at_call 18; (with_reducible refine (calls_more_o (VY.out _)).mono ?_); rintro e w' ⟨rfl, q, rfl⟩)
    | (go_at_call 39; (with_reducible refine (calls_more (HC.out _)).mono ?_); rintro e w' ⟨rfl, q, rfl⟩))
  exact bodyPost_ret (v := .tuple #[.agg #[.int .i64 (mkL (cLo (xl * yl) 1099511627776 (xl * yh) 1099511627776 (xh * yl) 1099511627776 (xh * yh) 1099511627776) (cHi (xl * yl) 1099511627776 (xl * yh) 1099511627776 (xh * yl) 1099511627776 (xh * yh) 1099511627776) (cokB (xl * yl) 1099511627776 (xl * yh) 1099511627776 (xh * yl) 1099511627776 (xh * yh) 1099511627776)), .int .i64 (mkH (cLo (xl * yl) 1099511627776 (xl * yh) 1099511627776 (xh * yl) 1099511627776 (xh * yh) 1099511627776) (cHi (xl * yl) 1099511627776 (xl * yh) 1099511627776 (xh * yl) 1099511627776 (xh * yh) 1099511627776) (cokB (xl * yl) 1099511627776 (xl * yh) 1099511627776 (xh * yl) 1099511627776 (xh * yh) 1099511627776))], .bool (mkB (cLo (xl * yl) 1099511627776 (xl * yh) 1099511627776 (xh * yl) 1099511627776 (xh * yh) 1099511627776) (cHi (xl * yl) 1099511627776 (xl * yh) 1099511627776 (xh * yl) 1099511627776 (xh * yh) 1099511627776) (cokB (xl * yl) 1099511627776 (xl * yh) 1099511627776 (xh * yl) 1099511627776 (xh * yh) 1099511627776))]) (by simp [results, Try.results26, go_sem, *]) rfl ⟨rfl, K.out _ _ _⟩

theorem ivMul_call (xl xh yl yh : Int) (w : World) : Calls Try.prog 26 #[.agg #[.int .i64 xl, .int .i64 xh], .agg #[.int .i64 yl, .int .i64 yh]] w fun e w' => e = .returned (.tuple #[.agg #[.int .i64 (mkL (mLo xl xh yl yh) (mHi xl xh yl yh) (mOk xl xh yl yh)), .int .i64 (mkH (mLo xl xh yl yh) (mHi xl xh yl yh) (mOk xl xh yl yh))], .bool (mkB (mLo xl xh yl yh) (mHi xl xh yl yh) (mOk xl xh yl yh))]) ∧ ∃ p, w' = more w p := by
  unfold mOk
  by_cases hx : ivB xl xh = true
  · by_cases hy : ivB yl yh = true
    · rw [hx, hy]
      simp only [Bool.true_and]
      exact ivMul_yes xl xh yl yh hx hy w
    · have hy : ivB yl yh = false := by simpa using hy
      rw [hy]; simp only [Bool.and_false, Bool.false_and]; exact ivMul_y xl xh yl yh hx hy w
  · have hx : ivB xl xh = false := by simpa using hx
    rw [hx]; simp only [Bool.false_and]; exact ivMul_x xl xh yl yh hx w

set_option maxHeartbeats 1000000 in
theorem rvMul_x (xl xh yl yh : Int) (hx : ivB xl xh = false) (w : World) : Calls Try.prog 28 #[.agg #[.int .i64 xl, .int .i64 xh], .agg #[.int .i64 yl, .int .i64 yh]] w fun e w' => e = .returned (.tuple #[.agg #[.int .i64 (0), .int .i64 (0)], .bool (false)]) ∧ ∃ p, w' = more w p := by
  have vx := fun w => refValid_call xl xh w
  rw [hx] at vx
  have VX := Lib.hid @vx
  clear vx hx
  go_enter Try.func28, Try.ntmps28
  go_upto_region 1 with fail
  refine at_world (fun W => F3 w W xl xh yl yh) (f3_of w xl xh yl yh) ?_
  rintro W ⟨⟨k0, k1, k2, k3⟩, ⟨k4, k5, k6, k7⟩, ⟨k8, k9, k10, k11⟩, k12, k13, k14⟩
  have K := Lib.hid @k14
  clear k14
  have hmc := more_cell
  have hmh := more_heap
  have hmf := more_frozen
  refine at_world (fun W' => ∃ p, W' = more W p) ⟨⟨[], 0⟩, rfl⟩ ?_
  rintro _ ⟨p, rfl⟩
  go_wp2_with (first
    | (go_at_call 19; (with_reducible refine (calls_more_o (VX.out _)).mono ?_); rintro e w' ⟨rfl, q, rfl⟩))
  exact bodyPost_ret (v := .tuple #[.agg #[.int .i64 (0), .int .i64 (0)], .bool (false)]) (by simp [results, Try.results28, go_sem, *]) rfl ⟨rfl, K.out _ _ _⟩

set_option maxHeartbeats 1000000 in
theorem rvMul_y (xl xh yl yh : Int) (hx : ivB xl xh = true) (hy : ivB yl yh = false) (w : World) : Calls Try.prog 28 #[.agg #[.int .i64 xl, .int .i64 xh], .agg #[.int .i64 yl, .int .i64 yh]] w fun e w' => e = .returned (.tuple #[.agg #[.int .i64 (0), .int .i64 (0)], .bool (false)]) ∧ ∃ p, w' = more w p := by
  have vx := fun w => refValid_call xl xh w
  rw [hx] at vx
  have VX := Lib.hid @vx
  have vy := fun w => refValid_call yl yh w
  rw [hy] at vy
  have VY := Lib.hid @vy
  clear vx hx vy hy
  go_enter Try.func28, Try.ntmps28
  go_upto_region 1 with fail
  refine at_world (fun W => F3 w W xl xh yl yh) (f3_of w xl xh yl yh) ?_
  rintro W ⟨⟨k0, k1, k2, k3⟩, ⟨k4, k5, k6, k7⟩, ⟨k8, k9, k10, k11⟩, k12, k13, k14⟩
  have K := Lib.hid @k14
  clear k14
  have hmc := more_cell
  have hmh := more_heap
  have hmf := more_frozen
  refine at_world (fun W' => ∃ p, W' = more W p) ⟨⟨[], 0⟩, rfl⟩ ?_
  rintro _ ⟨p, rfl⟩
  go_wp2_with (first
    | (go_at_call 19; (with_reducible refine (calls_more_o (VX.out _)).mono ?_); rintro e w' ⟨rfl, q, rfl⟩)
    | (go_at_call 19; (with_reducible refine (calls_more_o (VY.out _)).mono ?_); rintro e w' ⟨rfl, q, rfl⟩))
  exact bodyPost_ret (v := .tuple #[.agg #[.int .i64 (0), .int .i64 (0)], .bool (false)]) (by simp [results, Try.results28, go_sem, *]) rfl ⟨rfl, K.out _ _ _⟩

set_option maxHeartbeats 1000000 in
theorem rvMul_yes (xl xh yl yh : Int) (hx : ivB xl xh = true) (hy : ivB yl yh = true) (w : World) : Calls Try.prog 28 #[.agg #[.int .i64 xl, .int .i64 xh], .agg #[.int .i64 yl, .int .i64 yh]] w fun e w' => e = .returned (.tuple #[.agg #[.int .i64 (mkL (min4 (qd (xl * yl) 1099511627776 false) (qd (xl * yh) 1099511627776 false) (qd (xh * yl) 1099511627776 false) (qd (xh * yh) 1099511627776 false)) (max4 (qd (xl * yl) 1099511627776 true) (qd (xl * yh) 1099511627776 true) (qd (xh * yl) 1099511627776 true) (qd (xh * yh) 1099511627776 true)) true), .int .i64 (mkH (min4 (qd (xl * yl) 1099511627776 false) (qd (xl * yh) 1099511627776 false) (qd (xh * yl) 1099511627776 false) (qd (xh * yh) 1099511627776 false)) (max4 (qd (xl * yl) 1099511627776 true) (qd (xl * yh) 1099511627776 true) (qd (xh * yl) 1099511627776 true) (qd (xh * yh) 1099511627776 true)) true)], .bool (mkB (min4 (qd (xl * yl) 1099511627776 false) (qd (xl * yh) 1099511627776 false) (qd (xh * yl) 1099511627776 false) (qd (xh * yh) 1099511627776 false)) (max4 (qd (xl * yl) 1099511627776 true) (qd (xl * yh) 1099511627776 true) (qd (xh * yl) 1099511627776 true) (qd (xh * yh) 1099511627776 true)) true)]) ∧ ∃ p, w' = more w p := by
  have vx := fun w => refValid_call xl xh w
  rw [hx] at vx
  have VX := Lib.hid @vx
  have vy := fun w => refValid_call yl yh w
  rw [hy] at vy
  have VY := Lib.hid @vy
  obtain ⟨x0, x1, x2⟩ := ivB_parts hx
  obtain ⟨y0, y1, y2⟩ := ivB_parts hy
  have hc := fun w => four_mul xl xh yl yh _ _ _ _ _ _ _ _ (fun w => quot_false xl yl 1099511627776 w (by omega) (by omega) (by omega) (by omega) (by omega) (by omega)) (fun w => quot_true xl yl 1099511627776 w (by omega) (by omega) (by omega) (by omega) (by omega) (by omega)) (fun w => quot_false xl yh 1099511627776 w (by omega) (by omega) (by omega) (by omega) (by omega) (by omega)) (fun w => quot_true xl yh 1099511627776 w (by omega) (by omega) (by omega) (by omega) (by omega) (by omega)) (fun w => quot_false xh yl 1099511627776 w (by omega) (by omega) (by omega) (by omega) (by omega) (by omega)) (fun w => quot_true xh yl 1099511627776 w (by omega) (by omega) (by omega) (by omega) (by omega) (by omega)) (fun w => quot_false xh yh 1099511627776 w (by omega) (by omega) (by omega) (by omega) (by omega) (by omega)) (fun w => quot_true xh yh 1099511627776 w (by omega) (by omega) (by omega) (by omega) (by omega) (by omega)) w
  have HC := Lib.hid @hc
  clear hc
  clear vx hx vy hy
  go_enter Try.func28, Try.ntmps28
  go_upto_region 1 with fail
  refine at_world (fun W => F3 w W xl xh yl yh) (f3_of w xl xh yl yh) ?_
  rintro W ⟨⟨k0, k1, k2, k3⟩, ⟨k4, k5, k6, k7⟩, ⟨k8, k9, k10, k11⟩, k12, k13, k14⟩
  have K := Lib.hid @k14
  clear k14
  have hmc := more_cell
  have hmh := more_heap
  have hmf := more_frozen
  refine at_world (fun W' => ∃ p, W' = more W p) ⟨⟨[], 0⟩, rfl⟩ ?_
  rintro _ ⟨p, rfl⟩
  go_wp2_with (first
    | (go_at_call 19; (with_reducible refine (calls_more_o (VX.out _)).mono ?_); rintro e w' ⟨rfl, q, rfl⟩)
    | (go_at_call 19; (with_reducible refine (calls_more_o (VY.out _)).mono ?_); rintro e w' ⟨rfl, q, rfl⟩)
    | (go_at_call 45; (with_reducible refine (calls_more (HC.out _)).mono ?_); rintro e w' ⟨rfl, q, rfl⟩))
  exact bodyPost_ret (v := .tuple #[.agg #[.int .i64 (mkL (min4 (qd (xl * yl) 1099511627776 false) (qd (xl * yh) 1099511627776 false) (qd (xh * yl) 1099511627776 false) (qd (xh * yh) 1099511627776 false)) (max4 (qd (xl * yl) 1099511627776 true) (qd (xl * yh) 1099511627776 true) (qd (xh * yl) 1099511627776 true) (qd (xh * yh) 1099511627776 true)) true), .int .i64 (mkH (min4 (qd (xl * yl) 1099511627776 false) (qd (xl * yh) 1099511627776 false) (qd (xh * yl) 1099511627776 false) (qd (xh * yh) 1099511627776 false)) (max4 (qd (xl * yl) 1099511627776 true) (qd (xl * yh) 1099511627776 true) (qd (xh * yl) 1099511627776 true) (qd (xh * yh) 1099511627776 true)) true)], .bool (mkB (min4 (qd (xl * yl) 1099511627776 false) (qd (xl * yh) 1099511627776 false) (qd (xh * yl) 1099511627776 false) (qd (xh * yh) 1099511627776 false)) (max4 (qd (xl * yl) 1099511627776 true) (qd (xl * yh) 1099511627776 true) (qd (xh * yl) 1099511627776 true) (qd (xh * yh) 1099511627776 true)) true)]) (by simp [results, Try.results28, go_sem, *]) rfl ⟨rfl, K.out _ _ _⟩

theorem rvMul_call (xl xh yl yh : Int) (w : World) : Calls Try.prog 28 #[.agg #[.int .i64 xl, .int .i64 xh], .agg #[.int .i64 yl, .int .i64 yh]] w fun e w' => e = .returned (.tuple #[.agg #[.int .i64 (mkL (mLo xl xh yl yh) (mHi xl xh yl yh) (mOk xl xh yl yh)), .int .i64 (mkH (mLo xl xh yl yh) (mHi xl xh yl yh) (mOk xl xh yl yh))], .bool (mkB (mLo xl xh yl yh) (mHi xl xh yl yh) (mOk xl xh yl yh))]) ∧ ∃ p, w' = more w p := by
  unfold mOk
  by_cases hx : ivB xl xh = true
  · by_cases hy : ivB yl yh = true
    · rw [hx, hy]
      simp only [Bool.true_and]
      obtain ⟨g1, g2, g3⟩ := four_agree (xl * yl) 1099511627776 (xl * yh) 1099511627776 (xh * yl) 1099511627776 (xh * yh) 1099511627776 (by omega) (by omega) (by omega) (by omega)
      unfold mLo mHi
      rw [g1, g2, g3]
      exact rvMul_yes xl xh yl yh hx hy w
    · have hy : ivB yl yh = false := by simpa using hy
      rw [hy]; simp only [Bool.and_false, Bool.false_and]; exact rvMul_y xl xh yl yh hx hy w
  · have hx : ivB xl xh = false := by simpa using hx
    rw [hx]; simp only [Bool.false_and]; exact rvMul_x xl xh yl yh hx w

set_option maxHeartbeats 1000000 in
theorem ivDiv_x (xl xh yl yh : Int) (hx : ivB xl xh = false) (w : World) : Calls Try.prog 29 #[.agg #[.int .i64 xl, .int .i64 xh], .agg #[.int .i64 yl, .int .i64 yh]] w fun e w' => e = .returned (.tuple #[.agg #[.int .i64 (0), .int .i64 (0)], .bool (false)]) ∧ ∃ p, w' = more w p := by
  have vx := fun w => valid_call xl xh w
  rw [hx] at vx
  have VX := Lib.hid @vx
  clear vx hx
  go_enter Try.func29, Try.ntmps29
  go_upto_region 1 with fail
  refine at_world (fun W => F3 w W xl xh yl yh) (f3_of w xl xh yl yh) ?_
  rintro W ⟨⟨k0, k1, k2, k3⟩, ⟨k4, k5, k6, k7⟩, ⟨k8, k9, k10, k11⟩, k12, k13, k14⟩
  have K := Lib.hid @k14
  clear k14
  have hmc := more_cell
  have hmh := more_heap
  have hmf := more_frozen
  refine at_world (fun W' => ∃ p, W' = more W p) ⟨⟨[], 0⟩, rfl⟩ ?_
  rintro _ ⟨p, rfl⟩
  go_wp2_with (first
    | (go_at_call 18; (with_reducible refine (calls_more_o (VX.out _)).mono ?_); rintro e w' ⟨rfl, q, rfl⟩))
  exact bodyPost_ret (v := .tuple #[.agg #[.int .i64 (0), .int .i64 (0)], .bool (false)]) (by simp [results, Try.results29, go_sem, *]) rfl ⟨rfl, K.out _ _ _⟩

set_option maxHeartbeats 1000000 in
theorem ivDiv_y (xl xh yl yh : Int) (hx : ivB xl xh = true) (hy : ivB yl yh = false) (w : World) : Calls Try.prog 29 #[.agg #[.int .i64 xl, .int .i64 xh], .agg #[.int .i64 yl, .int .i64 yh]] w fun e w' => e = .returned (.tuple #[.agg #[.int .i64 (0), .int .i64 (0)], .bool (false)]) ∧ ∃ p, w' = more w p := by
  have vx := fun w => valid_call xl xh w
  rw [hx] at vx
  have VX := Lib.hid @vx
  have vy := fun w => valid_call yl yh w
  rw [hy] at vy
  have VY := Lib.hid @vy
  clear vx hx vy hy
  go_enter Try.func29, Try.ntmps29
  go_upto_region 1 with fail
  refine at_world (fun W => F3 w W xl xh yl yh) (f3_of w xl xh yl yh) ?_
  rintro W ⟨⟨k0, k1, k2, k3⟩, ⟨k4, k5, k6, k7⟩, ⟨k8, k9, k10, k11⟩, k12, k13, k14⟩
  have K := Lib.hid @k14
  clear k14
  have hmc := more_cell
  have hmh := more_heap
  have hmf := more_frozen
  refine at_world (fun W' => ∃ p, W' = more W p) ⟨⟨[], 0⟩, rfl⟩ ?_
  rintro _ ⟨p, rfl⟩
  go_wp2_with (first
    | (go_at_call 18; (with_reducible refine (calls_more_o (VX.out _)).mono ?_); rintro e w' ⟨rfl, q, rfl⟩)
    | (go_at_call 18; (with_reducible refine (calls_more_o (VY.out _)).mono ?_); rintro e w' ⟨rfl, q, rfl⟩))
  exact bodyPost_ret (v := .tuple #[.agg #[.int .i64 (0), .int .i64 (0)], .bool (false)]) (by simp [results, Try.results29, go_sem, *]) rfl ⟨rfl, K.out _ _ _⟩

set_option maxHeartbeats 1000000 in
theorem ivDiv_z (xl xh yl yh : Int) (hx : ivB xl xh = true) (hy : ivB yl yh = true) (hz : yl ≤ 0) (w : World) : Calls Try.prog 29 #[.agg #[.int .i64 xl, .int .i64 xh], .agg #[.int .i64 yl, .int .i64 yh]] w fun e w' => e = .returned (.tuple #[.agg #[.int .i64 (0), .int .i64 (0)], .bool (false)]) ∧ ∃ p, w' = more w p := by
  have vx := fun w => valid_call xl xh w
  rw [hx] at vx
  have VX := Lib.hid @vx
  have vy := fun w => valid_call yl yh w
  rw [hy] at vy
  have VY := Lib.hid @vy
  clear vx hx vy hy
  go_enter Try.func29, Try.ntmps29
  go_upto_region 1 with fail
  refine at_world (fun W => F3 w W xl xh yl yh) (f3_of w xl xh yl yh) ?_
  rintro W ⟨⟨k0, k1, k2, k3⟩, ⟨k4, k5, k6, k7⟩, ⟨k8, k9, k10, k11⟩, k12, k13, k14⟩
  have K := Lib.hid @k14
  clear k14
  have hmc := more_cell
  have hmh := more_heap
  have hmf := more_frozen
  refine at_world (fun W' => ∃ p, W' = more W p) ⟨⟨[], 0⟩, rfl⟩ ?_
  rintro _ ⟨p, rfl⟩
  go_wp2_with (first
    | (go_at_call 18; (with_reducible refine (calls_more_o (VX.out _)).mono ?_); rintro e w' ⟨rfl, q, rfl⟩)
    | (go_at_call 18; (with_reducible refine (calls_more_o (VY.out _)).mono ?_); rintro e w' ⟨rfl, q, rfl⟩))
  exact bodyPost_ret (v := .tuple #[.agg #[.int .i64 (0), .int .i64 (0)], .bool (false)]) (by simp [results, Try.results29, go_sem, *]) rfl ⟨rfl, K.out _ _ _⟩

set_option maxHeartbeats 1000000 in
theorem ivDiv_yes (xl xh yl yh : Int) (hx : ivB xl xh = true) (hy : ivB yl yh = true) (hz : 0 < yl) (w : World) : Calls Try.prog 29 #[.agg #[.int .i64 xl, .int .i64 xh], .agg #[.int .i64 yl, .int .i64 yh]] w fun e w' => e = .returned (.tuple #[.agg #[.int .i64 (mkL (cLo (xl * 1099511627776) yl (xl * 1099511627776) yh (xh * 1099511627776) yl (xh * 1099511627776) yh) (cHi (xl * 1099511627776) yl (xl * 1099511627776) yh (xh * 1099511627776) yl (xh * 1099511627776) yh) (cokB (xl * 1099511627776) yl (xl * 1099511627776) yh (xh * 1099511627776) yl (xh * 1099511627776) yh)), .int .i64 (mkH (cLo (xl * 1099511627776) yl (xl * 1099511627776) yh (xh * 1099511627776) yl (xh * 1099511627776) yh) (cHi (xl * 1099511627776) yl (xl * 1099511627776) yh (xh * 1099511627776) yl (xh * 1099511627776) yh) (cokB (xl * 1099511627776) yl (xl * 1099511627776) yh (xh * 1099511627776) yl (xh * 1099511627776) yh))], .bool (mkB (cLo (xl * 1099511627776) yl (xl * 1099511627776) yh (xh * 1099511627776) yl (xh * 1099511627776) yh) (cHi (xl * 1099511627776) yl (xl * 1099511627776) yh (xh * 1099511627776) yl (xh * 1099511627776) yh) (cokB (xl * 1099511627776) yl (xl * 1099511627776) yh (xh * 1099511627776) yl (xh * 1099511627776) yh))]) ∧ ∃ p, w' = more w p := by
  have vx := fun w => valid_call xl xh w
  rw [hx] at vx
  have VX := Lib.hid @vx
  have vy := fun w => valid_call yl yh w
  rw [hy] at vy
  have VY := Lib.hid @vy
  obtain ⟨x0, x1, x2⟩ := ivB_parts hx
  obtain ⟨y0, y1, y2⟩ := ivB_parts hy
  have hc := fun w => corn_div xl xh yl yh _ _ _ _ _ _ _ _ _ _ _ _ (fun w => div1_call xl yl w (by omega) (by omega) (by omega) (by omega)) (fun w => div1_call xl yh w (by omega) (by omega) (by omega) (by omega)) (fun w => div1_call xh yl w (by omega) (by omega) (by omega) (by omega)) (fun w => div1_call xh yh w (by omega) (by omega) (by omega) (by omega)) w
  obtain ⟨g1, g2, g3⟩ := corn_plain (xl * 1099511627776) yl (xl * 1099511627776) yh (xh * 1099511627776) yl (xh * 1099511627776) yh
  rw [g1, g2, g3] at hc
  clear g1 g2 g3
  have HC := Lib.hid @hc
  clear hc
  clear vx hx vy hy
  go_enter Try.func29, Try.ntmps29
  go_upto_region 1 with fail
  refine at_world (fun W => F3 w W xl xh yl yh) (f3_of w xl xh yl yh) ?_
  rintro W ⟨⟨k0, k1, k2, k3⟩, ⟨k4, k5, k6, k7⟩, ⟨k8, k9, k10, k11⟩, k12, k13, k14⟩
  have K := Lib.hid @k14
  clear k14
  have hmc := more_cell
  have hmh := more_heap
  have hmf := more_frozen
  refine at_world (fun W' => ∃ p, W' = more W p) ⟨⟨[], 0⟩, rfl⟩ ?_
  rintro _ ⟨p, rfl⟩
  go_wp2_with (first
    | (go_at_call 18; (with_reducible refine (calls_more_o (VX.out _)).mono ?_); rintro e w' ⟨rfl, q, rfl⟩)
    | (go_at_call 18; (with_reducible refine (calls_more_o (VY.out _)).mono ?_); rintro e w' ⟨rfl, q, rfl⟩)
    | (go_at_call 39; (with_reducible refine (calls_more (HC.out _)).mono ?_); rintro e w' ⟨rfl, q, rfl⟩))
  exact bodyPost_ret (v := .tuple #[.agg #[.int .i64 (mkL (cLo (xl * 1099511627776) yl (xl * 1099511627776) yh (xh * 1099511627776) yl (xh * 1099511627776) yh) (cHi (xl * 1099511627776) yl (xl * 1099511627776) yh (xh * 1099511627776) yl (xh * 1099511627776) yh) (cokB (xl * 1099511627776) yl (xl * 1099511627776) yh (xh * 1099511627776) yl (xh * 1099511627776) yh)), .int .i64 (mkH (cLo (xl * 1099511627776) yl (xl * 1099511627776) yh (xh * 1099511627776) yl (xh * 1099511627776) yh) (cHi (xl * 1099511627776) yl (xl * 1099511627776) yh (xh * 1099511627776) yl (xh * 1099511627776) yh) (cokB (xl * 1099511627776) yl (xl * 1099511627776) yh (xh * 1099511627776) yl (xh * 1099511627776) yh))], .bool (mkB (cLo (xl * 1099511627776) yl (xl * 1099511627776) yh (xh * 1099511627776) yl (xh * 1099511627776) yh) (cHi (xl * 1099511627776) yl (xl * 1099511627776) yh (xh * 1099511627776) yl (xh * 1099511627776) yh) (cokB (xl * 1099511627776) yl (xl * 1099511627776) yh (xh * 1099511627776) yl (xh * 1099511627776) yh))]) (by simp [results, Try.results29, go_sem, *]) rfl ⟨rfl, K.out _ _ _⟩

theorem ivDiv_call (xl xh yl yh : Int) (w : World) : Calls Try.prog 29 #[.agg #[.int .i64 xl, .int .i64 xh], .agg #[.int .i64 yl, .int .i64 yh]] w fun e w' => e = .returned (.tuple #[.agg #[.int .i64 (mkL (dLo xl xh yl yh) (dHi xl xh yl yh) (dOk xl xh yl yh)), .int .i64 (mkH (dLo xl xh yl yh) (dHi xl xh yl yh) (dOk xl xh yl yh))], .bool (mkB (dLo xl xh yl yh) (dHi xl xh yl yh) (dOk xl xh yl yh))]) ∧ ∃ p, w' = more w p := by
  unfold dOk
  by_cases hx : ivB xl xh = true
  · by_cases hy : ivB yl yh = true
    · rw [hx, hy]
      by_cases hz : 0 < yl
      · rw [decide_eq_true hz]
        simp only [Bool.true_and]
        have hyz := (ivB_parts hy).1
        exact ivDiv_yes xl xh yl yh hx hy hz w
      · rw [decide_eq_false hz]
        simp only [Bool.true_and, Bool.false_and]
        exact ivDiv_z xl xh yl yh hx hy (by omega) w
    · have hy : ivB yl yh = false := by simpa using hy
      rw [hy]; simp only [Bool.and_false, Bool.false_and]; exact ivDiv_y xl xh yl yh hx hy w
  · have hx : ivB xl xh = false := by simpa using hx
    rw [hx]; simp only [Bool.false_and]; exact ivDiv_x xl xh yl yh hx w

set_option maxHeartbeats 1000000 in
theorem rvDiv_x (xl xh yl yh : Int) (hx : ivB xl xh = false) (w : World) : Calls Try.prog 30 #[.agg #[.int .i64 xl, .int .i64 xh], .agg #[.int .i64 yl, .int .i64 yh]] w fun e w' => e = .returned (.tuple #[.agg #[.int .i64 (0), .int .i64 (0)], .bool (false)]) ∧ ∃ p, w' = more w p := by
  have vx := fun w => refValid_call xl xh w
  rw [hx] at vx
  have VX := Lib.hid @vx
  clear vx hx
  go_enter Try.func30, Try.ntmps30
  go_upto_region 1 with fail
  refine at_world (fun W => F3 w W xl xh yl yh) (f3_of w xl xh yl yh) ?_
  rintro W ⟨⟨k0, k1, k2, k3⟩, ⟨k4, k5, k6, k7⟩, ⟨k8, k9, k10, k11⟩, k12, k13, k14⟩
  have K := Lib.hid @k14
  clear k14
  have hmc := more_cell
  have hmh := more_heap
  have hmf := more_frozen
  refine at_world (fun W' => ∃ p, W' = more W p) ⟨⟨[], 0⟩, rfl⟩ ?_
  rintro _ ⟨p, rfl⟩
  go_wp2_with (first
    | (go_at_call 19; (with_reducible refine (calls_more_o (VX.out _)).mono ?_); rintro e w' ⟨rfl, q, rfl⟩))
  exact bodyPost_ret (v := .tuple #[.agg #[.int .i64 (0), .int .i64 (0)], .bool (false)]) (by simp [results, Try.results30, go_sem, *]) rfl ⟨rfl, K.out _ _ _⟩

set_option maxHeartbeats 1000000 in
theorem rvDiv_y (xl xh yl yh : Int) (hx : ivB xl xh = true) (hy : ivB yl yh = false) (w : World) : Calls Try.prog 30 #[.agg #[.int .i64 xl, .int .i64 xh], .agg #[.int .i64 yl, .int .i64 yh]] w fun e w' => e = .returned (.tuple #[.agg #[.int .i64 (0), .int .i64 (0)], .bool (false)]) ∧ ∃ p, w' = more w p := by
  have vx := fun w => refValid_call xl xh w
  rw [hx] at vx
  have VX := Lib.hid @vx
  have vy := fun w => refValid_call yl yh w
  rw [hy] at vy
  have VY := Lib.hid @vy
  clear vx hx vy hy
  go_enter Try.func30, Try.ntmps30
  go_upto_region 1 with fail
  refine at_world (fun W => F3 w W xl xh yl yh) (f3_of w xl xh yl yh) ?_
  rintro W ⟨⟨k0, k1, k2, k3⟩, ⟨k4, k5, k6, k7⟩, ⟨k8, k9, k10, k11⟩, k12, k13, k14⟩
  have K := Lib.hid @k14
  clear k14
  have hmc := more_cell
  have hmh := more_heap
  have hmf := more_frozen
  refine at_world (fun W' => ∃ p, W' = more W p) ⟨⟨[], 0⟩, rfl⟩ ?_
  rintro _ ⟨p, rfl⟩
  go_wp2_with (first
    | (go_at_call 19; (with_reducible refine (calls_more_o (VX.out _)).mono ?_); rintro e w' ⟨rfl, q, rfl⟩)
    | (go_at_call 19; (with_reducible refine (calls_more_o (VY.out _)).mono ?_); rintro e w' ⟨rfl, q, rfl⟩))
  exact bodyPost_ret (v := .tuple #[.agg #[.int .i64 (0), .int .i64 (0)], .bool (false)]) (by simp [results, Try.results30, go_sem, *]) rfl ⟨rfl, K.out _ _ _⟩

set_option maxHeartbeats 1000000 in
theorem rvDiv_z (xl xh yl yh : Int) (hx : ivB xl xh = true) (hy : ivB yl yh = true) (hz : yl ≤ 0) (w : World) : Calls Try.prog 30 #[.agg #[.int .i64 xl, .int .i64 xh], .agg #[.int .i64 yl, .int .i64 yh]] w fun e w' => e = .returned (.tuple #[.agg #[.int .i64 (0), .int .i64 (0)], .bool (false)]) ∧ ∃ p, w' = more w p := by
  have vx := fun w => refValid_call xl xh w
  rw [hx] at vx
  have VX := Lib.hid @vx
  have vy := fun w => refValid_call yl yh w
  rw [hy] at vy
  have VY := Lib.hid @vy
  clear vx hx vy hy
  go_enter Try.func30, Try.ntmps30
  go_upto_region 1 with fail
  refine at_world (fun W => F3 w W xl xh yl yh) (f3_of w xl xh yl yh) ?_
  rintro W ⟨⟨k0, k1, k2, k3⟩, ⟨k4, k5, k6, k7⟩, ⟨k8, k9, k10, k11⟩, k12, k13, k14⟩
  have K := Lib.hid @k14
  clear k14
  have hmc := more_cell
  have hmh := more_heap
  have hmf := more_frozen
  refine at_world (fun W' => ∃ p, W' = more W p) ⟨⟨[], 0⟩, rfl⟩ ?_
  rintro _ ⟨p, rfl⟩
  go_wp2_with (first
    | (go_at_call 19; (with_reducible refine (calls_more_o (VX.out _)).mono ?_); rintro e w' ⟨rfl, q, rfl⟩)
    | (go_at_call 19; (with_reducible refine (calls_more_o (VY.out _)).mono ?_); rintro e w' ⟨rfl, q, rfl⟩))
  exact bodyPost_ret (v := .tuple #[.agg #[.int .i64 (0), .int .i64 (0)], .bool (false)]) (by simp [results, Try.results30, go_sem, *]) rfl ⟨rfl, K.out _ _ _⟩

set_option maxHeartbeats 1000000 in
theorem rvDiv_yes (xl xh yl yh : Int) (hx : ivB xl xh = true) (hy : ivB yl yh = true) (hz : 0 < yl) (w : World) : Calls Try.prog 30 #[.agg #[.int .i64 xl, .int .i64 xh], .agg #[.int .i64 yl, .int .i64 yh]] w fun e w' => e = .returned (.tuple #[.agg #[.int .i64 (mkL (min4 (qd (xl * 1099511627776) yl false) (qd (xl * 1099511627776) yh false) (qd (xh * 1099511627776) yl false) (qd (xh * 1099511627776) yh false)) (max4 (qd (xl * 1099511627776) yl true) (qd (xl * 1099511627776) yh true) (qd (xh * 1099511627776) yl true) (qd (xh * 1099511627776) yh true)) true), .int .i64 (mkH (min4 (qd (xl * 1099511627776) yl false) (qd (xl * 1099511627776) yh false) (qd (xh * 1099511627776) yl false) (qd (xh * 1099511627776) yh false)) (max4 (qd (xl * 1099511627776) yl true) (qd (xl * 1099511627776) yh true) (qd (xh * 1099511627776) yl true) (qd (xh * 1099511627776) yh true)) true)], .bool (mkB (min4 (qd (xl * 1099511627776) yl false) (qd (xl * 1099511627776) yh false) (qd (xh * 1099511627776) yl false) (qd (xh * 1099511627776) yh false)) (max4 (qd (xl * 1099511627776) yl true) (qd (xl * 1099511627776) yh true) (qd (xh * 1099511627776) yl true) (qd (xh * 1099511627776) yh true)) true)]) ∧ ∃ p, w' = more w p := by
  have vx := fun w => refValid_call xl xh w
  rw [hx] at vx
  have VX := Lib.hid @vx
  have vy := fun w => refValid_call yl yh w
  rw [hy] at vy
  have VY := Lib.hid @vy
  obtain ⟨x0, x1, x2⟩ := ivB_parts hx
  obtain ⟨y0, y1, y2⟩ := ivB_parts hy
  have hc := fun w => four_div xl xh yl yh _ _ _ _ _ _ _ _ (by omega) (by omega) (by omega) (by omega) (fun w => quot_false xl 1099511627776 yl w (by omega) (by omega) (by omega) (by omega) (by omega) (by omega)) (fun w => quot_true xl 1099511627776 yl w (by omega) (by omega) (by omega) (by omega) (by omega) (by omega)) (fun w => quot_false xl 1099511627776 yh w (by omega) (by omega) (by omega) (by omega) (by omega) (by omega)) (fun w => quot_true xl 1099511627776 yh w (by omega) (by omega) (by omega) (by omega) (by omega) (by omega)) (fun w => quot_false xh 1099511627776 yl w (by omega) (by omega) (by omega) (by omega) (by omega) (by omega)) (fun w => quot_true xh 1099511627776 yl w (by omega) (by omega) (by omega) (by omega) (by omega) (by omega)) (fun w => quot_false xh 1099511627776 yh w (by omega) (by omega) (by omega) (by omega) (by omega) (by omega)) (fun w => quot_true xh 1099511627776 yh w (by omega) (by omega) (by omega) (by omega) (by omega) (by omega)) w
  have HC := Lib.hid @hc
  clear hc
  clear vx hx vy hy
  go_enter Try.func30, Try.ntmps30
  go_upto_region 1 with fail
  refine at_world (fun W => F3 w W xl xh yl yh) (f3_of w xl xh yl yh) ?_
  rintro W ⟨⟨k0, k1, k2, k3⟩, ⟨k4, k5, k6, k7⟩, ⟨k8, k9, k10, k11⟩, k12, k13, k14⟩
  have K := Lib.hid @k14
  clear k14
  have hmc := more_cell
  have hmh := more_heap
  have hmf := more_frozen
  refine at_world (fun W' => ∃ p, W' = more W p) ⟨⟨[], 0⟩, rfl⟩ ?_
  rintro _ ⟨p, rfl⟩
  go_wp2_with (first
    | (go_at_call 19; (with_reducible refine (calls_more_o (VX.out _)).mono ?_); rintro e w' ⟨rfl, q, rfl⟩)
    | (go_at_call 19; (with_reducible refine (calls_more_o (VY.out _)).mono ?_); rintro e w' ⟨rfl, q, rfl⟩)
    | (go_at_call 45; (with_reducible refine (calls_more (HC.out _)).mono ?_); rintro e w' ⟨rfl, q, rfl⟩))
  exact bodyPost_ret (v := .tuple #[.agg #[.int .i64 (mkL (min4 (qd (xl * 1099511627776) yl false) (qd (xl * 1099511627776) yh false) (qd (xh * 1099511627776) yl false) (qd (xh * 1099511627776) yh false)) (max4 (qd (xl * 1099511627776) yl true) (qd (xl * 1099511627776) yh true) (qd (xh * 1099511627776) yl true) (qd (xh * 1099511627776) yh true)) true), .int .i64 (mkH (min4 (qd (xl * 1099511627776) yl false) (qd (xl * 1099511627776) yh false) (qd (xh * 1099511627776) yl false) (qd (xh * 1099511627776) yh false)) (max4 (qd (xl * 1099511627776) yl true) (qd (xl * 1099511627776) yh true) (qd (xh * 1099511627776) yl true) (qd (xh * 1099511627776) yh true)) true)], .bool (mkB (min4 (qd (xl * 1099511627776) yl false) (qd (xl * 1099511627776) yh false) (qd (xh * 1099511627776) yl false) (qd (xh * 1099511627776) yh false)) (max4 (qd (xl * 1099511627776) yl true) (qd (xl * 1099511627776) yh true) (qd (xh * 1099511627776) yl true) (qd (xh * 1099511627776) yh true)) true)]) (by simp [results, Try.results30, go_sem, *]) rfl ⟨rfl, K.out _ _ _⟩

theorem rvDiv_call (xl xh yl yh : Int) (w : World) : Calls Try.prog 30 #[.agg #[.int .i64 xl, .int .i64 xh], .agg #[.int .i64 yl, .int .i64 yh]] w fun e w' => e = .returned (.tuple #[.agg #[.int .i64 (mkL (dLo xl xh yl yh) (dHi xl xh yl yh) (dOk xl xh yl yh)), .int .i64 (mkH (dLo xl xh yl yh) (dHi xl xh yl yh) (dOk xl xh yl yh))], .bool (mkB (dLo xl xh yl yh) (dHi xl xh yl yh) (dOk xl xh yl yh))]) ∧ ∃ p, w' = more w p := by
  unfold dOk
  by_cases hx : ivB xl xh = true
  · by_cases hy : ivB yl yh = true
    · rw [hx, hy]
      by_cases hz : 0 < yl
      · rw [decide_eq_true hz]
        simp only [Bool.true_and]
        have hyz := (ivB_parts hy).1
        obtain ⟨g1, g2, g3⟩ := four_agree (xl * 1099511627776) yl (xl * 1099511627776) yh (xh * 1099511627776) yl (xh * 1099511627776) yh (by omega) (by omega) (by omega) (by omega)
        unfold dLo dHi
        rw [g1, g2, g3]
        exact rvDiv_yes xl xh yl yh hx hy hz w
      · rw [decide_eq_false hz]
        simp only [Bool.true_and, Bool.false_and]
        exact rvDiv_z xl xh yl yh hx hy (by omega) w
    · have hy : ivB yl yh = false := by simpa using hy
      rw [hy]; simp only [Bool.and_false, Bool.false_and]; exact rvDiv_y xl xh yl yh hx hy w
  · have hx : ivB xl xh = false := by simpa using hx
    rw [hx]; simp only [Bool.false_and]; exact rvDiv_x xl xh yl yh hx w

end Go.Proofs.Ytdbemgjjahcabaa
