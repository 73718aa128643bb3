/- Contracts of Add, Sub, Min, Max and Hull. -/
import Derived.Test.YtdbemgjjahcabaaIvMem
import Derived.Lib.MinMax
namespace Go.Proofs.Ytdbemgjjahcabaa
open Go.RowKit
set_option linter.unusedVariables false

set_option maxHeartbeats 1000000 in
theorem add_x (xl xh yl yh : Int) (hx : ivB xl xh = false) (w : World) : Calls Try.prog 14 #[.agg #[.int .i64 xl, .int .i64 xh], .agg #[.int .i64 yl, .int .i64 yh]] w fun e w' => e = .returned (.tuple #[.agg #[.int .i64 (0), .int .i64 (0)], .bool (false)]) ∧ ∃ p, w' = more w p := by
  have vx := fun w => valid_call xl xh w
  rw [hx] at vx
  have VX := Lib.hid @vx
  have md := fun lo hi w => made_call lo hi false w
  simp only [mk_false] at md
  have MD := Lib.hid @md
  clear md
  clear vx hx
  go_enter Try.func14, Try.ntmps14
  go_upto_region 1 with fail
  refine at_world (fun W => F3 w W xl xh yl yh) (f3_of w xl xh yl yh) ?_
  rintro W ⟨⟨k0, k1, k2, k3⟩, ⟨k4, k5, k6, k7⟩, ⟨k8, k9, k10, k11⟩, k12, k13, k14⟩
  have K := Lib.hid @k14
  clear k14
  have hmc := more_cell
  have hmh := more_heap
  have hmf := more_frozen
  refine region_tail 19 (by kernel_rfl) (by kernel_rfl) ?_
  simp only [List.take_succ_cons, List.take_zero, List.drop_succ_cons, List.drop_zero]
  repeat (go_big_quiet_step ((first
    | (go_at_call 18; with_reducible exact calls_more_o (VX.out _))
    | (go_at_call 37; exact calls_more (MD.out _ _ _)))))
  refine wpQuiet_nil ?_
  rintro w1 ⟨p, rfl⟩
  go_wp2
  exact bodyPost_ret (v := .tuple #[.agg #[.int .i64 (0), .int .i64 (0)], .bool (false)]) (by simp [results, Try.results14, go_sem, *]) rfl ⟨rfl, K.out _ _ _⟩

set_option maxHeartbeats 1000000 in
theorem add_y (xl xh yl yh : Int) (hx : ivB xl xh = true) (hy : ivB yl yh = false) (w : World) : Calls Try.prog 14 #[.agg #[.int .i64 xl, .int .i64 xh], .agg #[.int .i64 yl, .int .i64 yh]] w fun e w' => e = .returned (.tuple #[.agg #[.int .i64 (0), .int .i64 (0)], .bool (false)]) ∧ ∃ p, w' = more w p := by
  have vx := fun w => valid_call xl xh w
  rw [hx] at vx
  have VX := Lib.hid @vx
  have vy := fun w => valid_call yl yh w
  rw [hy] at vy
  have VY := Lib.hid @vy
  have md := fun lo hi w => made_call lo hi false w
  simp only [mk_false] at md
  have MD := Lib.hid @md
  clear md
  clear vx hx vy hy
  go_enter Try.func14, Try.ntmps14
  go_upto_region 1 with fail
  refine at_world (fun W => F3 w W xl xh yl yh) (f3_of w xl xh yl yh) ?_
  rintro W ⟨⟨k0, k1, k2, k3⟩, ⟨k4, k5, k6, k7⟩, ⟨k8, k9, k10, k11⟩, k12, k13, k14⟩
  have K := Lib.hid @k14
  clear k14
  have hmc := more_cell
  have hmh := more_heap
  have hmf := more_frozen
  refine region_tail 19 (by kernel_rfl) (by kernel_rfl) ?_
  simp only [List.take_succ_cons, List.take_zero, List.drop_succ_cons, List.drop_zero]
  repeat (go_big_quiet_step ((first
    | (go_at_call 18; with_reducible exact calls_more_o (VX.out _))
    | (go_at_call 18; with_reducible exact calls_more_o (VY.out _))
    | (go_at_call 37; exact calls_more (MD.out _ _ _)))))
  refine wpQuiet_nil ?_
  rintro w1 ⟨p, rfl⟩
  go_wp2
  exact bodyPost_ret (v := .tuple #[.agg #[.int .i64 (0), .int .i64 (0)], .bool (false)]) (by simp [results, Try.results14, go_sem, *]) rfl ⟨rfl, K.out _ _ _⟩

set_option maxHeartbeats 1000000 in
theorem add_yes (xl xh yl yh : Int) (hx : ivB xl xh = true) (hy : ivB yl yh = true) (w : World) : Calls Try.prog 14 #[.agg #[.int .i64 xl, .int .i64 xh], .agg #[.int .i64 yl, .int .i64 yh]] w fun e w' => e = .returned (.tuple #[.agg #[.int .i64 (mkL (xl + yl) (xh + yh) true), .int .i64 (mkH (xl + yl) (xh + yh) true)], .bool (mkB (xl + yl) (xh + yh) true)]) ∧ ∃ p, w' = more w p := by
  have vx := fun w => valid_call xl xh w
  rw [hx] at vx
  have VX := Lib.hid @vx
  have vy := fun w => valid_call yl yh w
  rw [hy] at vy
  have VY := Lib.hid @vy
  obtain ⟨x0, x1, x2⟩ := ivB_parts hx
  obtain ⟨y0, y1, y2⟩ := ivB_parts hy
  have MD := Lib.hid @(fun w => made_call (xl + yl) (xh + yh) true w)
  clear vx hx vy hy
  go_enter Try.func14, Try.ntmps14
  go_upto_region 1 with fail
  refine at_world (fun W => F3 w W xl xh yl yh) (f3_of w xl xh yl yh) ?_
  rintro W ⟨⟨k0, k1, k2, k3⟩, ⟨k4, k5, k6, k7⟩, ⟨k8, k9, k10, k11⟩, k12, k13, k14⟩
  have K := Lib.hid @k14
  clear k14
  have hmc := more_cell
  have hmh := more_heap
  have hmf := more_frozen
  refine region_tail 19 (by kernel_rfl) (by kernel_rfl) ?_
  simp only [List.take_succ_cons, List.take_zero, List.drop_succ_cons, List.drop_zero]
  repeat (go_big_quiet_step ((first
    | (go_at_call 18; with_reducible exact calls_more_o (VX.out _))
    | (go_at_call 18; with_reducible exact calls_more_o (VY.out _))
    | (go_at_call 37; exact calls_more (MD.out _)))))
  refine wpQuiet_nil ?_
  rintro w1 ⟨p, rfl⟩
  go_wp2
  exact bodyPost_ret (v := .tuple #[.agg #[.int .i64 (mkL (xl + yl) (xh + yh) true), .int .i64 (mkH (xl + yl) (xh + yh) true)], .bool (mkB (xl + yl) (xh + yh) true)]) (by simp [results, Try.results14, go_sem, *]) rfl ⟨rfl, K.out _ _ _⟩

theorem add_call (xl xh yl yh : Int) (w : World) : Calls Try.prog 14 #[.agg #[.int .i64 xl, .int .i64 xh], .agg #[.int .i64 yl, .int .i64 yh]] w fun e w' => e = .returned (.tuple #[.agg #[.int .i64 (mkL (xl + yl) (xh + yh) (ivB xl xh && ivB yl yh)), .int .i64 (mkH (xl + yl) (xh + yh) (ivB xl xh && ivB yl yh))], .bool (mkB (xl + yl) (xh + yh) (ivB xl xh && ivB yl yh))]) ∧ ∃ p, w' = more w p := by
  by_cases hx : ivB xl xh = true
  · by_cases hy : ivB yl yh = true
    · rw [hx, hy, Bool.and_true]; exact add_yes xl xh yl yh hx hy w
    · have hy : ivB yl yh = false := by simpa using hy
      rw [hy, Bool.and_false]; exact add_y xl xh yl yh hx hy w
  · have hx : ivB xl xh = false := by simpa using hx
    rw [hx, Bool.false_and]; exact add_x xl xh yl yh hx w

set_option maxHeartbeats 1000000 in
theorem refAdd_x (xl xh yl yh : Int) (hx : ivB xl xh = false) (w : World) : Calls Try.prog 15 #[.agg #[.int .i64 xl, .int .i64 xh], .agg #[.int .i64 yl, .int .i64 yh]] w fun e w' => e = .returned (.tuple #[.agg #[.int .i64 (0), .int .i64 (0)], .bool (false)]) ∧ ∃ p, w' = more w p := by
  have vx := fun w => refValid_call xl xh w
  rw [hx] at vx
  have VX := Lib.hid @vx
  clear vx hx
  go_enter Try.func15, Try.ntmps15
  go_upto_region 1 with fail
  refine at_world (fun W => F3 w W xl xh yl yh) (f3_of w xl xh yl yh) ?_
  rintro W ⟨⟨k0, k1, k2, k3⟩, ⟨k4, k5, k6, k7⟩, ⟨k8, k9, k10, k11⟩, k12, k13, k14⟩
  have K := Lib.hid @k14
  clear k14
  have hmc := more_cell
  have hmh := more_heap
  have hmf := more_frozen
  refine at_world (fun W' => ∃ p, W' = more W p) ⟨⟨[], 0⟩, rfl⟩ ?_
  rintro _ ⟨p, rfl⟩
  go_wp2_with (first
    | (go_at_call 19; (with_reducible refine (calls_more_o (VX.out _)).mono ?_); rintro e w' ⟨rfl, q, rfl⟩))
  exact bodyPost_ret (v := .tuple #[.agg #[.int .i64 (0), .int .i64 (0)], .bool (false)]) (by simp [results, Try.results15, go_sem, *]) rfl ⟨rfl, K.out _ _ _⟩

set_option maxHeartbeats 1000000 in
theorem refAdd_y (xl xh yl yh : Int) (hx : ivB xl xh = true) (hy : ivB yl yh = false) (w : World) : Calls Try.prog 15 #[.agg #[.int .i64 xl, .int .i64 xh], .agg #[.int .i64 yl, .int .i64 yh]] w fun e w' => e = .returned (.tuple #[.agg #[.int .i64 (0), .int .i64 (0)], .bool (false)]) ∧ ∃ p, w' = more w p := by
  have vx := fun w => refValid_call xl xh w
  rw [hx] at vx
  have VX := Lib.hid @vx
  have vy := fun w => refValid_call yl yh w
  rw [hy] at vy
  have VY := Lib.hid @vy
  clear vx hx vy hy
  go_enter Try.func15, Try.ntmps15
  go_upto_region 1 with fail
  refine at_world (fun W => F3 w W xl xh yl yh) (f3_of w xl xh yl yh) ?_
  rintro W ⟨⟨k0, k1, k2, k3⟩, ⟨k4, k5, k6, k7⟩, ⟨k8, k9, k10, k11⟩, k12, k13, k14⟩
  have K := Lib.hid @k14
  clear k14
  have hmc := more_cell
  have hmh := more_heap
  have hmf := more_frozen
  refine at_world (fun W' => ∃ p, W' = more W p) ⟨⟨[], 0⟩, rfl⟩ ?_
  rintro _ ⟨p, rfl⟩
  go_wp2_with (first
    | (go_at_call 19; (with_reducible refine (calls_more_o (VX.out _)).mono ?_); rintro e w' ⟨rfl, q, rfl⟩)
    | (go_at_call 19; (with_reducible refine (calls_more_o (VY.out _)).mono ?_); rintro e w' ⟨rfl, q, rfl⟩))
  exact bodyPost_ret (v := .tuple #[.agg #[.int .i64 (0), .int .i64 (0)], .bool (false)]) (by simp [results, Try.results15, go_sem, *]) rfl ⟨rfl, K.out _ _ _⟩

set_option maxHeartbeats 1000000 in
theorem refAdd_yes (xl xh yl yh : Int) (hx : ivB xl xh = true) (hy : ivB yl yh = true) (w : World) : Calls Try.prog 15 #[.agg #[.int .i64 xl, .int .i64 xh], .agg #[.int .i64 yl, .int .i64 yh]] w fun e w' => e = .returned (.tuple #[.agg #[.int .i64 (mkL (xl + yl) (xh + yh) true), .int .i64 (mkH (xl + yl) (xh + yh) true)], .bool (mkB (xl + yl) (xh + yh) true)]) ∧ ∃ p, w' = more w p := by
  have vx := fun w => refValid_call xl xh w
  rw [hx] at vx
  have VX := Lib.hid @vx
  have vy := fun w => refValid_call yl yh w
  rw [hy] at vy
  have VY := Lib.hid @vy
  obtain ⟨x0, x1, x2⟩ := ivB_parts hx
  obtain ⟨y0, y1, y2⟩ := ivB_parts hy
  have MD := Lib.hid @(fun w => refMade_call (xl + yl) (xh + yh) w)
  clear vx hx vy hy
  go_enter Try.func15, Try.ntmps15
  go_upto_region 1 with fail
  refine at_world (fun W => F3 w W xl xh yl yh) (f3_of w xl xh yl yh) ?_
  rintro W ⟨⟨k0, k1, k2, k3⟩, ⟨k4, k5, k6, k7⟩, ⟨k8, k9, k10, k11⟩, k12, k13, k14⟩
  have K := Lib.hid @k14
  clear k14
  have hmc := more_cell
  have hmh := more_heap
  have hmf := more_frozen
  refine at_world (fun W' => ∃ p, W' = more W p) ⟨⟨[], 0⟩, rfl⟩ ?_
  rintro _ ⟨p, rfl⟩
  go_wp2_with (first
    | (go_at_call 19; (with_reducible refine (calls_more_o (VX.out _)).mono ?_); rintro e w' ⟨rfl, q, rfl⟩)
    | (go_at_call 19; (with_reducible refine (calls_more_o (VY.out _)).mono ?_); rintro e w' ⟨rfl, q, rfl⟩)
    | (go_at_call 38; (with_reducible refine (calls_more (MD.out _)).mono ?_); rintro e w' ⟨rfl, q, rfl⟩))
  exact bodyPost_ret (v := .tuple #[.agg #[.int .i64 (mkL (xl + yl) (xh + yh) true), .int .i64 (mkH (xl + yl) (xh + yh) true)], .bool (mkB (xl + yl) (xh + yh) true)]) (by simp [results, Try.results15, go_sem, *]) rfl ⟨rfl, K.out _ _ _⟩

theorem refAdd_call (xl xh yl yh : Int) (w : World) : Calls Try.prog 15 #[.agg #[.int .i64 xl, .int .i64 xh], .agg #[.int .i64 yl, .int .i64 yh]] w fun e w' => e = .returned (.tuple #[.agg #[.int .i64 (mkL (xl + yl) (xh + yh) (ivB xl xh && ivB yl yh)), .int .i64 (mkH (xl + yl) (xh + yh) (ivB xl xh && ivB yl yh))], .bool (mkB (xl + yl) (xh + yh) (ivB xl xh && ivB yl yh))]) ∧ ∃ p, w' = more w p := by
  by_cases hx : ivB xl xh = true
  · by_cases hy : ivB yl yh = true
    · rw [hx, hy, Bool.and_true]; exact refAdd_yes xl xh yl yh hx hy w
    · have hy : ivB yl yh = false := by simpa using hy
      rw [hy, Bool.and_false]; exact refAdd_y xl xh yl yh hx hy w
  · have hx : ivB xl xh = false := by simpa using hx
    rw [hx, Bool.false_and]; exact refAdd_x xl xh yl yh hx w

set_option maxHeartbeats 1000000 in
theorem sub_x (xl xh yl yh : Int) (hx : ivB xl xh = false) (w : World) : Calls Try.prog 16 #[.agg #[.int .i64 xl, .int .i64 xh], .agg #[.int .i64 yl, .int .i64 yh]] w fun e w' => e = .returned (.tuple #[.agg #[.int .i64 (0), .int .i64 (0)], .bool (false)]) ∧ ∃ p, w' = more w p := by
  have vx := fun w => valid_call xl xh w
  rw [hx] at vx
  have VX := Lib.hid @vx
  have md := fun lo hi w => made_call lo hi false w
  simp only [mk_false] at md
  have MD := Lib.hid @md
  clear md
  clear vx hx
  go_enter Try.func16, Try.ntmps16
  go_upto_region 1 with fail
  refine at_world (fun W => F3 w W xl xh yl yh) (f3_of w xl xh yl yh) ?_
  rintro W ⟨⟨k0, k1, k2, k3⟩, ⟨k4, k5, k6, k7⟩, ⟨k8, k9, k10, k11⟩, k12, k13, k14⟩
  have K := Lib.hid @k14
  clear k14
  have hmc := more_cell
  have hmh := more_heap
  have hmf := more_frozen
  refine region_tail 19 (by kernel_rfl) (by kernel_rfl) ?_
  simp only [List.take_succ_cons, List.take_zero, List.drop_succ_cons, List.drop_zero]
  repeat (go_big_quiet_step ((first
    | (go_at_call 18; with_reducible exact calls_more_o (VX.out _))
    | (go_at_call 37; exact calls_more (MD.out _ _ _)))))
  refine wpQuiet_nil ?_
  rintro w1 ⟨p, rfl⟩
  go_wp2
  exact bodyPost_ret (v := .tuple #[.agg #[.int .i64 (0), .int .i64 (0)], .bool (false)]) (by simp [results, Try.results16, go_sem, *]) rfl ⟨rfl, K.out _ _ _⟩

set_option maxHeartbeats 1000000 in
theorem sub_y (xl xh yl yh : Int) (hx : ivB xl xh = true) (hy : ivB yl yh = false) (w : World) : Calls Try.prog 16 #[.agg #[.int .i64 xl, .int .i64 xh], .agg #[.int .i64 yl, .int .i64 yh]] w fun e w' => e = .returned (.tuple #[.agg #[.int .i64 (0), .int .i64 (0)], .bool (false)]) ∧ ∃ p, w' = more w p := by
  have vx := fun w => valid_call xl xh w
  rw [hx] at vx
  have VX := Lib.hid @vx
  have vy := fun w => valid_call yl yh w
  rw [hy] at vy
  have VY := Lib.hid @vy
  have md := fun lo hi w => made_call lo hi false w
  simp only [mk_false] at md
  have MD := Lib.hid @md
  clear md
  clear vx hx vy hy
  go_enter Try.func16, Try.ntmps16
  go_upto_region 1 with fail
  refine at_world (fun W => F3 w W xl xh yl yh) (f3_of w xl xh yl yh) ?_
  rintro W ⟨⟨k0, k1, k2, k3⟩, ⟨k4, k5, k6, k7⟩, ⟨k8, k9, k10, k11⟩, k12, k13, k14⟩
  have K := Lib.hid @k14
  clear k14
  have hmc := more_cell
  have hmh := more_heap
  have hmf := more_frozen
  refine region_tail 19 (by kernel_rfl) (by kernel_rfl) ?_
  simp only [List.take_succ_cons, List.take_zero, List.drop_succ_cons, List.drop_zero]
  repeat (go_big_quiet_step ((first
    | (go_at_call 18; with_reducible exact calls_more_o (VX.out _))
    | (go_at_call 18; with_reducible exact calls_more_o (VY.out _))
    | (go_at_call 37; exact calls_more (MD.out _ _ _)))))
  refine wpQuiet_nil ?_
  rintro w1 ⟨p, rfl⟩
  go_wp2
  exact bodyPost_ret (v := .tuple #[.agg #[.int .i64 (0), .int .i64 (0)], .bool (false)]) (by simp [results, Try.results16, go_sem, *]) rfl ⟨rfl, K.out _ _ _⟩

set_option maxHeartbeats 1000000 in
theorem sub_yes (xl xh yl yh : Int) (hx : ivB xl xh = true) (hy : ivB yl yh = true) (w : World) : Calls Try.prog 16 #[.agg #[.int .i64 xl, .int .i64 xh], .agg #[.int .i64 yl, .int .i64 yh]] w fun e w' => e = .returned (.tuple #[.agg #[.int .i64 (mkL (xl - yh) (xh - yl) true), .int .i64 (mkH (xl - yh) (xh - yl) true)], .bool (mkB (xl - yh) (xh - yl) true)]) ∧ ∃ p, w' = more w p := by
  have vx := fun w => valid_call xl xh w
  rw [hx] at vx
  have VX := Lib.hid @vx
  have vy := fun w => valid_call yl yh w
  rw [hy] at vy
  have VY := Lib.hid @vy
  obtain ⟨x0, x1, x2⟩ := ivB_parts hx
  obtain ⟨y0, y1, y2⟩ := ivB_parts hy
  have MD := Lib.hid @(fun w => made_call (xl - yh) (xh - yl) true w)
  clear vx hx vy hy
  go_enter Try.func16, Try.ntmps16
  go_upto_region 1 with fail
  refine at_world (fun W => F3 w W xl xh yl yh) (f3_of w xl xh yl yh) ?_
  rintro W ⟨⟨k0, k1, k2, k3⟩, ⟨k4, k5, k6, k7⟩, ⟨k8, k9, k10, k11⟩, k12, k13, k14⟩
  have K := Lib.hid @k14
  clear k14
  have hmc := more_cell
  have hmh := more_heap
  have hmf := more_frozen
  refine region_tail 19 (by kernel_rfl) (by kernel_rfl) ?_
  simp only [List.take_succ_cons, List.take_zero, List.drop_succ_cons, List.drop_zero]
  repeat (go_big_quiet_step ((first
    | (go_at_call 18; with_reducible exact calls_more_o (VX.out _))
    | (go_at_call 18; with_reducible exact calls_more_o (VY.out _))
    | (go_at_call 37; exact calls_more (MD.out _)))))
  refine wpQuiet_nil ?_
  rintro w1 ⟨p, rfl⟩
  go_wp2
  exact bodyPost_ret (v := .tuple #[.agg #[.int .i64 (mkL (xl - yh) (xh - yl) true), .int .i64 (mkH (xl - yh) (xh - yl) true)], .bool (mkB (xl - yh) (xh - yl) true)]) (by simp [results, Try.results16, go_sem, *]) rfl ⟨rfl, K.out _ _ _⟩

theorem sub_call (xl xh yl yh : Int) (w : World) : Calls Try.prog 16 #[.agg #[.int .i64 xl, .int .i64 xh], .agg #[.int .i64 yl, .int .i64 yh]] w fun e w' => e = .returned (.tuple #[.agg #[.int .i64 (mkL (xl - yh) (xh - yl) (ivB xl xh && ivB yl yh)), .int .i64 (mkH (xl - yh) (xh - yl) (ivB xl xh && ivB yl yh))], .bool (mkB (xl - yh) (xh - yl) (ivB xl xh && ivB yl yh))]) ∧ ∃ p, w' = more w p := by
  by_cases hx : ivB xl xh = true
  · by_cases hy : ivB yl yh = true
    · rw [hx, hy, Bool.and_true]; exact sub_yes xl xh yl yh hx hy w
    · have hy : ivB yl yh = false := by simpa using hy
      rw [hy, Bool.and_false]; exact sub_y xl xh yl yh hx hy w
  · have hx : ivB xl xh = false := by simpa using hx
    rw [hx, Bool.false_and]; exact sub_x xl xh yl yh hx w

set_option maxHeartbeats 1000000 in
theorem refSub_x (xl xh yl yh : Int) (hx : ivB xl xh = false) (w : World) : Calls Try.prog 17 #[.agg #[.int .i64 xl, .int .i64 xh], .agg #[.int .i64 yl, .int .i64 yh]] w fun e w' => e = .returned (.tuple #[.agg #[.int .i64 (0), .int .i64 (0)], .bool (false)]) ∧ ∃ p, w' = more w p := by
  have vx := fun w => refValid_call xl xh w
  rw [hx] at vx
  have VX := Lib.hid @vx
  clear vx hx
  go_enter Try.func17, Try.ntmps17
  go_upto_region 1 with fail
  refine at_world (fun W => F3 w W xl xh yl yh) (f3_of w xl xh yl yh) ?_
  rintro W ⟨⟨k0, k1, k2, k3⟩, ⟨k4, k5, k6, k7⟩, ⟨k8, k9, k10, k11⟩, k12, k13, k14⟩
  have K := Lib.hid @k14
  clear k14
  have hmc := more_cell
  have hmh := more_heap
  have hmf := more_frozen
  refine at_world (fun W' => ∃ p, W' = more W p) ⟨⟨[], 0⟩, rfl⟩ ?_
  rintro _ ⟨p, rfl⟩
  go_wp2_with (first
    | (go_at_call 19; (with_reducible refine (calls_more_o (VX.out _)).mono ?_); rintro e w' ⟨rfl, q, rfl⟩))
  exact bodyPost_ret (v := .tuple #[.agg #[.int .i64 (0), .int .i64 (0)], .bool (false)]) (by simp [results, Try.results17, go_sem, *]) rfl ⟨rfl, K.out _ _ _⟩

set_option maxHeartbeats 1000000 in
theorem refSub_y (xl xh yl yh : Int) (hx : ivB xl xh = true) (hy : ivB yl yh = false) (w : World) : Calls Try.prog 17 #[.agg #[.int .i64 xl, .int .i64 xh], .agg #[.int .i64 yl, .int .i64 yh]] w fun e w' => e = .returned (.tuple #[.agg #[.int .i64 (0), .int .i64 (0)], .bool (false)]) ∧ ∃ p, w' = more w p := by
  have vx := fun w => refValid_call xl xh w
  rw [hx] at vx
  have VX := Lib.hid @vx
  have vy := fun w => refValid_call yl yh w
  rw [hy] at vy
  have VY := Lib.hid @vy
  clear vx hx vy hy
  go_enter Try.func17, Try.ntmps17
  go_upto_region 1 with fail
  refine at_world (fun W => F3 w W xl xh yl yh) (f3_of w xl xh yl yh) ?_
  rintro W ⟨⟨k0, k1, k2, k3⟩, ⟨k4, k5, k6, k7⟩, ⟨k8, k9, k10, k11⟩, k12, k13, k14⟩
  have K := Lib.hid @k14
  clear k14
  have hmc := more_cell
  have hmh := more_heap
  have hmf := more_frozen
  refine at_world (fun W' => ∃ p, W' = more W p) ⟨⟨[], 0⟩, rfl⟩ ?_
  rintro _ ⟨p, rfl⟩
  go_wp2_with (first
    | (go_at_call 19; (with_reducible refine (calls_more_o (VX.out _)).mono ?_); rintro e w' ⟨rfl, q, rfl⟩)
    | (go_at_call 19; (with_reducible refine (calls_more_o (VY.out _)).mono ?_); rintro e w' ⟨rfl, q, rfl⟩))
  exact bodyPost_ret (v := .tuple #[.agg #[.int .i64 (0), .int .i64 (0)], .bool (false)]) (by simp [results, Try.results17, go_sem, *]) rfl ⟨rfl, K.out _ _ _⟩

set_option maxHeartbeats 1000000 in
theorem refSub_yes (xl xh yl yh : Int) (hx : ivB xl xh = true) (hy : ivB yl yh = true) (w : World) : Calls Try.prog 17 #[.agg #[.int .i64 xl, .int .i64 xh], .agg #[.int .i64 yl, .int .i64 yh]] w fun e w' => e = .returned (.tuple #[.agg #[.int .i64 (mkL (xl - yh) (xh - yl) true), .int .i64 (mkH (xl - yh) (xh - yl) true)], .bool (mkB (xl - yh) (xh - yl) true)]) ∧ ∃ p, w' = more w p := by
  have vx := fun w => refValid_call xl xh w
  rw [hx] at vx
  have VX := Lib.hid @vx
  have vy := fun w => refValid_call yl yh w
  rw [hy] at vy
  have VY := Lib.hid @vy
  obtain ⟨x0, x1, x2⟩ := ivB_parts hx
  obtain ⟨y0, y1, y2⟩ := ivB_parts hy
  have MD := Lib.hid @(fun w => refMade_call (xl - yh) (xh - yl) w)
  clear vx hx vy hy
  go_enter Try.func17, Try.ntmps17
  go_upto_region 1 with fail
  refine at_world (fun W => F3 w W xl xh yl yh) (f3_of w xl xh yl yh) ?_
  rintro W ⟨⟨k0, k1, k2, k3⟩, ⟨k4, k5, k6, k7⟩, ⟨k8, k9, k10, k11⟩, k12, k13, k14⟩
  have K := Lib.hid @k14
  clear k14
  have hmc := more_cell
  have hmh := more_heap
  have hmf := more_frozen
  refine at_world (fun W' => ∃ p, W' = more W p) ⟨⟨[], 0⟩, rfl⟩ ?_
  rintro _ ⟨p, rfl⟩
  go_wp2_with (first
    | (go_at_call 19; (with_reducible refine (calls_more_o (VX.out _)).mono ?_); rintro e w' ⟨rfl, q, rfl⟩)
    | (go_at_call 19; (with_reducible refine (calls_more_o (VY.out _)).mono ?_); rintro e w' ⟨rfl, q, rfl⟩)
    | (go_at_call 38; (with_reducible refine (calls_more (MD.out _)).mono ?_); rintro e w' ⟨rfl, q, rfl⟩))
  exact bodyPost_ret (v := .tuple #[.agg #[.int .i64 (mkL (xl - yh) (xh - yl) true), .int .i64 (mkH (xl - yh) (xh - yl) true)], .bool (mkB (xl - yh) (xh - yl) true)]) (by simp [results, Try.results17, go_sem, *]) rfl ⟨rfl, K.out _ _ _⟩

theorem refSub_call (xl xh yl yh : Int) (w : World) : Calls Try.prog 17 #[.agg #[.int .i64 xl, .int .i64 xh], .agg #[.int .i64 yl, .int .i64 yh]] w fun e w' => e = .returned (.tuple #[.agg #[.int .i64 (mkL (xl - yh) (xh - yl) (ivB xl xh && ivB yl yh)), .int .i64 (mkH (xl - yh) (xh - yl) (ivB xl xh && ivB yl yh))], .bool (mkB (xl - yh) (xh - yl) (ivB xl xh && ivB yl yh))]) ∧ ∃ p, w' = more w p := by
  by_cases hx : ivB xl xh = true
  · by_cases hy : ivB yl yh = true
    · rw [hx, hy, Bool.and_true]; exact refSub_yes xl xh yl yh hx hy w
    · have hy : ivB yl yh = false := by simpa using hy
      rw [hy, Bool.and_false]; exact refSub_y xl xh yl yh hx hy w
  · have hx : ivB xl xh = false := by simpa using hx
    rw [hx, Bool.false_and]; exact refSub_x xl xh yl yh hx w

set_option maxHeartbeats 1000000 in
theorem min_x (xl xh yl yh : Int) (hx : ivB xl xh = false) (w : World) : Calls Try.prog 20 #[.agg #[.int .i64 xl, .int .i64 xh], .agg #[.int .i64 yl, .int .i64 yh]] w fun e w' => e = .returned (.tuple #[.agg #[.int .i64 (0), .int .i64 (0)], .bool (false)]) ∧ ∃ p, w' = more w p := by
  have vx := fun w => valid_call xl xh w
  rw [hx] at vx
  have VX := Lib.hid @vx
  have md := fun lo hi w => made_call lo hi false w
  simp only [mk_false] at md
  have MD := Lib.hid @md
  clear md
  clear vx hx
  go_enter Try.func20, Try.ntmps20
  go_upto_region 1 with fail
  refine at_world (fun W => F3 w W xl xh yl yh) (f3_of w xl xh yl yh) ?_
  rintro W ⟨⟨k0, k1, k2, k3⟩, ⟨k4, k5, k6, k7⟩, ⟨k8, k9, k10, k11⟩, k12, k13, k14⟩
  have K := Lib.hid @k14
  clear k14
  have hmc := more_cell
  have hmh := more_heap
  have hmf := more_frozen
  refine region_tail 19 (by kernel_rfl) (by kernel_rfl) ?_
  simp only [List.take_succ_cons, List.take_zero, List.drop_succ_cons, List.drop_zero]
  repeat (go_big_quiet_step ((first
    | (go_at_call 18; with_reducible exact calls_more_o (VX.out _))
    | (go_at_call 37; exact calls_more (MD.out _ _ _)))))
  refine wpQuiet_nil ?_
  rintro w1 ⟨p, rfl⟩
  go_wp2
  exact bodyPost_ret (v := .tuple #[.agg #[.int .i64 (0), .int .i64 (0)], .bool (false)]) (by simp [results, Try.results20, go_sem, *]) rfl ⟨rfl, K.out _ _ _⟩

set_option maxHeartbeats 1000000 in
theorem min_y (xl xh yl yh : Int) (hx : ivB xl xh = true) (hy : ivB yl yh = false) (w : World) : Calls Try.prog 20 #[.agg #[.int .i64 xl, .int .i64 xh], .agg #[.int .i64 yl, .int .i64 yh]] w fun e w' => e = .returned (.tuple #[.agg #[.int .i64 (0), .int .i64 (0)], .bool (false)]) ∧ ∃ p, w' = more w p := by
  have vx := fun w => valid_call xl xh w
  rw [hx] at vx
  have VX := Lib.hid @vx
  have vy := fun w => valid_call yl yh w
  rw [hy] at vy
  have VY := Lib.hid @vy
  have md := fun lo hi w => made_call lo hi false w
  simp only [mk_false] at md
  have MD := Lib.hid @md
  clear md
  clear vx hx vy hy
  go_enter Try.func20, Try.ntmps20
  go_upto_region 1 with fail
  refine at_world (fun W => F3 w W xl xh yl yh) (f3_of w xl xh yl yh) ?_
  rintro W ⟨⟨k0, k1, k2, k3⟩, ⟨k4, k5, k6, k7⟩, ⟨k8, k9, k10, k11⟩, k12, k13, k14⟩
  have K := Lib.hid @k14
  clear k14
  have hmc := more_cell
  have hmh := more_heap
  have hmf := more_frozen
  refine region_tail 19 (by kernel_rfl) (by kernel_rfl) ?_
  simp only [List.take_succ_cons, List.take_zero, List.drop_succ_cons, List.drop_zero]
  repeat (go_big_quiet_step ((first
    | (go_at_call 18; with_reducible exact calls_more_o (VX.out _))
    | (go_at_call 18; with_reducible exact calls_more_o (VY.out _))
    | (go_at_call 37; exact calls_more (MD.out _ _ _)))))
  refine wpQuiet_nil ?_
  rintro w1 ⟨p, rfl⟩
  go_wp2
  exact bodyPost_ret (v := .tuple #[.agg #[.int .i64 (0), .int .i64 (0)], .bool (false)]) (by simp [results, Try.results20, go_sem, *]) rfl ⟨rfl, K.out _ _ _⟩

set_option maxHeartbeats 1000000 in
theorem min_yes (xl xh yl yh : Int) (hx : ivB xl xh = true) (hy : ivB yl yh = true) (w : World) : Calls Try.prog 20 #[.agg #[.int .i64 xl, .int .i64 xh], .agg #[.int .i64 yl, .int .i64 yh]] w fun e w' => e = .returned (.tuple #[.agg #[.int .i64 (mkL (min xl yl) (min xh yh) true), .int .i64 (mkH (min xl yl) (min xh yh) true)], .bool (mkB (min xl yl) (min xh yh) true)]) ∧ ∃ p, w' = more w p := by
  have vx := fun w => valid_call xl xh w
  rw [hx] at vx
  have VX := Lib.hid @vx
  have vy := fun w => valid_call yl yh w
  rw [hy] at vy
  have VY := Lib.hid @vy
  obtain ⟨x0, x1, x2⟩ := ivB_parts hx
  obtain ⟨y0, y1, y2⟩ := ivB_parts hy
  have MD := Lib.hid @(fun w => made_call (min xl yl) (min xh yh) true w)
  clear vx hx vy hy
  go_enter Try.func20, Try.ntmps20
  go_upto_region 1 with fail
  refine at_world (fun W => F3 w W xl xh yl yh) (f3_of w xl xh yl yh) ?_
  rintro W ⟨⟨k0, k1, k2, k3⟩, ⟨k4, k5, k6, k7⟩, ⟨k8, k9, k10, k11⟩, k12, k13, k14⟩
  have K := Lib.hid @k14
  clear k14
  have hmc := more_cell
  have hmh := more_heap
  have hmf := more_frozen
  refine region_tail 19 (by kernel_rfl) (by kernel_rfl) ?_
  simp only [List.take_succ_cons, List.take_zero, List.drop_succ_cons, List.drop_zero]
  repeat (go_big_quiet_step ((first
    | (go_at_call 18; with_reducible exact calls_more_o (VX.out _))
    | (go_at_call 18; with_reducible exact calls_more_o (VY.out _))
    | (go_at_call 37; exact calls_more (MD.out _)))))
  refine wpQuiet_nil ?_
  rintro w1 ⟨p, rfl⟩
  go_wp2
  exact bodyPost_ret (v := .tuple #[.agg #[.int .i64 (mkL (min xl yl) (min xh yh) true), .int .i64 (mkH (min xl yl) (min xh yh) true)], .bool (mkB (min xl yl) (min xh yh) true)]) (by simp [results, Try.results20, go_sem, *]) rfl ⟨rfl, K.out _ _ _⟩

theorem min_call (xl xh yl yh : Int) (w : World) : Calls Try.prog 20 #[.agg #[.int .i64 xl, .int .i64 xh], .agg #[.int .i64 yl, .int .i64 yh]] w fun e w' => e = .returned (.tuple #[.agg #[.int .i64 (mkL (min xl yl) (min xh yh) (ivB xl xh && ivB yl yh)), .int .i64 (mkH (min xl yl) (min xh yh) (ivB xl xh && ivB yl yh))], .bool (mkB (min xl yl) (min xh yh) (ivB xl xh && ivB yl yh))]) ∧ ∃ p, w' = more w p := by
  by_cases hx : ivB xl xh = true
  · by_cases hy : ivB yl yh = true
    · rw [hx, hy, Bool.and_true]; exact min_yes xl xh yl yh hx hy w
    · have hy : ivB yl yh = false := by simpa using hy
      rw [hy, Bool.and_false]; exact min_y xl xh yl yh hx hy w
  · have hx : ivB xl xh = false := by simpa using hx
    rw [hx, Bool.false_and]; exact min_x xl xh yl yh hx w

set_option maxHeartbeats 1000000 in
theorem refMin_x (xl xh yl yh : Int) (hx : ivB xl xh = false) (w : World) : Calls Try.prog 21 #[.agg #[.int .i64 xl, .int .i64 xh], .agg #[.int .i64 yl, .int .i64 yh]] w fun e w' => e = .returned (.tuple #[.agg #[.int .i64 (0), .int .i64 (0)], .bool (false)]) ∧ ∃ p, w' = more w p := by
  have vx := fun w => refValid_call xl xh w
  rw [hx] at vx
  have VX := Lib.hid @vx
  clear vx hx
  go_enter Try.func21, Try.ntmps21
  go_upto_region 1 with fail
  refine at_world (fun W => F3 w W xl xh yl yh) (f3_of w xl xh yl yh) ?_
  rintro W ⟨⟨k0, k1, k2, k3⟩, ⟨k4, k5, k6, k7⟩, ⟨k8, k9, k10, k11⟩, k12, k13, k14⟩
  have K := Lib.hid @k14
  clear k14
  have hmc := more_cell
  have hmh := more_heap
  have hmf := more_frozen
  refine at_world (fun W' => ∃ p, W' = more W p) ⟨⟨[], 0⟩, rfl⟩ ?_
  rintro _ ⟨p, rfl⟩
  go_wp2_with (first
    | (go_at_call 19; (with_reducible refine (calls_more_o (VX.out _)).mono ?_); rintro e w' ⟨rfl, q, rfl⟩))
  exact bodyPost_ret (v := .tuple #[.agg #[.int .i64 (0), .int .i64 (0)], .bool (false)]) (by simp [results, Try.results21, go_sem, *]) rfl ⟨rfl, K.out _ _ _⟩

set_option maxHeartbeats 1000000 in
theorem refMin_y (xl xh yl yh : Int) (hx : ivB xl xh = true) (hy : ivB yl yh = false) (w : World) : Calls Try.prog 21 #[.agg #[.int .i64 xl, .int .i64 xh], .agg #[.int .i64 yl, .int .i64 yh]] w fun e w' => e = .returned (.tuple #[.agg #[.int .i64 (0), .int .i64 (0)], .bool (false)]) ∧ ∃ p, w' = more w p := by
  have vx := fun w => refValid_call xl xh w
  rw [hx] at vx
  have VX := Lib.hid @vx
  have vy := fun w => refValid_call yl yh w
  rw [hy] at vy
  have VY := Lib.hid @vy
  clear vx hx vy hy
  go_enter Try.func21, Try.ntmps21
  go_upto_region 1 with fail
  refine at_world (fun W => F3 w W xl xh yl yh) (f3_of w xl xh yl yh) ?_
  rintro W ⟨⟨k0, k1, k2, k3⟩, ⟨k4, k5, k6, k7⟩, ⟨k8, k9, k10, k11⟩, k12, k13, k14⟩
  have K := Lib.hid @k14
  clear k14
  have hmc := more_cell
  have hmh := more_heap
  have hmf := more_frozen
  refine at_world (fun W' => ∃ p, W' = more W p) ⟨⟨[], 0⟩, rfl⟩ ?_
  rintro _ ⟨p, rfl⟩
  go_wp2_with (first
    | (go_at_call 19; (with_reducible refine (calls_more_o (VX.out _)).mono ?_); rintro e w' ⟨rfl, q, rfl⟩)
    | (go_at_call 19; (with_reducible refine (calls_more_o (VY.out _)).mono ?_); rintro e w' ⟨rfl, q, rfl⟩))
  exact bodyPost_ret (v := .tuple #[.agg #[.int .i64 (0), .int .i64 (0)], .bool (false)]) (by simp [results, Try.results21, go_sem, *]) rfl ⟨rfl, K.out _ _ _⟩

set_option maxHeartbeats 1000000 in
theorem refMin_yes (xl xh yl yh : Int) (hx : ivB xl xh = true) (hy : ivB yl yh = true) (w : World) : Calls Try.prog 21 #[.agg #[.int .i64 xl, .int .i64 xh], .agg #[.int .i64 yl, .int .i64 yh]] w fun e w' => e = .returned (.tuple #[.agg #[.int .i64 (mkL (min xl yl) (min xh yh) true), .int .i64 (mkH (min xl yl) (min xh yh) true)], .bool (mkB (min xl yl) (min xh yh) true)]) ∧ ∃ p, w' = more w p := by
  have vx := fun w => refValid_call xl xh w
  rw [hx] at vx
  have VX := Lib.hid @vx
  have vy := fun w => refValid_call yl yh w
  rw [hy] at vy
  have VY := Lib.hid @vy
  obtain ⟨x0, x1, x2⟩ := ivB_parts hx
  obtain ⟨y0, y1, y2⟩ := ivB_parts hy
  have MD := Lib.hid @(fun w => refMade_call (min xl yl) (min xh yh) w)
  clear vx hx vy hy
  go_enter Try.func21, Try.ntmps21
  go_upto_region 1 with fail
  refine at_world (fun W => F3 w W xl xh yl yh) (f3_of w xl xh yl yh) ?_
  rintro W ⟨⟨k0, k1, k2, k3⟩, ⟨k4, k5, k6, k7⟩, ⟨k8, k9, k10, k11⟩, k12, k13, k14⟩
  have K := Lib.hid @k14
  clear k14
  have hmc := more_cell
  have hmh := more_heap
  have hmf := more_frozen
  refine at_world (fun W' => ∃ p, W' = more W p) ⟨⟨[], 0⟩, rfl⟩ ?_
  rintro _ ⟨p, rfl⟩
  go_wp2_with (first
    | (go_at_call 19; (with_reducible refine (calls_more_o (VX.out _)).mono ?_); rintro e w' ⟨rfl, q, rfl⟩)
    | (go_at_call 19; (with_reducible refine (calls_more_o (VY.out _)).mono ?_); rintro e w' ⟨rfl, q, rfl⟩)
    | (go_at_call 38; (with_reducible refine (calls_more (MD.out _)).mono ?_); rintro e w' ⟨rfl, q, rfl⟩))
  exact bodyPost_ret (v := .tuple #[.agg #[.int .i64 (mkL (min xl yl) (min xh yh) true), .int .i64 (mkH (min xl yl) (min xh yh) true)], .bool (mkB (min xl yl) (min xh yh) true)]) (by simp [results, Try.results21, go_sem, *]) rfl ⟨rfl, K.out _ _ _⟩

theorem refMin_call (xl xh yl yh : Int) (w : World) : Calls Try.prog 21 #[.agg #[.int .i64 xl, .int .i64 xh], .agg #[.int .i64 yl, .int .i64 yh]] w fun e w' => e = .returned (.tuple #[.agg #[.int .i64 (mkL (min xl yl) (min xh yh) (ivB xl xh && ivB yl yh)), .int .i64 (mkH (min xl yl) (min xh yh) (ivB xl xh && ivB yl yh))], .bool (mkB (min xl yl) (min xh yh) (ivB xl xh && ivB yl yh))]) ∧ ∃ p, w' = more w p := by
  by_cases hx : ivB xl xh = true
  · by_cases hy : ivB yl yh = true
    · rw [hx, hy, Bool.and_true]; exact refMin_yes xl xh yl yh hx hy w
    · have hy : ivB yl yh = false := by simpa using hy
      rw [hy, Bool.and_false]; exact refMin_y xl xh yl yh hx hy w
  · have hx : ivB xl xh = false := by simpa using hx
    rw [hx, Bool.false_and]; exact refMin_x xl xh yl yh hx w

set_option maxHeartbeats 1000000 in
theorem max_x (xl xh yl yh : Int) (hx : ivB xl xh = false) (w : World) : Calls Try.prog 22 #[.agg #[.int .i64 xl, .int .i64 xh], .agg #[.int .i64 yl, .int .i64 yh]] w fun e w' => e = .returned (.tuple #[.agg #[.int .i64 (0), .int .i64 (0)], .bool (false)]) ∧ ∃ p, w' = more w p := by
  have vx := fun w => valid_call xl xh w
  rw [hx] at vx
  have VX := Lib.hid @vx
  have md := fun lo hi w => made_call lo hi false w
  simp only [mk_false] at md
  have MD := Lib.hid @md
  clear md
  clear vx hx
  go_enter Try.func22, Try.ntmps22
  go_upto_region 1 with fail
  refine at_world (fun W => F3 w W xl xh yl yh) (f3_of w xl xh yl yh) ?_
  rintro W ⟨⟨k0, k1, k2, k3⟩, ⟨k4, k5, k6, k7⟩, ⟨k8, k9, k10, k11⟩, k12, k13, k14⟩
  have K := Lib.hid @k14
  clear k14
  have hmc := more_cell
  have hmh := more_heap
  have hmf := more_frozen
  refine region_tail 19 (by kernel_rfl) (by kernel_rfl) ?_
  simp only [List.take_succ_cons, List.take_zero, List.drop_succ_cons, List.drop_zero]
  repeat (go_big_quiet_step ((first
    | (go_at_call 18; with_reducible exact calls_more_o (VX.out _))
    | (go_at_call 37; exact calls_more (MD.out _ _ _)))))
  refine wpQuiet_nil ?_
  rintro w1 ⟨p, rfl⟩
  go_wp2
  exact bodyPost_ret (v := .tuple #[.agg #[.int .i64 (0), .int .i64 (0)], .bool (false)]) (by simp [results, Try.results22, go_sem, *]) rfl ⟨rfl, K.out _ _ _⟩

set_option maxHeartbeats 1000000 in
theorem max_y (xl xh yl yh : Int) (hx : ivB xl xh = true) (hy : ivB yl yh = false) (w : World) : Calls Try.prog 22 #[.agg #[.int .i64 xl, .int .i64 xh], .agg #[.int .i64 yl, .int .i64 yh]] w fun e w' => e = .returned (.tuple #[.agg #[.int .i64 (0), .int .i64 (0)], .bool (false)]) ∧ ∃ p, w' = more w p := by
  have vx := fun w => valid_call xl xh w
  rw [hx] at vx
  have VX := Lib.hid @vx
  have vy := fun w => valid_call yl yh w
  rw [hy] at vy
  have VY := Lib.hid @vy
  have md := fun lo hi w => made_call lo hi false w
  simp only [mk_false] at md
  have MD := Lib.hid @md
  clear md
  clear vx hx vy hy
  go_enter Try.func22, Try.ntmps22
  go_upto_region 1 with fail
  refine at_world (fun W => F3 w W xl xh yl yh) (f3_of w xl xh yl yh) ?_
  rintro W ⟨⟨k0, k1, k2, k3⟩, ⟨k4, k5, k6, k7⟩, ⟨k8, k9, k10, k11⟩, k12, k13, k14⟩
  have K := Lib.hid @k14
  clear k14
  have hmc := more_cell
  have hmh := more_heap
  have hmf := more_frozen
  refine region_tail 19 (by kernel_rfl) (by kernel_rfl) ?_
  simp only [List.take_succ_cons, List.take_zero, List.drop_succ_cons, List.drop_zero]
  repeat (go_big_quiet_step ((first
    | (go_at_call 18; with_reducible exact calls_more_o (VX.out _))
    | (go_at_call 18; with_reducible exact calls_more_o (VY.out _))
    | (go_at_call 37; exact calls_more (MD.out _ _ _)))))
  refine wpQuiet_nil ?_
  rintro w1 ⟨p, rfl⟩
  go_wp2
  exact bodyPost_ret (v := .tuple #[.agg #[.int .i64 (0), .int .i64 (0)], .bool (false)]) (by simp [results, Try.results22, go_sem, *]) rfl ⟨rfl, K.out _ _ _⟩

set_option maxHeartbeats 1000000 in
theorem max_yes (xl xh yl yh : Int) (hx : ivB xl xh = true) (hy : ivB yl yh = true) (w : World) : Calls Try.prog 22 #[.agg #[.int .i64 xl, .int .i64 xh], .agg #[.int .i64 yl, .int .i64 yh]] w fun e w' => e = .returned (.tuple #[.agg #[.int .i64 (mkL (max xl yl) (max xh yh) true), .int .i64 (mkH (max xl yl) (max xh yh) true)], .bool (mkB (max xl yl) (max xh yh) true)]) ∧ ∃ p, w' = more w p := by
  have vx := fun w => valid_call xl xh w
  rw [hx] at vx
  have VX := Lib.hid @vx
  have vy := fun w => valid_call yl yh w
  rw [hy] at vy
  have VY := Lib.hid @vy
  obtain ⟨x0, x1, x2⟩ := ivB_parts hx
  obtain ⟨y0, y1, y2⟩ := ivB_parts hy
  have MD := Lib.hid @(fun w => made_call (max xl yl) (max xh yh) true w)
  clear vx hx vy hy
  go_enter Try.func22, Try.ntmps22
  go_upto_region 1 with fail
  refine at_world (fun W => F3 w W xl xh yl yh) (f3_of w xl xh yl yh) ?_
  rintro W ⟨⟨k0, k1, k2, k3⟩, ⟨k4, k5, k6, k7⟩, ⟨k8, k9, k10, k11⟩, k12, k13, k14⟩
  have K := Lib.hid @k14
  clear k14
  have hmc := more_cell
  have hmh := more_heap
  have hmf := more_frozen
  refine region_tail 19 (by kernel_rfl) (by kernel_rfl) ?_
  simp only [List.take_succ_cons, List.take_zero, List.drop_succ_cons, List.drop_zero]
  repeat (go_big_quiet_step ((first
    | (go_at_call 18; with_reducible exact calls_more_o (VX.out _))
    | (go_at_call 18; with_reducible exact calls_more_o (VY.out _))
    | (go_at_call 37; exact calls_more (MD.out _)))))
  refine wpQuiet_nil ?_
  rintro w1 ⟨p, rfl⟩
  go_wp2
  exact bodyPost_ret (v := .tuple #[.agg #[.int .i64 (mkL (max xl yl) (max xh yh) true), .int .i64 (mkH (max xl yl) (max xh yh) true)], .bool (mkB (max xl yl) (max xh yh) true)]) (by simp [results, Try.results22, go_sem, *]) rfl ⟨rfl, K.out _ _ _⟩

theorem max_call (xl xh yl yh : Int) (w : World) : Calls Try.prog 22 #[.agg #[.int .i64 xl, .int .i64 xh], .agg #[.int .i64 yl, .int .i64 yh]] w fun e w' => e = .returned (.tuple #[.agg #[.int .i64 (mkL (max xl yl) (max xh yh) (ivB xl xh && ivB yl yh)), .int .i64 (mkH (max xl yl) (max xh yh) (ivB xl xh && ivB yl yh))], .bool (mkB (max xl yl) (max xh yh) (ivB xl xh && ivB yl yh))]) ∧ ∃ p, w' = more w p := by
  by_cases hx : ivB xl xh = true
  · by_cases hy : ivB yl yh = true
    · rw [hx, hy, Bool.and_true]; exact max_yes xl xh yl yh hx hy w
    · have hy : ivB yl yh = false := by simpa using hy
      rw [hy, Bool.and_false]; exact max_y xl xh yl yh hx hy w
  · have hx : ivB xl xh = false := by simpa using hx
    rw [hx, Bool.false_and]; exact max_x xl xh yl yh hx w

set_option maxHeartbeats 1000000 in
theorem refMax_x (xl xh yl yh : Int) (hx : ivB xl xh = false) (w : World) : Calls Try.prog 23 #[.agg #[.int .i64 xl, .int .i64 xh], .agg #[.int .i64 yl, .int .i64 yh]] w fun e w' => e = .returned (.tuple #[.agg #[.int .i64 (0), .int .i64 (0)], .bool (false)]) ∧ ∃ p, w' = more w p := by
  have vx := fun w => refValid_call xl xh w
  rw [hx] at vx
  have VX := Lib.hid @vx
  clear vx hx
  go_enter Try.func23, Try.ntmps23
  go_upto_region 1 with fail
  refine at_world (fun W => F3 w W xl xh yl yh) (f3_of w xl xh yl yh) ?_
  rintro W ⟨⟨k0, k1, k2, k3⟩, ⟨k4, k5, k6, k7⟩, ⟨k8, k9, k10, k11⟩, k12, k13, k14⟩
  have K := Lib.hid @k14
  clear k14
  have hmc := more_cell
  have hmh := more_heap
  have hmf := more_frozen
  refine at_world (fun W' => ∃ p, W' = more W p) ⟨⟨[], 0⟩, rfl⟩ ?_
  rintro _ ⟨p, rfl⟩
  go_wp2_with (first
    | (go_at_call 19; (with_reducible refine (calls_more_o (VX.out _)).mono ?_); rintro e w' ⟨rfl, q, rfl⟩))
  exact bodyPost_ret (v := .tuple #[.agg #[.int .i64 (0), .int .i64 (0)], .bool (false)]) (by simp [results, Try.results23, go_sem, *]) rfl ⟨rfl, K.out _ _ _⟩

set_option maxHeartbeats 1000000 in
theorem refMax_y (xl xh yl yh : Int) (hx : ivB xl xh = true) (hy : ivB yl yh = false) (w : World) : Calls Try.prog 23 #[.agg #[.int .i64 xl, .int .i64 xh], .agg #[.int .i64 yl, .int .i64 yh]] w fun e w' => e = .returned (.tuple #[.agg #[.int .i64 (0), .int .i64 (0)], .bool (false)]) ∧ ∃ p, w' = more w p := by
  have vx := fun w => refValid_call xl xh w
  rw [hx] at vx
  have VX := Lib.hid @vx
  have vy := fun w => refValid_call yl yh w
  rw [hy] at vy
  have VY := Lib.hid @vy
  clear vx hx vy hy
  go_enter Try.func23, Try.ntmps23
  go_upto_region 1 with fail
  refine at_world (fun W => F3 w W xl xh yl yh) (f3_of w xl xh yl yh) ?_
  rintro W ⟨⟨k0, k1, k2, k3⟩, ⟨k4, k5, k6, k7⟩, ⟨k8, k9, k10, k11⟩, k12, k13, k14⟩
  have K := Lib.hid @k14
  clear k14
  have hmc := more_cell
  have hmh := more_heap
  have hmf := more_frozen
  refine at_world (fun W' => ∃ p, W' = more W p) ⟨⟨[], 0⟩, rfl⟩ ?_
  rintro _ ⟨p, rfl⟩
  go_wp2_with (first
    | (go_at_call 19; (with_reducible refine (calls_more_o (VX.out _)).mono ?_); rintro e w' ⟨rfl, q, rfl⟩)
    | (go_at_call 19; (with_reducible refine (calls_more_o (VY.out _)).mono ?_); rintro e w' ⟨rfl, q, rfl⟩))
  exact bodyPost_ret (v := .tuple #[.agg #[.int .i64 (0), .int .i64 (0)], .bool (false)]) (by simp [results, Try.results23, go_sem, *]) rfl ⟨rfl, K.out _ _ _⟩

set_option maxHeartbeats 1000000 in
theorem refMax_yes (xl xh yl yh : Int) (hx : ivB xl xh = true) (hy : ivB yl yh = true) (w : World) : Calls Try.prog 23 #[.agg #[.int .i64 xl, .int .i64 xh], .agg #[.int .i64 yl, .int .i64 yh]] w fun e w' => e = .returned (.tuple #[.agg #[.int .i64 (mkL (max xl yl) (max xh yh) true), .int .i64 (mkH (max xl yl) (max xh yh) true)], .bool (mkB (max xl yl) (max xh yh) true)]) ∧ ∃ p, w' = more w p := by
  have vx := fun w => refValid_call xl xh w
  rw [hx] at vx
  have VX := Lib.hid @vx
  have vy := fun w => refValid_call yl yh w
  rw [hy] at vy
  have VY := Lib.hid @vy
  obtain ⟨x0, x1, x2⟩ := ivB_parts hx
  obtain ⟨y0, y1, y2⟩ := ivB_parts hy
  have MD := Lib.hid @(fun w => refMade_call (max xl yl) (max xh yh) w)
  clear vx hx vy hy
  go_enter Try.func23, Try.ntmps23
  go_upto_region 1 with fail
  refine at_world (fun W => F3 w W xl xh yl yh) (f3_of w xl xh yl yh) ?_
  rintro W ⟨⟨k0, k1, k2, k3⟩, ⟨k4, k5, k6, k7⟩, ⟨k8, k9, k10, k11⟩, k12, k13, k14⟩
  have K := Lib.hid @k14
  clear k14
  have hmc := more_cell
  have hmh := more_heap
  have hmf := more_frozen
  refine at_world (fun W' => ∃ p, W' = more W p) ⟨⟨[], 0⟩, rfl⟩ ?_
  rintro _ ⟨p, rfl⟩
  go_wp2_with (first
    | (go_at_call 19; (with_reducible refine (calls_more_o (VX.out _)).mono ?_); rintro e w' ⟨rfl, q, rfl⟩)
    | (go_at_call 19; (with_reducible refine (calls_more_o (VY.out _)).mono ?_); rintro e w' ⟨rfl, q, rfl⟩)
    | (go_at_call 38; (with_reducible refine (calls_more (MD.out _)).mono ?_); rintro e w' ⟨rfl, q, rfl⟩))
  exact bodyPost_ret (v := .tuple #[.agg #[.int .i64 (mkL (max xl yl) (max xh yh) true), .int .i64 (mkH (max xl yl) (max xh yh) true)], .bool (mkB (max xl yl) (max xh yh) true)]) (by simp [results, Try.results23, go_sem, *]) rfl ⟨rfl, K.out _ _ _⟩

theorem refMax_call (xl xh yl yh : Int) (w : World) : Calls Try.prog 23 #[.agg #[.int .i64 xl, .int .i64 xh], .agg #[.int .i64 yl, .int .i64 yh]] w fun e w' => e = .returned (.tuple #[.agg #[.int .i64 (mkL (max xl yl) (max xh yh) (ivB xl xh && ivB yl yh)), .int .i64 (mkH (max xl yl) (max xh yh) (ivB xl xh && ivB yl yh))], .bool (mkB (max xl yl) (max xh yh) (ivB xl xh && ivB yl yh))]) ∧ ∃ p, w' = more w p := by
  by_cases hx : ivB xl xh = true
  · by_cases hy : ivB yl yh = true
    · rw [hx, hy, Bool.and_true]; exact refMax_yes xl xh yl yh hx hy w
    · have hy : ivB yl yh = false := by simpa using hy
      rw [hy, Bool.and_false]; exact refMax_y xl xh yl yh hx hy w
  · have hx : ivB xl xh = false := by simpa using hx
    rw [hx, Bool.false_and]; exact refMax_x xl xh yl yh hx w

set_option maxHeartbeats 1000000 in
theorem hull_x (xl xh yl yh : Int) (hx : ivB xl xh = false) (w : World) : Calls Try.prog 24 #[.agg #[.int .i64 xl, .int .i64 xh], .agg #[.int .i64 yl, .int .i64 yh]] w fun e w' => e = .returned (.tuple #[.agg #[.int .i64 (0), .int .i64 (0)], .bool (false)]) ∧ ∃ p, w' = more w p := by
  have vx := fun w => valid_call xl xh w
  rw [hx] at vx
  have VX := Lib.hid @vx
  have md := fun lo hi w => made_call lo hi false w
  simp only [mk_false] at md
  have MD := Lib.hid @md
  clear md
  clear vx hx
  go_enter Try.func24, Try.ntmps24
  go_upto_region 1 with fail
  refine at_world (fun W => F3 w W xl xh yl yh) (f3_of w xl xh yl yh) ?_
  rintro W ⟨⟨k0, k1, k2, k3⟩, ⟨k4, k5, k6, k7⟩, ⟨k8, k9, k10, k11⟩, k12, k13, k14⟩
  have K := Lib.hid @k14
  clear k14
  have hmc := more_cell
  have hmh := more_heap
  have hmf := more_frozen
  refine region_tail 19 (by kernel_rfl) (by kernel_rfl) ?_
  simp only [List.take_succ_cons, List.take_zero, List.drop_succ_cons, List.drop_zero]
  repeat (go_big_quiet_step ((first
    | (go_at_call 18; with_reducible exact calls_more_o (VX.out _))
    | (go_at_call 37; exact calls_more (MD.out _ _ _)))))
  refine wpQuiet_nil ?_
  rintro w1 ⟨p, rfl⟩
  go_wp2
  exact bodyPost_ret (v := .tuple #[.agg #[.int .i64 (0), .int .i64 (0)], .bool (false)]) (by simp [results, Try.results24, go_sem, *]) rfl ⟨rfl, K.out _ _ _⟩

set_option maxHeartbeats 1000000 in
theorem hull_y (xl xh yl yh : Int) (hx : ivB xl xh = true) (hy : ivB yl yh = false) (w : World) : Calls Try.prog 24 #[.agg #[.int .i64 xl, .int .i64 xh], .agg #[.int .i64 yl, .int .i64 yh]] w fun e w' => e = .returned (.tuple #[.agg #[.int .i64 (0), .int .i64 (0)], .bool (false)]) ∧ ∃ p, w' = more w p := by
  have vx := fun w => valid_call xl xh w
  rw [hx] at vx
  have VX := Lib.hid @vx
  have vy := fun w => valid_call yl yh w
  rw [hy] at vy
  have VY := Lib.hid @vy
  have md := fun lo hi w => made_call lo hi false w
  simp only [mk_false] at md
  have MD := Lib.hid @md
  clear md
  clear vx hx vy hy
  go_enter Try.func24, Try.ntmps24
  go_upto_region 1 with fail
  refine at_world (fun W => F3 w W xl xh yl yh) (f3_of w xl xh yl yh) ?_
  rintro W ⟨⟨k0, k1, k2, k3⟩, ⟨k4, k5, k6, k7⟩, ⟨k8, k9, k10, k11⟩, k12, k13, k14⟩
  have K := Lib.hid @k14
  clear k14
  have hmc := more_cell
  have hmh := more_heap
  have hmf := more_frozen
  refine region_tail 19 (by kernel_rfl) (by kernel_rfl) ?_
  simp only [List.take_succ_cons, List.take_zero, List.drop_succ_cons, List.drop_zero]
  repeat (go_big_quiet_step ((first
    | (go_at_call 18; with_reducible exact calls_more_o (VX.out _))
    | (go_at_call 18; with_reducible exact calls_more_o (VY.out _))
    | (go_at_call 37; exact calls_more (MD.out _ _ _)))))
  refine wpQuiet_nil ?_
  rintro w1 ⟨p, rfl⟩
  go_wp2
  exact bodyPost_ret (v := .tuple #[.agg #[.int .i64 (0), .int .i64 (0)], .bool (false)]) (by simp [results, Try.results24, go_sem, *]) rfl ⟨rfl, K.out _ _ _⟩

set_option maxHeartbeats 1000000 in
theorem hull_yes (xl xh yl yh : Int) (hx : ivB xl xh = true) (hy : ivB yl yh = true) (w : World) : Calls Try.prog 24 #[.agg #[.int .i64 xl, .int .i64 xh], .agg #[.int .i64 yl, .int .i64 yh]] w fun e w' => e = .returned (.tuple #[.agg #[.int .i64 (mkL (min xl yl) (max xh yh) true), .int .i64 (mkH (min xl yl) (max xh yh) true)], .bool (mkB (min xl yl) (max xh yh) true)]) ∧ ∃ p, w' = more w p := by
  have vx := fun w => valid_call xl xh w
  rw [hx] at vx
  have VX := Lib.hid @vx
  have vy := fun w => valid_call yl yh w
  rw [hy] at vy
  have VY := Lib.hid @vy
  obtain ⟨x0, x1, x2⟩ := ivB_parts hx
  obtain ⟨y0, y1, y2⟩ := ivB_parts hy
  have MD := Lib.hid @(fun w => made_call (min xl yl) (max xh yh) true w)
  clear vx hx vy hy
  go_enter Try.func24, Try.ntmps24
  go_upto_region 1 with fail
  refine at_world (fun W => F3 w W xl xh yl yh) (f3_of w xl xh yl yh) ?_
  rintro W ⟨⟨k0, k1, k2, k3⟩, ⟨k4, k5, k6, k7⟩, ⟨k8, k9, k10, k11⟩, k12, k13, k14⟩
  have K := Lib.hid @k14
  clear k14
  have hmc := more_cell
  have hmh := more_heap
  have hmf := more_frozen
  refine region_tail 19 (by kernel_rfl) (by kernel_rfl) ?_
  simp only [List.take_succ_cons, List.take_zero, List.drop_succ_cons, List.drop_zero]
  repeat (go_big_quiet_step ((first
    | (go_at_call 18; with_reducible exact calls_more_o (VX.out _))
    | (go_at_call 18; with_reducible exact calls_more_o (VY.out _))
    | (go_at_call 37; exact calls_more (MD.out _)))))
  refine wpQuiet_nil ?_
  rintro w1 ⟨p, rfl⟩
  go_wp2
  exact bodyPost_ret (v := .tuple #[.agg #[.int .i64 (mkL (min xl yl) (max xh yh) true), .int .i64 (mkH (min xl yl) (max xh yh) true)], .bool (mkB (min xl yl) (max xh yh) true)]) (by simp [results, Try.results24, go_sem, *]) rfl ⟨rfl, K.out _ _ _⟩

theorem hull_call (xl xh yl yh : Int) (w : World) : Calls Try.prog 24 #[.agg #[.int .i64 xl, .int .i64 xh], .agg #[.int .i64 yl, .int .i64 yh]] w fun e w' => e = .returned (.tuple #[.agg #[.int .i64 (mkL (min xl yl) (max xh yh) (ivB xl xh && ivB yl yh)), .int .i64 (mkH (min xl yl) (max xh yh) (ivB xl xh && ivB yl yh))], .bool (mkB (min xl yl) (max xh yh) (ivB xl xh && ivB yl yh))]) ∧ ∃ p, w' = more w p := by
  by_cases hx : ivB xl xh = true
  · by_cases hy : ivB yl yh = true
    · rw [hx, hy, Bool.and_true]; exact hull_yes xl xh yl yh hx hy w
    · have hy : ivB yl yh = false := by simpa using hy
      rw [hy, Bool.and_false]; exact hull_y xl xh yl yh hx hy w
  · have hx : ivB xl xh = false := by simpa using hx
    rw [hx, Bool.false_and]; exact hull_x xl xh yl yh hx w

set_option maxHeartbeats 1000000 in
theorem refHull_x (xl xh yl yh : Int) (hx : ivB xl xh = false) (w : World) : Calls Try.prog 25 #[.agg #[.int .i64 xl, .int .i64 xh], .agg #[.int .i64 yl, .int .i64 yh]] w fun e w' => e = .returned (.tuple #[.agg #[.int .i64 (0), .int .i64 (0)], .bool (false)]) ∧ ∃ p, w' = more w p := by
  have vx := fun w => refValid_call xl xh w
  rw [hx] at vx
  have VX := Lib.hid @vx
  clear vx hx
  go_enter Try.func25, Try.ntmps25
  go_upto_region 1 with fail
  refine at_world (fun W => F3 w W xl xh yl yh) (f3_of w xl xh yl yh) ?_
  rintro W ⟨⟨k0, k1, k2, k3⟩, ⟨k4, k5, k6, k7⟩, ⟨k8, k9, k10, k11⟩, k12, k13, k14⟩
  have K := Lib.hid @k14
  clear k14
  have hmc := more_cell
  have hmh := more_heap
  have hmf := more_frozen
  refine at_world (fun W' => ∃ p, W' = more W p) ⟨⟨[], 0⟩, rfl⟩ ?_
  rintro _ ⟨p, rfl⟩
  go_wp2_with (first
    | (go_at_call 19; (with_reducible refine (calls_more_o (VX.out _)).mono ?_); rintro e w' ⟨rfl, q, rfl⟩))
  exact bodyPost_ret (v := .tuple #[.agg #[.int .i64 (0), .int .i64 (0)], .bool (false)]) (by simp [results, Try.results25, go_sem, *]) rfl ⟨rfl, K.out _ _ _⟩

set_option maxHeartbeats 1000000 in
theorem refHull_y (xl xh yl yh : Int) (hx : ivB xl xh = true) (hy : ivB yl yh = false) (w : World) : Calls Try.prog 25 #[.agg #[.int .i64 xl, .int .i64 xh], .agg #[.int .i64 yl, .int .i64 yh]] w fun e w' => e = .returned (.tuple #[.agg #[.int .i64 (0), .int .i64 (0)], .bool (false)]) ∧ ∃ p, w' = more w p := by
  have vx := fun w => refValid_call xl xh w
  rw [hx] at vx
  have VX := Lib.hid @vx
  have vy := fun w => refValid_call yl yh w
  rw [hy] at vy
  have VY := Lib.hid @vy
  clear vx hx vy hy
  go_enter Try.func25, Try.ntmps25
  go_upto_region 1 with fail
  refine at_world (fun W => F3 w W xl xh yl yh) (f3_of w xl xh yl yh) ?_
  rintro W ⟨⟨k0, k1, k2, k3⟩, ⟨k4, k5, k6, k7⟩, ⟨k8, k9, k10, k11⟩, k12, k13, k14⟩
  have K := Lib.hid @k14
  clear k14
  have hmc := more_cell
  have hmh := more_heap
  have hmf := more_frozen
  refine at_world (fun W' => ∃ p, W' = more W p) ⟨⟨[], 0⟩, rfl⟩ ?_
  rintro _ ⟨p, rfl⟩
  go_wp2_with (first
    | (go_at_call 19; (with_reducible refine (calls_more_o (VX.out _)).mono ?_); rintro e w' ⟨rfl, q, rfl⟩)
    | (go_at_call 19; (with_reducible refine (calls_more_o (VY.out _)).mono ?_); rintro e w' ⟨rfl, q, rfl⟩))
  exact bodyPost_ret (v := .tuple #[.agg #[.int .i64 (0), .int .i64 (0)], .bool (false)]) (by simp [results, Try.results25, go_sem, *]) rfl ⟨rfl, K.out _ _ _⟩

set_option maxHeartbeats 1000000 in
theorem refHull_yes (xl xh yl yh : Int) (hx : ivB xl xh = true) (hy : ivB yl yh = true) (w : World) : Calls Try.prog 25 #[.agg #[.int .i64 xl, .int .i64 xh], .agg #[.int .i64 yl, .int .i64 yh]] w fun e w' => e = .returned (.tuple #[.agg #[.int .i64 (mkL (min xl yl) (max xh yh) true), .int .i64 (mkH (min xl yl) (max xh yh) true)], .bool (mkB (min xl yl) (max xh yh) true)]) ∧ ∃ p, w' = more w p := by
  have vx := fun w => refValid_call xl xh w
  rw [hx] at vx
  have VX := Lib.hid @vx
  have vy := fun w => refValid_call yl yh w
  rw [hy] at vy
  have VY := Lib.hid @vy
  obtain ⟨x0, x1, x2⟩ := ivB_parts hx
  obtain ⟨y0, y1, y2⟩ := ivB_parts hy
  have MD := Lib.hid @(fun w => refMade_call (min xl yl) (max xh yh) w)
  clear vx hx vy hy
  go_enter Try.func25, Try.ntmps25
  go_upto_region 1 with fail
  refine at_world (fun W => F3 w W xl xh yl yh) (f3_of w xl xh yl yh) ?_
  rintro W ⟨⟨k0, k1, k2, k3⟩, ⟨k4, k5, k6, k7⟩, ⟨k8, k9, k10, k11⟩, k12, k13, k14⟩
  have K := Lib.hid @k14
  clear k14
  have hmc := more_cell
  have hmh := more_heap
  have hmf := more_frozen
  refine at_world (fun W' => ∃ p, W' = more W p) ⟨⟨[], 0⟩, rfl⟩ ?_
  rintro _ ⟨p, rfl⟩
  go_wp2_with (first
    | (go_at_call 19; (with_reducible refine (calls_more_o (VX.out _)).mono ?_); rintro e w' ⟨rfl, q, rfl⟩)
    | (go_at_call 19; (with_reducible refine (calls_more_o (VY.out _)).mono ?_); rintro e w' ⟨rfl, q, rfl⟩)
    | (go_at_call 38; (with_reducible refine (calls_more (MD.out _)).mono ?_); rintro e w' ⟨rfl, q, rfl⟩))
  exact bodyPost_ret (v := .tuple #[.agg #[.int .i64 (mkL (min xl yl) (max xh yh) true), .int .i64 (mkH (min xl yl) (max xh yh) true)], .bool (mkB (min xl yl) (max xh yh) true)]) (by simp [results, Try.results25, go_sem, *]) rfl ⟨rfl, K.out _ _ _⟩

theorem refHull_call (xl xh yl yh : Int) (w : World) : Calls Try.prog 25 #[.agg #[.int .i64 xl, .int .i64 xh], .agg #[.int .i64 yl, .int .i64 yh]] w fun e w' => e = .returned (.tuple #[.agg #[.int .i64 (mkL (min xl yl) (max xh yh) (ivB xl xh && ivB yl yh)), .int .i64 (mkH (min xl yl) (max xh yh) (ivB xl xh && ivB yl yh))], .bool (mkB (min xl yl) (max xh yh) (ivB xl xh && ivB yl yh))]) ∧ ∃ p, w' = more w p := by
  by_cases hx : ivB xl xh = true
  · by_cases hy : ivB yl yh = true
    · rw [hx, hy, Bool.and_true]; exact refHull_yes xl xh yl yh hx hy w
    · have hy : ivB yl yh = false := by simpa using hy
      rw [hy, Bool.and_false]; exact refHull_y xl xh yl yh hx hy w
  · have hx : ivB xl xh = false := by simpa using hx
    rw [hx, Bool.false_and]; exact refHull_x xl xh yl yh hx w

end Go.Proofs.Ytdbemgjjahcabaa
