/- Contracts of the reference's Contains. -/
import Derived.Test.YtdbemgjjahcabaaIvRoot
import Derived.Test.YtdbemgjjahcabaaIvRef
namespace Go.Proofs.Ytdbemgjjahcabaa
open Go.RowKit
set_option linter.unusedVariables false

theorem cmp_ge (x y : Int) : decide (0 ≤ cmpI x y) = decide (y ≤ x) := by
  unfold cmpI
  apply decide_eq_decide.2
  repeat' split
  all_goals omega

set_option maxHeartbeats 1000000 in
theorem below_lo (l n d : Int) (d0 : 1 ≤ d) (hl : l < 0) (hn : 0 ≤ n) (w : World) : Calls Try.prog 36 #[.int .i64 l, .int .i64 n, .int .i64 d] w fun e w' => e = .returned (.bool (true)) ∧ ∃ p, w' = more w p := by
  have da : decide (l < 0) = true := decide_eq_true hl
  have db : decide (n < 0) = false := decide_eq_false (by omega)
  go_enter Try.func36, Try.ntmps36
  go_wp2_with fail
  go_ret
  exact ⟨rfl, ⟨[], 0⟩, rfl⟩
set_option maxHeartbeats 1000000 in
theorem below_hi (l n d : Int) (d0 : 1 ≤ d) (hl : 0 ≤ l) (hn : n < 0) (w : World) : Calls Try.prog 36 #[.int .i64 l, .int .i64 n, .int .i64 d] w fun e w' => e = .returned (.bool (false)) ∧ ∃ p, w' = more w p := by
  have da : decide (l < 0) = false := decide_eq_false (by omega)
  have db : decide (n < 0) = true := decide_eq_true hn
  go_enter Try.func36, Try.ntmps36
  go_wp2_with fail
  go_ret
  exact ⟨rfl, ⟨[], 0⟩, rfl⟩
set_option maxHeartbeats 1000000 in
theorem below_neg (l n d : Int) (d0 : 1 ≤ d) (d1 : d ≤ 9223372036854775807) (hl : l < 0) (hn : n < 0) (l0 : -9223372036854775807 ≤ l) (l1 : l ≤ 9223372036854775807) (n0 : -9223372036854775807 ≤ n) (n1 : n ≤ 9223372036854775807) (w : World) : Calls Try.prog 36 #[.int .i64 l, .int .i64 n, .int .i64 d] w fun e w' => e = .returned (.bool (decide (l * d ≤ n * 1099511627776))) ∧ ∃ p, w' = more w p := by
  have da : decide (l < 0) = true := decide_eq_true (by omega)
  have db : decide (n < 0) = true := decide_eq_true (by omega)
  have ea : absI l = -l := by unfold absI; rw [if_pos hl]
  have eb : absI n = -n := by unfold absI; rw [if_pos hn]
  have s1 := fun w => refSize_call l w l0 l1
  have s2 := fun w => refSize_call n w n0 n1
  rw [ea] at s1
  rw [eb] at s2
  have m1 := fun w => refMul_call (-l) d w (by omega) (by omega) (by omega) (by omega)
  have m2 := fun w => refMul_call (-n) 1099511627776 w (by omega) (by omega) (by omega) (by omega)
  obtain ⟨p0, p1, p2, p3, p4⟩ := mul_hi_lo (-l) d (by omega) (by omega) (by omega) (by omega)
  obtain ⟨q0, q1, q2, q3, q4⟩ := mul_hi_lo (-n) 1099511627776 (by omega) (by omega) (by omega) (by omega)
  have cc := fun w => refCompare_call ((-l) * d / 18446744073709551616) ((-l) * d % 18446744073709551616) ((-n) * 1099511627776 / 18446744073709551616) ((-n) * 1099511627776 % 18446744073709551616) w p2 p3 q2 q3
  rw [p4, q4] at cc
  have hd := cmp_ge ((-l) * d) ((-n) * 1099511627776)
  have S1 := Lib.hid @s1
  have S2 := Lib.hid @s2
  have M1 := Lib.hid @m1
  have M2 := Lib.hid @m2
  have CC := Lib.hid @cc
  have fin : decide (l * d ≤ n * 1099511627776) = decide (-n * 1099511627776 ≤ -l * d) := by
    apply decide_eq_decide.2
    rw [Int.neg_mul, Int.neg_mul]; omega
  rw [fin]
  clear fin s1 s2 m1 m2 cc ea eb p0 p1 p2 p3 p4 q0 q1 q2 q3 q4
  generalize cmpI ((-l) * d) ((-n) * 1099511627776) = cv at *
  rw [← hd]
  clear hd
  go_enter Try.func36, Try.ntmps36
  refine at_world (fun W' => ∃ p, W' = more w p) ⟨⟨[], 0⟩, rfl⟩ ?_
  rintro _ ⟨p, rfl⟩
  go_wp2_with (first
    | (go_at_call 52; first
      | ((with_reducible refine (calls_more_same (S1.out _)).mono ?_); rintro e w' ⟨rfl, q, rfl⟩)
      | ((with_reducible refine (calls_more_same (S2.out _)).mono ?_); rintro e w' ⟨rfl, q, rfl⟩))
    | (go_at_call 48; first
      | ((with_reducible refine (calls_more_o (M1.out _)).mono ?_); rintro e w' ⟨rfl, q, rfl⟩)
      | ((with_reducible refine (calls_more_o (M2.out _)).mono ?_); rintro e w' ⟨rfl, q, rfl⟩))
    | (go_at_call 49; (with_reducible refine (calls_more (CC.out _)).mono ?_); rintro e w' ⟨rfl, q, rfl⟩))
  go_ret
  exact ⟨rfl, _, rfl⟩
set_option maxHeartbeats 1000000 in
theorem below_pos (l n d : Int) (d0 : 1 ≤ d) (d1 : d ≤ 9223372036854775807) (hl : 0 ≤ l) (hn : 0 ≤ n) (l0 : -9223372036854775807 ≤ l) (l1 : l ≤ 9223372036854775807) (n0 : -9223372036854775807 ≤ n) (n1 : n ≤ 9223372036854775807) (w : World) : Calls Try.prog 36 #[.int .i64 l, .int .i64 n, .int .i64 d] w fun e w' => e = .returned (.bool (decide (l * d ≤ n * 1099511627776))) ∧ ∃ p, w' = more w p := by
  have da : decide (l < 0) = false := decide_eq_false (by omega)
  have db : decide (n < 0) = false := decide_eq_false (by omega)
  have ea : absI l = l := by unfold absI; rw [if_neg (by omega)]
  have eb : absI n = n := by unfold absI; rw [if_neg (by omega)]
  have s1 := fun w => refSize_call l w l0 l1
  have s2 := fun w => refSize_call n w n0 n1
  rw [ea] at s1
  rw [eb] at s2
  have m1 := fun w => refMul_call (l) d w (by omega) (by omega) (by omega) (by omega)
  have m2 := fun w => refMul_call (n) 1099511627776 w (by omega) (by omega) (by omega) (by omega)
  obtain ⟨p0, p1, p2, p3, p4⟩ := mul_hi_lo (l) d (by omega) (by omega) (by omega) (by omega)
  obtain ⟨q0, q1, q2, q3, q4⟩ := mul_hi_lo (n) 1099511627776 (by omega) (by omega) (by omega) (by omega)
  have cc := fun w => refCompare_call ((l) * d / 18446744073709551616) ((l) * d % 18446744073709551616) ((n) * 1099511627776 / 18446744073709551616) ((n) * 1099511627776 % 18446744073709551616) w p2 p3 q2 q3
  rw [p4, q4] at cc
  have hd := cmp_le ((l) * d) ((n) * 1099511627776)
  have S1 := Lib.hid @s1
  have S2 := Lib.hid @s2
  have M1 := Lib.hid @m1
  have M2 := Lib.hid @m2
  have CC := Lib.hid @cc
  have fin : decide (l * d ≤ n * 1099511627776) = decide (l * d ≤ n * 1099511627776) := by
    apply decide_eq_decide.2
    exact Iff.rfl
  rw [fin]
  clear fin s1 s2 m1 m2 cc ea eb p0 p1 p2 p3 p4 q0 q1 q2 q3 q4
  generalize cmpI ((l) * d) ((n) * 1099511627776) = cv at *
  rw [← hd]
  clear hd
  go_enter Try.func36, Try.ntmps36
  refine at_world (fun W' => ∃ p, W' = more w p) ⟨⟨[], 0⟩, rfl⟩ ?_
  rintro _ ⟨p, rfl⟩
  go_wp2_with (first
    | (go_at_call 52; first
      | ((with_reducible refine (calls_more_same (S1.out _)).mono ?_); rintro e w' ⟨rfl, q, rfl⟩)
      | ((with_reducible refine (calls_more_same (S2.out _)).mono ?_); rintro e w' ⟨rfl, q, rfl⟩))
    | (go_at_call 48; first
      | ((with_reducible refine (calls_more_o (M1.out _)).mono ?_); rintro e w' ⟨rfl, q, rfl⟩)
      | ((with_reducible refine (calls_more_o (M2.out _)).mono ?_); rintro e w' ⟨rfl, q, rfl⟩))
    | (go_at_call 49; (with_reducible refine (calls_more (CC.out _)).mono ?_); rintro e w' ⟨rfl, q, rfl⟩))
  go_ret
  exact ⟨rfl, _, rfl⟩
theorem below_call (l n d : Int) (d0 : 1 ≤ d) (d1 : d ≤ 9223372036854775807) (l0 : -9223372036854775807 ≤ l) (l1 : l ≤ 9223372036854775807) (n0 : -9223372036854775807 ≤ n) (n1 : n ≤ 9223372036854775807) (w : World) : Calls Try.prog 36 #[.int .i64 l, .int .i64 n, .int .i64 d] w fun e w' => e = .returned (.bool (decide (l * d ≤ n * 1099511627776))) ∧ ∃ p, w' = more w p := by
  by_cases hl : l < 0
  · by_cases hn : n < 0
    · exact below_neg l n d d0 d1 hl hn l0 l1 n0 n1 w
    · have h1 := Int.mul_nonneg (show 0 ≤ -l by omega) (show 0 ≤ d by omega)
      rw [Int.neg_mul] at h1
      rw [decide_eq_true (by omega)]
      exact below_lo l n d d0 hl (by omega) w
  · by_cases hn : n < 0
    · have h1 := Int.mul_nonneg (show 0 ≤ l by omega) (show 0 ≤ d by omega)
      rw [decide_eq_false (by omega)]
      exact below_hi l n d d0 (by omega) hn w
    · exact below_pos l n d d0 d1 (by omega) (by omega) l0 l1 n0 n1 w

/-- what the reference says of Contains -/
def rcB (xl xh n d : Int) : Bool := ivB xl xh && okd n d && decide (xl * scD d ≤ scN n d * 1099511627776) && decide (-xh * scD d ≤ -scN n d * 1099511627776)
theorem ct_agree (xl xh n d : Int) : ctB xl xh n d = rcB xl xh n d := by
  unfold ctB rcB
  by_cases ho : okd n d = true
  · obtain ⟨e1, e2, e3⟩ := s_good ho
    rw [e1, e2, e3, ho]
    have hD : 1 ≤ scD d := by
      have h := ho
      unfold okd at h
      simp only [Bool.and_eq_true, decide_eq_true_eq] at h
      unfold scD; split <;> omega
    have hneg : -scN n d * 1099511627776 = -(scN n d * 1099511627776) := Int.neg_mul _ _
    rw [hneg]
    generalize scN n d * 1099511627776 = P at *
    generalize scD d = D at *
    by_cases hx : ivB xl xh = true
    · obtain ⟨x0, x1, x2⟩ := ivB_parts hx
      rw [hx]
      by_cases hk : rok P D = true
      · obtain ⟨r1, r2⟩ := r_good hk
        rw [hk, r1, r2]
        simp only [Bool.true_and]
        have a1 := @le_flo xl P D hD
        have a2 := @cei_le xh P D hD
        rw [show decide (xl ≤ P / D) = decide (xl * D ≤ P) from decide_eq_decide.2 a1, show decide (cei P D ≤ xh) = decide (-xh * D ≤ -P) from decide_eq_decide.2 (by rw [Int.neg_mul]; omega)]
      · have hk : rok P D = false := by simpa using hk
        rw [hk]
        simp only [Bool.true_and, Bool.false_and]
        have b1 := Int.mul_le_mul_of_nonneg_right x1 (show 0 ≤ D by omega)
        have b2 := Int.mul_le_mul_of_nonneg_right x2 (show 0 ≤ D by omega)
        have := rok_false hk
        symm
        rw [Bool.and_eq_false_iff]
        rcases this with h | h
        · exact .inl (decide_eq_false (by omega))
        · exact .inr (decide_eq_false (by rw [Int.neg_mul]; omega))
    · have hx : ivB xl xh = false := by simpa using hx
      rw [hx]; simp
  · have ho : okd n d = false := by simpa using ho
    obtain ⟨e1, e2, e3⟩ := s_bad ho
    rw [e3, ho]; simp

set_option maxHeartbeats 1000000 in
theorem rct_x (xl xh n d : Int) (hx : ivB xl xh = false) (w : World) : Calls Try.prog 13 #[.agg #[.int .i64 xl, .int .i64 xh], .int .i64 n, .int .i64 d] w fun e w' => e = .returned (.bool (false)) ∧ ∃ p, w' = more w p := by
  have vx := fun w => refValid_call xl xh w
  rw [hx] at vx
  have VX := Lib.hid @vx
  clear vx hx
  go_enter Try.func13, Try.ntmps13
  go_upto_region 1 with fail
  refine at_world (fun V => V.heap[w.heap.size]? = some (ivO xl xh) ∧ Ext w V) ⟨at_new rfl, ⟨[_], 0⟩, rfl⟩ ?_
  rintro V ⟨e1, hE⟩
  obtain ⟨k0, k1, k2, k3⟩ := iv_of e1
  replace hE := Lib.hid hE
  replace e1 := Lib.hid e1
  have hmc := more_cell
  have hmh := more_heap
  refine at_world (fun W' => ∃ p, W' = more V p) ⟨⟨[], 0⟩, rfl⟩ ?_
  rintro _ ⟨p, rfl⟩
  go_wp2_with (go_at_call 19; (with_reducible refine (calls_more_o (VX.out _)).mono ?_); rintro e w' ⟨rfl, q, rfl⟩)
  go_ret
  exact ⟨rfl, hE.out.mored _⟩

set_option maxHeartbeats 1000000 in
theorem rct_z (xl xh n : Int) (hx : ivB xl xh = true) (w : World) : Calls Try.prog 13 #[.agg #[.int .i64 xl, .int .i64 xh], .int .i64 n, .int .i64 0] w fun e w' => e = .returned (.bool (false)) ∧ ∃ p, w' = more w p := by
  have vx := fun w => refValid_call xl xh w
  rw [hx] at vx
  have VX := Lib.hid @vx
  clear vx hx
  go_enter Try.func13, Try.ntmps13
  go_upto_region 1 with fail
  refine at_world (fun V => V.heap[w.heap.size]? = some (ivO xl xh) ∧ Ext w V) ⟨at_new rfl, ⟨[_], 0⟩, rfl⟩ ?_
  rintro V ⟨e1, hE⟩
  obtain ⟨k0, k1, k2, k3⟩ := iv_of e1
  replace hE := Lib.hid hE
  replace e1 := Lib.hid e1
  have hmc := more_cell
  have hmh := more_heap
  refine at_world (fun W' => ∃ p, W' = more V p) ⟨⟨[], 0⟩, rfl⟩ ?_
  rintro _ ⟨p, rfl⟩
  go_wp2_with (go_at_call 19; (with_reducible refine (calls_more_o (VX.out _)).mono ?_); rintro e w' ⟨rfl, q, rfl⟩)
  go_ret
  exact ⟨rfl, hE.out.mored _⟩

set_option maxHeartbeats 1000000 in
theorem rct_n1 (xl xh n d : Int) (hx : ivB xl xh = true) (hz : (d == 0) = false) (h : n < -1099511627776) (w : World) : Calls Try.prog 13 #[.agg #[.int .i64 xl, .int .i64 xh], .int .i64 n, .int .i64 d] w fun e w' => e = .returned (.bool (false)) ∧ ∃ p, w' = more w p := by
  have vx := fun w => refValid_call xl xh w
  rw [hx] at vx
  have VX := Lib.hid @vx
  clear vx hx
  go_enter Try.func13, Try.ntmps13
  go_upto_region 1 with fail
  refine at_world (fun V => V.heap[w.heap.size]? = some (ivO xl xh) ∧ Ext w V) ⟨at_new rfl, ⟨[_], 0⟩, rfl⟩ ?_
  rintro V ⟨e1, hE⟩
  obtain ⟨k0, k1, k2, k3⟩ := iv_of e1
  replace hE := Lib.hid hE
  replace e1 := Lib.hid e1
  have hmc := more_cell
  have hmh := more_heap
  refine at_world (fun W' => ∃ p, W' = more V p) ⟨⟨[], 0⟩, rfl⟩ ?_
  rintro _ ⟨p, rfl⟩
  go_wp2_with (go_at_call 19; (with_reducible refine (calls_more_o (VX.out _)).mono ?_); rintro e w' ⟨rfl, q, rfl⟩)
  go_ret
  exact ⟨rfl, hE.out.mored _⟩

set_option maxHeartbeats 1000000 in
theorem rct_n2 (xl xh n d : Int) (hx : ivB xl xh = true) (hz : (d == 0) = false) (h : 1099511627776 < n) (w : World) : Calls Try.prog 13 #[.agg #[.int .i64 xl, .int .i64 xh], .int .i64 n, .int .i64 d] w fun e w' => e = .returned (.bool (false)) ∧ ∃ p, w' = more w p := by
  have vx := fun w => refValid_call xl xh w
  rw [hx] at vx
  have VX := Lib.hid @vx
  clear vx hx
  go_enter Try.func13, Try.ntmps13
  go_upto_region 1 with fail
  refine at_world (fun V => V.heap[w.heap.size]? = some (ivO xl xh) ∧ Ext w V) ⟨at_new rfl, ⟨[_], 0⟩, rfl⟩ ?_
  rintro V ⟨e1, hE⟩
  obtain ⟨k0, k1, k2, k3⟩ := iv_of e1
  replace hE := Lib.hid hE
  replace e1 := Lib.hid e1
  have hmc := more_cell
  have hmh := more_heap
  refine at_world (fun W' => ∃ p, W' = more V p) ⟨⟨[], 0⟩, rfl⟩ ?_
  rintro _ ⟨p, rfl⟩
  go_wp2_with (go_at_call 19; (with_reducible refine (calls_more_o (VX.out _)).mono ?_); rintro e w' ⟨rfl, q, rfl⟩)
  go_ret
  exact ⟨rfl, hE.out.mored _⟩

set_option maxHeartbeats 1000000 in
theorem rct_d1 (xl xh n d : Int) (hx : ivB xl xh = true) (hz : (d == 0) = false) (h : d < -1099511627776) (g0 : -1099511627776 ≤ n) (g1 : n ≤ 1099511627776) (w : World) : Calls Try.prog 13 #[.agg #[.int .i64 xl, .int .i64 xh], .int .i64 n, .int .i64 d] w fun e w' => e = .returned (.bool (false)) ∧ ∃ p, w' = more w p := by
  have vx := fun w => refValid_call xl xh w
  rw [hx] at vx
  have VX := Lib.hid @vx
  clear vx hx
  go_enter Try.func13, Try.ntmps13
  go_upto_region 1 with fail
  refine at_world (fun V => V.heap[w.heap.size]? = some (ivO xl xh) ∧ Ext w V) ⟨at_new rfl, ⟨[_], 0⟩, rfl⟩ ?_
  rintro V ⟨e1, hE⟩
  obtain ⟨k0, k1, k2, k3⟩ := iv_of e1
  replace hE := Lib.hid hE
  replace e1 := Lib.hid e1
  have hmc := more_cell
  have hmh := more_heap
  refine at_world (fun W' => ∃ p, W' = more V p) ⟨⟨[], 0⟩, rfl⟩ ?_
  rintro _ ⟨p, rfl⟩
  go_wp2_with (go_at_call 19; (with_reducible refine (calls_more_o (VX.out _)).mono ?_); rintro e w' ⟨rfl, q, rfl⟩)
  go_ret
  exact ⟨rfl, hE.out.mored _⟩

set_option maxHeartbeats 1000000 in
theorem rct_d2 (xl xh n d : Int) (hx : ivB xl xh = true) (hz : (d == 0) = false) (h : 1099511627776 < d) (g0 : -1099511627776 ≤ n) (g1 : n ≤ 1099511627776) (w : World) : Calls Try.prog 13 #[.agg #[.int .i64 xl, .int .i64 xh], .int .i64 n, .int .i64 d] w fun e w' => e = .returned (.bool (false)) ∧ ∃ p, w' = more w p := by
  have vx := fun w => refValid_call xl xh w
  rw [hx] at vx
  have VX := Lib.hid @vx
  clear vx hx
  go_enter Try.func13, Try.ntmps13
  go_upto_region 1 with fail
  refine at_world (fun V => V.heap[w.heap.size]? = some (ivO xl xh) ∧ Ext w V) ⟨at_new rfl, ⟨[_], 0⟩, rfl⟩ ?_
  rintro V ⟨e1, hE⟩
  obtain ⟨k0, k1, k2, k3⟩ := iv_of e1
  replace hE := Lib.hid hE
  replace e1 := Lib.hid e1
  have hmc := more_cell
  have hmh := more_heap
  refine at_world (fun W' => ∃ p, W' = more V p) ⟨⟨[], 0⟩, rfl⟩ ?_
  rintro _ ⟨p, rfl⟩
  go_wp2_with (go_at_call 19; (with_reducible refine (calls_more_o (VX.out _)).mono ?_); rintro e w' ⟨rfl, q, rfl⟩)
  go_ret
  exact ⟨rfl, hE.out.mored _⟩

set_option maxHeartbeats 1000000 in
theorem rct_pos_lo (xl xh n d : Int) (hx : ivB xl xh = true) (h1 : nearB n = true) (h2 : nearB d = true) (hd : 0 < d) (hl : decide (xl * (d) ≤ (n) * 1099511627776) = false) (w : World) : Calls Try.prog 13 #[.agg #[.int .i64 xl, .int .i64 xh], .int .i64 n, .int .i64 d] w fun e w' => e = .returned (.bool (false)) ∧ ∃ p, w' = more w p := by
  obtain ⟨x0, x1, x2⟩ := ivB_parts hx
  obtain ⟨n0, n1⟩ := nearB_parts h1
  obtain ⟨d0, d1⟩ := nearB_parts h2
  have hz : (d == 0) = false := beq_eq_false_iff_ne.2 (by omega)
  have b1 := fun w => below_call xl (n) (d) (by omega) (by omega) (by omega) (by omega) (by omega) (by omega) w
  have b2 := fun w => below_call (-xh) (-n) (d) (by omega) (by omega) (by omega) (by omega) (by omega) (by omega) w
  rw [hl] at b1
  have B1 := Lib.hid @b1
  have B2 := Lib.hid @b2
  clear b1 b2 hl h1 h2
  generalize decide (-xh * (d) ≤ (-n) * 1099511627776) = rv at *
  have vx := fun w => refValid_call xl xh w
  rw [hx] at vx
  have VX := Lib.hid @vx
  clear vx hx
  go_enter Try.func13, Try.ntmps13
  go_upto_region 1 with fail
  refine at_world (fun V => V.heap[w.heap.size]? = some (ivO xl xh) ∧ Ext w V) ⟨at_new rfl, ⟨[_], 0⟩, rfl⟩ ?_
  rintro V ⟨e1, hE⟩
  obtain ⟨k0, k1, k2, k3⟩ := iv_of e1
  replace hE := Lib.hid hE
  replace e1 := Lib.hid e1
  have hmc := more_cell
  have hmh := more_heap
  refine at_world (fun W' => ∃ p, W' = more V p) ⟨⟨[], 0⟩, rfl⟩ ?_
  rintro _ ⟨p, rfl⟩
  go_wp2_with (first
    | (go_at_call 19; (with_reducible refine (calls_more_o (VX.out _)).mono ?_); rintro e w' ⟨rfl, q, rfl⟩)
    | (go_at_call 36; first
      | ((with_reducible refine (calls_more (B1.out _)).mono ?_); rintro e w' ⟨rfl, q, rfl⟩)
      | ((with_reducible refine (calls_more (B2.out _)).mono ?_); rintro e w' ⟨rfl, q, rfl⟩)))
  go_ret
  exact ⟨rfl, hE.out.mored _⟩

set_option maxHeartbeats 1000000 in
theorem rct_pos_hi (xl xh n d : Int) (hx : ivB xl xh = true) (h1 : nearB n = true) (h2 : nearB d = true) (hd : 0 < d) (hl : decide (xl * (d) ≤ (n) * 1099511627776) = true) (w : World) : Calls Try.prog 13 #[.agg #[.int .i64 xl, .int .i64 xh], .int .i64 n, .int .i64 d] w fun e w' => e = .returned (.bool (decide (-xh * (d) ≤ (-n) * 1099511627776))) ∧ ∃ p, w' = more w p := by
  obtain ⟨x0, x1, x2⟩ := ivB_parts hx
  obtain ⟨n0, n1⟩ := nearB_parts h1
  obtain ⟨d0, d1⟩ := nearB_parts h2
  have hz : (d == 0) = false := beq_eq_false_iff_ne.2 (by omega)
  have b1 := fun w => below_call xl (n) (d) (by omega) (by omega) (by omega) (by omega) (by omega) (by omega) w
  have b2 := fun w => below_call (-xh) (-n) (d) (by omega) (by omega) (by omega) (by omega) (by omega) (by omega) w
  rw [hl] at b1
  have B1 := Lib.hid @b1
  have B2 := Lib.hid @b2
  clear b1 b2 hl h1 h2
  generalize decide (-xh * (d) ≤ (-n) * 1099511627776) = rv at *
  have vx := fun w => refValid_call xl xh w
  rw [hx] at vx
  have VX := Lib.hid @vx
  clear vx hx
  go_enter Try.func13, Try.ntmps13
  go_upto_region 1 with fail
  refine at_world (fun V => V.heap[w.heap.size]? = some (ivO xl xh) ∧ Ext w V) ⟨at_new rfl, ⟨[_], 0⟩, rfl⟩ ?_
  rintro V ⟨e1, hE⟩
  obtain ⟨k0, k1, k2, k3⟩ := iv_of e1
  replace hE := Lib.hid hE
  replace e1 := Lib.hid e1
  have hmc := more_cell
  have hmh := more_heap
  refine at_world (fun W' => ∃ p, W' = more V p) ⟨⟨[], 0⟩, rfl⟩ ?_
  rintro _ ⟨p, rfl⟩
  go_wp2_with (first
    | (go_at_call 19; (with_reducible refine (calls_more_o (VX.out _)).mono ?_); rintro e w' ⟨rfl, q, rfl⟩)
    | (go_at_call 36; first
      | ((with_reducible refine (calls_more (B1.out _)).mono ?_); rintro e w' ⟨rfl, q, rfl⟩)
      | ((with_reducible refine (calls_more (B2.out _)).mono ?_); rintro e w' ⟨rfl, q, rfl⟩)))
  go_ret
  exact ⟨rfl, hE.out.mored _⟩

set_option maxHeartbeats 1000000 in
theorem rct_neg_lo (xl xh n d : Int) (hx : ivB xl xh = true) (h1 : nearB n = true) (h2 : nearB d = true) (hd : d < 0) (hl : decide (xl * (-d) ≤ (-n) * 1099511627776) = false) (w : World) : Calls Try.prog 13 #[.agg #[.int .i64 xl, .int .i64 xh], .int .i64 n, .int .i64 d] w fun e w' => e = .returned (.bool (false)) ∧ ∃ p, w' = more w p := by
  obtain ⟨x0, x1, x2⟩ := ivB_parts hx
  obtain ⟨n0, n1⟩ := nearB_parts h1
  obtain ⟨d0, d1⟩ := nearB_parts h2
  have hz : (d == 0) = false := beq_eq_false_iff_ne.2 (by omega)
  have b1 := fun w => below_call xl (-n) (-d) (by omega) (by omega) (by omega) (by omega) (by omega) (by omega) w
  have b2 := fun w => below_call (-xh) (n) (-d) (by omega) (by omega) (by omega) (by omega) (by omega) (by omega) w
  rw [hl] at b1
  have B1 := Lib.hid @b1
  have B2 := Lib.hid @b2
  clear b1 b2 hl h1 h2
  generalize decide (-xh * (-d) ≤ (n) * 1099511627776) = rv at *
  have vx := fun w => refValid_call xl xh w
  rw [hx] at vx
  have VX := Lib.hid @vx
  clear vx hx
  go_enter Try.func13, Try.ntmps13
  go_upto_region 1 with fail
  refine at_world (fun V => V.heap[w.heap.size]? = some (ivO xl xh) ∧ Ext w V) ⟨at_new rfl, ⟨[_], 0⟩, rfl⟩ ?_
  rintro V ⟨e1, hE⟩
  obtain ⟨k0, k1, k2, k3⟩ := iv_of e1
  replace hE := Lib.hid hE
  replace e1 := Lib.hid e1
  have hmc := more_cell
  have hmh := more_heap
  refine at_world (fun W' => ∃ p, W' = more V p) ⟨⟨[], 0⟩, rfl⟩ ?_
  rintro _ ⟨p, rfl⟩
  go_wp2_with (first
    | (go_at_call 19; (with_reducible refine (calls_more_o (VX.out _)).mono ?_); rintro e w' ⟨rfl, q, rfl⟩)
    | (go_at_call 36; first
      | ((with_reducible refine (calls_more (B1.out _)).mono ?_); rintro e w' ⟨rfl, q, rfl⟩)
      | ((with_reducible refine (calls_more (B2.out _)).mono ?_); rintro e w' ⟨rfl, q, rfl⟩)))
  go_ret
  exact ⟨rfl, hE.out.mored _⟩

set_option maxHeartbeats 1000000 in
theorem rct_neg_hi (xl xh n d : Int) (hx : ivB xl xh = true) (h1 : nearB n = true) (h2 : nearB d = true) (hd : d < 0) (hl : decide (xl * (-d) ≤ (-n) * 1099511627776) = true) (w : World) : Calls Try.prog 13 #[.agg #[.int .i64 xl, .int .i64 xh], .int .i64 n, .int .i64 d] w fun e w' => e = .returned (.bool (decide (-xh * (-d) ≤ (n) * 1099511627776))) ∧ ∃ p, w' = more w p := by
  obtain ⟨x0, x1, x2⟩ := ivB_parts hx
  obtain ⟨n0, n1⟩ := nearB_parts h1
  obtain ⟨d0, d1⟩ := nearB_parts h2
  have hz : (d == 0) = false := beq_eq_false_iff_ne.2 (by omega)
  have b1 := fun w => below_call xl (-n) (-d) (by omega) (by omega) (by omega) (by omega) (by omega) (by omega) w
  have b2 := fun w => below_call (-xh) (n) (-d) (by omega) (by omega) (by omega) (by omega) (by omega) (by omega) w
  rw [hl] at b1
  have B1 := Lib.hid @b1
  have B2 := Lib.hid @b2
  clear b1 b2 hl h1 h2
  generalize decide (-xh * (-d) ≤ (n) * 1099511627776) = rv at *
  have vx := fun w => refValid_call xl xh w
  rw [hx] at vx
  have VX := Lib.hid @vx
  clear vx hx
  go_enter Try.func13, Try.ntmps13
  go_upto_region 1 with fail
  refine at_world (fun V => V.heap[w.heap.size]? = some (ivO xl xh) ∧ Ext w V) ⟨at_new rfl, ⟨[_], 0⟩, rfl⟩ ?_
  rintro V ⟨e1, hE⟩
  obtain ⟨k0, k1, k2, k3⟩ := iv_of e1
  replace hE := Lib.hid hE
  replace e1 := Lib.hid e1
  have hmc := more_cell
  have hmh := more_heap
  refine at_world (fun W' => ∃ p, W' = more V p) ⟨⟨[], 0⟩, rfl⟩ ?_
  rintro _ ⟨p, rfl⟩
  go_wp2_with (first
    | (go_at_call 19; (with_reducible refine (calls_more_o (VX.out _)).mono ?_); rintro e w' ⟨rfl, q, rfl⟩)
    | (go_at_call 36; first
      | ((with_reducible refine (calls_more (B1.out _)).mono ?_); rintro e w' ⟨rfl, q, rfl⟩)
      | ((with_reducible refine (calls_more (B2.out _)).mono ?_); rintro e w' ⟨rfl, q, rfl⟩)))
  go_ret
  exact ⟨rfl, hE.out.mored _⟩

theorem rct_call (xl xh n d : Int) (w : World) : Calls Try.prog 13 #[.agg #[.int .i64 xl, .int .i64 xh], .int .i64 n, .int .i64 d] w fun e w' => e = .returned (.bool (ctB xl xh n d)) ∧ ∃ p, w' = more w p := by
  rw [ct_agree]
  unfold rcB
  by_cases hx : ivB xl xh = true
  · rw [hx]
    have bad : okd n d = false → (Calls Try.prog 13 #[.agg #[.int .i64 xl, .int .i64 xh], .int .i64 n, .int .i64 d] w fun e w' => e = .returned (.bool (false)) ∧ ∃ p, w' = more w p) → (Calls Try.prog 13 #[.agg #[.int .i64 xl, .int .i64 xh], .int .i64 n, .int .i64 d] w fun e w' => e = .returned (.bool (true && okd n d && decide (xl * scD d ≤ scN n d * 1099511627776) && decide (-xh * scD d ≤ -scN n d * 1099511627776))) ∧ ∃ p, w' = more w p) := fun h hc => by rw [h]; simpa using hc
    by_cases hz : d = 0
    · subst hz; exact bad (okd_zero n) (rct_z xl xh n hx w)
    have hz' : (d == 0) = false := beq_eq_false_iff_ne.2 hz
    by_cases hn : nearB n = true
    · obtain ⟨g0, g1⟩ := nearB_parts hn
      by_cases hd : nearB d = true
      · rw [okd_of hn hd hz]
        unfold scN scD
        by_cases hs : d < 0
        · rw [if_pos hs, if_pos hs, Int.neg_neg]
          by_cases hl : decide (xl * (-d) ≤ (-n) * 1099511627776) = true
          · rw [hl]; simp only [Bool.true_and]; exact rct_neg_hi xl xh n d hx hn hd hs hl w
          · have hl : decide (xl * (-d) ≤ (-n) * 1099511627776) = false := by simpa using hl
            rw [hl]; simp only [Bool.true_and, Bool.false_and]; exact rct_neg_lo xl xh n d hx hn hd hs hl w
        · rw [if_neg hs, if_neg hs]
          by_cases hl : decide (xl * d ≤ n * 1099511627776) = true
          · rw [hl]; simp only [Bool.true_and]; exact rct_pos_hi xl xh n d hx hn hd (by omega) hl w
          · have hl : decide (xl * d ≤ n * 1099511627776) = false := by simpa using hl
            rw [hl]; simp only [Bool.true_and, Bool.false_and]; exact rct_pos_lo xl xh n d hx hn hd (by omega) hl w
      · have hd : nearB d = false := by simpa using hd
        have h := of_decide_eq_false hd
        refine bad (okd_bad (by rw [hn, hd]; rfl)) ?_
        by_cases h1 : d < -1099511627776
        · exact rct_d1 xl xh n d hx hz' h1 g0 g1 w
        · exact rct_d2 xl xh n d hx hz' (by omega) g0 g1 w
    · have hn : nearB n = false := by simpa using hn
      have h := of_decide_eq_false hn
      refine bad (okd_bad (by rw [hn]; rfl)) ?_
      by_cases h1 : n < -1099511627776
      · exact rct_n1 xl xh n d hx hz' h1 w
      · exact rct_n2 xl xh n d hx hz' (by omega) w
  · have hx : ivB xl xh = false := by simpa using hx
    rw [hx]; simp only [Bool.false_and]; exact rct_x xl xh n d hx w
end Go.Proofs.Ytdbemgjjahcabaa
