/- Contracts of the reference's size, quotient and Of. -/
import Derived.Test.YtdbemgjjahcabaaIvOf
import Derived.Test.YtdbemgjjahcabaaRefWide
namespace Go.Proofs.Ytdbemgjjahcabaa
open Go.RowKit
set_option linter.unusedVariables false

theorem qd_big {P N d q : Int} (d1 : 1 ≤ d) (n0 : 0 ≤ N) (hq : N / d = q) (h : 35184372088832 ≤ q) (up : Bool) : (P = N → qd P d up = 35184372088832) ∧ (P = -N → qd P d up = -35184372088832) := by
  have h2 := (le_flo (x := 35184372088832) (n := N) d1).1 (by omega)
  unfold qd
  constructor
  · rintro rfl
    rw [if_neg (by omega), if_neg (by omega)]
  · rintro rfl
    rw [if_neg (by omega), if_pos (by omega)]
theorem qd_small {P N d q r : Int} (d1 : 1 ≤ d) (n0 : 0 ≤ N) (hq : N / d = q) (hr : N % d = r) (h : q < 35184372088832) :
    (P = N → qd P d false = q ∧ qd P d true = q + if 0 < r then 1 else 0) ∧ (P = -N → qd P d false = -(q + if 0 < r then 1 else 0) ∧ qd P d true = -q) := by
  have h2 := (Int.ediv_lt_iff_lt_mul (a := N) (b := 35184372088832) (c := d) (by omega)).1 (by omega)
  have e0 : ∀ P : Int, P = N ∨ P = -N → ∀ up, qd P d up = if up = true then cei P d else P / d := fun P hP up => by unfold qd; rw [if_pos (by omega)]
  constructor
  · rintro rfl
    rw [e0 _ (.inl rfl), e0 _ (.inl rfl), if_pos rfl, if_neg (by decide), cei_eq _ d d1, hq, hr]
    exact ⟨rfl, rfl⟩
  · rintro rfl
    rw [e0 _ (.inr rfl), e0 _ (.inr rfl), if_pos rfl, if_neg (by decide), cei_neg, neg_div _ d d1, hq, hr]
    exact ⟨rfl, rfl⟩

set_option maxHeartbeats 400000 in
theorem refSize_call (n : Int) (w : World) (n0 : -9223372036854775807 ≤ n) (n1 : n ≤ 9223372036854775807) :
    Calls Try.prog 52 #[.int .i64 n] w fun e w' => e = .returned (.int .u64 (absI n)) ∧ w = w' := by
  by_cases h : n < 0
  · have e : absI n = -n := if_pos h
    rw [e]; clear e
    go_enter Try.func52, Try.ntmps52
    go_wp2
    go_ret
    exact ⟨ret_int (by omega), rfl⟩
  · have e : absI n = n := if_neg h
    rw [e]; clear e
    go_enter Try.func52, Try.ntmps52
    go_wp2
    go_ret
    exact ⟨rfl, rfl⟩

set_option maxHeartbeats 4000000 in
theorem quot_false (a b d : Int) (w : World) (a0 : -9223372036854775807 ≤ a) (a1 : a ≤ 9223372036854775807) (b0 : -9223372036854775807 ≤ b) (b1 : b ≤ 9223372036854775807) (d0 : 1 ≤ d) (d1 : d ≤ 9223372036854775807) :
    Calls Try.prog 50 #[.int .i64 a, .int .i64 b, .int .u64 d, .bool false] w fun e w' => e = .returned (.int .i64 (qd (a * b) d false)) ∧ ∃ p, w' = more w p := by
  obtain ⟨A0, A1⟩ := absI_bounds a0 a1
  obtain ⟨B0, B1⟩ := absI_bounds b0 b1
  have s1 := fun w => refSize_call a w a0 a1
  have s2 := fun w => refSize_call b w b0 b1
  obtain ⟨A, hA⟩ : ∃ A, absI a = A := ⟨_, rfl⟩
  obtain ⟨B, hB⟩ : ∃ B, absI b = B := ⟨_, rfl⟩
  rw [hA] at A0 A1 s1
  rw [hB] at B0 B1 s2
  obtain ⟨m0, m1, m2, m3, m4⟩ := mul_hi_lo A B A0 (by omega) B0 (by omega)
  have n0 : 0 ≤ A * B := Int.mul_nonneg A0 B0
  have hm := fun w => refMul_call A B w A0 (by omega) B0 (by omega)
  have hd := fun w => refDivMod_yes (A * B / 18446744073709551616) (A * B % 18446744073709551616) d w m0 (by omega) m2 m3 d0 (by omega)
  rw [m4] at hd
  obtain ⟨q, hq⟩ : ∃ q, A * B / d = q := ⟨_, rfl⟩
  obtain ⟨r, hr⟩ : ∃ r, A * B % d = r := ⟨_, rfl⟩
  rw [hq, hr] at hd
  have q0 : 0 ≤ q := by rw [← hq]; exact Int.ediv_nonneg n0 (by omega)
  have q1 : q < 340282366920938463463374607431768211456 := by
    have h1 : q ≤ A * B := by rw [← hq]; exact Int.ediv_le_self _ n0
    have h2 := (mul_bound A B 18446744073709551615 18446744073709551615 A0 B0 (by omega) (by omega)).2
    omega
  have r0 : 0 ≤ r := by rw [← hr]; exact Int.emod_nonneg _ (by omega)
  have r1 : r < d := by rw [← hr]; exact Int.emod_lt_of_pos _ (by omega)
  obtain ⟨H, hH⟩ : ∃ H, A * B / 18446744073709551616 = H := ⟨_, rfl⟩
  obtain ⟨L, hL⟩ : ∃ L, A * B % 18446744073709551616 = L := ⟨_, rfl⟩
  rw [hH, hL] at hm hd
  clear m0 m1 m2 m3 m4 hH hL
  have HM := Lib.hid @hm
  have S1 := Lib.hid @s1
  have S2 := Lib.hid @s2
  clear s1 s2 hm
  by_cases hb : 35184372088832 ≤ q
  · have QB := fun P => qd_big (P := P) d0 n0 hq hb false
    have e3 : q / 18446744073709551616 = 0 ∧ (decide (q % 18446744073709551616 < 35184372088832)) = false ∨ (q / 18446744073709551616 == 0) = false := by
      by_cases hz : q / 18446744073709551616 = 0
      · exact .inl ⟨hz, decide_eq_false (by omega)⟩
      · exact .inr (beq_eq_false_iff_ne.2 hz)
    have HD := Lib.hid @hd
    clear hd hq hr
    generalize q / 18446744073709551616 = qh at *
    generalize q % 18446744073709551616 = ql at *
    clear q0 q1 hb
    by_cases ha : a < 0
    · have da : decide (a < 0) = true := decide_eq_true ha
      by_cases hb : b < 0
      · have db : decide (b < 0) = true := decide_eq_true hb
        have hP := abs_mul_same hA hB ⟨fun _ => hb, fun _ => ha⟩
        have e := (QB (a * b)).1 hP
        rw [e]
        clear e hP QB n0 hA hB
        rcases e3 with ⟨rfl, e4⟩ | e3
        · go_enter Try.func50, Try.ntmps50
          go_wp2_with (first
            | (go_at_call 52; first
              | ((with_reducible refine (S1.out _).mono ?_); rintro e w' ⟨rfl, rfl⟩)
              | ((with_reducible refine (S2.out _).mono ?_); rintro e w' ⟨rfl, rfl⟩))
            | (go_at_call 48; (with_reducible refine (HM.out _).mono ?_); rintro e w' ⟨rfl, rfl⟩)
            | (go_at_call 58; (with_reducible refine (HD.out _).mono ?_); rintro e w' ⟨rfl, rfl⟩))
          go_ret
          exact ⟨ret_int (by omega), ⟨[_, _, _, _, _], 0⟩, rfl⟩
        · go_enter Try.func50, Try.ntmps50
          go_wp2_with (first
            | (go_at_call 52; first
              | ((with_reducible refine (S1.out _).mono ?_); rintro e w' ⟨rfl, rfl⟩)
              | ((with_reducible refine (S2.out _).mono ?_); rintro e w' ⟨rfl, rfl⟩))
            | (go_at_call 48; (with_reducible refine (HM.out _).mono ?_); rintro e w' ⟨rfl, rfl⟩)
            | (go_at_call 58; (with_reducible refine (HD.out _).mono ?_); rintro e w' ⟨rfl, rfl⟩))
          go_ret
          exact ⟨ret_int (by omega), ⟨[_, _, _, _, _], 0⟩, rfl⟩
      · have db : decide (b < 0) = false := decide_eq_false hb
        have hP := abs_mul_diff hA hB ⟨fun _ => hb, fun _ => ha⟩
        have e := (QB (a * b)).2 hP
        rw [e]
        clear e hP QB n0 hA hB
        rcases e3 with ⟨rfl, e4⟩ | e3
        · go_enter Try.func50, Try.ntmps50
          go_wp2_with (first
            | (go_at_call 52; first
              | ((with_reducible refine (S1.out _).mono ?_); rintro e w' ⟨rfl, rfl⟩)
              | ((with_reducible refine (S2.out _).mono ?_); rintro e w' ⟨rfl, rfl⟩))
            | (go_at_call 48; (with_reducible refine (HM.out _).mono ?_); rintro e w' ⟨rfl, rfl⟩)
            | (go_at_call 58; (with_reducible refine (HD.out _).mono ?_); rintro e w' ⟨rfl, rfl⟩))
          go_ret
          exact ⟨ret_int (by omega), ⟨[_, _, _, _, _], 0⟩, rfl⟩
        · go_enter Try.func50, Try.ntmps50
          go_wp2_with (first
            | (go_at_call 52; first
              | ((with_reducible refine (S1.out _).mono ?_); rintro e w' ⟨rfl, rfl⟩)
              | ((with_reducible refine (S2.out _).mono ?_); rintro e w' ⟨rfl, rfl⟩))
            | (go_at_call 48; (with_reducible refine (HM.out _).mono ?_); rintro e w' ⟨rfl, rfl⟩)
            | (go_at_call 58; (with_reducible refine (HD.out _).mono ?_); rintro e w' ⟨rfl, rfl⟩))
          go_ret
          exact ⟨ret_int (by omega), ⟨[_, _, _, _, _], 0⟩, rfl⟩
    · have da : decide (a < 0) = false := decide_eq_false ha
      by_cases hb : b < 0
      · have db : decide (b < 0) = true := decide_eq_true hb
        have hP := abs_mul_diff hA hB ⟨fun h => absurd h ha, fun h => absurd hb h⟩
        have e := (QB (a * b)).2 hP
        rw [e]
        clear e hP QB n0 hA hB
        rcases e3 with ⟨rfl, e4⟩ | e3
        · go_enter Try.func50, Try.ntmps50
          go_wp2_with (first
            | (go_at_call 52; first
              | ((with_reducible refine (S1.out _).mono ?_); rintro e w' ⟨rfl, rfl⟩)
              | ((with_reducible refine (S2.out _).mono ?_); rintro e w' ⟨rfl, rfl⟩))
            | (go_at_call 48; (with_reducible refine (HM.out _).mono ?_); rintro e w' ⟨rfl, rfl⟩)
            | (go_at_call 58; (with_reducible refine (HD.out _).mono ?_); rintro e w' ⟨rfl, rfl⟩))
          go_ret
          exact ⟨ret_int (by omega), ⟨[_, _, _, _, _], 0⟩, rfl⟩
        · go_enter Try.func50, Try.ntmps50
          go_wp2_with (first
            | (go_at_call 52; first
              | ((with_reducible refine (S1.out _).mono ?_); rintro e w' ⟨rfl, rfl⟩)
              | ((with_reducible refine (S2.out _).mono ?_); rintro e w' ⟨rfl, rfl⟩))
            | (go_at_call 48; (with_reducible refine (HM.out _).mono ?_); rintro e w' ⟨rfl, rfl⟩)
            | (go_at_call 58; (with_reducible refine (HD.out _).mono ?_); rintro e w' ⟨rfl, rfl⟩))
          go_ret
          exact ⟨ret_int (by omega), ⟨[_, _, _, _, _], 0⟩, rfl⟩
      · have db : decide (b < 0) = false := decide_eq_false hb
        have hP := abs_mul_same hA hB ⟨fun h => absurd h ha, fun h => absurd h hb⟩
        have e := (QB (a * b)).1 hP
        rw [e]
        clear e hP QB n0 hA hB
        rcases e3 with ⟨rfl, e4⟩ | e3
        · go_enter Try.func50, Try.ntmps50
          go_wp2_with (first
            | (go_at_call 52; first
              | ((with_reducible refine (S1.out _).mono ?_); rintro e w' ⟨rfl, rfl⟩)
              | ((with_reducible refine (S2.out _).mono ?_); rintro e w' ⟨rfl, rfl⟩))
            | (go_at_call 48; (with_reducible refine (HM.out _).mono ?_); rintro e w' ⟨rfl, rfl⟩)
            | (go_at_call 58; (with_reducible refine (HD.out _).mono ?_); rintro e w' ⟨rfl, rfl⟩))
          go_ret
          exact ⟨ret_int (by omega), ⟨[_, _, _, _, _], 0⟩, rfl⟩
        · go_enter Try.func50, Try.ntmps50
          go_wp2_with (first
            | (go_at_call 52; first
              | ((with_reducible refine (S1.out _).mono ?_); rintro e w' ⟨rfl, rfl⟩)
              | ((with_reducible refine (S2.out _).mono ?_); rintro e w' ⟨rfl, rfl⟩))
            | (go_at_call 48; (with_reducible refine (HM.out _).mono ?_); rintro e w' ⟨rfl, rfl⟩)
            | (go_at_call 58; (with_reducible refine (HD.out _).mono ?_); rintro e w' ⟨rfl, rfl⟩))
          go_ret
          exact ⟨ret_int (by omega), ⟨[_, _, _, _, _], 0⟩, rfl⟩
  · have QS := fun P => qd_small (P := P) d0 n0 hq hr (by omega)
    have e3 : q / 18446744073709551616 = 0 := by omega
    have e4 : q % 18446744073709551616 = q := by omega
    rw [e3, e4] at hd
    have HD := Lib.hid @hd
    clear hd hq hr e3 e4
    by_cases hs : 0 < r
    · by_cases ha : a < 0
      · have da : decide (a < 0) = true := decide_eq_true ha
        by_cases hb : b < 0
        · have db : decide (b < 0) = true := decide_eq_true hb
          have hP := abs_mul_same hA hB ⟨fun _ => hb, fun _ => ha⟩
          have e := ((QS (a * b)).1 hP).1
          rw [e]
          clear e hP QS n0 hA hB
          go_enter Try.func50, Try.ntmps50
          go_wp2_with (first
            | (go_at_call 52; first
              | ((with_reducible refine (S1.out _).mono ?_); rintro e w' ⟨rfl, rfl⟩)
              | ((with_reducible refine (S2.out _).mono ?_); rintro e w' ⟨rfl, rfl⟩))
            | (go_at_call 48; (with_reducible refine (HM.out _).mono ?_); rintro e w' ⟨rfl, rfl⟩)
            | (go_at_call 58; (with_reducible refine (HD.out _).mono ?_); rintro e w' ⟨rfl, rfl⟩))
          go_ret
          exact ⟨ret_int (by omega), ⟨[_, _, _, _, _], 0⟩, rfl⟩
        · have db : decide (b < 0) = false := decide_eq_false hb
          have hP := abs_mul_diff hA hB ⟨fun _ => hb, fun _ => ha⟩
          have e := ((QS (a * b)).2 hP).1
          rw [if_pos hs] at e
          rw [e]
          clear e hP QS n0 hA hB
          go_enter Try.func50, Try.ntmps50
          go_wp2_with (first
            | (go_at_call 52; first
              | ((with_reducible refine (S1.out _).mono ?_); rintro e w' ⟨rfl, rfl⟩)
              | ((with_reducible refine (S2.out _).mono ?_); rintro e w' ⟨rfl, rfl⟩))
            | (go_at_call 48; (with_reducible refine (HM.out _).mono ?_); rintro e w' ⟨rfl, rfl⟩)
            | (go_at_call 58; (with_reducible refine (HD.out _).mono ?_); rintro e w' ⟨rfl, rfl⟩))
          go_ret
          exact ⟨ret_int (by omega), ⟨[_, _, _, _, _], 0⟩, rfl⟩
      · have da : decide (a < 0) = false := decide_eq_false ha
        by_cases hb : b < 0
        · have db : decide (b < 0) = true := decide_eq_true hb
          have hP := abs_mul_diff hA hB ⟨fun h => absurd h ha, fun h => absurd hb h⟩
          have e := ((QS (a * b)).2 hP).1
          rw [if_pos hs] at e
          rw [e]
          clear e hP QS n0 hA hB
          go_enter Try.func50, Try.ntmps50
          go_wp2_with (first
            | (go_at_call 52; first
              | ((with_reducible refine (S1.out _).mono ?_); rintro e w' ⟨rfl, rfl⟩)
              | ((with_reducible refine (S2.out _).mono ?_); rintro e w' ⟨rfl, rfl⟩))
            | (go_at_call 48; (with_reducible refine (HM.out _).mono ?_); rintro e w' ⟨rfl, rfl⟩)
            | (go_at_call 58; (with_reducible refine (HD.out _).mono ?_); rintro e w' ⟨rfl, rfl⟩))
          go_ret
          exact ⟨ret_int (by omega), ⟨[_, _, _, _, _], 0⟩, rfl⟩
        · have db : decide (b < 0) = false := decide_eq_false hb
          have hP := abs_mul_same hA hB ⟨fun h => absurd h ha, fun h => absurd h hb⟩
          have e := ((QS (a * b)).1 hP).1
          rw [e]
          clear e hP QS n0 hA hB
          go_enter Try.func50, Try.ntmps50
          go_wp2_with (first
            | (go_at_call 52; first
              | ((with_reducible refine (S1.out _).mono ?_); rintro e w' ⟨rfl, rfl⟩)
              | ((with_reducible refine (S2.out _).mono ?_); rintro e w' ⟨rfl, rfl⟩))
            | (go_at_call 48; (with_reducible refine (HM.out _).mono ?_); rintro e w' ⟨rfl, rfl⟩)
            | (go_at_call 58; (with_reducible refine (HD.out _).mono ?_); rintro e w' ⟨rfl, rfl⟩))
          go_ret
          exact ⟨ret_int (by omega), ⟨[_, _, _, _, _], 0⟩, rfl⟩
    · by_cases ha : a < 0
      · have da : decide (a < 0) = true := decide_eq_true ha
        by_cases hb : b < 0
        · have db : decide (b < 0) = true := decide_eq_true hb
          have hP := abs_mul_same hA hB ⟨fun _ => hb, fun _ => ha⟩
          have e := ((QS (a * b)).1 hP).1
          rw [e]
          clear e hP QS n0 hA hB
          go_enter Try.func50, Try.ntmps50
          go_wp2_with (first
            | (go_at_call 52; first
              | ((with_reducible refine (S1.out _).mono ?_); rintro e w' ⟨rfl, rfl⟩)
              | ((with_reducible refine (S2.out _).mono ?_); rintro e w' ⟨rfl, rfl⟩))
            | (go_at_call 48; (with_reducible refine (HM.out _).mono ?_); rintro e w' ⟨rfl, rfl⟩)
            | (go_at_call 58; (with_reducible refine (HD.out _).mono ?_); rintro e w' ⟨rfl, rfl⟩))
          go_ret
          exact ⟨ret_int (by omega), ⟨[_, _, _, _, _], 0⟩, rfl⟩
        · have db : decide (b < 0) = false := decide_eq_false hb
          have hP := abs_mul_diff hA hB ⟨fun _ => hb, fun _ => ha⟩
          have e := ((QS (a * b)).2 hP).1
          rw [if_neg hs] at e
          rw [e]
          clear e hP QS n0 hA hB
          go_enter Try.func50, Try.ntmps50
          go_wp2_with (first
            | (go_at_call 52; first
              | ((with_reducible refine (S1.out _).mono ?_); rintro e w' ⟨rfl, rfl⟩)
              | ((with_reducible refine (S2.out _).mono ?_); rintro e w' ⟨rfl, rfl⟩))
            | (go_at_call 48; (with_reducible refine (HM.out _).mono ?_); rintro e w' ⟨rfl, rfl⟩)
            | (go_at_call 58; (with_reducible refine (HD.out _).mono ?_); rintro e w' ⟨rfl, rfl⟩))
          go_ret
          exact ⟨ret_int (by omega), ⟨[_, _, _, _, _], 0⟩, rfl⟩
      · have da : decide (a < 0) = false := decide_eq_false ha
        by_cases hb : b < 0
        · have db : decide (b < 0) = true := decide_eq_true hb
          have hP := abs_mul_diff hA hB ⟨fun h => absurd h ha, fun h => absurd hb h⟩
          have e := ((QS (a * b)).2 hP).1
          rw [if_neg hs] at e
          rw [e]
          clear e hP QS n0 hA hB
          go_enter Try.func50, Try.ntmps50
          go_wp2_with (first
            | (go_at_call 52; first
              | ((with_reducible refine (S1.out _).mono ?_); rintro e w' ⟨rfl, rfl⟩)
              | ((with_reducible refine (S2.out _).mono ?_); rintro e w' ⟨rfl, rfl⟩))
            | (go_at_call 48; (with_reducible refine (HM.out _).mono ?_); rintro e w' ⟨rfl, rfl⟩)
            | (go_at_call 58; (with_reducible refine (HD.out _).mono ?_); rintro e w' ⟨rfl, rfl⟩))
          go_ret
          exact ⟨ret_int (by omega), ⟨[_, _, _, _, _], 0⟩, rfl⟩
        · have db : decide (b < 0) = false := decide_eq_false hb
          have hP := abs_mul_same hA hB ⟨fun h => absurd h ha, fun h => absurd h hb⟩
          have e := ((QS (a * b)).1 hP).1
          rw [e]
          clear e hP QS n0 hA hB
          go_enter Try.func50, Try.ntmps50
          go_wp2_with (first
            | (go_at_call 52; first
              | ((with_reducible refine (S1.out _).mono ?_); rintro e w' ⟨rfl, rfl⟩)
              | ((with_reducible refine (S2.out _).mono ?_); rintro e w' ⟨rfl, rfl⟩))
            | (go_at_call 48; (with_reducible refine (HM.out _).mono ?_); rintro e w' ⟨rfl, rfl⟩)
            | (go_at_call 58; (with_reducible refine (HD.out _).mono ?_); rintro e w' ⟨rfl, rfl⟩))
          go_ret
          exact ⟨ret_int (by omega), ⟨[_, _, _, _, _], 0⟩, rfl⟩

set_option maxHeartbeats 4000000 in
theorem quot_true (a b d : Int) (w : World) (a0 : -9223372036854775807 ≤ a) (a1 : a ≤ 9223372036854775807) (b0 : -9223372036854775807 ≤ b) (b1 : b ≤ 9223372036854775807) (d0 : 1 ≤ d) (d1 : d ≤ 9223372036854775807) :
    Calls Try.prog 50 #[.int .i64 a, .int .i64 b, .int .u64 d, .bool true] w fun e w' => e = .returned (.int .i64 (qd (a * b) d true)) ∧ ∃ p, w' = more w p := by
  obtain ⟨A0, A1⟩ := absI_bounds a0 a1
  obtain ⟨B0, B1⟩ := absI_bounds b0 b1
  have s1 := fun w => refSize_call a w a0 a1
  have s2 := fun w => refSize_call b w b0 b1
  obtain ⟨A, hA⟩ : ∃ A, absI a = A := ⟨_, rfl⟩
  obtain ⟨B, hB⟩ : ∃ B, absI b = B := ⟨_, rfl⟩
  rw [hA] at A0 A1 s1
  rw [hB] at B0 B1 s2
  obtain ⟨m0, m1, m2, m3, m4⟩ := mul_hi_lo A B A0 (by omega) B0 (by omega)
  have n0 : 0 ≤ A * B := Int.mul_nonneg A0 B0
  have hm := fun w => refMul_call A B w A0 (by omega) B0 (by omega)
  have hd := fun w => refDivMod_yes (A * B / 18446744073709551616) (A * B % 18446744073709551616) d w m0 (by omega) m2 m3 d0 (by omega)
  rw [m4] at hd
  obtain ⟨q, hq⟩ : ∃ q, A * B / d = q := ⟨_, rfl⟩
  obtain ⟨r, hr⟩ : ∃ r, A * B % d = r := ⟨_, rfl⟩
  rw [hq, hr] at hd
  have q0 : 0 ≤ q := by rw [← hq]; exact Int.ediv_nonneg n0 (by omega)
  have q1 : q < 340282366920938463463374607431768211456 := by
    have h1 : q ≤ A * B := by rw [← hq]; exact Int.ediv_le_self _ n0
    have h2 := (mul_bound A B 18446744073709551615 18446744073709551615 A0 B0 (by omega) (by omega)).2
    omega
  have r0 : 0 ≤ r := by rw [← hr]; exact Int.emod_nonneg _ (by omega)
  have r1 : r < d := by rw [← hr]; exact Int.emod_lt_of_pos _ (by omega)
  obtain ⟨H, hH⟩ : ∃ H, A * B / 18446744073709551616 = H := ⟨_, rfl⟩
  obtain ⟨L, hL⟩ : ∃ L, A * B % 18446744073709551616 = L := ⟨_, rfl⟩
  rw [hH, hL] at hm hd
  clear m0 m1 m2 m3 m4 hH hL
  have HM := Lib.hid @hm
  have S1 := Lib.hid @s1
  have S2 := Lib.hid @s2
  clear s1 s2 hm
  by_cases hb : 35184372088832 ≤ q
  · have QB := fun P => qd_big (P := P) d0 n0 hq hb true
    have e3 : q / 18446744073709551616 = 0 ∧ (decide (q % 18446744073709551616 < 35184372088832)) = false ∨ (q / 18446744073709551616 == 0) = false := by
      by_cases hz : q / 18446744073709551616 = 0
      · exact .inl ⟨hz, decide_eq_false (by omega)⟩
      · exact .inr (beq_eq_false_iff_ne.2 hz)
    have HD := Lib.hid @hd
    clear hd hq hr
    generalize q / 18446744073709551616 = qh at *
    generalize q % 18446744073709551616 = ql at *
    clear q0 q1 hb
    by_cases ha : a < 0
    · have da : decide (a < 0) = true := decide_eq_true ha
      by_cases hb : b < 0
      · have db : decide (b < 0) = true := decide_eq_true hb
        have hP := abs_mul_same hA hB ⟨fun _ => hb, fun _ => ha⟩
        have e := (QB (a * b)).1 hP
        rw [e]
        clear e hP QB n0 hA hB
        rcases e3 with ⟨rfl, e4⟩ | e3
        · go_enter Try.func50, Try.ntmps50
          go_wp2_with (first
            | (go_at_call 52; first
              | ((with_reducible refine (S1.out _).mono ?_); rintro e w' ⟨rfl, rfl⟩)
              | ((with_reducible refine (S2.out _).mono ?_); rintro e w' ⟨rfl, rfl⟩))
            | (go_at_call 48; (with_reducible refine (HM.out _).mono ?_); rintro e w' ⟨rfl, rfl⟩)
            | (go_at_call 58; (with_reducible refine (HD.out _).mono ?_); rintro e w' ⟨rfl, rfl⟩))
          go_ret
          exact ⟨ret_int (by omega), ⟨[_, _, _, _, _], 0⟩, rfl⟩
        · go_enter Try.func50, Try.ntmps50
          go_wp2_with (first
            | (go_at_call 52; first
              | ((with_reducible refine (S1.out _).mono ?_); rintro e w' ⟨rfl, rfl⟩)
              | ((with_reducible refine (S2.out _).mono ?_); rintro e w' ⟨rfl, rfl⟩))
            | (go_at_call 48; (with_reducible refine (HM.out _).mono ?_); rintro e w' ⟨rfl, rfl⟩)
            | (go_at_call 58; (with_reducible refine (HD.out _).mono ?_); rintro e w' ⟨rfl, rfl⟩))
          go_ret
          exact ⟨ret_int (by omega), ⟨[_, _, _, _, _], 0⟩, rfl⟩
      · have db : decide (b < 0) = false := decide_eq_false hb
        have hP := abs_mul_diff hA hB ⟨fun _ => hb, fun _ => ha⟩
        have e := (QB (a * b)).2 hP
        rw [e]
        clear e hP QB n0 hA hB
        rcases e3 with ⟨rfl, e4⟩ | e3
        · go_enter Try.func50, Try.ntmps50
          go_wp2_with (first
            | (go_at_call 52; first
              | ((with_reducible refine (S1.out _).mono ?_); rintro e w' ⟨rfl, rfl⟩)
              | ((with_reducible refine (S2.out _).mono ?_); rintro e w' ⟨rfl, rfl⟩))
            | (go_at_call 48; (with_reducible refine (HM.out _).mono ?_); rintro e w' ⟨rfl, rfl⟩)
            | (go_at_call 58; (with_reducible refine (HD.out _).mono ?_); rintro e w' ⟨rfl, rfl⟩))
          go_ret
          exact ⟨ret_int (by omega), ⟨[_, _, _, _, _], 0⟩, rfl⟩
        · go_enter Try.func50, Try.ntmps50
          go_wp2_with (first
            | (go_at_call 52; first
              | ((with_reducible refine (S1.out _).mono ?_); rintro e w' ⟨rfl, rfl⟩)
              | ((with_reducible refine (S2.out _).mono ?_); rintro e w' ⟨rfl, rfl⟩))
            | (go_at_call 48; (with_reducible refine (HM.out _).mono ?_); rintro e w' ⟨rfl, rfl⟩)
            | (go_at_call 58; (with_reducible refine (HD.out _).mono ?_); rintro e w' ⟨rfl, rfl⟩))
          go_ret
          exact ⟨ret_int (by omega), ⟨[_, _, _, _, _], 0⟩, rfl⟩
    · have da : decide (a < 0) = false := decide_eq_false ha
      by_cases hb : b < 0
      · have db : decide (b < 0) = true := decide_eq_true hb
        have hP := abs_mul_diff hA hB ⟨fun h => absurd h ha, fun h => absurd hb h⟩
        have e := (QB (a * b)).2 hP
        rw [e]
        clear e hP QB n0 hA hB
        rcases e3 with ⟨rfl, e4⟩ | e3
        · go_enter Try.func50, Try.ntmps50
          go_wp2_with (first
            | (go_at_call 52; first
              | ((with_reducible refine (S1.out _).mono ?_); rintro e w' ⟨rfl, rfl⟩)
              | ((with_reducible refine (S2.out _).mono ?_); rintro e w' ⟨rfl, rfl⟩))
            | (go_at_call 48; (with_reducible refine (HM.out _).mono ?_); rintro e w' ⟨rfl, rfl⟩)
            | (go_at_call 58; (with_reducible refine (HD.out _).mono ?_); rintro e w' ⟨rfl, rfl⟩))
          go_ret
          exact ⟨ret_int (by omega), ⟨[_, _, _, _, _], 0⟩, rfl⟩
        · go_enter Try.func50, Try.ntmps50
          go_wp2_with (first
            | (go_at_call 52; first
              | ((with_reducible refine (S1.out _).mono ?_); rintro e w' ⟨rfl, rfl⟩)
              | ((with_reducible refine (S2.out _).mono ?_); rintro e w' ⟨rfl, rfl⟩))
            | (go_at_call 48; (with_reducible refine (HM.out _).mono ?_); rintro e w' ⟨rfl, rfl⟩)
            | (go_at_call 58; (with_reducible refine (HD.out _).mono ?_); rintro e w' ⟨rfl, rfl⟩))
          go_ret
          exact ⟨ret_int (by omega), ⟨[_, _, _, _, _], 0⟩, rfl⟩
      · have db : decide (b < 0) = false := decide_eq_false hb
        have hP := abs_mul_same hA hB ⟨fun h => absurd h ha, fun h => absurd h hb⟩
        have e := (QB (a * b)).1 hP
        rw [e]
        clear e hP QB n0 hA hB
        rcases e3 with ⟨rfl, e4⟩ | e3
        · go_enter Try.func50, Try.ntmps50
          go_wp2_with (first
            | (go_at_call 52; first
              | ((with_reducible refine (S1.out _).mono ?_); rintro e w' ⟨rfl, rfl⟩)
              | ((with_reducible refine (S2.out _).mono ?_); rintro e w' ⟨rfl, rfl⟩))
            | (go_at_call 48; (with_reducible refine (HM.out _).mono ?_); rintro e w' ⟨rfl, rfl⟩)
            | (go_at_call 58; (with_reducible refine (HD.out _).mono ?_); rintro e w' ⟨rfl, rfl⟩))
          go_ret
          exact ⟨ret_int (by omega), ⟨[_, _, _, _, _], 0⟩, rfl⟩
        · go_enter Try.func50, Try.ntmps50
          go_wp2_with (first
            | (go_at_call 52; first
              | ((with_reducible refine (S1.out _).mono ?_); rintro e w' ⟨rfl, rfl⟩)
              | ((with_reducible refine (S2.out _).mono ?_); rintro e w' ⟨rfl, rfl⟩))
            | (go_at_call 48; (with_reducible refine (HM.out _).mono ?_); rintro e w' ⟨rfl, rfl⟩)
            | (go_at_call 58; (with_reducible refine (HD.out _).mono ?_); rintro e w' ⟨rfl, rfl⟩))
          go_ret
          exact ⟨ret_int (by omega), ⟨[_, _, _, _, _], 0⟩, rfl⟩
  · have QS := fun P => qd_small (P := P) d0 n0 hq hr (by omega)
    have e3 : q / 18446744073709551616 = 0 := by omega
    have e4 : q % 18446744073709551616 = q := by omega
    rw [e3, e4] at hd
    have HD := Lib.hid @hd
    clear hd hq hr e3 e4
    by_cases hs : 0 < r
    · by_cases ha : a < 0
      · have da : decide (a < 0) = true := decide_eq_true ha
        by_cases hb : b < 0
        · have db : decide (b < 0) = true := decide_eq_true hb
          have hP := abs_mul_same hA hB ⟨fun _ => hb, fun _ => ha⟩
          have e := ((QS (a * b)).1 hP).2
          rw [if_pos hs] at e
          rw [e]
          clear e hP QS n0 hA hB
          go_enter Try.func50, Try.ntmps50
          go_wp2_with (first
            | (go_at_call 52; first
              | ((with_reducible refine (S1.out _).mono ?_); rintro e w' ⟨rfl, rfl⟩)
              | ((with_reducible refine (S2.out _).mono ?_); rintro e w' ⟨rfl, rfl⟩))
            | (go_at_call 48; (with_reducible refine (HM.out _).mono ?_); rintro e w' ⟨rfl, rfl⟩)
            | (go_at_call 58; (with_reducible refine (HD.out _).mono ?_); rintro e w' ⟨rfl, rfl⟩))
          go_ret
          exact ⟨ret_int (by omega), ⟨[_, _, _, _, _], 0⟩, rfl⟩
        · have db : decide (b < 0) = false := decide_eq_false hb
          have hP := abs_mul_diff hA hB ⟨fun _ => hb, fun _ => ha⟩
          have e := ((QS (a * b)).2 hP).2
          rw [e]
          clear e hP QS n0 hA hB
          go_enter Try.func50, Try.ntmps50
          go_wp2_with (first
            | (go_at_call 52; first
              | ((with_reducible refine (S1.out _).mono ?_); rintro e w' ⟨rfl, rfl⟩)
              | ((with_reducible refine (S2.out _).mono ?_); rintro e w' ⟨rfl, rfl⟩))
            | (go_at_call 48; (with_reducible refine (HM.out _).mono ?_); rintro e w' ⟨rfl, rfl⟩)
            | (go_at_call 58; (with_reducible refine (HD.out _).mono ?_); rintro e w' ⟨rfl, rfl⟩))
          go_ret
          exact ⟨ret_int (by omega), ⟨[_, _, _, _, _], 0⟩, rfl⟩
      · have da : decide (a < 0) = false := decide_eq_false ha
        by_cases hb : b < 0
        · have db : decide (b < 0) = true := decide_eq_true hb
          have hP := abs_mul_diff hA hB ⟨fun h => absurd h ha, fun h => absurd hb h⟩
          have e := ((QS (a * b)).2 hP).2
          rw [e]
          clear e hP QS n0 hA hB
          go_enter Try.func50, Try.ntmps50
          go_wp2_with (first
            | (go_at_call 52; first
              | ((with_reducible refine (S1.out _).mono ?_); rintro e w' ⟨rfl, rfl⟩)
              | ((with_reducible refine (S2.out _).mono ?_); rintro e w' ⟨rfl, rfl⟩))
            | (go_at_call 48; (with_reducible refine (HM.out _).mono ?_); rintro e w' ⟨rfl, rfl⟩)
            | (go_at_call 58; (with_reducible refine (HD.out _).mono ?_); rintro e w' ⟨rfl, rfl⟩))
          go_ret
          exact ⟨ret_int (by omega), ⟨[_, _, _, _, _], 0⟩, rfl⟩
        · have db : decide (b < 0) = false := decide_eq_false hb
          have hP := abs_mul_same hA hB ⟨fun h => absurd h ha, fun h => absurd h hb⟩
          have e := ((QS (a * b)).1 hP).2
          rw [if_pos hs] at e
          rw [e]
          clear e hP QS n0 hA hB
          go_enter Try.func50, Try.ntmps50
          go_wp2_with (first
            | (go_at_call 52; first
              | ((with_reducible refine (S1.out _).mono ?_); rintro e w' ⟨rfl, rfl⟩)
              | ((with_reducible refine (S2.out _).mono ?_); rintro e w' ⟨rfl, rfl⟩))
            | (go_at_call 48; (with_reducible refine (HM.out _).mono ?_); rintro e w' ⟨rfl, rfl⟩)
            | (go_at_call 58; (with_reducible refine (HD.out _).mono ?_); rintro e w' ⟨rfl, rfl⟩))
          go_ret
          exact ⟨ret_int (by omega), ⟨[_, _, _, _, _], 0⟩, rfl⟩
    · by_cases ha : a < 0
      · have da : decide (a < 0) = true := decide_eq_true ha
        by_cases hb : b < 0
        · have db : decide (b < 0) = true := decide_eq_true hb
          have hP := abs_mul_same hA hB ⟨fun _ => hb, fun _ => ha⟩
          have e := ((QS (a * b)).1 hP).2
          rw [if_neg hs] at e
          rw [e]
          clear e hP QS n0 hA hB
          go_enter Try.func50, Try.ntmps50
          go_wp2_with (first
            | (go_at_call 52; first
              | ((with_reducible refine (S1.out _).mono ?_); rintro e w' ⟨rfl, rfl⟩)
              | ((with_reducible refine (S2.out _).mono ?_); rintro e w' ⟨rfl, rfl⟩))
            | (go_at_call 48; (with_reducible refine (HM.out _).mono ?_); rintro e w' ⟨rfl, rfl⟩)
            | (go_at_call 58; (with_reducible refine (HD.out _).mono ?_); rintro e w' ⟨rfl, rfl⟩))
          go_ret
          exact ⟨ret_int (by omega), ⟨[_, _, _, _, _], 0⟩, rfl⟩
        · have db : decide (b < 0) = false := decide_eq_false hb
          have hP := abs_mul_diff hA hB ⟨fun _ => hb, fun _ => ha⟩
          have e := ((QS (a * b)).2 hP).2
          rw [e]
          clear e hP QS n0 hA hB
          go_enter Try.func50, Try.ntmps50
          go_wp2_with (first
            | (go_at_call 52; first
              | ((with_reducible refine (S1.out _).mono ?_); rintro e w' ⟨rfl, rfl⟩)
              | ((with_reducible refine (S2.out _).mono ?_); rintro e w' ⟨rfl, rfl⟩))
            | (go_at_call 48; (with_reducible refine (HM.out _).mono ?_); rintro e w' ⟨rfl, rfl⟩)
            | (go_at_call 58; (with_reducible refine (HD.out _).mono ?_); rintro e w' ⟨rfl, rfl⟩))
          go_ret
          exact ⟨ret_int (by omega), ⟨[_, _, _, _, _], 0⟩, rfl⟩
      · have da : decide (a < 0) = false := decide_eq_false ha
        by_cases hb : b < 0
        · have db : decide (b < 0) = true := decide_eq_true hb
          have hP := abs_mul_diff hA hB ⟨fun h => absurd h ha, fun h => absurd hb h⟩
          have e := ((QS (a * b)).2 hP).2
          rw [e]
          clear e hP QS n0 hA hB
          go_enter Try.func50, Try.ntmps50
          go_wp2_with (first
            | (go_at_call 52; first
              | ((with_reducible refine (S1.out _).mono ?_); rintro e w' ⟨rfl, rfl⟩)
              | ((with_reducible refine (S2.out _).mono ?_); rintro e w' ⟨rfl, rfl⟩))
            | (go_at_call 48; (with_reducible refine (HM.out _).mono ?_); rintro e w' ⟨rfl, rfl⟩)
            | (go_at_call 58; (with_reducible refine (HD.out _).mono ?_); rintro e w' ⟨rfl, rfl⟩))
          go_ret
          exact ⟨ret_int (by omega), ⟨[_, _, _, _, _], 0⟩, rfl⟩
        · have db : decide (b < 0) = false := decide_eq_false hb
          have hP := abs_mul_same hA hB ⟨fun h => absurd h ha, fun h => absurd h hb⟩
          have e := ((QS (a * b)).1 hP).2
          rw [if_neg hs] at e
          rw [e]
          clear e hP QS n0 hA hB
          go_enter Try.func50, Try.ntmps50
          go_wp2_with (first
            | (go_at_call 52; first
              | ((with_reducible refine (S1.out _).mono ?_); rintro e w' ⟨rfl, rfl⟩)
              | ((with_reducible refine (S2.out _).mono ?_); rintro e w' ⟨rfl, rfl⟩))
            | (go_at_call 48; (with_reducible refine (HM.out _).mono ?_); rintro e w' ⟨rfl, rfl⟩)
            | (go_at_call 58; (with_reducible refine (HD.out _).mono ?_); rintro e w' ⟨rfl, rfl⟩))
          go_ret
          exact ⟨ret_int (by omega), ⟨[_, _, _, _, _], 0⟩, rfl⟩

set_option maxHeartbeats 1000000 in
theorem refOf_zero (n : Int) (w : World) : Calls Try.prog 33 #[.int .i64 n, .int .i64 0] w fun e w' => e = .returned (.tuple #[.agg #[.int .i64 (0), .int .i64 (0)], .bool (false)]) ∧ ∃ p, w' = more w p := by
  go_enter Try.func33, Try.ntmps33
  go_upto_region 1 with fail
  refine at_world (fun W => F1 w W) (f1_of w) ?_
  rintro W ⟨⟨k8, k9, k10, k11⟩, k12, k13, k14⟩
  have K := Lib.hid @k14
  clear k14
  have hmc := more_cell
  have hmh := more_heap
  have hmf := more_frozen
  refine at_world (fun W' => ∃ p, W' = more W p) ⟨⟨[], 0⟩, rfl⟩ ?_
  rintro _ ⟨p, rfl⟩
  go_wp2
  exact bodyPost_ret (v := .tuple #[.agg #[.int .i64 (0), .int .i64 (0)], .bool (false)]) (by simp [results, Try.results33, go_sem, *]) rfl ⟨rfl, K.out _ _ _⟩

set_option maxHeartbeats 1000000 in
theorem refOf_n1 (n d : Int) (hz : (d == 0) = false) (h : n < -1099511627776) (w : World) : Calls Try.prog 33 #[.int .i64 n, .int .i64 d] w fun e w' => e = .returned (.tuple #[.agg #[.int .i64 (0), .int .i64 (0)], .bool (false)]) ∧ ∃ p, w' = more w p := by
  go_enter Try.func33, Try.ntmps33
  go_upto_region 1 with fail
  refine at_world (fun W => F1 w W) (f1_of w) ?_
  rintro W ⟨⟨k8, k9, k10, k11⟩, k12, k13, k14⟩
  have K := Lib.hid @k14
  clear k14
  have hmc := more_cell
  have hmh := more_heap
  have hmf := more_frozen
  refine at_world (fun W' => ∃ p, W' = more W p) ⟨⟨[], 0⟩, rfl⟩ ?_
  rintro _ ⟨p, rfl⟩
  go_wp2
  exact bodyPost_ret (v := .tuple #[.agg #[.int .i64 (0), .int .i64 (0)], .bool (false)]) (by simp [results, Try.results33, go_sem, *]) rfl ⟨rfl, K.out _ _ _⟩

set_option maxHeartbeats 1000000 in
theorem refOf_n2 (n d : Int) (hz : (d == 0) = false) (h : 1099511627776 < n) (w : World) : Calls Try.prog 33 #[.int .i64 n, .int .i64 d] w fun e w' => e = .returned (.tuple #[.agg #[.int .i64 (0), .int .i64 (0)], .bool (false)]) ∧ ∃ p, w' = more w p := by
  go_enter Try.func33, Try.ntmps33
  go_upto_region 1 with fail
  refine at_world (fun W => F1 w W) (f1_of w) ?_
  rintro W ⟨⟨k8, k9, k10, k11⟩, k12, k13, k14⟩
  have K := Lib.hid @k14
  clear k14
  have hmc := more_cell
  have hmh := more_heap
  have hmf := more_frozen
  refine at_world (fun W' => ∃ p, W' = more W p) ⟨⟨[], 0⟩, rfl⟩ ?_
  rintro _ ⟨p, rfl⟩
  go_wp2
  exact bodyPost_ret (v := .tuple #[.agg #[.int .i64 (0), .int .i64 (0)], .bool (false)]) (by simp [results, Try.results33, go_sem, *]) rfl ⟨rfl, K.out _ _ _⟩

set_option maxHeartbeats 1000000 in
theorem refOf_d1 (n d : Int) (hz : (d == 0) = false) (h : d < -1099511627776) (g0 : -1099511627776 ≤ n) (g1 : n ≤ 1099511627776) (w : World) : Calls Try.prog 33 #[.int .i64 n, .int .i64 d] w fun e w' => e = .returned (.tuple #[.agg #[.int .i64 (0), .int .i64 (0)], .bool (false)]) ∧ ∃ p, w' = more w p := by
  go_enter Try.func33, Try.ntmps33
  go_upto_region 1 with fail
  refine at_world (fun W => F1 w W) (f1_of w) ?_
  rintro W ⟨⟨k8, k9, k10, k11⟩, k12, k13, k14⟩
  have K := Lib.hid @k14
  clear k14
  have hmc := more_cell
  have hmh := more_heap
  have hmf := more_frozen
  refine at_world (fun W' => ∃ p, W' = more W p) ⟨⟨[], 0⟩, rfl⟩ ?_
  rintro _ ⟨p, rfl⟩
  go_wp2
  exact bodyPost_ret (v := .tuple #[.agg #[.int .i64 (0), .int .i64 (0)], .bool (false)]) (by simp [results, Try.results33, go_sem, *]) rfl ⟨rfl, K.out _ _ _⟩

set_option maxHeartbeats 1000000 in
theorem refOf_d2 (n d : Int) (hz : (d == 0) = false) (h : 1099511627776 < d) (g0 : -1099511627776 ≤ n) (g1 : n ≤ 1099511627776) (w : World) : Calls Try.prog 33 #[.int .i64 n, .int .i64 d] w fun e w' => e = .returned (.tuple #[.agg #[.int .i64 (0), .int .i64 (0)], .bool (false)]) ∧ ∃ p, w' = more w p := by
  go_enter Try.func33, Try.ntmps33
  go_upto_region 1 with fail
  refine at_world (fun W => F1 w W) (f1_of w) ?_
  rintro W ⟨⟨k8, k9, k10, k11⟩, k12, k13, k14⟩
  have K := Lib.hid @k14
  clear k14
  have hmc := more_cell
  have hmh := more_heap
  have hmf := more_frozen
  refine at_world (fun W' => ∃ p, W' = more W p) ⟨⟨[], 0⟩, rfl⟩ ?_
  rintro _ ⟨p, rfl⟩
  go_wp2
  exact bodyPost_ret (v := .tuple #[.agg #[.int .i64 (0), .int .i64 (0)], .bool (false)]) (by simp [results, Try.results33, go_sem, *]) rfl ⟨rfl, K.out _ _ _⟩

set_option maxHeartbeats 1000000 in
theorem refOf_pos (n d : Int) (h1 : nearB n = true) (h2 : nearB d = true) (hd : 0 < d) (w : World) : Calls Try.prog 33 #[.int .i64 n, .int .i64 d] w fun e w' => e = .returned (.tuple #[.agg #[.int .i64 (mkL (qd ((n) * 1099511627776) (d) false) (qd ((n) * 1099511627776) (d) true) true), .int .i64 (mkH (qd ((n) * 1099511627776) (d) false) (qd ((n) * 1099511627776) (d) true) true)], .bool (mkB (qd ((n) * 1099511627776) (d) false) (qd ((n) * 1099511627776) (d) true) true)]) ∧ ∃ p, w' = more w p := by
  obtain ⟨n0, n1⟩ := nearB_parts h1
  obtain ⟨d0, d1⟩ := nearB_parts h2
  have qf := fun w => quot_false (n) 1099511627776 (d) w (by omega) (by omega) (by omega) (by omega) (by omega) (by omega)
  have qt := fun w => quot_true (n) 1099511627776 (d) w (by omega) (by omega) (by omega) (by omega) (by omega) (by omega)
  have MD := Lib.hid @(fun w => refMade_call (qd ((n) * 1099511627776) (d) false) (qd ((n) * 1099511627776) (d) true) w)
  have QF := Lib.hid @qf
  have QT := Lib.hid @qt
  have hz : (d == 0) = false := beq_eq_false_iff_ne.2 (by omega)
  clear h1 h2 qf qt
  go_enter Try.func33, Try.ntmps33
  go_upto_region 1 with fail
  refine at_world (fun W => F1 w W) (f1_of w) ?_
  rintro W ⟨⟨k8, k9, k10, k11⟩, k12, k13, k14⟩
  have K := Lib.hid @k14
  clear k14
  have hmc := more_cell
  have hmh := more_heap
  have hmf := more_frozen
  refine at_world (fun W' => ∃ p, W' = more W p) ⟨⟨[], 0⟩, rfl⟩ ?_
  rintro _ ⟨p, rfl⟩
  go_wp2_with (first
    | (go_at_call 50; first
      | ((with_reducible refine (calls_more (QF.out _)).mono ?_); rintro e w' ⟨rfl, q, rfl⟩)
      | ((with_reducible refine (calls_more (QT.out _)).mono ?_); rintro e w' ⟨rfl, q, rfl⟩))
    | (go_at_call 38; (with_reducible refine (calls_more (MD.out _)).mono ?_); rintro e w' ⟨rfl, q, rfl⟩))
  exact bodyPost_ret (v := .tuple #[.agg #[.int .i64 (mkL (qd ((n) * 1099511627776) (d) false) (qd ((n) * 1099511627776) (d) true) true), .int .i64 (mkH (qd ((n) * 1099511627776) (d) false) (qd ((n) * 1099511627776) (d) true) true)], .bool (mkB (qd ((n) * 1099511627776) (d) false) (qd ((n) * 1099511627776) (d) true) true)]) (by simp [results, Try.results33, go_sem, *]) rfl ⟨rfl, K.out _ _ _⟩

set_option maxHeartbeats 1000000 in
theorem refOf_neg (n d : Int) (h1 : nearB n = true) (h2 : nearB d = true) (hd : d < 0) (w : World) : Calls Try.prog 33 #[.int .i64 n, .int .i64 d] w fun e w' => e = .returned (.tuple #[.agg #[.int .i64 (mkL (qd ((-n) * 1099511627776) (-d) false) (qd ((-n) * 1099511627776) (-d) true) true), .int .i64 (mkH (qd ((-n) * 1099511627776) (-d) false) (qd ((-n) * 1099511627776) (-d) true) true)], .bool (mkB (qd ((-n) * 1099511627776) (-d) false) (qd ((-n) * 1099511627776) (-d) true) true)]) ∧ ∃ p, w' = more w p := by
  obtain ⟨n0, n1⟩ := nearB_parts h1
  obtain ⟨d0, d1⟩ := nearB_parts h2
  have qf := fun w => quot_false (-n) 1099511627776 (-d) w (by omega) (by omega) (by omega) (by omega) (by omega) (by omega)
  have qt := fun w => quot_true (-n) 1099511627776 (-d) w (by omega) (by omega) (by omega) (by omega) (by omega) (by omega)
  have MD := Lib.hid @(fun w => refMade_call (qd ((-n) * 1099511627776) (-d) false) (qd ((-n) * 1099511627776) (-d) true) w)
  have QF := Lib.hid @qf
  have QT := Lib.hid @qt
  have hz : (d == 0) = false := beq_eq_false_iff_ne.2 (by omega)
  clear h1 h2 qf qt
  go_enter Try.func33, Try.ntmps33
  go_upto_region 1 with fail
  refine at_world (fun W => F1 w W) (f1_of w) ?_
  rintro W ⟨⟨k8, k9, k10, k11⟩, k12, k13, k14⟩
  have K := Lib.hid @k14
  clear k14
  have hmc := more_cell
  have hmh := more_heap
  have hmf := more_frozen
  refine at_world (fun W' => ∃ p, W' = more W p) ⟨⟨[], 0⟩, rfl⟩ ?_
  rintro _ ⟨p, rfl⟩
  go_wp2_with (first
    | (go_at_call 50; first
      | ((with_reducible refine (calls_more (QF.out _)).mono ?_); rintro e w' ⟨rfl, q, rfl⟩)
      | ((with_reducible refine (calls_more (QT.out _)).mono ?_); rintro e w' ⟨rfl, q, rfl⟩))
    | (go_at_call 38; (with_reducible refine (calls_more (MD.out _)).mono ?_); rintro e w' ⟨rfl, q, rfl⟩))
  exact bodyPost_ret (v := .tuple #[.agg #[.int .i64 (mkL (qd ((-n) * 1099511627776) (-d) false) (qd ((-n) * 1099511627776) (-d) true) true), .int .i64 (mkH (qd ((-n) * 1099511627776) (-d) false) (qd ((-n) * 1099511627776) (-d) true) true)], .bool (mkB (qd ((-n) * 1099511627776) (-d) false) (qd ((-n) * 1099511627776) (-d) true) true)]) (by simp [results, Try.results33, go_sem, *]) rfl ⟨rfl, K.out _ _ _⟩

theorem of_agree {P d : Int} (d1 : 1 ≤ d) : mkL (rD P d) (rU P d) (rok P d) = mkL (qd P d false) (qd P d true) true ∧ mkH (rD P d) (rU P d) (rok P d) = mkH (qd P d false) (qd P d true) true ∧ mkB (rD P d) (rU P d) (rok P d) = mkB (qd P d false) (qd P d true) true := by
  by_cases h : rok P d = true
  · obtain ⟨e1, e2⟩ := r_good h
    obtain ⟨e3, e4⟩ := qd_ok d1 h
    rw [e1, e2, e3, e4, h]
    exact ⟨rfl, rfl, rfl⟩
  · have h : rok P d = false := by simpa using h
    rw [h]
    have bad : ivB (qd P d false) (qd P d true) = false := by
      have := qd_bad d1 h
      exact decide_eq_false (by omega)
    obtain ⟨a1, a2, a3⟩ := mk_bad bad true
    rw [a1, a2, a3]
    exact mk_false _ _
theorem refOfI_call (n d : Int) (w : World) : Calls Try.prog 33 #[.int .i64 n, .int .i64 d] w fun e w' => e = .returned (.tuple #[.agg #[.int .i64 (mkL (sLo n d) (sHi n d) (sOk n d)), .int .i64 (mkH (sLo n d) (sHi n d) (sOk n d))], .bool (mkB (sLo n d) (sHi n d) (sOk n d))]) ∧ ∃ p, w' = more w p := by
  have bad : okd n d = false → (Calls Try.prog 33 #[.int .i64 n, .int .i64 d] w fun e w' => e = .returned (.tuple #[.agg #[.int .i64 (0), .int .i64 (0)], .bool (false)]) ∧ ∃ p, w' = more w p) → (Calls Try.prog 33 #[.int .i64 n, .int .i64 d] w fun e w' => e = .returned (.tuple #[.agg #[.int .i64 (mkL (sLo n d) (sHi n d) (sOk n d)), .int .i64 (mkH (sLo n d) (sHi n d) (sOk n d))], .bool (mkB (sLo n d) (sHi n d) (sOk n d))]) ∧ ∃ p, w' = more w p) := fun h hc => by
    obtain ⟨e1, e2, e3⟩ := s_bad h
    rw [e1, e2, e3]
    exact hc
  by_cases hz : d = 0
  · subst hz; exact bad (okd_zero n) (refOf_zero n w)
  have hz' : (d == 0) = false := beq_eq_false_iff_ne.2 hz
  by_cases hn : nearB n = true
  · obtain ⟨g0, g1⟩ := nearB_parts hn
    by_cases hd : nearB d = true
    · obtain ⟨e1, e2, e3⟩ := s_good (okd_of hn hd hz)
      rw [e1, e2, e3]
      unfold scN scD
      by_cases hn' : d < 0
      · rw [if_pos hn', if_pos hn']
        obtain ⟨c1, c2, c3⟩ := of_agree (P := -n * 1099511627776) (d := -d) (by omega)
        rw [c1, c2, c3]
        exact refOf_neg n d hn hd hn' w
      · rw [if_neg hn', if_neg hn']
        obtain ⟨c1, c2, c3⟩ := of_agree (P := n * 1099511627776) (d := d) (by omega)
        rw [c1, c2, c3]
        exact refOf_pos n d hn hd (by omega) w
    · have hd : nearB d = false := by simpa using hd
      have h := of_decide_eq_false hd
      refine bad (okd_bad (by rw [hn, hd]; rfl)) ?_
      by_cases h1 : d < -1099511627776
      · exact refOf_d1 n d hz' h1 g0 g1 w
      · exact refOf_d2 n d hz' (by omega) g0 g1 w
  · have hn : nearB n = false := by simpa using hn
    have h := of_decide_eq_false hn
    refine bad (okd_bad (by rw [hn]; rfl)) ?_
    by_cases h1 : n < -1099511627776
    · exact refOf_n1 n d hz' h1 w
    · exact refOf_n2 n d hz' (by omega) w
end Go.Proofs.Ytdbemgjjahcabaa
