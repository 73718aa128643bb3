/- Contracts of size and ratio. -/
import Derived.Test.YtdbemgjjahcabaaIvP
import Derived.Test.YtdbemgjjahcabaaMulDiv
namespace Go.Proofs.Ytdbemgjjahcabaa
open Go.RowKit
set_option linter.unusedVariables false

/-- the size of a number -/
def absI (n : Int) : Int := if n < 0 then -n else n
theorem absI_bounds {n : Int} (h0 : -9223372036854775807 ≤ n) (h1 : n ≤ 9223372036854775807) : 0 ≤ absI n ∧ absI n ≤ 9223372036854775807 := by unfold absI; split <;> omega
/-- what ratio returns for the product P -/
def rD (P d : Int) : Int := if rok P d = true then P / d else 0
def rU (P d : Int) : Int := if rok P d = true then cei P d else 0
theorem r_bad {P d : Int} (h : rok P d = false) : rD P d = 0 ∧ rU P d = 0 := by unfold rD rU; rw [h]; exact ⟨rfl, rfl⟩
theorem r_good {P d : Int} (h : rok P d = true) : rD P d = P / d ∧ rU P d = cei P d := by unfold rD rU; rw [h]; exact ⟨rfl, rfl⟩
theorem abs_mul_same {a b A B : Int} (hA : absI a = A) (hB : absI b = B) (h : a < 0 ↔ b < 0) : a * b = A * B := by
  unfold absI at hA hB
  by_cases ha : a < 0
  · rw [if_pos ha] at hA; rw [if_pos (h.1 ha)] at hB; subst hA hB; rw [Int.neg_mul_neg]
  · rw [if_neg ha] at hA; rw [if_neg (fun c => ha (h.2 c))] at hB; subst hA hB; rfl
theorem abs_mul_diff {a b A B : Int} (hA : absI a = A) (hB : absI b = B) (h : a < 0 ↔ ¬ b < 0) : a * b = -(A * B) := by
  unfold absI at hA hB
  by_cases ha : a < 0
  · rw [if_pos ha] at hA; rw [if_neg (h.1 ha)] at hB; subst hA hB; rw [Int.neg_mul, Int.neg_neg]
  · have hb : b < 0 := Classical.byContradiction fun c => ha (h.2 c)
    rw [if_neg ha] at hA; rw [if_pos hb] at hB; subst hA hB; rw [Int.mul_neg, Int.neg_neg]
theorem abs_mul {a b A B : Int} (hA : absI a = A) (hB : absI b = B) : a * b = A * B ∨ a * b = -(A * B) := by
  by_cases ha : a < 0 <;> by_cases hb : b < 0
  · exact .inl (abs_mul_same hA hB ⟨fun _ => hb, fun _ => ha⟩)
  · exact .inr (abs_mul_diff hA hB ⟨fun _ => hb, fun _ => ha⟩)
  · exact .inr (abs_mul_diff hA hB ⟨fun h => absurd h ha, fun h => absurd hb h⟩)
  · exact .inl (abs_mul_same hA hB ⟨fun h => absurd h ha, fun h => absurd h hb⟩)
theorem rok_neg (P d : Int) : rok (-P) d = rok P d := by unfold rok; exact decide_eq_decide.2 (by omega)
theorem rok_abs {a b A B : Int} (hA : absI a = A) (hB : absI b = B) (d : Int) : rok (a * b) d = rok (A * B) d := by
  rcases abs_mul hA hB with h | h
  · rw [h]
  · rw [h, rok_neg]
theorem rok_over {N d : Int} (d1 : 1 ≤ d) (h : 17592186044416 < N / d) : rok N d = false := by
  refine decide_eq_false ?_
  rintro ⟨_, h2⟩
  have := (le_flo (x := 17592186044417) (n := N) d1).1 (by omega)
  omega
theorem rok_wide {N d h l : Int} (d1 : 1 ≤ d) (l0 : 0 ≤ l) (e : h * 18446744073709551616 + l = N) (hh : d ≤ h) : rok N d = false := by
  refine decide_eq_false ?_
  rintro ⟨_, h2⟩
  omega
theorem rok_under {N d : Int} (d1 : 1 ≤ d) (n0 : 0 ≤ N) (h : N / d ≤ 17592186044416) : rok N d = true := by
  have h2 := (Int.ediv_lt_iff_lt_mul (a := N) (b := 17592186044417) (c := d) (by omega)).1 (by omega)
  exact decide_eq_true ⟨by omega, h2⟩
theorem r_same {a b A B d q r : Int} (hA : absI a = A) (hB : absI b = B) (d1 : 1 ≤ d) (h : a < 0 ↔ b < 0) (hq : A * B / d = q) (hr : A * B % d = r) (hk : rok (a * b) d = true) :
    rD (a * b) d = q ∧ rU (a * b) d = q + if 0 < r then 1 else 0 := by
  obtain ⟨e1, e2⟩ := r_good hk
  rw [e1, e2, abs_mul_same hA hB h, cei_eq _ d d1, hq, hr]
  exact ⟨rfl, rfl⟩
theorem r_diff {a b A B d q r : Int} (hA : absI a = A) (hB : absI b = B) (d1 : 1 ≤ d) (h : a < 0 ↔ ¬ b < 0) (hq : A * B / d = q) (hr : A * B % d = r) (hk : rok (a * b) d = true) :
    rD (a * b) d = -(q + if 0 < r then 1 else 0) ∧ rU (a * b) d = -q := by
  obtain ⟨e1, e2⟩ := r_good hk
  rw [e1, e2, abs_mul_diff hA hB h, cei_neg, neg_div _ d d1, hq, hr]
  exact ⟨rfl, rfl⟩

set_option maxHeartbeats 400000 in
theorem size_call (n : Int) (w : World) (n0 : -9223372036854775807 ≤ n) (n1 : n ≤ 9223372036854775807) :
    Calls Try.prog 54 #[.int .i64 n] w fun e w' => e = .returned (.int .u64 (absI n)) ∧ w = w' := by
  by_cases h : n < 0
  · have e : absI n = -n := if_pos h
    rw [e]; clear e
    go_enter Try.func54, Try.ntmps54
    go_wp2
    go_ret
    exact ⟨rfl, rfl⟩
  · have e : absI n = n := if_neg h
    rw [e]; clear e
    go_enter Try.func54, Try.ntmps54
    go_wp2
    go_ret
    exact ⟨rfl, rfl⟩

set_option maxHeartbeats 2000000 in
theorem ratio_call (a b d : Int) (w : World) (a0 : -9223372036854775807 ≤ a) (a1 : a ≤ 9223372036854775807) (b0 : -9223372036854775807 ≤ b) (b1 : b ≤ 9223372036854775807) (d0 : 1 ≤ d) (d1 : d ≤ 9223372036854775807) :
    Calls Try.prog 41 #[.int .i64 a, .int .i64 b, .int .i64 d] w fun e w' => e = .returned (.tuple #[.int .i64 (rD (a * b) d), .int .i64 (rU (a * b) d), .bool (rok (a * b) d)]) ∧ ∃ n, w' = w.drewN n := by
  obtain ⟨A0, A1⟩ := absI_bounds a0 a1
  obtain ⟨B0, B1⟩ := absI_bounds b0 b1
  have s1 := fun w => size_call a w a0 a1
  have s2 := fun w => size_call b w b0 b1
  obtain ⟨A, hA⟩ : ∃ A, absI a = A := ⟨_, rfl⟩
  obtain ⟨B, hB⟩ : ∃ B, absI b = B := ⟨_, rfl⟩
  rw [hA] at A0 A1 s1
  rw [hB] at B0 B1 s2
  obtain ⟨m0, m1, m2, m3, m4⟩ := mul_hi_lo A B A0 (by omega) B0 (by omega)
  have n0 : 0 ≤ A * B := Int.mul_nonneg A0 B0
  obtain ⟨H, hH⟩ : ∃ H, A * B / 18446744073709551616 = H := ⟨_, rfl⟩
  obtain ⟨L, hL⟩ : ∃ L, A * B % 18446744073709551616 = L := ⟨_, rfl⟩
  have hm := fun w => mul64_call A B w A0 (by omega) B0 (by omega)
  rw [hH, hL] at m4
  rw [hH] at m0 m1 hm
  rw [hL] at m2 m3 hm
  have rk := rok_abs hA hB d
  have HM := Lib.hid @hm
  have S1 := Lib.hid @s1
  have S2 := Lib.hid @s2
  clear s1 s2 hm hH hL
  by_cases hh : d ≤ H
  · have hb : rok (a * b) d = false := rk.trans (rok_wide d0 m2 m4 hh)
    obtain ⟨e1, e2⟩ := r_bad hb
    rw [e1, e2, hb]
    have HD := Lib.hid @(fun w => div64_call 0 0 1 w (by omega) (by omega) (by omega) (by omega) (by omega))
    clear e1 e2 hb rk n0 m4 hA hB
    go_enter Try.func41, Try.ntmps41
    go_wp2_with (first
      | (go_at_call 54; first
        | ((with_reducible refine (S1.out _).mono ?_); rintro e w' ⟨rfl, rfl⟩)
        | ((with_reducible refine (S2.out _).mono ?_); rintro e w' ⟨rfl, rfl⟩))
      | (go_at_call 53; (with_reducible refine (HM.out _).mono ?_); rintro e w' ⟨rfl, rfl⟩)
      | (go_at_call 55; (with_reducible refine (HD.out _).mono ?_); rintro e w' ⟨rfl, n, rfl⟩))
    exact bodyPost_ret (v := .tuple #[.int .i64 (0), .int .i64 (0), .bool false]) (by simp [results, Try.results41, go_sem]) rfl ⟨rfl, 0, rfl⟩
  · have hd := fun w => div64_call H L d w m0 (by omega) (by omega) m2 m3
    obtain ⟨q, hq⟩ : ∃ q, A * B / d = q := ⟨_, rfl⟩
    obtain ⟨r, hr⟩ : ∃ r, A * B % d = r := ⟨_, rfl⟩
    unfold divQ divR at hd
    rw [m4, hq, hr] at hd
    have q0 : 0 ≤ q := by rw [← hq]; exact Int.ediv_nonneg n0 (by omega)
    have q1 : q ≤ 18446744073709551615 := by
      have := (Int.ediv_lt_iff_lt_mul (a := A * B) (b := 18446744073709551616) (c := d) (by omega)).2 (by omega)
      omega
    have r0 : 0 ≤ r := by rw [← hr]; exact Int.emod_nonneg _ (by omega)
    have r1 : r < d := by rw [← hr]; exact Int.emod_lt_of_pos _ (by omega)
    have HD := Lib.hid @hd
    clear hd
    by_cases hqb : 17592186044416 < q
    · have hb : rok (a * b) d = false := rk.trans (rok_over d0 (by omega))
      obtain ⟨e1, e2⟩ := r_bad hb
      rw [e1, e2, hb]
      clear e1 e2 hb rk n0 m4 hA hB hq hr
      go_enter Try.func41, Try.ntmps41
      go_wp2_with (first
        | (go_at_call 54; first
          | ((with_reducible refine (S1.out _).mono ?_); rintro e w' ⟨rfl, rfl⟩)
          | ((with_reducible refine (S2.out _).mono ?_); rintro e w' ⟨rfl, rfl⟩))
        | (go_at_call 53; (with_reducible refine (HM.out _).mono ?_); rintro e w' ⟨rfl, rfl⟩)
        | (go_at_call 55; (with_reducible refine (HD.out _).mono ?_); rintro e w' ⟨rfl, n, rfl⟩))
      exact bodyPost_ret (v := .tuple #[.int .i64 (0), .int .i64 (0), .bool false]) (by simp [results, Try.results41, go_sem]) rfl ⟨rfl, _, rfl⟩
    · have hk : rok (a * b) d = true := rk.trans (rok_under d0 n0 (by omega))
      by_cases hs : 0 < r
      · by_cases ha : a < 0
        · by_cases hb : b < 0
          · obtain ⟨e1, e2⟩ := r_same hA hB d0 ⟨fun _ => hb, fun _ => ha⟩ hq hr hk
            rw [if_pos hs] at e2
            have da : decide (a < 0) = true := decide_eq_true ha
            have db : decide (b < 0) = true := decide_eq_true hb
            rw [e1, e2, hk]
            clear e1 e2 hk rk n0 m4 hA hB hq hr
            go_enter Try.func41, Try.ntmps41
            go_wp2_with (first
              | (go_at_call 54; first
                | ((with_reducible refine (S1.out _).mono ?_); rintro e w' ⟨rfl, rfl⟩)
                | ((with_reducible refine (S2.out _).mono ?_); rintro e w' ⟨rfl, rfl⟩))
              | (go_at_call 53; (with_reducible refine (HM.out _).mono ?_); rintro e w' ⟨rfl, rfl⟩)
              | (go_at_call 55; (with_reducible refine (HD.out _).mono ?_); rintro e w' ⟨rfl, n, rfl⟩))
            exact bodyPost_ret (v := .tuple #[.int .i64 (q), .int .i64 (q + 1), .bool true]) (by simp [results, Try.results41, go_sem]) rfl ⟨rfl, _, rfl⟩
          · obtain ⟨e1, e2⟩ := r_diff hA hB d0 ⟨fun _ => hb, fun _ => ha⟩ hq hr hk
            rw [if_pos hs] at e1
            have da : decide (a < 0) = true := decide_eq_true ha
            have db : decide (b < 0) = false := decide_eq_false hb
            rw [e1, e2, hk]
            clear e1 e2 hk rk n0 m4 hA hB hq hr
            go_enter Try.func41, Try.ntmps41
            go_wp2_with (first
              | (go_at_call 54; first
                | ((with_reducible refine (S1.out _).mono ?_); rintro e w' ⟨rfl, rfl⟩)
                | ((with_reducible refine (S2.out _).mono ?_); rintro e w' ⟨rfl, rfl⟩))
              | (go_at_call 53; (with_reducible refine (HM.out _).mono ?_); rintro e w' ⟨rfl, rfl⟩)
              | (go_at_call 55; (with_reducible refine (HD.out _).mono ?_); rintro e w' ⟨rfl, n, rfl⟩))
            exact bodyPost_ret (v := .tuple #[.int .i64 (-(q + 1)), .int .i64 (-q), .bool true]) (by simp [results, Try.results41, go_sem]) rfl ⟨rfl, _, rfl⟩
        · by_cases hb : b < 0
          · obtain ⟨e1, e2⟩ := r_diff hA hB d0 ⟨fun h => absurd h ha, fun h => absurd hb h⟩ hq hr hk
            rw [if_pos hs] at e1
            have da : decide (a < 0) = false := decide_eq_false ha
            have db : decide (b < 0) = true := decide_eq_true hb
            rw [e1, e2, hk]
            clear e1 e2 hk rk n0 m4 hA hB hq hr
            go_enter Try.func41, Try.ntmps41
            go_wp2_with (first
              | (go_at_call 54; first
                | ((with_reducible refine (S1.out _).mono ?_); rintro e w' ⟨rfl, rfl⟩)
                | ((with_reducible refine (S2.out _).mono ?_); rintro e w' ⟨rfl, rfl⟩))
              | (go_at_call 53; (with_reducible refine (HM.out _).mono ?_); rintro e w' ⟨rfl, rfl⟩)
              | (go_at_call 55; (with_reducible refine (HD.out _).mono ?_); rintro e w' ⟨rfl, n, rfl⟩))
            exact bodyPost_ret (v := .tuple #[.int .i64 (-(q + 1)), .int .i64 (-q), .bool true]) (by simp [results, Try.results41, go_sem]) rfl ⟨rfl, _, rfl⟩
          · obtain ⟨e1, e2⟩ := r_same hA hB d0 ⟨fun h => absurd h ha, fun h => absurd h hb⟩ hq hr hk
            rw [if_pos hs] at e2
            have da : decide (a < 0) = false := decide_eq_false ha
            have db : decide (b < 0) = false := decide_eq_false hb
            rw [e1, e2, hk]
            clear e1 e2 hk rk n0 m4 hA hB hq hr
            go_enter Try.func41, Try.ntmps41
            go_wp2_with (first
              | (go_at_call 54; first
                | ((with_reducible refine (S1.out _).mono ?_); rintro e w' ⟨rfl, rfl⟩)
                | ((with_reducible refine (S2.out _).mono ?_); rintro e w' ⟨rfl, rfl⟩))
              | (go_at_call 53; (with_reducible refine (HM.out _).mono ?_); rintro e w' ⟨rfl, rfl⟩)
              | (go_at_call 55; (with_reducible refine (HD.out _).mono ?_); rintro e w' ⟨rfl, n, rfl⟩))
            exact bodyPost_ret (v := .tuple #[.int .i64 (q), .int .i64 (q + 1), .bool true]) (by simp [results, Try.results41, go_sem]) rfl ⟨rfl, _, rfl⟩
      · by_cases ha : a < 0
        · by_cases hb : b < 0
          · obtain ⟨e1, e2⟩ := r_same hA hB d0 ⟨fun _ => hb, fun _ => ha⟩ hq hr hk
            rw [if_neg hs] at e2
            rw [Int.add_zero] at e2
            have da : decide (a < 0) = true := decide_eq_true ha
            have db : decide (b < 0) = true := decide_eq_true hb
            rw [e1, e2, hk]
            clear e1 e2 hk rk n0 m4 hA hB hq hr
            go_enter Try.func41, Try.ntmps41
            go_wp2_with (first
              | (go_at_call 54; first
                | ((with_reducible refine (S1.out _).mono ?_); rintro e w' ⟨rfl, rfl⟩)
                | ((with_reducible refine (S2.out _).mono ?_); rintro e w' ⟨rfl, rfl⟩))
              | (go_at_call 53; (with_reducible refine (HM.out _).mono ?_); rintro e w' ⟨rfl, rfl⟩)
              | (go_at_call 55; (with_reducible refine (HD.out _).mono ?_); rintro e w' ⟨rfl, n, rfl⟩))
            exact bodyPost_ret (v := .tuple #[.int .i64 (q), .int .i64 (q), .bool true]) (by simp [results, Try.results41, go_sem]) rfl ⟨rfl, _, rfl⟩
          · obtain ⟨e1, e2⟩ := r_diff hA hB d0 ⟨fun _ => hb, fun _ => ha⟩ hq hr hk
            rw [if_neg hs] at e1
            rw [Int.add_zero] at e1
            have da : decide (a < 0) = true := decide_eq_true ha
            have db : decide (b < 0) = false := decide_eq_false hb
            rw [e1, e2, hk]
            clear e1 e2 hk rk n0 m4 hA hB hq hr
            go_enter Try.func41, Try.ntmps41
            go_wp2_with (first
              | (go_at_call 54; first
                | ((with_reducible refine (S1.out _).mono ?_); rintro e w' ⟨rfl, rfl⟩)
                | ((with_reducible refine (S2.out _).mono ?_); rintro e w' ⟨rfl, rfl⟩))
              | (go_at_call 53; (with_reducible refine (HM.out _).mono ?_); rintro e w' ⟨rfl, rfl⟩)
              | (go_at_call 55; (with_reducible refine (HD.out _).mono ?_); rintro e w' ⟨rfl, n, rfl⟩))
            exact bodyPost_ret (v := .tuple #[.int .i64 (-(q)), .int .i64 (-q), .bool true]) (by simp [results, Try.results41, go_sem]) rfl ⟨rfl, _, rfl⟩
        · by_cases hb : b < 0
          · obtain ⟨e1, e2⟩ := r_diff hA hB d0 ⟨fun h => absurd h ha, fun h => absurd hb h⟩ hq hr hk
            rw [if_neg hs] at e1
            rw [Int.add_zero] at e1
            have da : decide (a < 0) = false := decide_eq_false ha
            have db : decide (b < 0) = true := decide_eq_true hb
            rw [e1, e2, hk]
            clear e1 e2 hk rk n0 m4 hA hB hq hr
            go_enter Try.func41, Try.ntmps41
            go_wp2_with (first
              | (go_at_call 54; first
                | ((with_reducible refine (S1.out _).mono ?_); rintro e w' ⟨rfl, rfl⟩)
                | ((with_reducible refine (S2.out _).mono ?_); rintro e w' ⟨rfl, rfl⟩))
              | (go_at_call 53; (with_reducible refine (HM.out _).mono ?_); rintro e w' ⟨rfl, rfl⟩)
              | (go_at_call 55; (with_reducible refine (HD.out _).mono ?_); rintro e w' ⟨rfl, n, rfl⟩))
            exact bodyPost_ret (v := .tuple #[.int .i64 (-(q)), .int .i64 (-q), .bool true]) (by simp [results, Try.results41, go_sem]) rfl ⟨rfl, _, rfl⟩
          · obtain ⟨e1, e2⟩ := r_same hA hB d0 ⟨fun h => absurd h ha, fun h => absurd h hb⟩ hq hr hk
            rw [if_neg hs] at e2
            rw [Int.add_zero] at e2
            have da : decide (a < 0) = false := decide_eq_false ha
            have db : decide (b < 0) = false := decide_eq_false hb
            rw [e1, e2, hk]
            clear e1 e2 hk rk n0 m4 hA hB hq hr
            go_enter Try.func41, Try.ntmps41
            go_wp2_with (first
              | (go_at_call 54; first
                | ((with_reducible refine (S1.out _).mono ?_); rintro e w' ⟨rfl, rfl⟩)
                | ((with_reducible refine (S2.out _).mono ?_); rintro e w' ⟨rfl, rfl⟩))
              | (go_at_call 53; (with_reducible refine (HM.out _).mono ?_); rintro e w' ⟨rfl, rfl⟩)
              | (go_at_call 55; (with_reducible refine (HD.out _).mono ?_); rintro e w' ⟨rfl, n, rfl⟩))
            exact bodyPost_ret (v := .tuple #[.int .i64 (q), .int .i64 (q), .bool true]) (by simp [results, Try.results41, go_sem]) rfl ⟨rfl, _, rfl⟩

set_option maxHeartbeats 400000 in
theorem mul1_call (a b : Int) (w : World) (a0 : -9223372036854775807 ≤ a) (a1 : a ≤ 9223372036854775807) (b0 : -9223372036854775807 ≤ b) (b1 : b ≤ 9223372036854775807) :
    Calls Try.prog 40 #[.int .i64 a, .int .i64 b] w fun e w' => e = .returned (.tuple #[.int .i64 (rD (a * b) (1099511627776)), .int .i64 (rU (a * b) (1099511627776)), .bool (rok (a * b) (1099511627776))]) ∧ ∃ n, w' = w.drewN n := by
  have hr := fun w => ratio_call a b 1099511627776 w (by omega) (by omega) (by omega) (by omega) (by omega) (by omega)
  have HR := Lib.hid @hr
  clear hr
  go_enter Try.func40, Try.ntmps40
  go_wp2_with (go_at_call 41; (with_reducible refine (HR.out _).mono ?_); rintro e w' ⟨rfl, n, rfl⟩)
  exact bodyPost_ret (v := .tuple #[.int .i64 (rD (a * b) (1099511627776)), .int .i64 (rU (a * b) (1099511627776)), .bool (rok (a * b) (1099511627776))]) (by simp [results, Try.results40, go_sem]) rfl ⟨rfl, _, rfl⟩

set_option maxHeartbeats 400000 in
theorem div1_call (a b : Int) (w : World) (a0 : -9223372036854775807 ≤ a) (a1 : a ≤ 9223372036854775807) (b0 : 1 ≤ b) (b1 : b ≤ 9223372036854775807) :
    Calls Try.prog 46 #[.int .i64 a, .int .i64 b] w fun e w' => e = .returned (.tuple #[.int .i64 (rD (a * 1099511627776) (b)), .int .i64 (rU (a * 1099511627776) (b)), .bool (rok (a * 1099511627776) (b))]) ∧ ∃ n, w' = w.drewN n := by
  have hr := fun w => ratio_call a 1099511627776 b w (by omega) (by omega) (by omega) (by omega) (by omega) (by omega)
  have HR := Lib.hid @hr
  clear hr
  go_enter Try.func46, Try.ntmps46
  go_wp2_with (go_at_call 41; (with_reducible refine (HR.out _).mono ?_); rintro e w' ⟨rfl, n, rfl⟩)
  exact bodyPost_ret (v := .tuple #[.int .i64 (rD (a * 1099511627776) (b)), .int .i64 (rU (a * 1099511627776) (b)), .bool (rok (a * 1099511627776) (b))]) (by simp [results, Try.results46, go_sem]) rfl ⟨rfl, _, rfl⟩

end Go.Proofs.Ytdbemgjjahcabaa
