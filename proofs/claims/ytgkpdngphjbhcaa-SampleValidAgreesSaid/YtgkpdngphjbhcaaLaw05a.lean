/- The walks of three statements of layer 5: SampleDepthsRoundTrip, SamplePremultiplyAgrees, SampleStraightRoundTrip; each returns true. -/
import Derived.Test.YtgkpdngphjbhcaaAwake05
namespace Go.Proofs.Ytgkpdngphjbhcaa
open Go.RowKit

theorem to8_eq (v : Int) : to8I v = (510 * v + 65535) / 131070 := by
  unfold to8I; rw [half_eq _ _ (by omega)]; omega
theorem round8 (u : Int) (h0 : 0 ≤ u) (h1 : u ≤ 255) : to8I (to16I u) = u := by
  rw [to8_eq]; unfold to16I; omega
theorem round16 (v : Int) (h0 : 0 ≤ v) (h1 : v ≤ 65535) : to16I (to8I v) - v ≤ 128 ∧ v - to16I (to8I v) ≤ 128 ∧ to8I v ≤ 255 ∧ 0 ≤ to8I v ∧ 0 ≤ to16I (to8I v) ∧ to16I (to8I v) ≤ 65535 := by
  rw [to8_eq]; unfold to16I; omega
theorem and_u16_255 (r : Int) (h0 : 0 ≤ r) (h1 : r ≤ 65535) : bits .and .u16 r 255 = r % 256 := by
  rw [u16_and r 255 h0 (by omega) (by omega) (by omega)]
  have e : r.toNat &&& Int.toNat 255 = r.toNat % 256 := nat_mask8 _
  rw [e]; omega

set_option maxHeartbeats 400000 in
theorem sampleDepthsRoundTrip_walk (v : Int) (w : World) (h0 : 0 ≤ v) (h1 : v ≤ 65535) :
    Calls Try.prog 3 #[.int .u16 v] w fun e w' => e = .returned (.bool true) ∧ Grown w w' := by
  obtain ⟨f1, f2, f3, f4, f5, f6⟩ := round16 v h0 h1
  have ha := and_u16_255 v h0 h1
  have u0 : 0 ≤ v % 256 := by omega
  have u1 : v % 256 ≤ 255 := by omega
  have t0 := to16_bounds (v % 256) u0
  have e2 := round8 (v % 256) u0 u1
  go_enter Try.func3, Try.ntmps3
  go_wp2_with (first
    | (go_at_call 15; refine (awake05_call _).mono ?_; rintro e w' ⟨rfl, k, rfl⟩)
    | (go_at_call 13; refine (to16_call _ _ (by omega) (by omega)).mono ?_; rintro e w' ⟨rfl, rfl⟩)
    | (go_at_call 14; refine (to8_call _ _ (by omega) (by omega)).mono ?_; rintro e w' ⟨rfl, k, rfl⟩))
  go_ret
  exact ⟨rfl, grown_drewN _ _⟩

set_option maxHeartbeats 400000 in
theorem samplePremultiplyAgrees_walk (c a m n : Int) (w : World) (c0 : 0 ≤ c) (c1 : c ≤ 65535) (a0 : 0 ≤ a) (a1 : a ≤ 65535) (m0 : 0 ≤ m) (m1 : m ≤ 65535) :
    Calls Try.prog 4 #[.int .u16 c, .int .u16 a, .int .u16 m, .int .i64 n] w fun e w' => e = .returned (.bool true) ∧ Grown w w' := by
  have g0 : 0 ≤ gmax n := by rcases gmax_cases n with h | h <;> omega
  have g1 : gmax n ≤ 65535 := by rcases gmax_cases n with h | h <;> omega
  go_enter Try.func4, Try.ntmps4
  go_wp2_with (first
    | (go_at_call 15; refine (awake05_call _).mono ?_; rintro e w' ⟨rfl, k, rfl⟩)
    | (go_at_call 16; refine (max_call _ _).mono ?_; rintro e w' ⟨rfl, rfl⟩)
    | (go_at_call 17; refine (prem_call _ _ _ _ (by omega) (by omega) (by omega) (by omega) (by omega) (by omega)).mono ?_; rintro e w' ⟨rfl, k, rfl⟩)
    | (go_at_call 18; refine (refPrem_call _ _ _ _ (by omega) (by omega) (by omega) (by omega) (by omega) (by omega)).mono ?_; rintro e w' ⟨rfl, k, rfl⟩)
    | (go_at_call 19; refine (str_call _ _ _ _ (by omega) (by omega) (by omega) (by omega) (by omega) (by omega)).mono ?_; rintro e w' ⟨rfl, k, rfl⟩)
    | (go_at_call 20; refine (refStr_call _ _ _ _ (by omega) (by omega) (by omega) (by omega) (by omega) (by omega)).mono ?_; rintro e w' ⟨rfl, k, rfl⟩))
  go_ret
  exact ⟨rfl, grown_drewN _ _⟩

/-- x at most y at most m: divided by its alpha and multiplied again a sample is the same. -/
theorem str_round (x y m : Int) (x0 : 0 ≤ x) (xy : x ≤ y) (ym : y ≤ m) : premI (strI x y m) y m = x ∧ premI (strI x y m) m m = strI x y m ∧ strI x y m ≤ m := by
  obtain ⟨s0, s1⟩ := str_bounds x y m x0 (by omega) (by omega)
  by_cases hm : m = 0
  · have hy : y = 0 := by omega
    have hx : x = 0 := by omega
    subst hm hy hx
    decide
  · refine ⟨?_, ?_, s1⟩
    · unfold premI
      rw [Int.min_eq_left s1, Int.min_eq_left ym]
      apply half_unique _ _ _ (by omega)
      all_goals
        by_cases hy : y = 0
        · subst hy
          have hx : x = 0 := by omega
          subst hx
          simp
          try omega
        · unfold strI
          rw [Int.min_eq_left xy]
          obtain ⟨h1, h2⟩ := half_spec (x * m) y (by omega)
          by_cases e : y = m
          · subst e
            rw [half_mul x y (by omega)]
            omega
          · omega
    · unfold premI
      rw [Int.min_eq_left s1, Int.min_self]
      exact half_mul _ _ (by omega)

set_option maxHeartbeats 400000 in
theorem sampleStraightRoundTrip_walk (c a n : Int) (w : World) (c0 : -9223372036854775808 ≤ c) (c1 : c ≤ 9223372036854775807) (a0 : -9223372036854775808 ≤ a) (a1 : a ≤ 9223372036854775807) :
    Calls Try.prog 5 #[.int .i64 c, .int .i64 a, .int .i64 n] w fun e w' => e = .returned (.bool true) ∧ Grown w w' := by
  have g0 : 0 ≤ gmax n := by rcases gmax_cases n with h | h <;> omega
  have g1 : gmax n ≤ 65535 := by rcases gmax_cases n with h | h <;> omega
  obtain ⟨y0, y1⟩ := gsam_bounds a (gmax n) g0
  obtain ⟨x0, x1⟩ := gsam_bounds c (gsam a (gmax n)) y0
  obtain ⟨r1, r2, r3⟩ := str_round _ _ _ x0 x1 y1
  obtain ⟨s0, _⟩ := str_bounds _ _ _ x0 y0 g0
  go_enter Try.func5, Try.ntmps5
  go_wp2_with (first
    | (go_at_call 15; refine (awake05_call _).mono ?_; rintro e w' ⟨rfl, k, rfl⟩)
    | (go_at_call 16; refine (max_call _ _).mono ?_; rintro e w' ⟨rfl, rfl⟩)
    | (go_at_call 21; refine (alpha_call _ _ _ _ (by omega) (by omega) (by omega) (by omega) (by omega) (by omega)).mono ?_; rintro e w' ⟨rfl, rfl⟩)
    | (go_at_call 17; refine (prem_call _ _ _ _ (by omega) (by omega) (by omega) (by omega) (by omega) (by omega)).mono ?_; rintro e w' ⟨rfl, k, rfl⟩)
    | (go_at_call 19; refine (str_call _ _ _ _ (by omega) (by omega) (by omega) (by omega) (by omega) (by omega)).mono ?_; rintro e w' ⟨rfl, k, rfl⟩))
  go_ret
  exact ⟨rfl, grown_drewN _ _⟩
end Go.Proofs.Ytgkpdngphjbhcaa
