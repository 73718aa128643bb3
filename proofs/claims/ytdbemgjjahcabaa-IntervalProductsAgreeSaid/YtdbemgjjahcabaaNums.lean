/- Plain arithmetic on integers: the nearest integer to a quotient, and the functions that the program computes. No program in sight. -/
namespace Go.Proofs.Ytdbemgjjahcabaa

/-- The integer nearest to n / d; 0 if d is 0. -/
def halfI (n d : Int) : Int := if d = 0 then 0 else if d - n % d ≤ n % d then n / d + 1 else n / d

theorem div_half (n d : Int) (h1 : n ≤ 18446744073709551615) (d0 : 2 ≤ d) : n / d ≤ 9223372036854775807 := by
  by_cases h : d = 2
  · subst h; omega
  · apply Int.ediv_le_of_le_mul (by omega)
    have : (9223372036854775807 : Int) * 3 ≤ 9223372036854775807 * d := Int.mul_le_mul_of_nonneg_left (by omega) (by omega)
    omega

theorem half_eq (n d : Int) (d0 : 1 ≤ d) : halfI n d = (2 * n + d) / (2 * d) := by
  unfold halfI
  rw [if_neg (by omega)]
  have e : n = d * (n / d) + n % d := (Int.mul_ediv_add_emod n d).symm
  have r0 : 0 ≤ n % d := Int.emod_nonneg _ (by omega)
  have r1 : n % d < d := Int.emod_lt_of_pos _ (by omega)
  have e2 : 2 * n + d = (2 * (n % d) + d) + (2 * d) * (n / d) := by
    rw [Int.mul_assoc]; omega
  rw [e2, Int.add_mul_ediv_left _ _ (by omega)]
  split
  · have : (2 * (n % d) + d) / (2 * d) = 1 := by
      apply Int.le_antisymm
      · have := Int.ediv_lt_of_lt_mul (a := 2 * (n % d) + d) (b := 2) (c := 2 * d) (by omega) (by omega)
        omega
      · exact (Int.le_ediv_iff_mul_le (by omega)).2 (by omega)
    omega
  · have : (2 * (n % d) + d) / (2 * d) = 0 := Int.ediv_eq_zero_of_lt (by omega) (by omega)
    omega

theorem half_nonneg (n d : Int) (h0 : 0 ≤ n) (d0 : 0 ≤ d) : 0 ≤ halfI n d := by
  by_cases h : d = 0
  · simp [halfI, h]
  · rw [half_eq n d (by omega)]; exact Int.ediv_nonneg (by omega) (by omega)

theorem half_mono (n m d : Int) (h : n ≤ m) (d0 : 0 ≤ d) : halfI n d ≤ halfI m d := by
  by_cases h : d = 0
  · simp [halfI, h]
  · rw [half_eq n d (by omega), half_eq m d (by omega)]; exact Int.ediv_le_ediv (by omega) (by omega)

/-- a multiple of the denominator -/
theorem half_mul (q d : Int) (d0 : 1 ≤ d) : halfI (q * d) d = q := by
  rw [half_eq _ d d0]
  have : 2 * (q * d) + d = d + (2 * d) * q := by rw [Int.mul_comm q d, ← Int.mul_assoc]; omega
  rw [this, Int.add_mul_ediv_left _ _ (by omega), Int.ediv_eq_zero_of_lt (by omega) (by omega)]; omega

theorem half_mul_le (n q d : Int) (d0 : 1 ≤ d) (h : n ≤ q * d) : halfI n d ≤ q := by
  have := half_mono n (q * d) d h (by omega)
  rwa [half_mul q d d0] at this

theorem half_le_self (n d : Int) (h0 : 0 ≤ n) (d0 : 0 ≤ d) : halfI n d ≤ n := by
  by_cases h : d = 0
  · simp [halfI, h, h0]
  · exact half_mul_le n n d (by omega) (by
      have := Int.mul_le_mul_of_nonneg_left (show (1 : Int) ≤ d by omega) h0
      omega)

theorem half_unique (n d q : Int) (d0 : 1 ≤ d) (h1 : 2 * (q * d) ≤ 2 * n + d) (h2 : 2 * n + d < 2 * (q * d) + 2 * d) : halfI n d = q := by
  rw [half_eq n d d0]
  apply Int.le_antisymm
  · have := Int.ediv_lt_of_lt_mul (a := 2 * n + d) (b := q + 1) (c := 2 * d) (by omega) (by
      have : (q + 1) * (2 * d) = 2 * (q * d) + 2 * d := by rw [Int.add_mul, Int.mul_left_comm]; omega
      omega)
    omega
  · exact (Int.le_ediv_iff_mul_le (by omega)).2 (by rw [Int.mul_left_comm]; omega)
theorem half_spec (n d : Int) (d0 : 1 ≤ d) : 2 * (halfI n d * d) ≤ 2 * n + d ∧ 2 * n + d < 2 * (halfI n d * d) + 2 * d := by
  rw [half_eq n d d0]
  have h1 := Int.mul_ediv_self_le (x := 2 * n + d) (k := 2 * d) (by omega)
  have h2 := Int.lt_mul_ediv_self_add (x := 2 * n + d) (k := 2 * d) (by omega)
  have e : 2 * d * ((2 * n + d) / (2 * d)) = 2 * ((2 * n + d) / (2 * d) * d) := by rw [Int.mul_assoc, Int.mul_comm d]
  omega

/-- the result from the quotient and a rest from 0 to d, as the fast divisions leave it -/
theorem half_255 (N q n : Int) (h : N = 255 * q + n) (h0 : 0 ≤ n) (h1 : n ≤ 255) : halfI N 255 = if 128 ≤ n then q + 1 else q := by
  rw [half_eq _ _ (by omega)]; split <;> omega
theorem half_65535 (N q n : Int) (h : N = 65535 * q + n) (h0 : 0 ≤ n) (h1 : n ≤ 65535) : halfI N 65535 = if 32768 ≤ n then q + 1 else q := by
  rw [half_eq _ _ (by omega)]; split <;> omega

theorem mul_bound (a b m k : Int) (a0 : 0 ≤ a) (b0 : 0 ≤ b) (ha : a ≤ m) (hb : b ≤ k) : 0 ≤ a * b ∧ a * b ≤ m * k :=
  ⟨Int.mul_nonneg a0 b0, Int.mul_le_mul ha hb b0 (Int.le_trans a0 ha)⟩
end Go.Proofs.Ytdbemgjjahcabaa
