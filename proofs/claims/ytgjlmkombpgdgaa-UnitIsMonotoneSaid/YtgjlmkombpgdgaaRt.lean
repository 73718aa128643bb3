/- The quotient of two samples, as a float: plain laws. -/
import Derived.Test.YtgjlmkombpgdgaaFl
namespace Go.Proofs.Ytgjlmkombpgdgaa.FL
open Ieee

theorem rv_rung {e k : Nat} (h0 : 4503599627370496 ≤ k) (h1 : k ≤ 9007199254740992) : rv (e * 4503599627370496 + k) = k * 2 ^ e := by
  unfold rv
  rw [if_neg (by omega)]
  by_cases h : k = 9007199254740992
  · subst h
    rw [show (e * 4503599627370496 + 9007199254740992) % 4503599627370496 = 0 by omega, show (e * 4503599627370496 + 9007199254740992) / 4503599627370496 - 1 = e + 1 by omega, Nat.pow_succ]
    omega
  · rw [show (e * 4503599627370496 + k) % 4503599627370496 = k - 4503599627370496 by omega, show (e * 4503599627370496 + k) / 4503599627370496 - 1 = e by omega, show 4503599627370496 + (k - 4503599627370496) = k by omega]
theorem read_rung {e k : Nat} (h0 : 4503599627370496 ≤ k) (h1 : k < 9007199254740992) (he : e ≤ 2000) : double.read (e * 4503599627370496 + k) = .number false k ((e : Int) - 1074) := by
  unfold Format.read
  rw [signWeight_double, binade_double, infRung_double, leastPlace_double]
  have e0 : (e * 4503599627370496 + k) / 9223372036854775808 % 2 = 0 := by omega
  have e1 : (e * 4503599627370496 + k) % 9223372036854775808 = e * 4503599627370496 + k := by omega
  rw [e1, if_neg (by omega), if_pos (by omega), e0, show (e * 4503599627370496 + k) % 4503599627370496 = k - 4503599627370496 by omega, show (e * 4503599627370496 + k) / 4503599627370496 - 1 = e by omega, show 4503599627370496 + (k - 4503599627370496) = k by omega, show (-1074 : Int) + (e : Int) = (e : Int) - 1074 by omega]
  rfl
theorem sv_rung {e k : Nat} (h1 : k ≤ 9007199254740992) (he : e ≤ 2000) : sv (e * 4503599627370496 + k) = rv (e * 4503599627370496 + k) := by
  unfold sv
  rw [if_neg (by omega), Nat.mod_eq_of_lt (by omega)]
theorem isn_rung {e k : Nat} (h1 : k ≤ 9007199254740992) (he : e ≤ 2000) : isn (e * 4503599627370496 + k) = false := by
  unfold isn
  exact decide_eq_false (by omega)

/-- rounding: a number of at most 53 digits -/
theorem cut_zero (s : Bool) (n : Nat) : Toward.even.cut s n 0 = n := by
  unfold Toward.cut
  simp only [Nat.zero_min, Nat.shiftLeft_zero, Nat.div_one, Nat.mod_one, Nat.mul_zero]
  simp
theorem cut_near (s : Bool) (n d : Nat) (h : d ≤ n.log2 + 2) : Toward.even.cut s n d * 2 ^ d ≤ n + 2 ^ d ∧ n ≤ Toward.even.cut s n d * 2 ^ d + 2 ^ d ∧ n / 2 ^ d ≤ Toward.even.cut s n d ∧ Toward.even.cut s n d ≤ n / 2 ^ d + 1 := by
  unfold Toward.cut
  rw [Nat.min_eq_left h, Nat.one_shiftLeft]
  have hp := Nat.two_pow_pos d
  generalize 2 ^ d = g at *
  have h1 := Nat.div_add_mod n g
  have h2 := Nat.mod_lt n hp
  simp only
  generalize hb : (decide (g < 2 * (n % g)) || (g == 2 * (n % g) && n / g % 2 == 1)) = b
  generalize n % g = r at *
  generalize n / g = q at *
  cases b
  · simp only [Bool.toNat_false, Nat.add_zero]
    rw [Nat.mul_comm q g]
    omega
  · simp only [Bool.toNat_true]
    rw [Nat.add_mul, Nat.one_mul, Nat.mul_comm q g]
    omega
theorem cut_exact (s : Bool) (k d : Nat) (h : d ≤ (k * 2 ^ d).log2 + 2) : Toward.even.cut s (k * 2 ^ d) d = k := by
  unfold Toward.cut
  rw [Nat.min_eq_left h, Nat.one_shiftLeft]
  have hp := Nat.two_pow_pos d
  generalize 2 ^ d = g at *
  simp only
  rw [Nat.mul_mod_left, Nat.mul_div_left _ hp]
  have : (decide (g < 2 * 0) || (g == 2 * 0 && k % 2 == 1)) = false := by
    rw [decide_eq_false (by omega), show (g == 2 * 0) = false by simp; omega]; rfl
  rw [this]; rfl
theorem log2_bounds {m : Nat} (h : m ≠ 0) : 2 ^ m.log2 ≤ m ∧ m < 2 ^ (m.log2 + 1) := ⟨Nat.log2_self_le h, Nat.lt_log2_self⟩
theorem log2_of {m k : Nat} (h1 : 2 ^ k ≤ m) (h2 : m < 2 ^ (k + 1)) : m.log2 = k := by
  have h : m ≠ 0 := by have := Nat.two_pow_pos k; omega
  have a := (Nat.le_log2 h).2 h1
  have b := (Nat.log2_lt h).2 h2
  omega
theorem nearest_small {m : Nat} {p : Nat} (h0 : m ≠ 0) (hl : m.log2 ≤ 52) (hp : 1022 ≤ p + m.log2) (hq : p ≤ 1074) :
    double.nearest false m ((p : Int) - 1074) = (p + m.log2 - 52) * 4503599627370496 + m * 2 ^ (52 - m.log2) ∧ 4503599627370496 ≤ m * 2 ^ (52 - m.log2) ∧ m * 2 ^ (52 - m.log2) < 9007199254740992 := by
  obtain ⟨b1, b2⟩ := log2_bounds h0
  have c1 : 4503599627370496 ≤ m * 2 ^ (52 - m.log2) := by
    have := Nat.mul_le_mul_right (2 ^ (52 - m.log2)) b1
    rw [← Nat.pow_add, show m.log2 + (52 - m.log2) = 52 by omega] at this
    exact this
  have c2 : m * 2 ^ (52 - m.log2) < 9007199254740992 := by
    have := Nat.mul_lt_mul_of_pos_right b2 (Nat.two_pow_pos (52 - m.log2))
    rw [← Nat.pow_add, show m.log2 + 1 + (52 - m.log2) = 53 by omega] at this
    exact this
  refine ⟨?_, c1, c2⟩
  unfold Format.nearest
  rw [if_neg h0, infRung_double, leastPlace_double, binade_double, show double.fractionBits = 52 from rfl]
  have e1 : max ((p : Int) - 1074 + m.log2 - (52 : Nat)) (-1074) = (p : Int) - 1074 + m.log2 - 52 := by omega
  simp only [e1]
  rw [show ((p : Int) - 1074 - ((p : Int) - 1074 + m.log2 - 52)).toNat = 52 - m.log2 by omega, show ((p : Int) - 1074 + m.log2 - 52 - ((p : Int) - 1074)).toNat = 0 by omega, show ((p : Int) - 1074 + m.log2 - 52 - -1074).toNat = p + m.log2 - 52 by omega, Nat.shiftLeft_eq, cut_zero, Nat.min_eq_left (by omega)]
  rfl
theorem nearest_long {m : Nat} {p : Nat} (h0 : m ≠ 0) (hl : 52 < m.log2) (hq : p + m.log2 ≤ 2000) :
    ∃ k, double.nearest false m ((p : Int) - 1074) = (p + m.log2 - 52) * 4503599627370496 + k ∧ k = Toward.even.cut false m (m.log2 - 52) ∧ 4503599627370496 ≤ k ∧ k ≤ 9007199254740992 ∧ k * 2 ^ (m.log2 - 52) ≤ m + 2 ^ (m.log2 - 52) ∧ m ≤ k * 2 ^ (m.log2 - 52) + 2 ^ (m.log2 - 52) := by
  obtain ⟨b1, b2⟩ := log2_bounds h0
  obtain ⟨k1, k2, k3, k4⟩ := cut_near false m (m.log2 - 52) (by omega)
  have c1 : 4503599627370496 ≤ m / 2 ^ (m.log2 - 52) := by
    rw [Nat.le_div_iff_mul_le (Nat.two_pow_pos _)]
    have e : 4503599627370496 * 2 ^ (m.log2 - 52) = 2 ^ m.log2 := by
      rw [show (4503599627370496 : Nat) = 2 ^ 52 by decide, ← Nat.pow_add]; congr 1; omega
    omega
  have c2 : m / 2 ^ (m.log2 - 52) < 9007199254740992 := by
    rw [Nat.div_lt_iff_lt_mul (Nat.two_pow_pos _)]
    have e : 9007199254740992 * 2 ^ (m.log2 - 52) = 2 ^ (m.log2 + 1) := by
      rw [show (9007199254740992 : Nat) = 2 ^ 53 by decide, ← Nat.pow_add]; congr 1; omega
    omega
  refine ⟨_, ?_, rfl, by omega, by omega, k1, k2⟩
  unfold Format.nearest
  rw [if_neg h0, infRung_double, leastPlace_double, binade_double, show double.fractionBits = 52 from rfl]
  have e1 : max ((p : Int) - 1074 + m.log2 - (52 : Nat)) (-1074) = (p : Int) - 1074 + m.log2 - 52 := by omega
  simp only [e1]
  rw [show ((p : Int) - 1074 - ((p : Int) - 1074 + m.log2 - 52)).toNat = 0 by omega, show ((p : Int) - 1074 + m.log2 - 52 - ((p : Int) - 1074)).toNat = m.log2 - 52 by omega, show ((p : Int) - 1074 + m.log2 - 52 - -1074).toNat = p + m.log2 - 52 by omega, Nat.shiftLeft_zero, Nat.min_eq_left (by omega)]
  rfl

/-- a positive sample as a float -/
theorem of_nat {v : Nat} (h0 : 1 ≤ v) (h1 : v ≤ 65535) : ∃ m : Nat, floatOfInt .f64 (v : Int) = (v.log2 + 1022) * 4503599627370496 + m ∧ m = v * 2 ^ (52 - v.log2) ∧ 4503599627370496 ≤ m ∧ m < 9007199254740992 := by
  have hl : v.log2 < 16 := (Nat.log2_lt (by omega)).2 (by omega)
  obtain ⟨e, a, b⟩ := nearest_small (m := v) (p := 1074) (by omega) (by omega) (by omega) (by omega)
  refine ⟨_, ?_, rfl, a, b⟩
  show double.nearest (decide ((v : Int) < 0)) (v : Int).natAbs 0 = _
  rw [decide_eq_false (by omega), Int.natAbs_natCast]
  have e2 : ((1074 : Nat) : Int) - 1074 = 0 := rfl
  rw [e2] at e
  rw [e, show 1074 + v.log2 - 52 = v.log2 + 1022 by omega]
theorem of_zero : floatOfInt .f64 0 = 0 := by decide +kernel

/-- the quotient's value, bounded -/
theorem quo_bound {v u a c D q K P : Nat} (ha : a ≤ c) (hc : c ≤ 15) (hP : P = a + 1019 - c) (hD : D = v * 2 ^ (52 - a) * 2 ^ 54)
    (k1 : K ≤ q + 8) (k2 : q ≤ K + 8) (q1 : q * (u * 2 ^ (52 - c)) ≤ 2 * D + u * 2 ^ (52 - c)) (q2 : 2 * D ≤ q * (u * 2 ^ (52 - c)) + 2 * (u * 2 ^ (52 - c))) :
    K * 2 ^ P * u ≤ v * big + 10 * (u * 2 ^ P) ∧ v * big ≤ K * 2 ^ P * u + 10 * (u * 2 ^ P) := by
  have e : 2 * D * 2 ^ P = v * big * 2 ^ (52 - c) := by
    rw [hD, big_parts (n := c) (by omega), show 2 * (v * 2 ^ (52 - a) * 2 ^ 54) = v * 2 ^ (52 - a) * 2 ^ 55 by omega, Nat.mul_assoc, Nat.mul_assoc, Nat.mul_assoc, ← Nat.pow_add, ← Nat.pow_add, ← Nat.pow_add, ← Nat.pow_add]
    exact congrArg (fun k => v * 2 ^ k) (by omega)
  have hw := Nat.two_pow_pos (52 - c)
  generalize hn : u * 2 ^ (52 - c) = n at *
  generalize 2 ^ (52 - c) = w at *
  have g1 : K * n ≤ q * n + 8 * n := by have := Nat.mul_le_mul_right n k1; rw [Nat.add_mul] at this; exact this
  have g2 : q * n ≤ K * n + 8 * n := by have := Nat.mul_le_mul_right n k2; rw [Nat.add_mul] at this; exact this
  have g3 : K * n ≤ 2 * D + 10 * n := by omega
  have g4 : 2 * D ≤ K * n + 10 * n := by omega
  have g5 := Nat.mul_le_mul_right (2 ^ P) g3
  have g6 := Nat.mul_le_mul_right (2 ^ P) g4
  rw [Nat.add_mul, e] at g5
  rw [Nat.add_mul, e] at g6
  generalize 2 ^ P = z at *
  have f1 : K * n * z = K * z * u * w := by rw [← hn, Nat.mul_right_comm, ← Nat.mul_assoc]
  have f2 : 10 * n * z = 10 * (u * z) * w := by
    rw [← hn, Nat.mul_assoc, Nat.mul_assoc 10 (u * z) w, Nat.mul_right_comm u w z]
  rw [f1, f2, ← Nat.add_mul] at g5
  rw [f1, f2, ← Nat.add_mul] at g6
  exact ⟨Nat.le_of_mul_le_mul_right g5 hw, Nat.le_of_mul_le_mul_right g6 hw⟩
/-- the quotient of two samples -/
theorem quo_of {v u : Nat} (h0 : 1 ≤ v) (h1 : v ≤ u) (h2 : u ≤ 65535) : ∃ x R P : Nat, floatBits .quo .f64 (floatOfInt .f64 (v : Int)) (floatOfInt .f64 (u : Int)) = some x ∧ isn x = false ∧ sv x = R ∧ P ≤ 1019 ∧ R * u ≤ v * big + 10 * (u * 2 ^ P) ∧ v * big ≤ R * u + 10 * (u * 2 ^ P) ∧ (v = u → R = big) := by
  obtain ⟨m, em, hm, m1, m2⟩ := of_nat h0 (by omega : v ≤ 65535)
  obtain ⟨n, en, hn, n1, n2⟩ := of_nat (by omega : 1 ≤ u) h2
  have ha : v.log2 ≤ u.log2 := (Nat.le_log2 (by omega)).2 (Nat.le_trans (Nat.log2_self_le (by omega)) h1)
  have hc : u.log2 < 16 := (Nat.log2_lt (by omega)).2 (by omega)
  have lm : m.log2 = 52 := log2_of m1 m2
  have ln : n.log2 = 52 := log2_of n1 n2
  have hD : m * 2 ^ 54 = v * 2 ^ (52 - v.log2) * 2 ^ 54 := by rw [hm]
  have huv : v = u → m = n ∧ v.log2 = u.log2 := by rintro rfl; exact ⟨by rw [hm, hn], rfl⟩
  generalize v.log2 = a at *
  generalize u.log2 = c at *
  have rX := read_rung (e := a + 1022) m1 m2 (by omega)
  have rY := read_rung (e := c + 1022) n1 n2 (by omega)
  have d1 := Nat.div_add_mod (m * 2 ^ 54) n
  have d2 := Nat.mod_lt (m * 2 ^ 54) (show 0 < n by omega)
  have d3 : 2 ^ 53 ≤ m * 2 ^ 54 / n := by rw [Nat.le_div_iff_mul_le (by omega)]; omega
  have d4 : m * 2 ^ 54 / n < 2 ^ 55 := by rw [Nat.div_lt_iff_lt_mul (by omega)]; omega
  obtain ⟨q, hq⟩ : ∃ q, q = 2 * (m * 2 ^ 54 / n) + (m * 2 ^ 54 % n != 0).toNat := ⟨_, rfl⟩
  have s1 : (m * 2 ^ 54 % n != 0).toNat ≤ 1 := Bool.toNat_le _
  have q0 : q ≠ 0 := by omega
  have ql1 : 54 ≤ q.log2 := (Nat.le_log2 q0).2 (by omega)
  have ql2 : q.log2 < 56 := (Nat.log2_lt q0).2 (by omega)
  obtain ⟨k, e1, e2, e3, e4, e5, e6⟩ := nearest_long (m := q) (p := a + 1019 - c) q0 (by omega) (by omega)
  refine ⟨_, k * 2 ^ (q.log2 - 52) * 2 ^ (a + 1019 - c), a + 1019 - c, ?_, isn_rung (e := a + 1019 - c + q.log2 - 52) e4 (by omega), ?_, by omega, ?_⟩
  · show ((double.read (floatOfInt .f64 (v : Int))).quotient 54 (double.read (floatOfInt .f64 (u : Int)))).map double.write = _
    rw [em, en, rX, rY]
    simp only [Datum.quotient]
    rw [if_neg (show ¬ n = 0 by omega), lm, ln, show 54 + 52 - 52 = 54 from rfl, Nat.shiftLeft_eq, ← hq, Option.map_some]
    show some (double.nearest (false ^^ false) q _) = _
    rw [Bool.xor_false, show ((a + 1022 : Nat) : Int) - 1074 - (((c + 1022 : Nat) : Int) - 1074) - (54 : Nat) - 1 = ((a + 1019 - c : Nat) : Int) - 1074 by omega, e1]
  · rw [sv_rung e4 (by omega), rv_rung e3 e4, show a + 1019 - c + q.log2 - 52 = (q.log2 - 52) + (a + 1019 - c) by omega, Nat.pow_add, Nat.mul_assoc]
  · have p8 : 2 ^ (q.log2 - 52) ≤ 8 := by
      have := Nat.pow_le_pow_right (show 0 < 2 by decide) (show q.log2 - 52 ≤ 3 by omega); omega
    have b := quo_bound (v := v) (u := u) (a := a) (c := c) (D := m * 2 ^ 54) (q := q) (K := k * 2 ^ (q.log2 - 52)) (P := a + 1019 - c) ha (by omega) rfl hD (by omega) (by omega)
    rw [← hn] at b
    have c1 : q * n ≤ 2 * (m * 2 ^ 54) + n := by
      rw [hq, Nat.add_mul, Nat.mul_assoc, Nat.mul_comm (m * 2 ^ 54 / n) n]
      have := Nat.mul_le_mul_right n s1
      omega
    have c2 : 2 * (m * 2 ^ 54) ≤ q * n + 2 * n := by
      rw [hq, Nat.add_mul, Nat.mul_assoc, Nat.mul_comm (m * 2 ^ 54 / n) n]
      omega
    obtain ⟨b1, b2⟩ := b c1 c2
    refine ⟨b1, b2, fun e => ?_⟩
    obtain ⟨e7, z7⟩ := huv e
    subst e7
    have z1 : m * 2 ^ 54 / m = 2 ^ 54 := Nat.mul_div_cancel_left _ (by omega)
    have z2 : m * 2 ^ 54 % m = 0 := Nat.mul_mod_right _ _
    rw [z1, z2] at hq
    have z3 : q = 2 ^ 55 := hq
    have z4 : (2 ^ 55).log2 = 55 := by decide +kernel
    subst z3
    rw [z4] at e2 ⊢
    have z5 := cut_exact false (2 ^ 52) 3 (by decide +kernel)
    have z6 : k = 2 ^ 52 := by rw [e2]; exact z5
    subst z7
    rw [z6, big_parts (n := a) (by omega), ← Nat.pow_add, ← Nat.pow_add, ← Nat.pow_add]
    exact congrArg (fun k => 2 ^ k) (by omega)
theorem big_pos : 0 < big := by rw [big_half]; have := hf_pos; omega
/-- every sample returns from its number -/
theorem trip {v u : Nat} (h1 : v ≤ u) (h2 : u ≤ 65535) (h3 : 1 ≤ u) : ∃ x : Nat, floatBits .quo .f64 (floatOfInt .f64 (v : Int)) (floatOfInt .f64 (u : Int)) = some x ∧ isn x = false ∧ ff x u = v ∧ 0 ≤ sv x ∧ sv x ≤ big ∧ (v = 0 → x = 0) := by
  by_cases h0 : v = 0
  · subst h0
    refine ⟨0, ?_, isn_zero, ?_, by rw [sv_zero]; omega, by rw [sv_zero]; omega, fun _ => rfl⟩
    · obtain ⟨n, en, hn, n1, n2⟩ := of_nat h3 h2
      have hc : u.log2 < 16 := (Nat.log2_lt (by omega)).2 (by omega)
      have rY := read_rung (e := u.log2 + 1022) n1 n2 (by omega)
      have rX : double.read 0 = .number false 0 (-1074) := by decide +kernel
      show ((double.read (floatOfInt .f64 0)).quotient 54 (double.read (floatOfInt .f64 (u : Int)))).map double.write = _
      rw [en, of_zero, rX, rY]
      simp only [Datum.quotient]
      rw [if_neg (show ¬ n = 0 by omega), Option.map_some]
      generalize 54 + n.log2 - (0 : Nat).log2 = t
      rw [Nat.zero_shiftLeft, Nat.zero_div, Nat.zero_mod]
      rfl
    · unfold ff
      rw [if_neg (by rw [isn_zero]; simp), sv_zero, if_pos (Int.le_refl 0)]
  · obtain ⟨x, R, P, e, hn, hs, hP, b1, b2, b3⟩ := quo_of (show 1 ≤ v by omega) h1 h2
    have hh : 10 * (u * 2 ^ P) < hf := by
      rw [half_parts (n := P + 1) (by omega) (by omega), show P + 1 - 1 = P by omega]
      have g := Nat.pow_le_pow_right (show 0 < 2 by decide) (show 54 ≤ 1074 - (P + 1) by omega)
      have hp := Nat.two_pow_pos P
      have g2 : 10 * u < 2 ^ (1074 - (P + 1)) := by omega
      have g3 := Nat.mul_lt_mul_of_pos_right g2 hp
      rw [Nat.mul_assoc] at g3
      rw [Nat.mul_comm (2 ^ P)]
      exact g3
    have hb := big_half
    have hfp := hf_pos
    have R0 : 0 < R := by
      refine Nat.pos_of_ne_zero fun h => ?_
      subst h
      have := Nat.mul_le_mul_right big (show 1 ≤ v by omega)
      omega
    have R1 : R ≤ big := by
      by_cases h : v = u
      · rw [b3 h]; exact Nat.le_refl _
      · have g1 := Nat.mul_le_mul_right big (show v + 1 ≤ u by omega)
        rw [Nat.add_mul] at g1
        have g2 : R * u ≤ big * u := by rw [Nat.mul_comm big]; omega
        exact Nat.le_of_mul_le_mul_right g2 (by omega)
    refine ⟨x, e, hn, ?_, by omega, by omega, fun h => absurd h h0⟩
    rw [ff_num u hn, hs, show ((R : Nat) : Int).toNat = R from rfl, Nat.min_eq_left R1]
    unfold ffN
    rw [Nat.div_eq_iff (by omega)]
    omega
end Go.Proofs.Ytgjlmkombpgdgaa.FL
