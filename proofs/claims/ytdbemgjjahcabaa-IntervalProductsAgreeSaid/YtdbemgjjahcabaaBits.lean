/- Plain arithmetic of a division bit by bit: 128 bits by 64 bits. -/
import Derived.Test.YtdbemgjjahcabaaDivP
namespace Go.Proofs.Ytdbemgjjahcabaa
set_option linter.unusedVariables false

theorem div_bit (M d b : Int) (d0 : 1 ≤ d) (b0 : 0 ≤ b) (b1 : b ≤ 1) :
    (2 * (M % d) + b < d → (2 * M + b) / d = 2 * (M / d) ∧ (2 * M + b) % d = 2 * (M % d) + b) ∧
    (d ≤ 2 * (M % d) + b → (2 * M + b) / d = 2 * (M / d) + 1 ∧ (2 * M + b) % d = 2 * (M % d) + b - d) := by
  have e := Int.mul_ediv_add_emod M d
  have r0 := Int.emod_nonneg M (b := d) (by omega)
  have r1 := Int.emod_lt_of_pos M (b := d) (by omega)
  constructor
  · intro h
    refine (Int.ediv_emod_unique (by omega)).2 ⟨?_, by omega, h⟩
    rw [Int.mul_left_comm]; omega
  · intro h
    refine (Int.ediv_emod_unique (by omega)).2 ⟨?_, by omega, by omega⟩
    rw [Int.mul_add, Int.mul_left_comm]; omega

/-- What the loop holds when k bits are left. -/
structure DM (N d : Int) (k : Nat) (r qh ql : Int) : Prop where
  er : r = N / 2 ^ k % d
  eh : qh = N / 2 ^ k / d * 2 ^ k / 18446744073709551616
  el : ql = N / 2 ^ k / d * 2 ^ k % 18446744073709551616

theorem two_pow_pos (k : Nat) : (1 : Int) ≤ 2 ^ k := pow2_pos k
theorem DM.whole {N d : Int} {k : Nat} (N0 : 0 ≤ N) (d0 : 1 ≤ d) : 0 ≤ N / 2 ^ k / d * 2 ^ k ∧ N / 2 ^ k / d * 2 ^ k ≤ N := by
  have p := two_pow_pos k
  have a0 : 0 ≤ N / 2 ^ k := Int.ediv_nonneg N0 (by omega)
  have a1 : 0 ≤ N / 2 ^ k / d := Int.ediv_nonneg a0 (by omega)
  refine ⟨Int.mul_nonneg a1 (by omega), ?_⟩
  have h1 : N / 2 ^ k / d ≤ N / 2 ^ k := Int.ediv_le_self _ a0
  have h2 : N / 2 ^ k / d * 2 ^ k ≤ N / 2 ^ k * 2 ^ k := Int.mul_le_mul_of_nonneg_right h1 (by omega)
  have h3 : N / 2 ^ k * 2 ^ k ≤ N := Int.ediv_mul_le _ (by omega)
  omega
theorem DM.bounds {N d : Int} {k : Nat} {r qh ql : Int} (h : DM N d k r qh ql) (N0 : 0 ≤ N) (N1 : N < 340282366920938463463374607431768211456) (d0 : 1 ≤ d) :
    0 ≤ r ∧ r < d ∧ 0 ≤ qh ∧ qh ≤ 18446744073709551615 ∧ 0 ≤ ql ∧ ql ≤ 18446744073709551615 := by
  obtain ⟨w0, w1⟩ := DM.whole (k := k) N0 d0
  obtain ⟨rfl, rfl, rfl⟩ := h
  refine ⟨Int.emod_nonneg _ (by omega), Int.emod_lt_of_pos _ (by omega), ?_⟩
  generalize N / 2 ^ k / d * 2 ^ k = X at *
  omega
theorem DM.start (N d : Int) (N0 : 0 ≤ N) (N1 : N < 340282366920938463463374607431768211456) (d0 : 1 ≤ d) : DM N d 128 0 0 0 := by
  have e : N / 2 ^ 128 = 0 := Int.ediv_eq_zero_of_lt N0 (by omega)
  exact ⟨by rw [e]; simp, by rw [e]; simp, by rw [e]; simp⟩
theorem DM.last {N d r qh ql : Int} (h : DM N d 0 r qh ql) : r = N % d ∧ qh = N / d / 18446744073709551616 ∧ ql = N / d % 18446744073709551616 := by
  obtain ⟨h1, h2, h3⟩ := h
  rw [Int.pow_zero, Int.ediv_one] at h1 h2 h3
  rw [Int.mul_one] at h2 h3
  exact ⟨h1, h2, h3⟩

theorem and_one (a : Int) (h0 : 0 ≤ a) (h1 : a ≤ 18446744073709551615) : bits .and .u64 a 1 = a % 2 := by
  rw [u64_and a 1 h0 (by omega) (by omega) (by omega)]
  have e : a.toNat &&& Int.toNat 1 = a.toNat % 2 := Nat.and_one_is_mod _
  rw [e]; omega
theorem or_bit (a b : Int) (a0 : 0 ≤ a) (a1 : a < 18446744073709551616) (b0 : 0 ≤ b) (b1 : b ≤ 1) (h : a % 2 = 0) : bits .or .u64 a b = a + b :=
  or_join a b 1 a0 a1 b0 (by omega) (by omega) (by omega)
theorem wrap_pow (n : Nat) (h : n ≤ 63) : IntKind.u64.wrap (2 ^ n) = 2 ^ n := by
  have h1 := two_pow_pos n
  have h2 : (2 : Int) ^ n ≤ 2 ^ 63 := by
    rw [pow2_cast, pow2_cast]
    exact Int.ofNat_le.2 (Nat.pow_le_pow_right (by omega) h)
  exact IntWalk.u64_in _ (by omega)
/-- the bit number j of a number of 128 bits -/
theorem bit_high (hi lo : Int) (j : Nat) (hj : 64 ≤ j) (h0 : 0 ≤ hi) (h1 : hi ≤ 18446744073709551615) (l0 : 0 ≤ lo) (l1 : lo ≤ 18446744073709551615) :
    bits .and .u64 (hi / 2 ^ (j - 64)) 1 = (hi * 18446744073709551616 + lo) / 2 ^ j % 2 := by
  have p := two_pow_pos (j - 64)
  have e : (2 : Int) ^ j = 18446744073709551616 * 2 ^ (j - 64) := by
    rw [show (18446744073709551616 : Int) = 2 ^ 64 from rfl, ← Int.pow_add]; congr 1; omega
  have q0 : 0 ≤ hi / 2 ^ (j - 64) := Int.ediv_nonneg h0 (by omega)
  have q1 : hi / 2 ^ (j - 64) ≤ hi := Int.ediv_le_self _ h0
  rw [and_one _ q0 (by omega), e, ← Int.ediv_ediv_of_nonneg (by omega)]
  congr 2
  omega
theorem bit_low (hi lo : Int) (j : Nat) (hj : j < 64) (h0 : 0 ≤ hi) (l0 : 0 ≤ lo) (l1 : lo ≤ 18446744073709551615) :
    bits .and .u64 (lo / 2 ^ j) 1 = (hi * 18446744073709551616 + lo) / 2 ^ j % 2 := by
  have p := two_pow_pos j
  have e : hi * 18446744073709551616 + lo = lo + 2 ^ j * (2 * (2 ^ (63 - j) * hi)) := by
    have : (18446744073709551616 : Int) = 2 ^ j * 2 * 2 ^ (63 - j) := by
      rw [show (18446744073709551616 : Int) = 2 ^ 64 from rfl, show (2 : Int) ^ j * 2 = 2 ^ (j + 1) from (Int.pow_succ _ _).symm, ← Int.pow_add]; congr 1; omega
    rw [this, Int.mul_comm hi, Int.mul_assoc, Int.mul_assoc]; omega
  have q0 : 0 ≤ lo / 2 ^ j := Int.ediv_nonneg l0 (by omega)
  have q1 : lo / 2 ^ j ≤ lo := Int.ediv_le_self _ l0
  rw [and_one _ q0 (by omega), e, Int.add_mul_ediv_left _ _ (by omega)]
  omega

/-- the bit is set in the quotient -/
theorem set_high (Q : Int) (j : Nat) (hj : 64 ≤ j) (hj' : j ≤ 127) (Q0 : 0 ≤ Q) (hX : Q * 2 ^ (j + 1) < 340282366920938463463374607431768211456) :
    bits .or .u64 (Q * 2 ^ (j + 1) / 18446744073709551616) (IntKind.u64.wrap (2 ^ (j - 64))) = (2 * Q + 1) * 2 ^ j / 18446744073709551616 ∧
    Q * 2 ^ (j + 1) % 18446744073709551616 = (2 * Q + 1) * 2 ^ j % 18446744073709551616 := by
  obtain ⟨t, rfl⟩ : ∃ t, j = t + 64 := ⟨j - 64, by omega⟩
  have p := two_pow_pos t
  have e : (2 : Int) ^ (t + 64) = 18446744073709551616 * 2 ^ t := by rw [Int.pow_add, Int.mul_comm]; rfl
  have e1 : (2 : Int) ^ (t + 64 + 1) = 18446744073709551616 * 2 ^ (t + 1) := by rw [Int.pow_succ, e, Int.pow_succ, Int.mul_assoc]
  have x0 : Q * 2 ^ (t + 64 + 1) / 18446744073709551616 = Q * 2 ^ (t + 1) := by
    rw [e1, Int.mul_left_comm, Int.mul_ediv_cancel_left _ (by omega)]
  have x1 : (2 * Q + 1) * 2 ^ (t + 64) / 18446744073709551616 = (2 * Q + 1) * 2 ^ t := by
    rw [e, Int.mul_left_comm, Int.mul_ediv_cancel_left _ (by omega)]
  have y0 : Q * 2 ^ (t + 64 + 1) % 18446744073709551616 = 0 := by rw [e1, Int.mul_left_comm]; exact Int.mul_emod_right _ _
  have y1 : (2 * Q + 1) * 2 ^ (t + 64) % 18446744073709551616 = 0 := by rw [e, Int.mul_left_comm]; exact Int.mul_emod_right _ _
  have hs : (2 : Int) ^ (t + 1) = 2 ^ t * 2 := Int.pow_succ _ _
  have z0 : 0 ≤ Q * 2 ^ (t + 1) := Int.mul_nonneg Q0 (by have := two_pow_pos (t + 1); omega)
  have z1 : Q * 2 ^ (t + 1) < 18446744073709551616 := by
    rw [e1, Int.mul_left_comm] at hX; omega
  refine ⟨?_, by rw [y0, y1]⟩
  rw [x0, x1, show t + 64 - 64 = t by omega, wrap_pow t (by omega)]
  rw [or_join (Q * 2 ^ (t + 1)) (2 ^ t) (t + 1) z0 z1 (by omega) (by omega) ?_ (Int.mul_emod_left _ _)]
  · rw [Int.add_mul, hs, Int.one_mul, Int.mul_assoc 2, Int.mul_comm 2, Int.mul_assoc]
  · have := wrap_pow t (by omega)
    have h2 : (2 : Int) ^ t ≤ 2 ^ 63 := by
      rw [pow2_cast, pow2_cast]
      exact Int.ofNat_le.2 (Nat.pow_le_pow_right (by omega) (by omega))
    omega
theorem set_low (Q : Int) (j : Nat) (hj : j < 64) (Q0 : 0 ≤ Q) :
    bits .or .u64 (Q * 2 ^ (j + 1) % 18446744073709551616) (IntKind.u64.wrap (2 ^ j)) = (2 * Q + 1) * 2 ^ j % 18446744073709551616 ∧
    Q * 2 ^ (j + 1) / 18446744073709551616 = (2 * Q + 1) * 2 ^ j / 18446744073709551616 := by
  have p := two_pow_pos j
  have hs : (2 : Int) ^ (j + 1) = 2 ^ j * 2 := Int.pow_succ _ _
  have ps := two_pow_pos (j + 1)
  have e : (18446744073709551616 : Int) = 2 ^ (j + 1) * 2 ^ (63 - j) := by
    rw [← Int.pow_add, show j + 1 + (63 - j) = 64 by omega]; rfl
  have hd : ((2 : Int) ^ (j + 1)) ∣ 18446744073709551616 := ⟨_, e⟩
  have hX : (2 * Q + 1) * 2 ^ j = Q * 2 ^ (j + 1) + 2 ^ j := by
    rw [hs, Int.add_mul, Int.one_mul, Int.mul_assoc 2, Int.mul_comm 2, Int.mul_assoc]
  rw [hX]
  have m0 : Q * 2 ^ (j + 1) % 18446744073709551616 % 2 ^ (j + 1) = 0 := by
    rw [Int.emod_emod_of_dvd _ hd]; exact Int.mul_emod_left _ _
  obtain ⟨L, hL⟩ : ∃ L, Q * 2 ^ (j + 1) % 18446744073709551616 = L := ⟨_, rfl⟩
  rw [hL] at m0 ⊢
  have L0 : 0 ≤ L := by rw [← hL]; exact Int.emod_nonneg _ (by omega)
  have L1 : L < 18446744073709551616 := by rw [← hL]; exact Int.emod_lt_of_pos _ (by omega)
  have L2 : L + 2 ^ (j + 1) ≤ 18446744073709551616 := by
    have eL := Int.mul_ediv_add_emod L (2 ^ (j + 1))
    rw [m0] at eL
    have : L / 2 ^ (j + 1) < 2 ^ (63 - j) := Int.ediv_lt_of_lt_mul (by omega) (by rw [Int.mul_comm, ← e]; exact L1)
    have h3 : 2 ^ (j + 1) * (L / 2 ^ (j + 1) + 1) ≤ 2 ^ (j + 1) * 2 ^ (63 - j) := Int.mul_le_mul_of_nonneg_left (by omega) (by omega)
    rw [← e, Int.mul_add] at h3
    omega
  rw [wrap_pow j (by omega), or_join L (2 ^ j) (j + 1) L0 L1 (by omega) (by omega) (by omega) m0]
  omega

/-- the quotient takes the bit -/
def Taken (N d : Int) (j : Nat) (r qh ql : Int) : Prop :=
  (64 ≤ j → DM N d j r (bits .or .u64 qh (IntKind.u64.wrap (2 ^ (j - 64)))) ql) ∧ (j < 64 → DM N d j r qh (bits .or .u64 ql (IntKind.u64.wrap (2 ^ j))))

theorem DM.step {N d : Int} {j : Nat} {r qh ql b : Int} (h : DM N d (j + 1) r qh ql) (hj : j ≤ 127) (N0 : 0 ≤ N) (N1 : N < 340282366920938463463374607431768211456) (d0 : 1 ≤ d) (hb : b = N / 2 ^ j % 2) :
    (2 * r + b < d → DM N d j (2 * r + b) qh ql) ∧ (d ≤ 2 * r + b → Taken N d j (2 * r + b - d) qh ql) := by
  have p := two_pow_pos j
  have hM : N / 2 ^ (j + 1) = N / 2 ^ j / 2 := by rw [Int.pow_succ, ← Int.ediv_ediv_of_nonneg (by omega)]
  obtain ⟨w0, w1⟩ := DM.whole (k := j + 1) N0 d0
  have m0 : 0 ≤ N / 2 ^ j := Int.ediv_nonneg N0 (by omega)
  obtain ⟨er, eh, el⟩ := h
  rw [hM] at er eh el w0 w1
  obtain ⟨M', hM'⟩ : ∃ M', N / 2 ^ j = M' := ⟨_, rfl⟩
  rw [hM'] at er eh el w0 w1 hb m0
  have hs : M' = 2 * (M' / 2) + b := by omega
  obtain ⟨d1, d2⟩ := div_bit (M' / 2) d b d0 (by omega) (by omega)
  rw [← er, ← hs] at d1 d2
  have Q0 : 0 ≤ M' / 2 / d := Int.ediv_nonneg (by omega) (by omega)
  constructor
  · intro hlt
    obtain ⟨a1, a2⟩ := d1 hlt
    have e : M' / d * 2 ^ j = M' / 2 / d * 2 ^ (j + 1) := by rw [a1, Int.pow_succ, Int.mul_comm 2, Int.mul_assoc, Int.mul_comm 2]
    exact ⟨by rw [hM', a2], by rw [hM', e]; exact eh, by rw [hM', e]; exact el⟩
  · intro hge
    obtain ⟨a1, a2⟩ := d2 hge
    refine ⟨fun h64 => ?_, fun h64 => ?_⟩
    · obtain ⟨s1, s2⟩ := set_high (M' / 2 / d) j h64 hj Q0 (by omega)
      rw [eh, el, s1, s2]
      exact ⟨by rw [hM', a2], by rw [hM', a1], by rw [hM', a1]⟩
    · obtain ⟨s1, s2⟩ := set_low (M' / 2 / d) j h64 Q0
      rw [eh, el, s1, s2]
      exact ⟨by rw [hM', a2], by rw [hM', a1], by rw [hM', a1]⟩
end Go.Proofs.Ytdbemgjjahcabaa
