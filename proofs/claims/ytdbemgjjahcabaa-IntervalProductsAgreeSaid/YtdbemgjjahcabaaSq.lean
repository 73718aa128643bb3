/- Plain arithmetic of square roots, bit by bit. -/
import Derived.Test.YtdbemgjjahcabaaBits
namespace Go.Proofs.Ytdbemgjjahcabaa
set_option linter.unusedVariables false

/-- r is the greatest integer whose square is at most N. -/
structure Root (N r : Int) : Prop where
  r0 : 0 ≤ r
  r1 : r ≤ 18446744073709551615
  lo : r * r ≤ N
  hi : N < (r + 1) * (r + 1)
theorem sq_mono {a b : Int} (a0 : 0 ≤ a) (h : a ≤ b) : a * a ≤ b * b := Int.mul_le_mul h h a0 (Int.le_trans a0 h)
theorem Root.le {N r c : Int} (h : Root N r) (c0 : 0 ≤ c) : c * c ≤ N ↔ c ≤ r := by
  constructor
  · intro hc
    apply Int.not_lt.1
    intro hl
    have := sq_mono (a := r + 1) (b := c) (by have := h.r0; omega) (by omega)
    have := h.hi
    omega
  · intro hc
    exact Int.le_trans (sq_mono c0 hc) h.lo
theorem nat_root (n : Nat) : ∃ r : Nat, r * r ≤ n ∧ n < (r + 1) * (r + 1) := by
  induction n with
  | zero => exact ⟨0, by simp, by simp⟩
  | succ n ih =>
    obtain ⟨r, h1, h2⟩ := ih
    by_cases h : n + 1 < (r + 1) * (r + 1)
    · exact ⟨r, by omega, h⟩
    · refine ⟨r + 1, by omega, ?_⟩
      have e : (r + 1 + 1) * (r + 1 + 1) = (r + 1) * (r + 1) + (r + 1) + (r + 1) + 1 := by
        rw [Nat.add_mul (r + 1) 1, Nat.mul_add (r + 1) (r + 1) 1]; omega
      omega
theorem root_ex (N : Int) (h0 : 0 ≤ N) (h1 : N < 340282366920938463463374607431768211456) : ∃ r, Root N r := by
  obtain ⟨r, a, b⟩ := nat_root N.toNat
  have a' : (r : Int) * (r : Int) ≤ N := by rw [← Int.natCast_mul]; omega
  have b' : N < ((r : Int) + 1) * ((r : Int) + 1) := by
    have : ((r : Int) + 1) * ((r : Int) + 1) = (((r + 1) * (r + 1) : Nat) : Int) := by rw [Int.natCast_mul]; rfl
    rw [this]; omega
  refine ⟨r, by omega, ?_, a', b'⟩
  apply Int.not_lt.1
  intro hl
  have := sq_mono (a := 18446744073709551616) (b := (r : Int)) (by omega) (by omega)
  omega
theorem Root.unique {N r s : Int} (h : Root N r) (g : Root N s) : r = s := by
  have h1 := (h.le g.r0).1 g.lo
  have h2 := (g.le h.r0).1 h.lo
  omega
noncomputable def isq (N : Int) : Int := Classical.epsilon (Root N)
theorem isq_spec {N : Int} (h0 : 0 ≤ N) (h1 : N < 340282366920938463463374607431768211456) : Root N (isq N) := by
  exact Classical.epsilon_spec (root_ex N h0 h1)
/-- the bit that is tried when k bits are left, and what is known -/
def sqB (k : Nat) : Int := match k with | 0 => 0 | j + 1 => 2 ^ j
def sqX (r : Int) (k : Nat) : Int := r / 2 ^ k * 2 ^ k
theorem sqX_start {r : Int} (r0 : 0 ≤ r) (r1 : r ≤ 18446744073709551615) : sqX r 64 = 0 := by
  unfold sqX
  rw [Int.ediv_eq_zero_of_lt r0 (by omega), Int.zero_mul]
theorem sqX_end (r : Int) : sqX r 0 = r := by unfold sqX; rw [Int.pow_zero, Int.ediv_one, Int.mul_one]
theorem sqX_step {r : Int} {j : Nat} (r0 : 0 ≤ r) (r1 : r ≤ 18446744073709551615) (hj : j ≤ 63) :
    0 ≤ sqX r (j + 1) ∧ 1 ≤ (2 : Int) ^ j ∧ (2 : Int) ^ j ≤ 9223372036854775808 ∧ sqX r (j + 1) + 2 ^ j ≤ 18446744073709551615 ∧ bits .or .u64 (sqX r (j + 1)) (2 ^ j) = sqX r (j + 1) + 2 ^ j ∧
    (sqX r (j + 1) + 2 ^ j ≤ r → sqX r j = sqX r (j + 1) + 2 ^ j) ∧ (r < sqX r (j + 1) + 2 ^ j → sqX r j = sqX r (j + 1)) ∧ (2 : Int) ^ j / 2 = sqB j := by
  have p := two_pow_pos j
  have hs : (2 : Int) ^ (j + 1) = 2 ^ j * 2 := Int.pow_succ _ _
  have h63 : (2 : Int) ^ j ≤ 9223372036854775808 := by
    have : (2 : Int) ^ j ≤ 2 ^ 63 := by
      rw [pow2_cast, pow2_cast]
      exact Int.ofNat_le.2 (Nat.pow_le_pow_right (by omega) hj)
    omega
  have e := Int.mul_ediv_add_emod r (2 ^ (j + 1))
  have m0 := Int.emod_nonneg r (b := 2 ^ (j + 1)) (by omega)
  have m1 := Int.emod_lt_of_pos r (b := 2 ^ (j + 1)) (by omega)
  have q0 : 0 ≤ r / 2 ^ (j + 1) := Int.ediv_nonneg r0 (by omega)
  have x0 : 0 ≤ sqX r (j + 1) := Int.mul_nonneg q0 (by omega)
  have top : (r / 2 ^ (j + 1) + 1) * 2 ^ (j + 1) ≤ 18446744073709551616 := by
    have e64 : (18446744073709551616 : Int) = 2 ^ (63 - j) * 2 ^ (j + 1) := by
      rw [← Int.pow_add, show 63 - j + (j + 1) = 64 by omega]; rfl
    have hq : r / 2 ^ (j + 1) < 2 ^ (63 - j) := (Int.ediv_lt_iff_lt_mul (by omega)).2 (by omega)
    rw [e64]
    exact Int.mul_le_mul_of_nonneg_right (by omega) (by omega)
  rw [Int.add_mul, Int.one_mul] at top
  have hx : sqX r (j + 1) = r / 2 ^ (j + 1) * 2 ^ (j + 1) := rfl
  refine ⟨x0, p, h63, by omega, ?_, ?_, ?_, ?_⟩
  · exact or_join _ _ (j + 1) x0 (by omega) (by omega) (by omega) (by omega) (Int.mul_emod_left _ _)
  · intro h
    have hd : r / 2 ^ j = 2 * (r / 2 ^ (j + 1)) + 1 := by
      refine ((Int.ediv_emod_unique (r := r - sqX r (j + 1) - 2 ^ j) (by omega)).2 ⟨?_, by omega, ?_⟩).1
      · rw [Int.mul_add, Int.mul_one, hx, hs]
        have : 2 ^ j * (2 * (r / (2 ^ j * 2))) = r / (2 ^ j * 2) * (2 ^ j * 2) := by rw [← Int.mul_assoc, Int.mul_comm]
        omega
      · rw [Int.mul_comm] at e; omega
    show r / 2 ^ j * 2 ^ j = _
    rw [hd, hx, hs, Int.add_mul, Int.one_mul, Int.mul_comm 2, Int.mul_assoc, Int.mul_comm 2]
  · intro h
    have hd : r / 2 ^ j = 2 * (r / 2 ^ (j + 1)) := by
      refine ((Int.ediv_emod_unique (r := r - sqX r (j + 1)) (by omega)).2 ⟨?_, ?_, by omega⟩).1
      · rw [hx, hs]
        have : 2 ^ j * (2 * (r / (2 ^ j * 2))) = r / (2 ^ j * 2) * (2 ^ j * 2) := by rw [← Int.mul_assoc, Int.mul_comm]
        omega
      · rw [Int.mul_comm] at e; omega
    show r / 2 ^ j * 2 ^ j = _
    rw [hd, hx, hs, Int.mul_comm 2, Int.mul_assoc, Int.mul_comm 2]
  · match j with
    | 0 => rfl
    | i + 1 => rw [Int.pow_succ, Int.mul_ediv_cancel _ (by decide)]; rfl
/-- the root rounded up -/
noncomputable def csq (N : Int) : Int := if isq N * isq N < N then isq N + 1 else isq N
/-- how two numbers stand to each other -/
def cmpI (x y : Int) : Int := if x < y then -1 else if y < x then 1 else 0
def orI (a b : Int) : Int := if a = 0 then b else a
theorem cmp_wide {ah al bh bl : Int} (a0 : 0 ≤ al) (a1 : al ≤ 18446744073709551615) (b0 : 0 ≤ bl) (b1 : bl ≤ 18446744073709551615) :
    orI (cmpI ah bh) (cmpI al bl) = cmpI (ah * 18446744073709551616 + al) (bh * 18446744073709551616 + bl) := by
  unfold orI cmpI
  repeat' split
  all_goals omega
theorem cmp_le (x y : Int) : decide (cmpI x y ≤ 0) = decide (x ≤ y) := by
  unfold cmpI
  apply decide_eq_decide.2
  repeat' split
  all_goals omega
theorem cmp_lt (x y : Int) : decide (cmpI x y < 0) = decide (x < y) := by
  unfold cmpI
  apply decide_eq_decide.2
  repeat' split
  all_goals omega
end Go.Proofs.Ytdbemgjjahcabaa
