/- Contract of round.Sqrt: the greatest integer whose square is at most n. -/
import Derived.Test.YtjefcchdcoiinaaMulDiv
namespace Go.Proofs.Ytjefcchdcoiinaa
open Go.RowKit

/-- r is the integer square root of n. -/
structure IsSqrt (n r : Int) : Prop where
  r0 : 0 ≤ r
  lo : r * r ≤ n
  hi : n < (r + 1) * (r + 1)
theorem sq_mono {a b : Int} (h0 : 0 ≤ a) (h : a ≤ b) : a * a ≤ b * b := Int.mul_le_mul h h h0 (by omega)
theorem IsSqrt.unique {n r t : Int} (h : IsSqrt n r) (k : IsSqrt n t) : r = t := by
  have key : ∀ {a b : Int}, IsSqrt n a → IsSqrt n b → a ≤ b := by
    intro a b ha hb
    apply Int.not_lt.1
    intro c
    have h1 := sq_mono (a := b + 1) (b := a) (by have := hb.r0; omega) (by omega)
    have := ha.lo; have := hb.hi; omega
  exact Int.le_antisymm (key h k) (key k h)
theorem IsSqrt.small {n r : Int} (h : IsSqrt n r) (h1 : n ≤ 18446744073709551615) : r ≤ 4294967295 := by
  apply Int.not_lt.1
  intro c
  have h1 := sq_mono (a := 4294967296) (b := r) (by omega) (by omega)
  have := h.lo; omega

theorem newton (n x : Int) (n1 : 1 ≤ n) (x1 : 1 ≤ x) : n < ((x + n / x) / 2 + 1) * ((x + n / x) / 2 + 1) ∧ 1 ≤ (x + n / x) / 2 ∧ 0 ≤ n / x := by
  obtain ⟨q, hq⟩ : ∃ q, n / x = q := ⟨_, rfl⟩
  have q0 : 0 ≤ q := by rw [← hq]; exact Int.ediv_nonneg (by omega) (by omega)
  have hlt : n < x * (q + 1) := by
    have := Int.lt_mul_ediv_self_add (x := n) (k := x) (by omega)
    rw [hq] at this
    rw [Int.mul_add]; omega
  rw [hq]
  obtain ⟨y, hy⟩ : ∃ y, (x + q) / 2 = y := ⟨_, rfl⟩
  have hy2 : x + q + 1 ≤ 2 * (y + 1) := by omega
  rw [hy]
  have h1 := sq_mono (a := x + q + 1) (b := 2 * (y + 1)) (by omega) hy2
  have e1 : 2 * (y + 1) * (2 * (y + 1)) = 4 * ((y + 1) * (y + 1)) := by
    rw [Int.mul_assoc, Int.mul_left_comm (y + 1) 2, ← Int.mul_assoc]; rfl
  have e2 : (x + q + 1) * (x + q + 1) = 4 * (x * (q + 1)) + (x - (q + 1)) * (x - (q + 1)) := by
    have e : x + q + 1 = x + (q + 1) := by omega
    rw [e]
    generalize q + 1 = p
    simp only [Int.add_mul, Int.mul_add, Int.sub_mul, Int.mul_sub, Int.mul_comm p x]
    omega
  have e3 : 0 ≤ (x - (q + 1)) * (x - (q + 1)) := by
    rcases Int.le_total 0 (x - (q + 1)) with h | h
    · exact Int.mul_nonneg h h
    · have h' : 0 ≤ -(x - (q + 1)) := by omega
      have := Int.mul_nonneg h' h'
      rwa [Int.neg_mul_neg] at this
  have h2 : n < (y + 1) * (y + 1) := by omega
  refine ⟨h2, ?_, q0⟩
  apply Int.not_lt.1
  intro c
  have : y = 0 := by omega
  subst this
  omega
/-- where the next guess is not less, the guess is the root -/
theorem newton_end (n x : Int) (x1 : 1 ≤ x) (h : n < (x + 1) * (x + 1)) (t : x ≤ (x + n / x) / 2) : IsSqrt n x := by
  refine ⟨by omega, ?_, h⟩
  have hq : x ≤ n / x := by omega
  exact (Int.le_ediv_iff_mul_le (by omega)).1 hq
theorem quo_root (n x : Int) (x1 : 1 ≤ x) (h : n < (x + 1) * (x + 1)) : n / x ≤ x + 2 := by
  have : n / x < x + 3 := Int.ediv_lt_of_lt_mul (by omega) (by
    have e : (x + 1) * (x + 1) = x * x + 2 * x + 1 := by simp only [Int.add_mul, Int.mul_add]; omega
    have e' : (x + 3) * x = x * x + 3 * x := by rw [Int.add_mul]
    omega)
  omega
theorem start (n : Int) (n1 : 1 ≤ n) (n2 : n ≤ 18446744073709551615) :
    ∃ (k : Nat) (X : Int), k ≤ 32 ∧ ((Lib.bitLen n.toNat : Int) + 1) / 2 = (k : Int) ∧ (2 : Int) ^ k = X ∧ 1 ≤ X ∧ X ≤ 4294967296 ∧ n < (X + 1) * (X + 1) ∧ (Lib.bitLen n.toNat : Int) ≤ 64 ∧ 0 ≤ (Lib.bitLen n.toNat : Int) := by
  obtain ⟨b1, b2, b3, b4⟩ := bitLen_bounds n n1 n2
  generalize Lib.bitLen n.toNat = L at *
  refine ⟨(L + 1) / 2, 2 ^ ((L + 1) / 2), by omega, by omega, rfl, pow2_pos _, ?_, ?_, by omega, by omega⟩
  · rw [pow2_cast]
    have : 2 ^ ((L + 1) / 2) ≤ 2 ^ 32 := Nat.pow_le_pow_right (by omega) (by omega)
    omega
  · have h : n.toNat < 2 ^ ((L + 1) / 2) * 2 ^ ((L + 1) / 2) := by
      rw [← Nat.pow_add]
      exact Nat.lt_of_lt_of_le b4 (Nat.pow_le_pow_right (by omega) (by omega))
    have h' : n < (2 : Int) ^ ((L + 1) / 2) * 2 ^ ((L + 1) / 2) := by
      rw [pow2_cast, ← Int.natCast_mul]; omega
    have p := pow2_pos ((L + 1) / 2)
    have := sq_mono (a := (2 : Int) ^ ((L + 1) / 2)) (b := 2 ^ ((L + 1) / 2) + 1) (by omega) (by omega)
    omega

def SqrtPost (n : Int) (w : World) (e : Ending) (w' : World) : Prop := ∃ r : Int, IsSqrt n r ∧ r ≤ 4294967295 ∧ e = .returned (.int .u64 r) ∧ w = w'

set_option maxHeartbeats 1000000 in
theorem sqrt_call (n : Int) (w : World) (n0 : 0 ≤ n) (n1 : n ≤ 18446744073709551615) :
    Calls Try.prog 30 #[.int .u64 n] w (SqrtPost n w) := by
  by_cases hn : n = 0
  · subst hn
    go_enter Try.func30, Try.ntmps30
    go_wp2
    go_ret
    exact ⟨0, ⟨by omega, by omega, by omega⟩, by omega, rfl, rfl⟩
  · have hz : (n == 0) = false := by simpa using hn
    have n2 : 1 ≤ n := by omega
    obtain ⟨k, X, k32, r1, r2, X1, X2, hX, L1, L0⟩ := start n n2 n1
    have HX := Lib.hid hX
    have ks : (k : Int) ≤ 32 := by omega
    clear hX hn
    go_enter Try.func30, Try.ntmps30
    go_wp2_with (go_at_call 42; refine (Try.bits_Len64 _ _ (by omega) (by omega)).mono ?_; rintro e w1 ⟨rfl, rfl⟩)
    go_loop [3] (fun a => ∃ x : Int, Hid (n < (x + 1) * (x + 1)) ∧ 1 ≤ x ∧ x ≤ 4294967296 ∧ a = .int .u64 x) (fun a => (intOf a).toNat)
    case atStart => exact ⟨X, HX, X1, X2, rfl⟩
    case round =>
      obtain ⟨x, hx, x1, x2, rfl⟩ := hrel
      obtain ⟨w1, w2, w3⟩ := newton n x n2 x1
      have w4 := quo_root n x x1 hx.out
      have W1 := Lib.hid w1
      clear w1
      by_cases ht : x ≤ (x + n / x) / 2
      · have he := newton_end n x x1 hx.out ht
        have HE := Lib.hid he
        clear he
        go_wp2
        go_ret
        exact ⟨x, HE.out, HE.out.small n1, rfl, rfl⟩
      · have hq : n / x < x := by omega
        go_wp2
        go_round
        case rel => exact ⟨(x + n / x) / 2, W1, by omega, by omega, rfl⟩
        case measure => simp [intOf]; omega
end Go.Proofs.Ytjefcchdcoiinaa
