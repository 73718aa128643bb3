/- Contract of round.MulDiv. -/
import Derived.Test.YtdbemgjjahcabaaDiv64
namespace Go.Proofs.Ytdbemgjjahcabaa
open Go.RowKit

theorem div64_call (hi lo y : Int) (w : World) (h0 : 0 ≤ hi) (h1 : hi < y) (y1 : y ≤ 18446744073709551615) (l0 : 0 ≤ lo) (l1 : lo ≤ 18446744073709551615) :
    Calls Try.prog 55 #[.int .u64 hi, .int .u64 lo, .int .u64 y] w fun e w' => e = .returned (.tuple #[.int .u64 (divQ hi lo y), .int .u64 (divR hi lo y)]) ∧ ∃ n, w' = w.drewN n := by
  by_cases h : hi = 0
  · subst h; exact div64_low lo y w (by omega) y1 l0 l1
  · exact (div64_high hi lo y w (by omega) h1 y1 l0 l1).mono fun e w' ⟨he, hw⟩ => ⟨he, 0, hw.symm⟩

/-- Whether a * b / d has a nearest integer of 64 bits, and which. -/
def mdB (a b d : Int) : Bool := decide (d ≠ 0 ∧ halfI (a * b) d ≤ 18446744073709551615)
def mdV (a b d : Int) : Int := if mdB a b d = true then halfI (a * b) d else 0

theorem mul_hi_lo (a b : Int) (a0 : 0 ≤ a) (a1 : a ≤ 18446744073709551615) (b0 : 0 ≤ b) (b1 : b ≤ 18446744073709551615) :
    0 ≤ a * b / 18446744073709551616 ∧ a * b / 18446744073709551616 ≤ 18446744073709551614 ∧ 0 ≤ a * b % 18446744073709551616 ∧ a * b % 18446744073709551616 ≤ 18446744073709551615 ∧ a * b / 18446744073709551616 * 18446744073709551616 + a * b % 18446744073709551616 = a * b := by
  obtain ⟨p0, p1⟩ := mul_bound a b 18446744073709551615 18446744073709551615 a0 b0 a1 b1
  omega

theorem md_cases (a b d q r : Int) (d0 : 1 ≤ d) (hq : a * b / d = q) (hr : a * b % d = r) :
    (d - r ≤ r → q = 18446744073709551615 → mdV a b d = 0 ∧ mdB a b d = false) ∧
    (d - r ≤ r → q < 18446744073709551615 → mdV a b d = q + 1 ∧ mdB a b d = true) ∧
    (r < d - r → q ≤ 18446744073709551615 → mdV a b d = q ∧ mdB a b d = true) := by
  have hh : halfI (a * b) d = if d - r ≤ r then q + 1 else q := by
    unfold halfI; rw [if_neg (by omega), hq, hr]
  refine ⟨fun h1 h2 => ?_, fun h1 h2 => ?_, fun h1 h2 => ?_⟩
  · have hb : mdB a b d = false := by
      unfold mdB; rw [hh, if_pos h1]; exact decide_eq_false (by omega)
    exact ⟨by unfold mdV; rw [hb]; rfl, hb⟩
  · have hb : mdB a b d = true := by
      unfold mdB; rw [hh, if_pos h1]; exact decide_eq_true (by omega)
    exact ⟨by unfold mdV; rw [if_pos hb, hh, if_pos h1], hb⟩
  · have hb : mdB a b d = true := by
      unfold mdB; rw [hh, if_neg (by omega)]; exact decide_eq_true (by omega)
    exact ⟨by unfold mdV; rw [if_pos hb, hh, if_neg (by omega)], hb⟩

end Go.Proofs.Ytdbemgjjahcabaa
