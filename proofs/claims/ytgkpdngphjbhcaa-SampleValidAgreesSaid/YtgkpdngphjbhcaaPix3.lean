/- A generated pixel, said by what it holds and no more. -/
import Derived.Test.YtgkpdngphjbhcaaPix2
namespace Go.Proofs.Ytgkpdngphjbhcaa
open Go.RowKit

theorem genPixel_ex (n0 n1 n2 n3 n4 m : Int) (w : World) (m0 : 0 ≤ m) (m1 : m ≤ 65535) (h0 : -9223372036854775808 ≤ n0) (g0 : n0 ≤ 9223372036854775807) (h1 : -9223372036854775808 ≤ n1) (g1 : n1 ≤ 9223372036854775807) (h2 : -9223372036854775808 ≤ n2) (g2 : n2 ≤ 9223372036854775807) (h3 : -9223372036854775808 ≤ n3) (g3 : n3 ≤ 9223372036854775807) (h4 : -9223372036854775808 ≤ n4) (g4 : n4 ≤ 9223372036854775807) :
    Calls Try.prog 22 #[.agg #[.int .i64 n0, .int .i64 n1, .int .i64 n2, .int .i64 n3, .int .i64 n4], .int .u16 m] w fun e w' =>
      ∃ x y z a f : Int, e = .returned (.agg #[.int .u16 x, .int .u16 y, .int .u16 z, .int .u16 a, .int .u16 f]) ∧ validB x y z a f m = true ∧ 0 ≤ x ∧ 0 ≤ y ∧ 0 ≤ z ∧ ∃ o1 o2 : Obj, ∃ n : Nat, w' = (((w.alloc o1).alloc o2).drewN n) := by
  refine (genPixel n0 n1 n2 n3 n4 m w m0 m1 h0 g0 h1 g1 h2 g2 h3 g3 h4 g4).mono ?_
  rintro e w' ⟨rfl, hw⟩
  obtain ⟨f0, f1⟩ := gsam_bounds n4 m m0
  obtain ⟨a0, a1⟩ := galp_bounds n3 n4 m m0
  obtain ⟨x0, x1⟩ := gsam_bounds n0 (galp n3 n4 m) a0
  obtain ⟨y0, y1⟩ := gsam_bounds n1 (galp n3 n4 m) a0
  obtain ⟨z0, z1⟩ := gsam_bounds n2 (galp n3 n4 m) a0
  exact ⟨_, _, _, _, _, rfl, decide_eq_true ⟨x1, y1, z1, a1, f1⟩, x0, y0, z0, hw⟩

/-- a number scaled is not above the number, and grows with the factor -/
theorem scaled_le (x k m : Int) (m0 : 1 ≤ m) (x0 : 0 ≤ x) (k1 : k ≤ m) : halfI (x * k) m ≤ x :=
  half_mul_le _ _ _ m0 (Int.mul_le_mul_of_nonneg_left k1 x0)
theorem scaled_mono (x j k m : Int) (m0 : 0 ≤ m) (x0 : 0 ≤ x) (h : j ≤ k) : halfI (x * j) m ≤ halfI (x * k) m :=
  half_mono _ _ _ (Int.mul_le_mul_of_nonneg_left h x0) m0
theorem valid_parts {x y z a f m : Int} (hv : validB x y z a f m = true) : x ≤ a ∧ y ≤ a ∧ z ≤ a ∧ a ≤ f ∧ f ≤ m := by simpa [validB] using hv
end Go.Proofs.Ytgkpdngphjbhcaa
