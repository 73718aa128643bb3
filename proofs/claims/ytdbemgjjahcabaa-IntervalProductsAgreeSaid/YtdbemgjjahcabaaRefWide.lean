/- Contracts of ref01.Mul, Of, Add on numbers of 128 bits. -/
import Derived.Test.YtdbemgjjahcabaaRefDiv
import Derived.Laws.Externs
namespace Go.Proofs.Ytdbemgjjahcabaa
open Go.RowKit
set_option linter.unusedVariables false



set_option maxHeartbeats 400000 in
theorem refMul_call (a b : Int) (w : World) (a0 : 0 ≤ a) (a1 : a ≤ 18446744073709551615) (b0 : 0 ≤ b) (b1 : b ≤ 18446744073709551615) :
    Calls Try.prog 48 #[.int .u64 a, .int .u64 b] w fun e w' => e = .returned (.agg #[.int .u64 (a * b / 18446744073709551616), .int .u64 (a * b % 18446744073709551616)]) ∧ w.alloc (wideO (a * b / 18446744073709551616) (a * b % 18446744073709551616)) = w' := by
  have hm := fun w => mul64_call a b w a0 a1 b0 b1
  obtain ⟨H, hH⟩ : ∃ H, a * b / 18446744073709551616 = H := ⟨_, rfl⟩
  obtain ⟨L, hL⟩ : ∃ L, a * b % 18446744073709551616 = L := ⟨_, rfl⟩
  rw [hH, hL] at hm ⊢
  have HM := Lib.hid @hm
  clear hm hH hL
  go_enter Try.func48, Try.ntmps48
  go_wp2_with (go_at_call 53; (with_reducible refine (HM.out _).mono ?_); rintro e w' ⟨rfl, rfl⟩)
  exact bodyPost_ret (v := .agg #[.int .u64 H, .int .u64 L]) (by simp [results, Try.results48, go_sem]) rfl ⟨rfl, rfl⟩

end Go.Proofs.Ytdbemgjjahcabaa
