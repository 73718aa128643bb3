/- Contracts of ref01.Mul, Of, Add on numbers of 128 bits. -/
import Derived.Test.YtjefcchdcoiinaaRefDiv
import Derived.Laws.Externs
namespace Go.Proofs.Ytjefcchdcoiinaa
open Go.RowKit
set_option linter.unusedVariables false

theorem add64_run (x y c : Int) (x0 : 0 ≤ x) (y0 : 0 ≤ y) (c0 : 0 ≤ c) (c1 : c ≤ 1) (w : World) :
    (callFunc 45 #[.int .u64 x, .int .u64 y, .int .u64 c]).run Try.prog w = .ok (.value (.tuple #[.int .u64 ((x + y + c) % 18446744073709551616), .int .u64 ((x + y + c) / 18446744073709551616)])) w := by
  rw [run_callFunc_extern Try.func45 (by kernel_rfl) (by kernel_rfl) (by kernel_rfl) (e := add64Entry) (by kernel_rfl), run_add64 x y c x0 y0 c0 c1]
  rfl

set_option maxHeartbeats 400000 in
theorem refOf_call (n : Int) (w : World) :
    Calls Try.prog 48 #[.int .u64 n] w fun e w' => e = .returned (.agg #[.int .u64 0, .int .u64 n]) ∧ w.alloc (wideO 0 n) = w' := by
  go_enter Try.func48, Try.ntmps48
  go_wp2
  exact bodyPost_ret (v := .agg #[.int .u64 0, .int .u64 n]) (by simp [results, Try.results48, go_sem]) rfl ⟨rfl, rfl⟩

set_option maxHeartbeats 400000 in
theorem refMul_call (a b : Int) (w : World) (a0 : 0 ≤ a) (a1 : a ≤ 18446744073709551615) (b0 : 0 ≤ b) (b1 : b ≤ 18446744073709551615) :
    Calls Try.prog 37 #[.int .u64 a, .int .u64 b] w fun e w' => e = .returned (.agg #[.int .u64 (a * b / 18446744073709551616), .int .u64 (a * b % 18446744073709551616)]) ∧ w.alloc (wideO (a * b / 18446744073709551616) (a * b % 18446744073709551616)) = w' := by
  have hm := fun w => mul64_call a b w a0 a1 b0 b1
  obtain ⟨H, hH⟩ : ∃ H, a * b / 18446744073709551616 = H := ⟨_, rfl⟩
  obtain ⟨L, hL⟩ : ∃ L, a * b % 18446744073709551616 = L := ⟨_, rfl⟩
  rw [hH, hL] at hm ⊢
  have HM := Lib.hid @hm
  clear hm hH hL
  go_enter Try.func37, Try.ntmps37
  go_wp2_with (go_at_call 40; (with_reducible refine (HM.out _).mono ?_); rintro e w' ⟨rfl, rfl⟩)
  exact bodyPost_ret (v := .agg #[.int .u64 H, .int .u64 L]) (by simp [results, Try.results37, go_sem]) rfl ⟨rfl, rfl⟩

set_option maxHeartbeats 400000 in
theorem refAdd_call (ah al bh bl : Int) (a0 : 0 ≤ ah) (l0 : 0 ≤ al) (b0 : 0 ≤ bh) (k0 : 0 ≤ bl) (l1 : al ≤ 18446744073709551615) (k1 : bl ≤ 18446744073709551615) (hf : ah * 18446744073709551616 + al + (bh * 18446744073709551616 + bl) < 340282366920938463463374607431768211456) :
    ∃ h l : Int, h * 18446744073709551616 + l = ah * 18446744073709551616 + al + (bh * 18446744073709551616 + bl) ∧ 0 ≤ h ∧ h ≤ 18446744073709551615 ∧ 0 ≤ l ∧ l ≤ 18446744073709551615 ∧
    ∀ w : World, Calls Try.prog 38 #[.agg #[.int .u64 ah, .int .u64 al], .agg #[.int .u64 bh, .int .u64 bl]] w fun e w' => e = .returned (.tuple #[.agg #[.int .u64 h, .int .u64 l], .bool true]) ∧
      ((w.alloc (wideO ah al)).alloc (wideO bh bl)).alloc (wideO h l) = w' := by
  obtain ⟨C, hC⟩ : ∃ C, (al + bl) / 18446744073709551616 = C := ⟨_, rfl⟩
  obtain ⟨L, hL⟩ : ∃ L, (al + bl) % 18446744073709551616 = L := ⟨_, rfl⟩
  have C0 : 0 ≤ C := by omega
  have C1 : C ≤ 1 := by omega
  have r1 := fun w => add64_run al bl 0 l0 k0 (by omega) (by omega) w
  have r2 := fun w => add64_run ah bh C a0 b0 C0 C1 w
  rw [show al + bl + 0 = al + bl by omega, hC, hL] at r1
  rw [show (ah + bh + C) % 18446744073709551616 = ah + bh + C by omega, show (ah + bh + C) / 18446744073709551616 = 0 by omega] at r2
  refine ⟨ah + bh + C, L, by omega, by omega, by omega, by omega, by omega, ?_⟩
  generalize ah + bh + C = H at *
  clear hC hL hf
  intro w
  go_enter Try.func38, Try.ntmps38
  go_wp2_with (simp only [r1, r2])
  exact bodyPost_ret (v := .tuple #[.agg #[.int .u64 H, .int .u64 L], .bool true]) (by simp [results, Try.results38, go_sem]) rfl ⟨rfl, rfl⟩
end Go.Proofs.Ytjefcchdcoiinaa
