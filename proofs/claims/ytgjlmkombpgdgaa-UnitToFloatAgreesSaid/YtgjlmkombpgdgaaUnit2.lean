/- Contracts of shifted and of FromFloat. -/
import Derived.Test.YtgjlmkombpgdgaaUnit
import Derived.Test.YtgjlmkombpgdgaaTail
import Derived.Test.YtgjlmkombpgdgaaDivP
namespace Go.Proofs.Ytgjlmkombpgdgaa
open Go.RowKit FL
set_option linter.unusedVariables false

theorem pow_le {a b : Nat} (h : a ≤ b) : (2 : Int) ^ a ≤ 2 ^ b := by
  rw [pow2_cast, pow2_cast]
  have := Nat.pow_le_pow_right (show 0 < 2 by decide) h
  omega
theorem sh_high {S A P : Int} {n : Nat} (h : 64 < n) (hP : (2 : Int) ^ (n - 65) = P) (hS : A + (P * 18446744073709551616 + 0) = S) : S / 18446744073709551616 / 2 ^ (n - 64) = (A + 2 ^ (n - 1)) / 2 ^ n := by
  have e0 : (18446744073709551616 : Int) = 2 ^ 64 := by decide
  have e1 : (2 : Int) ^ n = 18446744073709551616 * 2 ^ (n - 64) := by rw [e0, ← Int.pow_add]; congr 1; omega
  have e2 : (2 : Int) ^ (n - 1) = 2 ^ (n - 65) * 18446744073709551616 := by rw [e0, ← Int.pow_add]; congr 1; omega
  rw [e1, e2, hP, ← hS, Int.add_zero, Int.ediv_ediv_of_nonneg (by omega)]
theorem sh_low {S : Int} {n : Nat} (n0 : 53 ≤ n) (n1 : n < 64) (S0 : 0 ≤ S) (S1 : S < 1198038388604190842880) : bits .or .u64 (IntKind.u64.wrap (S / 18446744073709551616 * 2 ^ (64 - n))) (S % 18446744073709551616 / 2 ^ n) = S / 2 ^ n := by
  obtain ⟨k, hk⟩ : ∃ k : Nat, k = 64 - n := ⟨_, rfl⟩
  have K1 := pow2_pos k
  have K2 := pow_le (show k ≤ 11 by omega)
  have N1 := pow2_pos n
  have e : (18446744073709551616 : Int) = 2 ^ k * 2 ^ n := by rw [← Int.pow_add, show k + n = 64 by omega]; decide
  obtain ⟨H, hH⟩ : ∃ H, S / 18446744073709551616 = H := ⟨_, rfl⟩
  obtain ⟨L, hL⟩ : ∃ L, S % 18446744073709551616 = L := ⟨_, rfl⟩
  have H0 : 0 ≤ H := by omega
  have H1 : H ≤ 64 := by omega
  have L0 : 0 ≤ L := by omega
  have hS : S = H * 18446744073709551616 + L := by omega
  have m1 := Int.mul_le_mul H1 K2 (by omega) (by decide)
  have m0 := Int.mul_nonneg H0 (show (0 : Int) ≤ 2 ^ k by omega)
  rw [hH, hL, ← hk, IntWalk.u64_in _ (by omega)]
  have l2 : L / 2 ^ n < 2 ^ k := Int.ediv_lt_of_lt_mul (by omega) (by rw [← e]; omega)
  have l3 : 0 ≤ L / 2 ^ n := Int.ediv_nonneg L0 (by omega)
  rw [or_join _ _ k m0 (by omega) l3 l2 (by omega) (Int.mul_emod_left _ _), hS, e, ← Int.mul_assoc, Int.add_comm (H * 2 ^ k * 2 ^ n), Int.add_mul_ediv_right _ _ (by omega), Int.add_comm]
set_option maxHeartbeats 400000 in
theorem shifted_call (ah al : Int) (n : Nat) (w : World) (a0 : 0 ≤ ah) (a1 : ah < 64) (l0 : 0 ≤ al) (l1 : al ≤ 18446744073709551615) (n0 : 53 ≤ n) (n1 : n ≤ 100) :
    Calls Try.prog 20 #[.agg #[.int .u64 ah, .int .u64 al], .int .i64 n] w fun e w' => e = .returned (.int .u64 ((ah * 18446744073709551616 + al + 2 ^ (n - 1)) / 2 ^ n)) ∧ ∃ p, w' = more w p := by
  by_cases h : 64 < n
  · obtain ⟨P, hP⟩ : ∃ P : Int, (2 : Int) ^ (n - 65) = P := ⟨_, rfl⟩
    have p0 : 0 ≤ P := by have := pow2_pos (n - 65); omega
    have p1 : P ≤ 34359738368 := by have := pow_le (show n - 65 ≤ 35 by omega); omega
    obtain ⟨S, hS⟩ : ∃ S : Int, ah * 18446744073709551616 + al + (P * 18446744073709551616 + 0) = S := ⟨_, rfl⟩
    have C := Lib.hid @(fun w => wideAdd_call ah al P 0 S a0 l0 p0 (by omega) l1 (by omega) hS (by omega) w)
    have hw : IntKind.u64.wrap (2 ^ (n - 65)) = P := by rw [hP]; exact IntWalk.u64_in _ (by omega)
    have hP' := Lib.hid hP
    have hS' := Lib.hid hS
    clear hP hS
    go_enter Try.func20, Try.ntmps20
    go_wp2_with (go_at_call 25; (with_reducible refine (C.out _).mono ?_); rintro e w' ⟨rfl, rfl⟩)
    go_ret
    exact ⟨ret_int (sh_high h hP'.out hS'.out), ⟨[_, _, _, _, _, _], 0⟩, rfl⟩
  · by_cases h : n = 64
    · subst h
      obtain ⟨S, hS⟩ : ∃ S : Int, ah * 18446744073709551616 + al + (0 * 18446744073709551616 + 9223372036854775808) = S := ⟨_, rfl⟩
      have C := Lib.hid @(fun w => wideAdd_call ah al 0 9223372036854775808 S a0 l0 (by omega) (by omega) l1 (by omega) hS (by omega) w)
      have hS' := Lib.hid hS
      clear hS
      go_enter Try.func20, Try.ntmps20
      go_wp2_with (go_at_call 25; (with_reducible refine (C.out _).mono ?_); rintro e w' ⟨rfl, rfl⟩)
      go_ret
      have e := hS'.out
      exact ⟨ret_int (by omega), ⟨[_, _, _, _, _, _], 0⟩, rfl⟩
    · obtain ⟨P, hP⟩ : ∃ P : Int, (2 : Int) ^ (n - 1) = P := ⟨_, rfl⟩
      have p0 : 0 ≤ P := by have := pow2_pos (n - 1); omega
      have p1 : P ≤ 4611686018427387904 := by have := pow_le (show n - 1 ≤ 62 by omega); omega
      obtain ⟨S, hS⟩ : ∃ S : Int, ah * 18446744073709551616 + al + (0 * 18446744073709551616 + P) = S := ⟨_, rfl⟩
      have C := Lib.hid @(fun w => wideAdd_call ah al 0 P S a0 l0 (by omega) (by omega) l1 (by omega) hS (by omega) w)
      have hw : IntKind.u64.wrap (2 ^ (n - 1)) = P := by rw [hP]; exact IntWalk.u64_in _ (by omega)
      have SS := Lib.hid (show 0 ≤ S ∧ S < 1198038388604190842880 by omega)
      have hP' := Lib.hid hP
      have hS' := Lib.hid hS
      clear hP hS
      have n2 : n < 64 := by omega
      go_enter Try.func20, Try.ntmps20
      go_wp2_with (go_at_call 25; (with_reducible refine (C.out _).mono ?_); rintro e w' ⟨rfl, rfl⟩)
      go_region
      all_goals go_wp2
      all_goals go_ret
      all_goals exact ⟨ret_int (by rw [sh_low n0 n2 SS.out.1 SS.out.2, ← hS'.out, ← hP'.out, Int.zero_mul, Int.zero_add]), ⟨[_, _, _, _, _, _], 1⟩, rfl⟩
end Go.Proofs.Ytgjlmkombpgdgaa
