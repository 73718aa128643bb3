/- The walk of RoundMulDivAgrees: it returns true. -/
import Derived.Test.YtjefcchdcoiinaaLaw01
import Derived.Test.YtjefcchdcoiinaaRefMD
namespace Go.Proofs.Ytjefcchdcoiinaa
open Go.RowKit
set_option linter.unusedVariables false

theorem calls_drew {P : Program} {f : FuncId} {args : Array Value} {w : World} {v : Value} (h : Calls P f args w fun e w' => e = .returned v ∧ ∃ n, w' = w.drewN n) :
    Calls P f args w fun e w' => e = .returned v ∧ ∃ p, w' = more w p :=
  h.mono fun _ _ ⟨he, n, hw⟩ => ⟨he, ⟨[], n⟩, hw⟩

set_option maxHeartbeats 4000000 in
theorem roundMulDivAgrees_walk (a b d k : Int) (w : World) (a0 : 0 ≤ a) (a1 : a ≤ 18446744073709551615) (b0 : 0 ≤ b) (b1 : b ≤ 18446744073709551615) (d0 : 0 ≤ d) (d1 : d ≤ 18446744073709551615) (k0 : -9223372036854775808 ≤ k) (k1 : k ≤ 9223372036854775807) :
    Calls Try.prog 13 #[.int .u64 a, .int .u64 b, .int .u64 d, .int .i64 k] w fun e w' => e = .returned (.bool true) ∧ Below w.heap.size w w' := by
  obtain ⟨j, hj⟩ : ∃ j : Nat, k % 64 = (j : Int) := Int.eq_ofNat_of_zero_le (by omega)
  have CM : ∀ W : World, Calls Try.prog 16 #[.int .i64 k, .int .i64 64] W fun e w' => e = .returned (.int .i64 (j : Int)) ∧ W = w' := fun W => by rw [← hj]; exact mod_call k 64 W (by omega) (by omega)
  have j0 : (0 : Int) ≤ (j : Int) := by omega
  have j1 : (j : Int) ≤ 63 := by omega
  obtain ⟨E0, hE0⟩ : ∃ E, a / 2 ^ j = E := ⟨_, rfl⟩
  have p := pow2_pos j
  have E00 : 0 ≤ E0 := by rw [← hE0]; exact Int.ediv_nonneg a0 (by omega)
  have E01 : E0 ≤ a := by rw [← hE0]; exact Int.ediv_le_self _ a0
  obtain ⟨E, hE⟩ : ∃ E, IntKind.u64.wrap (E0 + 1) = E := ⟨_, rfl⟩
  have hEb : 0 ≤ E ∧ E ≤ 18446744073709551615 := by rw [← hE, IntKind.wrap_u64]; omega
  obtain ⟨E1, E2⟩ := hEb
  have M1 := fun w => calls_drew (muldiv_call a b d w a0 a1 b0 b1 d0 d1)
  have M2 := fun w => calls_drew (muldiv_call a b E w a0 a1 b0 b1 E1 E2)
  have R1 := fun w => refMulDiv_call a b d w a0 a1 b0 b1 d0 d1
  have R2 := fun w => refMulDiv_call a b E w a0 a1 b0 b1 E1 E2
  have AW := fun w => calls_drew (awake01_call w)
  replace CM := Lib.hid @CM
  replace M1 := Lib.hid @M1
  replace M2 := Lib.hid @M2
  replace R1 := Lib.hid @R1
  replace R2 := Lib.hid @R2
  replace AW := Lib.hid @AW
  clear hj p
  go_enter Try.func13, Try.ntmps13
  go_wp2_with (first
    | (go_at_call 16; (with_reducible refine (CM.out _).mono ?_); rintro e w' ⟨rfl, rfl⟩)
    | (go_at_call 29; first
      | ((with_reducible refine (calls_more (M1.out _)).mono ?_); rintro e w1 ⟨rfl, p, rfl⟩)
      | ((with_reducible refine (M1.out _).mono ?_); rintro e w1 ⟨rfl, p, rfl⟩)
      | ((with_reducible refine (calls_more (M2.out _)).mono ?_); rintro e w1 ⟨rfl, p, rfl⟩))
    | (go_at_call 31; first
      | ((with_reducible refine (calls_more (R1.out _)).mono ?_); rintro e w1 ⟨rfl, p, rfl⟩)
      | ((with_reducible refine (calls_more (R2.out _)).mono ?_); rintro e w1 ⟨rfl, p, rfl⟩))
    | (go_at_call 26; ((with_reducible refine (calls_more (AW.out _)).mono ?_); rintro e w1 ⟨rfl, p, rfl⟩)))
  go_ret
  exact ⟨rfl, more_below _ _⟩
end Go.Proofs.Ytjefcchdcoiinaa
