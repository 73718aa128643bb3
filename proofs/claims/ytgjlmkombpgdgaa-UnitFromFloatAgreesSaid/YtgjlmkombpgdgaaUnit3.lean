/- Contracts of FromFloat and ToFloat of package unit. -/
import Derived.Test.YtgjlmkombpgdgaaUnit2
namespace Go.Proofs.Ytgjlmkombpgdgaa
open Go.RowKit FL
set_option linter.unusedVariables false

theorem o_ne (b : Nat) : (FloatKind.f64.format.order b b != some .eq) = isn b := by
  have h := order_self b
  show (!(Ieee.double.order b b == some .eq)) = isn b
  rw [h, Bool.not_not]
theorem o_le0 {b : Nat} (h : isn b = false) : (FloatKind.f64.format.order b 0 == some .lt || FloatKind.f64.format.order b 0 == some .eq) = decide (sv b ≤ 0) := by
  have := order_le b 0
  rw [h, isn_zero, sv_zero] at this
  exact this
theorem o_ge1 {b : Nat} (h : isn b = false) : (FloatKind.f64.format.order b 4607182418800017408 == some .gt || FloatKind.f64.format.order b 4607182418800017408 == some .eq) = decide ((big : Int) ≤ sv b) := by
  have := order_ge b 0x3FF0000000000000
  rw [h, isn_one, sv_one] at this
  exact this
theorem tup_if {a c : Int} {x y : Bool} (h : a = c) (h' : x = y) : Ending.returned (.tuple #[.int .u16 a, .bool x]) = .returned (.tuple #[.int .u16 c, .bool y]) := by rw [h, h']

/-- what shifted and the product give between 0 and 1 -/
theorem main_val {b m : Nat} (hm : m ≤ 65535) (h1 : b < 0x3FF0000000000000) : ∃ V : Int, ((mm b : Int) * m / 18446744073709551616 * 18446744073709551616 + (mm b : Int) * m % 18446744073709551616 + 2 ^ (nn b - 1)) / 2 ^ nn b = V ∧ V = (ffN (rv b) m : Nat) ∧ 0 ≤ V ∧ V ≤ 65535 := by
  refine ⟨_, rfl, ?_⟩
  have e : (mm b : Int) * m / 18446744073709551616 * 18446744073709551616 + (mm b : Int) * m % 18446744073709551616 = (mm b : Int) * m := by omega
  have e2 : ((mm b : Int) * m / 18446744073709551616 * 18446744073709551616 + (mm b : Int) * m % 18446744073709551616 + 2 ^ (nn b - 1)) / 2 ^ nn b = (ffN (rv b) m : Nat) := by
    rw [e, ffN_parts m h1, Int.natCast_ediv, Int.natCast_add, Int.natCast_mul, pow2_cast, pow2_cast]
  have h3 := @ffN_mono (rv b) big m (Nat.le_of_lt (rv_lt h1))
  rw [ffN_big] at h3
  exact ⟨e2, by rw [e2]; omega, by rw [e2]; omega⟩

set_option maxHeartbeats 400000 in
theorem ff_call (b m : Nat) (w : World) (hb : b < 18446744073709551616) (hm : m ≤ 65535) :
    Calls Try.prog 12 #[.float .f64 b, .int .u16 m] w fun e w' => e = .returned (.tuple #[.int .u16 (ff b m), .bool (!isn b)]) ∧ ∃ p, w' = more w p := by
  have o1 := o_ne b
  cases hn : isn b
  · rw [hn] at o1
    have o2 := o_le0 hn
    have o3 := o_ge1 hn
    by_cases h1 : sv b ≤ 0
    · rw [decide_eq_true h1] at o2
      have e : ff b m = 0 := by unfold ff; rw [if_neg (by rw [hn]; simp), if_pos h1]
      rw [e]
      clear o3 e h1 hn
      go_enter Try.func12, Try.ntmps12
      go_wp2
      go_ret2
      exact ⟨rfl, ⟨[], 0⟩, rfl⟩
    · rw [decide_eq_false h1] at o2
      by_cases h2 : (big : Int) ≤ sv b
      · rw [decide_eq_true h2] at o3
        have e : ff b m = m := by unfold ff; rw [if_neg (by rw [hn]; simp), if_neg h1, if_pos h2]
        rw [e]
        clear e h1 h2 hn
        go_enter Try.func12, Try.ntmps12
        go_wp2
        go_ret2
        exact ⟨rfl, ⟨[], 0⟩, rfl⟩
      · rw [decide_eq_false h2] at o3
        obtain ⟨u1, u2, u3⟩ := unit_of hb hn (by omega) (by omega)
        have e : ff b m = ffN (rv b) m := by unfold ff; rw [if_neg (by rw [hn]; simp), if_neg h1, if_neg h2, u3]; rfl
        obtain ⟨_, n1, n2, n3⟩ := parts_of u2
        have hp := fun w => parts_call b w u2
        obtain ⟨V, v1, v2, v3, v4⟩ := main_val hm u2
        have es : 99 < nn b → V = 0 := fun h => by rw [v2, ffN_small (max := m) u2 hm h]; rfl
        rw [e, ← v2]
        clear e h1 h2 u3 hn
        generalize nn b = n at *
        generalize mm b = k at *
        have HP := Lib.hid @hp
        have ES := Lib.hid @es
        have HV := Lib.hid v1
        have kb0 : (0 : Int) ≤ (k : Int) * m ∧ (k : Int) * m ≤ 9007199254740992 * 65535 := mul_bound _ _ _ _ (by omega) (by omega) (by omega) (by omega)
        obtain ⟨kb0, kb1⟩ := kb0
        clear hp v1 es
        clear v2
        by_cases hn : 100 < n
        · have n4 : (100 : Int) < n := by omega
          go_enter Try.func12, Try.ntmps12
          go_wp2_with (go_at_call 19; (with_reducible refine (HP.out _).mono ?_); rintro e w' ⟨rfl, rfl⟩)
          go_ret2
          refine ⟨tup_if ?_ rfl, ⟨[], 0⟩, rfl⟩
          exact (ES.out (by omega)).symm
        · have hsh := fun w => shifted_call ((k : Int) * m / 18446744073709551616) ((k : Int) * m % 18446744073709551616) n w (by omega) (by omega) (by omega) (by omega) n1 (by omega)
          have hmu := fun w => wideMul_call k m w (by omega) (by omega) (by omega) (by omega)
          rw [HV.out] at hsh
          have HS := Lib.hid @hsh
          have HM := Lib.hid @hmu
          clear hsh hmu kb0 kb1
          have n4 : (n : Int) ≤ 100 := by omega
          go_enter Try.func12, Try.ntmps12
          go_wp2_with (first | (go_at_call 19; (with_reducible refine (HP.out _).mono ?_); rintro e w' ⟨rfl, rfl⟩) | (go_at_call 21; (with_reducible refine (HM.out _).mono ?_); rintro e w' ⟨rfl, rfl⟩) | (go_at_call 20; (with_reducible refine (HS.out _).mono ?_); rintro e w' ⟨rfl, p, rfl⟩))
          go_ret2
          exact ⟨rfl, ⟨_, by rw [show ∀ o, w.alloc o = more w ⟨[o], 0⟩ from fun _ => rfl]; exact more_more _ _ _⟩⟩
  · rw [hn] at o1
    have e : ff b m = 0 := by unfold ff; rw [if_pos hn]
    rw [e]
    clear e hn
    go_enter Try.func12, Try.ntmps12
    go_wp2
    go_ret2
    exact ⟨rfl, ⟨[], 0⟩, rfl⟩
end Go.Proofs.Ytgjlmkombpgdgaa
