/- Contracts of the generator's number functions: Mod, Max, Sample, Alpha. -/
import Derived.Test.YthhmdjpcgollbaaDoorRound
import Derived.Deep.Light
namespace Go.Proofs.YthhmdjpcgollbaaDoor
open Go.RowKit

theorem tmod_add_emod (n k : Int) : (n.tmod k + k) % k = n % k := by
  rw [Int.add_emod_right]
  have e := Int.mul_tdiv_add_tmod n k
  have : n % k = (n.tmod k + k * n.tdiv k) % k := by rw [Int.add_comm, e]
  rw [this, Int.add_mul_emod_self_left]
theorem tmod_bounds (n k : Int) (h : 1 ≤ k) : -k < n.tmod k ∧ n.tmod k < k :=
  ⟨Int.lt_tmod_of_pos n (by omega), Int.tmod_lt_of_pos n (by omega)⟩

set_option maxHeartbeats 400000 in
theorem mod_call (n k : Int) (w : World) (h0 : 1 ≤ k) (h1 : k ≤ 4611686018427387903) :
    Calls Tryd.prog 11 #[.int .i64 n, .int .i64 k] w fun e w' => e = .returned (.int .i64 (n % k)) ∧ w = w' := by
  obtain ⟨b0, b1⟩ := tmod_bounds n k h0
  go_enter Tryd.func11, Tryd.ntmps11
  go_wp2
  go_ret
  exact ⟨ret_int (tmod_add_emod n k), rfl⟩

/-- gen.Max -/
def gmax (n : Int) : Int := if n % 3 = 2 then 65535 else 255
theorem gmax_cases (n : Int) : gmax n = 255 ∨ gmax n = 65535 := by unfold gmax; split <;> simp

set_option maxHeartbeats 400000 in
theorem max_call (n : Int) (w : World) :
    Calls Tryd.prog 10 #[.int .i64 n] w fun e w' => e = .returned (.int .u16 (gmax n)) ∧ w = w' := by
  by_cases h : n % 3 = 2
  · have e : gmax n = 65535 := by simp [gmax, h]
    have E := Lib.hid e
    have hb : (n % 3 == 2) = true := by simpa using h
    clear e h
    go_enter Tryd.func10, Tryd.ntmps10
    go_wp2_with (go_at_call 11; refine (mod_call _ _ _ (by omega) (by omega)).mono ?_; rintro e w' ⟨rfl, rfl⟩)
    go_ret
    exact ⟨ret_int E.out.symm, rfl⟩
  · have e : gmax n = 255 := by simp [gmax, h]
    have E := Lib.hid e
    have hb : (n % 3 == 2) = false := by simpa using h
    clear e h
    go_enter Tryd.func10, Tryd.ntmps10
    go_wp2_with (go_at_call 11; refine (mod_call _ _ _ (by omega) (by omega)).mono ?_; rintro e w' ⟨rfl, rfl⟩)
    go_ret
    exact ⟨ret_int E.out.symm, rfl⟩

/-- gen.Sample -/
def gsam (n m : Int) : Int :=
  if n % 8 = 0 then 0 else if n % 8 = 1 ∨ n % 8 = 2 then m else if n % 8 = 3 then (m + (n.tdiv 8) % 2) / 2
  else if n % 8 = 4 then min m ((n.tdiv 8) % 4) else (n.tdiv 8) % (m + 1)

theorem gsam_bounds (n m : Int) (h : 0 ≤ m) : 0 ≤ gsam n m ∧ gsam n m ≤ m := by
  unfold gsam
  have a : 0 ≤ (n.tdiv 8) % (m + 1) := Int.emod_nonneg _ (by omega)
  have b : (n.tdiv 8) % (m + 1) < m + 1 := Int.emod_lt_of_pos _ (by omega)
  repeat' split
  all_goals omega

set_option maxHeartbeats 400000 in
theorem sample_call (n m : Int) (w : World) (h0 : 0 ≤ m) (h1 : m ≤ 65535) (n0 : -9223372036854775808 ≤ n) (n1 : n ≤ 9223372036854775807) :
    Calls Tryd.prog 12 #[.int .i64 n, .int .u16 m] w fun e w' => e = .returned (.int .u16 (gsam n m)) ∧ w = w' := by
  have a : 0 ≤ (n.tdiv 8) % (m + 1) := Int.emod_nonneg _ (by omega)
  have b : (n.tdiv 8) % (m + 1) < m + 1 := Int.emod_lt_of_pos _ (by omega)
  go_enter Tryd.func12, Tryd.ntmps12
  go_wp2_with (go_at_call 11; refine (mod_call _ _ _ (by omega) (by omega)).mono ?_; rintro e w' ⟨rfl, rfl⟩)
  all_goals
    go_ret
    refine ⟨ret_int ?_, rfl⟩
    go_light
    unfold gsam
    simp only [beq_iff_eq, beq_eq_false_iff_ne, ne_eq] at *
    repeat' split
    all_goals omega

set_option maxHeartbeats 400000 in
theorem alpha_call (c a m : Int) (w : World) (h0 : 0 ≤ m) (h1 : m ≤ 65535) (c0 : -9223372036854775808 ≤ c) (c1 : c ≤ 9223372036854775807) (a0 : -9223372036854775808 ≤ a) (a1 : a ≤ 9223372036854775807) :
    Calls Tryd.prog 20 #[.int .i64 c, .int .i64 a, .int .u16 m] w fun e w' => e = .returned (.tuple #[.int .u16 (gsam c (gsam a m)), .int .u16 (gsam a m)]) ∧ w = w' := by
  obtain ⟨b0, b1⟩ := gsam_bounds a m h0
  go_enter Tryd.func20, Tryd.ntmps20
  go_wp2_with (go_at_call 12; refine (sample_call _ _ _ (by omega) (by omega) (by omega) (by omega)).mono ?_; rintro e w' ⟨rfl, rfl⟩)
  go_ret2
  exact ⟨rfl, rfl⟩
end Go.Proofs.YthhmdjpcgollbaaDoor
