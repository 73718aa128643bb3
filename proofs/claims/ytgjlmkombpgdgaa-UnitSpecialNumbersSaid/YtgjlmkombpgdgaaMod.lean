/- Contracts of the generator's number functions Mod and Max. -/
import Derived.Test.YtgjlmkombpgdgaaRound
import Derived.Deep.Light
namespace Go.Proofs.Ytgjlmkombpgdgaa
open Go.RowKit

theorem tmod_add_emod (n k : Int) : (n.tmod k + k) % k = n % k := by
  rw [Int.add_emod_right]
  have e := Int.mul_tdiv_add_tmod n k
  have : n % k = (n.tmod k + k * n.tdiv k) % k := by rw [Int.add_comm, e]
  rw [this, Int.add_mul_emod_self_left]
theorem tmod_bounds (n k : Int) (h : 1 ≤ k) : -k < n.tmod k ∧ n.tmod k < k :=
  ⟨Int.lt_tmod_of_pos n (by omega), Int.tmod_lt_of_pos n (by omega)⟩

set_option maxHeartbeats 400000 in
theorem mod_call (n k : Int) (w : World) (h0 : 1 ≤ k) (h1 : k ≤ 4611686018427387903) :
    Calls Try.prog 9 #[.int .i64 n, .int .i64 k] w fun e w' => e = .returned (.int .i64 (n % k)) ∧ w = w' := by
  obtain ⟨b0, b1⟩ := tmod_bounds n k h0
  go_enter Try.func9, Try.ntmps9
  go_wp2
  go_ret
  exact ⟨ret_int (tmod_add_emod n k), rfl⟩

/-- gen.Max -/
def gmax (n : Int) : Int := if n % 3 = 2 then 65535 else 255
theorem gmax_cases (n : Int) : gmax n = 255 ∨ gmax n = 65535 := by unfold gmax; split <;> simp

set_option maxHeartbeats 400000 in
theorem max_call (n : Int) (w : World) :
    Calls Try.prog 8 #[.int .i64 n] w fun e w' => e = .returned (.int .u16 (gmax n)) ∧ w = w' := by
  by_cases h : n % 3 = 2
  · have e : gmax n = 65535 := by simp [gmax, h]
    have E := Lib.hid e
    have hb : (n % 3 == 2) = true := by simpa using h
    clear e h
    go_enter Try.func8, Try.ntmps8
    go_wp2_with (go_at_call 9; refine (mod_call _ _ _ (by omega) (by omega)).mono ?_; rintro e w' ⟨rfl, rfl⟩)
    go_ret
    exact ⟨ret_int E.out.symm, rfl⟩
  · have e : gmax n = 255 := by simp [gmax, h]
    have E := Lib.hid e
    have hb : (n % 3 == 2) = false := by simpa using h
    clear e h
    go_enter Try.func8, Try.ntmps8
    go_wp2_with (go_at_call 9; refine (mod_call _ _ _ (by omega) (by omega)).mono ?_; rintro e w' ⟨rfl, rfl⟩)
    go_ret
    exact ⟨ret_int E.out.symm, rfl⟩

end Go.Proofs.Ytgjlmkombpgdgaa
