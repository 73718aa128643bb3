/- Contracts of the generator's number functions Mod and Max. -/
import Derived.Test.YtdbemgjjahcabaaRound
import Derived.Deep.Light
namespace Go.Proofs.Ytdbemgjjahcabaa
open Go.RowKit

theorem tmod_add_emod (n k : Int) : (n.tmod k + k) % k = n % k := by
  rw [Int.add_emod_right]
  have e := Int.mul_tdiv_add_tmod n k
  have : n % k = (n.tmod k + k * n.tdiv k) % k := by rw [Int.add_comm, e]
  rw [this, Int.add_mul_emod_self_left]
theorem tmod_bounds (n k : Int) (h : 1 ≤ k) : -k < n.tmod k ∧ n.tmod k < k :=
  ⟨Int.lt_tmod_of_pos n (by omega), Int.tmod_lt_of_pos n (by omega)⟩

set_option maxHeartbeats 400000 in
theorem mod_call (n k : Int) (w : World) (h0 : 1 ≤ k) (h1 : k ≤ 4611686018427387903) :
    Calls Try.prog 10 #[.int .i64 n, .int .i64 k] w fun e w' => e = .returned (.int .i64 (n % k)) ∧ w = w' := by
  obtain ⟨b0, b1⟩ := tmod_bounds n k h0
  go_enter Try.func10, Try.ntmps10
  go_wp2
  go_ret
  exact ⟨ret_int (tmod_add_emod n k), rfl⟩



end Go.Proofs.Ytdbemgjjahcabaa
