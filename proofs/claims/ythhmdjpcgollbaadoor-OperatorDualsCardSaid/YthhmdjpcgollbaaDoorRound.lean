/- Contracts of the number functions of package round, and of the reference's Half. -/
import Derived.Test.YthhmdjpcgollbaaDoorProg
import Derived.Test.YthhmdjpcgollbaaDoorNums
import Derived.WalkKit
import Derived.WalkSpells
import Derived.WalkLawsBesides
import Derived.RegionTactic
import Derived.Deep.QuietTactic
import Derived.BigQuiet
import Derived.Lib.Hide
namespace Go.Proofs.YthhmdjpcgollbaaDoor
open Go.RowKit

theorem ret_int {k : IntKind} {a b : Int} (h : a = b) : Ending.returned (.int k a) = .returned (.int k b) := by rw [h]
theorem val_int {k : IntKind} {a b : Int} (h : a = b) : Value.int k a = Value.int k b := by rw [h]
def wrapU32 (a : Int) : Int := a % 4294967296
theorem u32_mod {a : Int} (h : 0 ≤ a ∧ a ≤ 4294967295) : a % 4294967296 = a := by omega

theorem and_u64_65535 (r : Int) (h0 : 0 ≤ r) (h1 : r ≤ 18446744073709551615) : bits .and .u64 r 65535 = r % 65536 := by
  rw [u64_and r 65535 h0 (by omega) (by omega) (by omega)]
  have e : r.toNat &&& Int.toNat 65535 = r.toNat % 65536 := nat_mask16 _
  rw [e]; omega

theorem and_u32_255 (r : Int) (h0 : 0 ≤ r) (h1 : r ≤ 4294967295) : bits .and .u32 r 255 = r % 256 := by
  rw [u32_and r 255 h0 (by omega) (by omega) (by omega)]
  have e : r.toNat &&& Int.toNat 255 = r.toNat % 256 := nat_mask8 _
  rw [e]; omega

set_option maxHeartbeats 400000 in
theorem half_call (n d : Int) (w : World) (h0 : 0 ≤ n) (h1 : n ≤ 18446744073709551615) (d0 : 0 ≤ d) (d1 : d ≤ 18446744073709551615) :
    Calls Tryd.prog 34 #[.int .u64 n, .int .u64 d] w fun e w' => e = .returned (.int .u64 (halfI n d)) ∧ ∃ k, w' = w.drewN k := by
  by_cases hd : d = 0
  · have e : halfI n d = 0 := by simp [halfI, hd]
    rw [e]; subst hd
    go_enter Tryd.func34, Tryd.ntmps34
    go_wp2
    go_ret
    exact ⟨rfl, 0, rfl⟩
  · have hz : (d == 0) = false := by simpa using hd
    have d2 : 1 ≤ d := by omega
    have q1 : d = 1 ∨ n / d ≤ 9223372036854775807 := by
      by_cases h : d = 1
      · exact .inl h
      · exact .inr (div_half n d h1 (by omega))
    have r0 : 0 ≤ n % d := Int.emod_nonneg _ (by omega)
    have r1 : n % d < d := Int.emod_lt_of_pos _ (by omega)
    have q0 : 0 ≤ n / d := Int.ediv_nonneg h0 (by omega)
    have Q1 := Lib.hid q1
    clear q1 hd
    go_enter Tryd.func34, Tryd.ntmps34
    go_wp2
    go_quiet (fail)
    go_wp2
    · have ht : d - n % d ≤ n % d := by assumption
      go_ret
      refine ⟨ret_int ?_, _, rfl⟩
      unfold halfI
      rw [if_neg (by omega), if_pos ht, IntWalk.u64_in]
      have := Q1.out
      omega
    · have ht : n % d < d - n % d := by assumption
      go_ret
      refine ⟨ret_int ?_, _, rfl⟩
      unfold halfI
      rw [if_neg (by omega), if_neg (by omega)]

set_option maxHeartbeats 400000 in
theorem refHalf_call (n d : Int) (w : World) (h0 : 0 ≤ n) (h1 : n ≤ 18446744073709551615) (d0 : 0 ≤ d) (d1 : d ≤ 18446744073709551615) :
    Calls Tryd.prog 21 #[.int .u64 n, .int .u64 d] w fun e w' => e = .returned (.int .u64 (halfI n d)) ∧ ∃ k, w' = w.drewN k := by
  by_cases hd : d = 0
  · have e : halfI n d = 0 := by simp [halfI, hd]
    rw [e]; subst hd
    go_enter Tryd.func21, Tryd.ntmps21
    go_wp2
    go_ret
    exact ⟨rfl, 0, rfl⟩
  · have hz : (d == 0) = false := by simpa using hd
    have d2 : 1 ≤ d := by omega
    have q1 : d = 1 ∨ n / d ≤ 9223372036854775807 := by
      by_cases h : d = 1
      · exact .inl h
      · exact .inr (div_half n d h1 (by omega))
    have r0 : 0 ≤ n % d := Int.emod_nonneg _ (by omega)
    have r1 : n % d < d := Int.emod_lt_of_pos _ (by omega)
    have q0 : 0 ≤ n / d := Int.ediv_nonneg h0 (by omega)
    have Q1 := Lib.hid q1
    clear q1 hd
    go_enter Tryd.func21, Tryd.ntmps21
    go_wp2
    go_quiet (fail)
    go_wp2
    · have ht : d - n % d ≤ n % d := by assumption
      go_ret
      refine ⟨ret_int ?_, _, rfl⟩
      unfold halfI
      rw [if_neg (by omega), if_pos ht, IntWalk.u64_in]
      have := Q1.out
      omega
    · have ht : n % d < d - n % d := by assumption
      go_ret
      refine ⟨ret_int ?_, _, rfl⟩
      unfold halfI
      rw [if_neg (by omega), if_neg (by omega)]



end Go.Proofs.YthhmdjpcgollbaaDoor
