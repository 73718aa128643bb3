/- Contracts of the number functions of package round, and of the reference's Half. -/
import Derived.Test.YtjefcchdcoiinaaProg
import Derived.Test.YtjefcchdcoiinaaNums
import Derived.WalkKit
import Derived.WalkSpells
import Derived.WalkLawsBesides
import Derived.RegionTactic
import Derived.Deep.QuietTactic
import Derived.BigQuiet
import Derived.Lib.Hide
namespace Go.Proofs.Ytjefcchdcoiinaa
open Go.RowKit

theorem ret_int {k : IntKind} {a b : Int} (h : a = b) : Ending.returned (.int k a) = .returned (.int k b) := by rw [h]
theorem val_int {k : IntKind} {a b : Int} (h : a = b) : Value.int k a = Value.int k b := by rw [h]
def wrapU32 (a : Int) : Int := a % 4294967296
theorem u32_mod {a : Int} (h : 0 ≤ a ∧ a ≤ 4294967295) : a % 4294967296 = a := by omega

theorem and_u64_65535 (r : Int) (h0 : 0 ≤ r) (h1 : r ≤ 18446744073709551615) : bits .and .u64 r 65535 = r % 65536 := by
  rw [u64_and r 65535 h0 (by omega) (by omega) (by omega)]
  have e : r.toNat &&& Int.toNat 65535 = r.toNat % 65536 := nat_mask16 _
  rw [e]; omega

theorem and_u32_255 (r : Int) (h0 : 0 ≤ r) (h1 : r ≤ 4294967295) : bits .and .u32 r 255 = r % 256 := by
  rw [u32_and r 255 h0 (by omega) (by omega) (by omega)]
  have e : r.toNat &&& Int.toNat 255 = r.toNat % 256 := nat_mask8 _
  rw [e]; omega

set_option maxHeartbeats 400000 in
theorem half_call (n d : Int) (w : World) (h0 : 0 ≤ n) (h1 : n ≤ 18446744073709551615) (d0 : 0 ≤ d) (d1 : d ≤ 18446744073709551615) :
    Calls Try.prog 27 #[.int .u64 n, .int .u64 d] w fun e w' => e = .returned (.int .u64 (halfI n d)) ∧ ∃ k, w' = w.drewN k := by
  by_cases hd : d = 0
  · have e : halfI n d = 0 := by simp [halfI, hd]
    rw [e]; subst hd
    go_enter Try.func27, Try.ntmps27
    go_wp2
    go_ret
    exact ⟨rfl, 0, rfl⟩
  · have hz : (d == 0) = false := by simpa using hd
    have d2 : 1 ≤ d := by omega
    have q1 : d = 1 ∨ n / d ≤ 9223372036854775807 := by
      by_cases h : d = 1
      · exact .inl h
      · exact .inr (div_half n d h1 (by omega))
    have r0 : 0 ≤ n % d := Int.emod_nonneg _ (by omega)
    have r1 : n % d < d := Int.emod_lt_of_pos _ (by omega)
    have q0 : 0 ≤ n / d := Int.ediv_nonneg h0 (by omega)
    have Q1 := Lib.hid q1
    clear q1 hd
    go_enter Try.func27, Try.ntmps27
    go_wp2
    go_quiet (fail)
    go_wp2
    · have ht : d - n % d ≤ n % d := by assumption
      go_ret
      refine ⟨ret_int ?_, _, rfl⟩
      unfold halfI
      rw [if_neg (by omega), if_pos ht, IntWalk.u64_in]
      have := Q1.out
      omega
    · have ht : n % d < d - n % d := by assumption
      go_ret
      refine ⟨ret_int ?_, _, rfl⟩
      unfold halfI
      rw [if_neg (by omega), if_neg (by omega)]

set_option maxHeartbeats 400000 in
theorem refHalf_call (n d : Int) (w : World) (h0 : 0 ≤ n) (h1 : n ≤ 18446744073709551615) (d0 : 0 ≤ d) (d1 : d ≤ 18446744073709551615) :
    Calls Try.prog 28 #[.int .u64 n, .int .u64 d] w fun e w' => e = .returned (.int .u64 (halfI n d)) ∧ ∃ k, w' = w.drewN k := by
  by_cases hd : d = 0
  · have e : halfI n d = 0 := by simp [halfI, hd]
    rw [e]; subst hd
    go_enter Try.func28, Try.ntmps28
    go_wp2
    go_ret
    exact ⟨rfl, 0, rfl⟩
  · have hz : (d == 0) = false := by simpa using hd
    have d2 : 1 ≤ d := by omega
    have q1 : d = 1 ∨ n / d ≤ 9223372036854775807 := by
      by_cases h : d = 1
      · exact .inl h
      · exact .inr (div_half n d h1 (by omega))
    have r0 : 0 ≤ n % d := Int.emod_nonneg _ (by omega)
    have r1 : n % d < d := Int.emod_lt_of_pos _ (by omega)
    have q0 : 0 ≤ n / d := Int.ediv_nonneg h0 (by omega)
    have Q1 := Lib.hid q1
    clear q1 hd
    go_enter Try.func28, Try.ntmps28
    go_wp2
    go_quiet (fail)
    go_wp2
    · have ht : d - n % d ≤ n % d := by assumption
      go_ret
      refine ⟨ret_int ?_, _, rfl⟩
      unfold halfI
      rw [if_neg (by omega), if_pos ht, IntWalk.u64_in]
      have := Q1.out
      omega
    · have ht : n % d < d - n % d := by assumption
      go_ret
      refine ⟨ret_int ?_, _, rfl⟩
      unfold halfI
      rw [if_neg (by omega), if_neg (by omega)]

set_option maxHeartbeats 400000 in
theorem by65535_call (n : Int) (w : World) (h0 : 0 ≤ n) (h1 : n ≤ 18446744073709551615) :
    Calls Try.prog 33 #[.int .u64 n] w fun e w' => e = .returned (.int .u64 (halfI n 65535)) ∧ w = w' := by
  go_enter Try.func33, Try.ntmps33
  go_wp2
  go_loop [0, 3] (fun x y => ∃ r q : Int, 0 ≤ r ∧ r ≤ n ∧ 0 ≤ q ∧ q ≤ n ∧ Hid (n = 65535 * q + r) ∧ x = .int .u64 r ∧ y = .int .u64 q) (fun x _ => (intOf x).toNat)
  case atStart => exact ⟨n, 0, by omega, by omega, by omega, by omega, Lib.hid (by omega), rfl, rfl⟩
  case round =>
    obtain ⟨r, q, r0, r1, q0, q1, H, rfl, rfl⟩ := hrel
    by_cases hlt : 65535 < r
    · have ha := and_u64_65535 r r0 (by omega)
      have HA := Lib.hid ha
      clear ha
      go_wp2
      have h' := H.out
      have ha := HA.out
      refine ⟨⟨r / 65536 + r % 65536, q + r / 65536, by omega, by omega, by omega, by omega, Lib.hid (by omega), ?_, ?_⟩, ?_⟩
      · rw [ha]; exact val_int (IntWalk.u64_in _ (by omega))
      · exact val_int (IntWalk.u64_in _ (by omega))
      · rw [ha]
        show Int.toNat (IntKind.u64.wrap (r / 65536 + r % 65536)) < r.toNat
        rw [IntWalk.u64_in _ (by omega)]
        omega
    · by_cases hg : 32768 ≤ r
      · go_wp2
        go_ret
        have h' := H.out
        refine ⟨ret_int ?_, rfl⟩
        rw [half_65535 n q r h' r0 (by omega), if_pos hg]; exact IntWalk.u64_in _ (by omega)
      · go_wp2
        go_ret
        have h' := H.out
        refine ⟨ret_int ?_, rfl⟩
        rw [half_65535 n q r h' r0 (by omega), if_neg (by omega)]

set_option maxHeartbeats 400000 in
theorem by255_call (n : Int) (w : World) (h0 : 0 ≤ n) (h1 : n ≤ 4294967295) :
    Calls Try.prog 32 #[.int .u32 n] w fun e w' => e = .returned (.int .u32 (halfI n 255)) ∧ w = w' := by
  go_enter Try.func32, Try.ntmps32
  go_wp2
  go_loop [0, 3] (fun x y => ∃ r q : Int, 0 ≤ r ∧ r ≤ n ∧ 0 ≤ q ∧ q ≤ n ∧ Hid (n = 255 * q + r) ∧ x = .int .u32 r ∧ y = .int .u32 q) (fun x _ => (intOf x).toNat)
  case atStart => exact ⟨n, 0, by omega, by omega, by omega, by omega, Lib.hid (by omega), rfl, rfl⟩
  case round =>
    obtain ⟨r, q, r0, r1, q0, q1, H, rfl, rfl⟩ := hrel
    by_cases hlt : 255 < r
    · have ha := and_u32_255 r r0 (by omega)
      have HA := Lib.hid ha
      clear ha
      go_wp2
      have h' := H.out
      have ha := HA.out
      refine ⟨⟨r / 256 + r % 256, q + r / 256, by omega, by omega, by omega, by omega, Lib.hid (by omega), ?_, ?_⟩, ?_⟩
      · rw [ha]; exact val_int (u32_mod (by omega))
      · exact val_int (u32_mod (by omega))
      · rw [ha]
        show Int.toNat (wrapU32 (r / 256 + r % 256)) < r.toNat
        unfold wrapU32; rw [u32_mod (by omega)]
        omega
    · by_cases hg : 128 ≤ r
      · go_wp2
        go_ret
        have h' := H.out
        refine ⟨ret_int ?_, rfl⟩
        rw [half_255 n q r h' r0 (by omega), if_pos hg]; exact u32_mod (by omega)
      · go_wp2
        go_ret
        have h' := H.out
        refine ⟨ret_int ?_, rfl⟩
        rw [half_255 n q r h' r0 (by omega), if_neg (by omega)]

end Go.Proofs.Ytjefcchdcoiinaa
