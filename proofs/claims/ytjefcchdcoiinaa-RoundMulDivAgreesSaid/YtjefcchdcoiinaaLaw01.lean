/- The walks of six statements of layer 1: each returns true. -/
import Derived.Test.YtjefcchdcoiinaaSqrt
import Derived.Test.YtjefcchdcoiinaaMod
namespace Go.Proofs.Ytjefcchdcoiinaa
open Go.RowKit

theorem grown_drewN (w : World) (k : Nat) : Grown w (w.drewN k) := by
  induction k generalizing w with
  | zero => exact Grown.refl _
  | succ k ih => exact ⟨(World.keptBut_trans (Grown.drew (Grown.refl w)).1 (ih w.drew).1), fun x => ((ih w.drew).2.1 x).trans ((Grown.drew (Grown.refl w)).2.1 x), Nat.le_trans (Grown.drew (Grown.refl w)).2.2 (ih w.drew).2.2⟩

set_option maxHeartbeats 1000000 in
theorem awake01_call (w : World) :
    Calls Try.prog 26 #[] w fun e w' => e = .returned (.bool true) ∧ ∃ k, w' = w.drewN k := by
  have e1 : mdV 9223372036854775808 4 8 = 4611686018427387904 := by decide
  have e2 : mdB 9223372036854775808 4 8 = true := by decide
  have e3 : halfI 5 2 = 3 := by decide
  have e4 : halfI 4 3 = 1 := by decide
  have e5 : halfI 32513 255 = 128 := by decide
  have E1 := Lib.hid e1
  have E2 := Lib.hid e2
  clear e1 e2
  go_enter Try.func26, Try.ntmps26
  go_wp2_with fail
  refine (muldiv_call _ _ _ _ (by omega) (by omega) (by omega) (by omega) (by omega) (by omega)).mono ?_
  rintro e w1 ⟨rfl, n, rfl⟩
  rw [E1.out, E2.out]
  go_wp2_with (first | (go_at_call 27; refine (half_call _ _ _ (by omega) (by omega) (by omega) (by omega)).mono ?_; rintro e w1 ⟨rfl, n1, rfl⟩) | (go_at_call 32; refine (by255_call _ _ (by omega) (by omega)).mono ?_; rintro e w1 ⟨rfl, rfl⟩) | (go_at_call 30; refine (sqrt_call _ _ (by omega) (by omega)).mono ?_; rintro e w1 ⟨r, hr, hb, rfl, rfl⟩; obtain rfl : r = 9 := hr.unique ⟨by omega, by omega, by omega⟩))
  go_ret
  exact ⟨rfl, _, rfl⟩

set_option maxHeartbeats 1000000 in
theorem roundHalfAgrees_walk (n d s : Int) (w : World) (n0 : 0 ≤ n) (n1 : n ≤ 18446744073709551615) (d0 : 0 ≤ d) (d1 : d ≤ 18446744073709551615) :
    Calls Try.prog 8 #[.int .u64 n, .int .u64 d, .int .i64 s] w fun e w' => e = .returned (.bool true) ∧ Grown w w' := by
  have s0 : 0 ≤ s % 70 := by omega
  have s1 : s % 70 ≤ 69 := by omega
  have t1 : halfI (n / 2 * 2 + 1) 2 = (n / 2 * 2 + 1) / 2 + 1 := by rw [half_eq _ _ (by omega)]; omega
  have t2 : halfI n 0 = 0 := by simp [halfI]
  have t3 : 0 ≤ n / 2 := by omega
  have t4 : n / 2 ≤ 9223372036854775807 := by omega
  have t5 : (n / 2 * 2 + 1) / 2 ≤ 9223372036854775807 := by omega
  have t6 : 0 ≤ (n / 2 * 2 + 1) / 2 := by omega
  go_enter Try.func8, Try.ntmps8
  go_wp2_with (first | (go_at_call 26; refine (awake01_call _).mono ?_; rintro e w1 ⟨rfl, n3, rfl⟩) | (go_at_call 16; refine (mod_call _ _ _ (by omega) (by omega)).mono ?_; rintro e w1 ⟨rfl, rfl⟩) | (go_at_call 27; refine (half_call _ _ _ (by omega) (by omega) (by omega) (by omega)).mono ?_; rintro e w1 ⟨rfl, n1, rfl⟩) | (go_at_call 28; refine (refHalf_call _ _ _ (by omega) (by omega) (by omega) (by omega)).mono ?_; rintro e w1 ⟨rfl, n2, rfl⟩))
  go_ret
  exact ⟨rfl, grown_drewN _ _⟩

set_option maxHeartbeats 1000000 in
theorem roundHalfIsNearest_walk (n d : Int) (w : World) (n0 : 0 ≤ n) (n1 : n ≤ 4294967295) (d0 : 0 ≤ d) (d1 : d ≤ 4294967295) :
    Calls Try.prog 9 #[.int .u32 n, .int .u32 d] w fun e w' => e = .returned (.bool true) ∧ Grown w w' := by
  by_cases hd : d = 0
  · subst hd
    go_enter Try.func9, Try.ntmps9
    go_wp2_with (go_at_call 26; refine (awake01_call _).mono ?_; rintro e w1 ⟨rfl, n3, rfl⟩)
    go_ret
    exact ⟨rfl, grown_drewN _ _⟩
  · have hz : (d == 0) = false := by simpa using hd
    obtain ⟨h1, h2⟩ := half_spec n d (by omega)
    have e : 2 * halfI n d * d = 2 * (halfI n d * d) := Int.mul_assoc _ _ _
    have f1 : 2 * halfI n d * d ≤ 2 * n + d := by omega
    have f2 : 2 * n < 2 * halfI n d * d + d := by omega
    have q0 := half_nonneg n d n0 d0
    have q1 := half_le_self n d n0 d0
    have f3 : 0 ≤ 2 * halfI n d * d := Int.mul_nonneg (by omega) d0
    clear e h1 h2 hd
    go_enter Try.func9, Try.ntmps9
    go_wp2_with (first | (go_at_call 26; refine (awake01_call _).mono ?_; rintro e w1 ⟨rfl, n3, rfl⟩) | (go_at_call 27; refine (half_call _ _ _ (by omega) (by omega) (by omega) (by omega)).mono ?_; rintro e w1 ⟨rfl, n1, rfl⟩))
    go_ret
    exact ⟨rfl, grown_drewN _ _⟩

theorem half_succ (n d : Int) (d0 : 0 ≤ d) : halfI (n + 1) d ≤ halfI n d + 1 := by
  by_cases h : d = 0
  · simp [halfI, h]
  · rw [half_eq _ _ (by omega), half_eq _ _ (by omega)]
    have e : (2 * n + d) / (2 * d) + 1 = (2 * n + d + 2 * d) / (2 * d) := by
      rw [Int.add_ediv_of_dvd_right (Int.dvd_refl _), Int.ediv_self (by omega)]
    rw [e]
    exact Int.ediv_le_ediv (by omega) (by omega)

set_option maxHeartbeats 1000000 in
theorem roundHalfIsMonotone_walk (n d : Int) (w : World) (n0 : 0 ≤ n) (n1 : n ≤ 18446744073709551615) (d0 : 0 ≤ d) (d1 : d ≤ 18446744073709551615) :
    Calls Try.prog 10 #[.int .u64 n, .int .u64 d] w fun e w' => e = .returned (.bool true) ∧ Grown w w' := by
  by_cases hn : n = 18446744073709551615
  · subst hn
    go_enter Try.func10, Try.ntmps10
    go_wp2_with (go_at_call 26; refine (awake01_call _).mono ?_; rintro e w1 ⟨rfl, n3, rfl⟩)
    go_ret
    exact ⟨rfl, grown_drewN _ _⟩
  · have hz : (n == 18446744073709551615) = false := by simpa using hn
    have f1 := half_mono n (n + 1) d (by omega) d0
    have f2 := half_succ n d d0
    have f5 : halfI (n + 1) d - halfI n d ≤ 1 := by omega
    have f3 := half_nonneg n d n0 d0
    have f4 := half_le_self (n + 1) d (by omega) d0
    have n2 : n ≤ 18446744073709551614 := by omega
    clear hn
    go_enter Try.func10, Try.ntmps10
    go_wp2_with (first | (go_at_call 26; refine (awake01_call _).mono ?_; rintro e w1 ⟨rfl, n3, rfl⟩) | (go_at_call 27; refine (half_call _ _ _ (by omega) (by omega) (by omega) (by omega)).mono ?_; rintro e w1 ⟨rfl, n1, rfl⟩))
    go_ret
    exact ⟨rfl, grown_drewN _ _⟩

theorem and_u16_255 (r : Int) (h0 : 0 ≤ r) (h1 : r ≤ 65535) : bits .and .u16 r 255 = r % 256 := by
  rw [u16_and r 255 h0 (by omega) (by omega) (by omega)]
  have e : r.toNat &&& Int.toNat 255 = r.toNat % 256 := nat_mask8 _
  rw [e]; omega

set_option maxHeartbeats 1000000 in
theorem roundFastDivisions_walk (n m a b : Int) (w : World) (n0 : 0 ≤ n) (n1 : n ≤ 4294967295) (m0 : 0 ≤ m) (m1 : m ≤ 18446744073709551615) (a0 : 0 ≤ a) (a1 : a ≤ 65535) (b0 : 0 ≤ b) (b1 : b ≤ 65535) :
    Calls Try.prog 14 #[.int .u32 n, .int .u64 m, .int .u16 a, .int .u16 b] w fun e w' => e = .returned (.bool true) ∧ Grown w w' := by
  have ea := and_u16_255 a a0 a1
  have eb := and_u16_255 b b0 b1
  have x0 : 0 ≤ a % 256 := by omega
  have x1 : a % 256 ≤ 255 := by omega
  have y0 : 0 ≤ b % 256 := by omega
  have y1 : b % 256 ≤ 255 := by omega
  obtain ⟨p0, p1⟩ := mul_bound (a % 256) (b % 256) 255 255 x0 y0 x1 y1
  obtain ⟨q0, q1⟩ := mul_bound a b 65535 65535 a0 b0 a1 b1
  have h0 := half_nonneg n 255 n0 (by omega)
  have h1 := half_le_self n 255 n0 (by omega)
  have h2 := half_nonneg (a % 256 * (b % 256)) 255 p0 (by omega)
  have h3 := half_le_self (a % 256 * (b % 256)) 255 p0 (by omega)
  go_enter Try.func14, Try.ntmps14
  go_wp2_with (first | (go_at_call 26; refine (awake01_call _).mono ?_; rintro e w1 ⟨rfl, n3, rfl⟩) | (go_at_call 32; refine (by255_call _ _ (by omega) (by omega)).mono ?_; rintro e w1 ⟨rfl, rfl⟩) | (go_at_call 33; refine (by65535_call _ _ (by omega) (by omega)).mono ?_; rintro e w1 ⟨rfl, rfl⟩) | (go_at_call 28; refine (refHalf_call _ _ _ (by omega) (by omega) (by omega) (by omega)).mono ?_; rintro e w1 ⟨rfl, n2, rfl⟩))
  go_ret
  exact ⟨rfl, grown_drewN _ _⟩

theorem mdV_comm (a b d : Int) : mdV b a d = mdV a b d := by unfold mdV mdB; rw [Int.mul_comm]
theorem mdB_comm (a b d : Int) : mdB b a d = mdB a b d := by unfold mdB; rw [Int.mul_comm]
theorem md_self (a d : Int) (a1 : a ≤ 18446744073709551615) (d0 : 1 ≤ d) : mdV a d d = a ∧ mdB a d d = true := by
  have h : mdB a d d = true := by unfold mdB; rw [half_mul a d d0]; exact decide_eq_true ⟨by omega, a1⟩
  exact ⟨by unfold mdV; rw [if_pos h, half_mul a d d0], h⟩

set_option maxHeartbeats 1000000 in
theorem roundMulDivCancels_walk (a b d : Int) (w : World) (a0 : 0 ≤ a) (a1 : a ≤ 18446744073709551615) (b0 : 0 ≤ b) (b1 : b ≤ 18446744073709551615) (d0 : 0 ≤ d) (d1 : d ≤ 18446744073709551615) :
    Calls Try.prog 11 #[.int .u64 a, .int .u64 b, .int .u64 d] w fun e w' => e = .returned (.bool true) ∧ Grown w w' := by
  have h2 := mdV_comm a b d
  have h3 := mdB_comm a b d
  have H2 := Lib.hid h2
  have H3 := Lib.hid h3
  clear h2 h3
  by_cases hd : d = 0
  · subst hd
    have z1 : mdB a 0 0 = false := by simp [mdB]
    have Z1 := Lib.hid z1
    clear z1
    go_enter Try.func11, Try.ntmps11
    go_wp2_with fail
    refine (muldiv_call _ _ _ _ a0 a1 b0 b1 (by omega) (by omega)).mono ?_
    rintro e w1 ⟨rfl, n1, rfl⟩
    go_wp2_with fail
    refine (muldiv_call _ _ _ _ b0 b1 a0 a1 (by omega) (by omega)).mono ?_
    rintro e w1 ⟨rfl, n2, rfl⟩
    rw [H2.out, H3.out]
    go_wp2_with fail
    refine (muldiv_call _ _ _ _ a0 a1 (by omega) (by omega) (by omega) (by omega)).mono ?_
    rintro e w1 ⟨rfl, n4, rfl⟩
    rw [Z1.out]
    go_wp2_with (go_at_call 26; refine (awake01_call _).mono ?_; rintro e w1 ⟨rfl, n3, rfl⟩)
    go_ret
    exact ⟨rfl, grown_drewN _ _⟩
  · obtain ⟨z1, z2⟩ := md_self a d a1 (by omega)
    have hz : (d == 0) = false := by simpa using hd
    have hp : 0 < d := by omega
    have Z1 := Lib.hid z1
    have Z2 := Lib.hid z2
    clear z1 z2 hd
    go_enter Try.func11, Try.ntmps11
    go_wp2_with fail
    refine (muldiv_call _ _ _ _ a0 a1 b0 b1 d0 d1).mono ?_
    rintro e w1 ⟨rfl, n1, rfl⟩
    go_wp2_with fail
    refine (muldiv_call _ _ _ _ b0 b1 a0 a1 d0 d1).mono ?_
    rintro e w1 ⟨rfl, n2, rfl⟩
    rw [H2.out, H3.out]
    go_wp2_with fail
    refine (muldiv_call _ _ _ _ a0 a1 d0 d1 d0 d1).mono ?_
    rintro e w1 ⟨rfl, n4, rfl⟩
    rw [Z1.out, Z2.out]
    go_wp2_with (go_at_call 26; refine (awake01_call _).mono ?_; rintro e w1 ⟨rfl, n3, rfl⟩)
    go_ret
    exact ⟨rfl, grown_drewN _ _⟩

set_option maxHeartbeats 2000000 in
theorem roundSqrt_walk (n k : Int) (w : World) (n0 : 0 ≤ n) (n1 : n ≤ 18446744073709551615) (k0 : 0 ≤ k) (k1 : k ≤ 4294967295) :
    Calls Try.prog 12 #[.int .u64 n, .int .u32 k] w fun e w' => e = .returned (.bool true) ∧ Grown w w' := by
  obtain ⟨p0, p1⟩ := mul_bound k k 4294967295 4294967295 k0 k0 k1 k1
  have ek : (k + 1) * (k + 1) = k * k + 2 * k + 1 := by simp only [Int.add_mul, Int.mul_add]; omega
  have ej : (k - 1) * (k - 1) = k * k - 2 * k + 1 := by simp only [Int.sub_mul, Int.mul_sub]; omega
  have s1 : IsSqrt (k * k) k := ⟨k0, by omega, by omega⟩
  have s2 : 1 ≤ k → IsSqrt (k * k - 1) (k - 1) := fun h => ⟨by omega, by omega, by rw [show k - 1 + 1 = k by omega]; omega⟩
  have p2 : 1 ≤ k → 1 ≤ k * k := fun h => by have := sq_mono (a := 1) (b := k) (by omega) h; omega
  have S1 := Lib.hid s1
  have S2 := Lib.hid s2
  have P2 := Lib.hid p2
  clear s1 s2 ek ej p2
  by_cases hk : k = 0
  · subst hk
    go_enter Try.func12, Try.ntmps12
    go_wp2_with fail
    refine (sqrt_call _ _ n0 n1).mono ?_
    rintro e w1 ⟨r, hr, hb, rfl, rfl⟩
    obtain ⟨q0, q1⟩ := mul_bound r r 4294967295 4294967295 hr.r0 hr.r0 hb hb
    have r0 := hr.r0
    have lo := hr.lo
    have hi := hr.hi
    by_cases hm : r < 4294967295
    · obtain ⟨q2, q3⟩ := mul_bound (r + 1) (r + 1) 4294967295 4294967295 (by omega) (by omega) (by omega) (by omega)
      go_wp2_with (first | (go_at_call 26; refine (awake01_call _).mono ?_; rintro e w1 ⟨rfl, n3, rfl⟩) | (go_at_call 30; refine (sqrt_call _ _ (by omega) (by omega)).mono ?_; rintro e w1 ⟨t, ht, hc, rfl, rfl⟩; obtain rfl : t = 0 := ht.unique ⟨by omega, by omega, by omega⟩))
      go_ret
      exact ⟨rfl, grown_drewN _ _⟩
    · go_wp2_with (first | (go_at_call 26; refine (awake01_call _).mono ?_; rintro e w1 ⟨rfl, n3, rfl⟩) | (go_at_call 30; refine (sqrt_call _ _ (by omega) (by omega)).mono ?_; rintro e w1 ⟨t, ht, hc, rfl, rfl⟩; obtain rfl : t = 0 := ht.unique ⟨by omega, by omega, by omega⟩))
      go_ret
      exact ⟨rfl, grown_drewN _ _⟩
  · have hz : (k == 0) = false := by simpa using hk
    have k2 : 1 ≤ k := by omega
    have p3 := P2.out k2
    clear hk
    go_enter Try.func12, Try.ntmps12
    go_wp2_with fail
    refine (sqrt_call _ _ n0 n1).mono ?_
    rintro e w1 ⟨r, hr, hb, rfl, rfl⟩
    obtain ⟨q0, q1⟩ := mul_bound r r 4294967295 4294967295 hr.r0 hr.r0 hb hb
    have r0 := hr.r0
    have lo := hr.lo
    have hi := hr.hi
    by_cases hm : r < 4294967295
    · obtain ⟨q2, q3⟩ := mul_bound (r + 1) (r + 1) 4294967295 4294967295 (by omega) (by omega) (by omega) (by omega)
      go_wp2_with (go_at_call 26; refine (awake01_call _).mono ?_; rintro e w1 ⟨rfl, n3, rfl⟩)
      refine (sqrt_call _ _ (by omega) (by omega)).mono ?_
      rintro e w1 ⟨t, ht, hc, rfl, rfl⟩
      rw [ht.unique S1.out]
      go_wp2_with fail
      refine (sqrt_call _ _ (by omega) (by omega)).mono ?_
      rintro e w1 ⟨t', ht', hc', rfl, rfl⟩
      rw [ht'.unique (S2.out k2)]
      go_wp2_with fail
      go_ret
      exact ⟨rfl, grown_drewN _ _⟩
    · go_wp2_with (go_at_call 26; refine (awake01_call _).mono ?_; rintro e w1 ⟨rfl, n3, rfl⟩)
      refine (sqrt_call _ _ (by omega) (by omega)).mono ?_
      rintro e w1 ⟨t, ht, hc, rfl, rfl⟩
      rw [ht.unique S1.out]
      go_wp2_with fail
      refine (sqrt_call _ _ (by omega) (by omega)).mono ?_
      rintro e w1 ⟨t', ht', hc', rfl, rfl⟩
      rw [ht'.unique (S2.out k2)]
      go_wp2_with fail
      go_ret
      exact ⟨rfl, grown_drewN _ _⟩
end Go.Proofs.Ytjefcchdcoiinaa
