/- Contract of round.MulDiv. -/
import Derived.Test.YtjefcchdcoiinaaDiv64
namespace Go.Proofs.Ytjefcchdcoiinaa
open Go.RowKit

theorem div64_call (hi lo y : Int) (w : World) (h0 : 0 ≤ hi) (h1 : hi < y) (y1 : y ≤ 18446744073709551615) (l0 : 0 ≤ lo) (l1 : lo ≤ 18446744073709551615) :
    Calls Try.prog 41 #[.int .u64 hi, .int .u64 lo, .int .u64 y] w fun e w' => e = .returned (.tuple #[.int .u64 (divQ hi lo y), .int .u64 (divR hi lo y)]) ∧ ∃ n, w' = w.drewN n := by
  by_cases h : hi = 0
  · subst h; exact div64_low lo y w (by omega) y1 l0 l1
  · exact (div64_high hi lo y w (by omega) h1 y1 l0 l1).mono fun e w' ⟨he, hw⟩ => ⟨he, 0, hw.symm⟩

/-- Whether a * b / d has a nearest integer of 64 bits, and which. -/
def mdB (a b d : Int) : Bool := decide (d ≠ 0 ∧ halfI (a * b) d ≤ 18446744073709551615)
def mdV (a b d : Int) : Int := if mdB a b d = true then halfI (a * b) d else 0

theorem mul_hi_lo (a b : Int) (a0 : 0 ≤ a) (a1 : a ≤ 18446744073709551615) (b0 : 0 ≤ b) (b1 : b ≤ 18446744073709551615) :
    0 ≤ a * b / 18446744073709551616 ∧ a * b / 18446744073709551616 ≤ 18446744073709551614 ∧ 0 ≤ a * b % 18446744073709551616 ∧ a * b % 18446744073709551616 ≤ 18446744073709551615 ∧ a * b / 18446744073709551616 * 18446744073709551616 + a * b % 18446744073709551616 = a * b := by
  obtain ⟨p0, p1⟩ := mul_bound a b 18446744073709551615 18446744073709551615 a0 b0 a1 b1
  omega

theorem md_cases (a b d q r : Int) (d0 : 1 ≤ d) (hq : a * b / d = q) (hr : a * b % d = r) :
    (d - r ≤ r → q = 18446744073709551615 → mdV a b d = 0 ∧ mdB a b d = false) ∧
    (d - r ≤ r → q < 18446744073709551615 → mdV a b d = q + 1 ∧ mdB a b d = true) ∧
    (r < d - r → q ≤ 18446744073709551615 → mdV a b d = q ∧ mdB a b d = true) := by
  have hh : halfI (a * b) d = if d - r ≤ r then q + 1 else q := by
    unfold halfI; rw [if_neg (by omega), hq, hr]
  refine ⟨fun h1 h2 => ?_, fun h1 h2 => ?_, fun h1 h2 => ?_⟩
  · have hb : mdB a b d = false := by
      unfold mdB; rw [hh, if_pos h1]; exact decide_eq_false (by omega)
    exact ⟨by unfold mdV; rw [hb]; rfl, hb⟩
  · have hb : mdB a b d = true := by
      unfold mdB; rw [hh, if_pos h1]; exact decide_eq_true (by omega)
    exact ⟨by unfold mdV; rw [if_pos hb, hh, if_pos h1], hb⟩
  · have hb : mdB a b d = true := by
      unfold mdB; rw [hh, if_neg (by omega)]; exact decide_eq_true (by omega)
    exact ⟨by unfold mdV; rw [if_pos hb, hh, if_neg (by omega)], hb⟩

set_option maxHeartbeats 1000000 in
theorem muldiv_call (a b d : Int) (w : World) (a0 : 0 ≤ a) (a1 : a ≤ 18446744073709551615) (b0 : 0 ≤ b) (b1 : b ≤ 18446744073709551615) (d0 : 0 ≤ d) (d1 : d ≤ 18446744073709551615) :
    Calls Try.prog 29 #[.int .u64 a, .int .u64 b, .int .u64 d] w fun e w' => e = .returned (.tuple #[.int .u64 (mdV a b d), .bool (mdB a b d)]) ∧ ∃ n, w' = w.drewN n := by
  obtain ⟨m0, m1, m2, m3, m4⟩ := mul_hi_lo a b a0 a1 b0 b1
  obtain ⟨H, hH⟩ : ∃ H, a * b / 18446744073709551616 = H := ⟨_, rfl⟩
  obtain ⟨L, hL⟩ : ∃ L, a * b % 18446744073709551616 = L := ⟨_, rfl⟩
  have hm := mul64_call a b
  rw [hH, hL] at m4 hm
  rw [hH] at m0 m1
  rw [hL] at m2 m3
  have HM := Lib.hid @hm
  have M4 := Lib.hid m4
  clear hm m4 hH hL
  by_cases hd : d = 0
  · have e1 : mdB a b d = false := by simp [mdB, hd]
    have e2 : mdV a b d = 0 := by simp [mdV, e1]
    rw [e1, e2]
    clear e1 e2
    subst hd
    go_enter Try.func29, Try.ntmps29
    go_wp2_with (go_at_call 40; refine (HM.out _ a0 a1 b0 b1).mono ?_; rintro e w' ⟨rfl, rfl⟩)
    go_ret2
    exact ⟨rfl, 0, rfl⟩
  · have hz : (d == 0) = false := by simpa using hd
    by_cases hh : d ≤ H
    · have hb : mdB a b d = false := by
        unfold mdB
        refine decide_eq_false ?_
        rintro ⟨_, h⟩
        have hN : 18446744073709551616 * d ≤ a * b := by
          have h2 : 18446744073709551616 * d ≤ 18446744073709551616 * H := by omega
          have := M4.out; omega
        have h3 := half_mono (18446744073709551616 * d) (a * b) d hN (by omega)
        rw [half_mul _ d (by omega)] at h3
        omega
      have hv : mdV a b d = 0 := by unfold mdV; rw [hb]; rfl
      rw [hb, hv]
      clear hb hv hd
      go_enter Try.func29, Try.ntmps29
      go_wp2_with (go_at_call 40; refine (HM.out _ a0 a1 b0 b1).mono ?_; rintro e w' ⟨rfl, rfl⟩)
      go_ret2
      exact ⟨rfl, 0, rfl⟩
    · have d2 : 1 ≤ d := by omega
      have eN : H * 18446744073709551616 + L = a * b := M4.out
      obtain ⟨q, hq⟩ : ∃ q, divQ H L d = q := ⟨_, rfl⟩
      obtain ⟨r, hr⟩ : ∃ r, divR H L d = r := ⟨_, rfl⟩
      have hq' : a * b / d = q := by rw [← hq, divQ, eN]
      have hr' : a * b % d = r := by rw [← hr, divR, eN]
      have r0 : 0 ≤ r := by rw [← hr']; exact Int.emod_nonneg _ (by omega)
      have r1 : r < d := by rw [← hr']; exact Int.emod_lt_of_pos _ (by omega)
      have q0 : 0 ≤ q := by rw [← hq']; exact Int.ediv_nonneg (by have := mul_bound a b 18446744073709551615 18446744073709551615 a0 b0 a1 b1; omega) (by omega)
      have q1 : q ≤ 18446744073709551615 := by
        have h : a * b / d < 18446744073709551616 := Int.ediv_lt_of_lt_mul (by omega) (by rw [← eN]; omega)
        omega
      have C := Lib.hid (md_cases a b d q r d2 hq' hr')
      have hdv := div64_call H L d
      rw [hq, hr] at hdv
      have HD := Lib.hid @hdv
      clear hdv hq hr hq' hr' eN hd M4
      by_cases ht : d - r ≤ r
      · by_cases hx : q = 18446744073709551615
        · obtain ⟨c1, c2⟩ := C.out.1 ht hx
          rw [c1, c2]
          have hxb : (q == 18446744073709551615) = true := by simpa using hx
          clear c1 c2 hx
          go_enter Try.func29, Try.ntmps29
          go_wp2_with (first
            | (go_at_call 40; refine (HM.out _ a0 a1 b0 b1).mono ?_; rintro e w' ⟨rfl, rfl⟩)
            | (go_at_call 41; refine (HD.out _ m0 (by omega) d1 m2 m3).mono ?_; rintro e w' ⟨rfl, n, rfl⟩))
          go_ret2
          exact ⟨rfl, _, rfl⟩
        · obtain ⟨c1, c2⟩ := C.out.2.1 ht (by omega)
          rw [c1, c2]
          have hxb : (q == 18446744073709551615) = false := by simpa using hx
          clear c1 c2
          go_enter Try.func29, Try.ntmps29
          go_wp2_with (first
            | (go_at_call 40; refine (HM.out _ a0 a1 b0 b1).mono ?_; rintro e w' ⟨rfl, rfl⟩)
            | (go_at_call 41; refine (HD.out _ m0 (by omega) d1 m2 m3).mono ?_; rintro e w' ⟨rfl, n, rfl⟩))
          go_ret2
          exact ⟨rfl, _, rfl⟩
      · obtain ⟨c1, c2⟩ := C.out.2.2 (by omega) q1
        rw [c1, c2]
        clear c1 c2
        go_enter Try.func29, Try.ntmps29
        go_wp2_with (first
          | (go_at_call 40; refine (HM.out _ a0 a1 b0 b1).mono ?_; rintro e w' ⟨rfl, rfl⟩)
          | (go_at_call 41; refine (HD.out _ m0 (by omega) d1 m2 m3).mono ?_; rintro e w' ⟨rfl, n, rfl⟩))
        go_ret2
        exact ⟨rfl, _, rfl⟩
end Go.Proofs.Ytjefcchdcoiinaa
