/- Contracts of the roots of 128 bits. -/
import Derived.Test.YtdbemgjjahcabaaIvCmp
namespace Go.Proofs.Ytdbemgjjahcabaa
open Go.RowKit
set_option linter.unusedVariables false

set_option maxHeartbeats 2000000 in
theorem wideSqrt_call (hi lo N : Int) (w : World) (h0 : 0 ≤ hi) (h1 : hi ≤ 18446744073709551615) (l0 : 0 ≤ lo) (l1 : lo ≤ 18446744073709551615) (hN : hi * 18446744073709551616 + lo = N) :
    Calls Try.prog 43 #[.agg #[.int .u64 hi, .int .u64 lo]] w fun e w' => e = .returned (.int .u64 (isq N)) ∧ ∃ p, w' = more w p := by
  have R := isq_spec (N := N) (by omega) (by omega)
  obtain ⟨r, hr⟩ : ∃ r, isq N = r := ⟨_, rfl⟩
  rw [hr] at R ⊢
  have r0 := R.r0
  have r1 := R.r1
  replace hN := Lib.hid hN
  replace R := Lib.hid R
  clear hr
  go_enter Try.func43, Try.ntmps43
  go_wp2_with fail
  go_loopw [3, 4] (fun s3 s4 wr => ∃ k : Nat, k ≤ 64 ∧ s3 = .int .u64 (sqX r k) ∧ s4 = .int .u64 (sqB k) ∧ Ext w wr ∧ wr.heap[w.heap.size]? = some (wideO hi lo)) (fun _ s4 _ => (intOf s4).toNat)
  case atStart => exact ⟨64, by omega, by rw [sqX_start r0 r1], rfl, ⟨⟨[_], 0⟩, rfl⟩, at_new rfl⟩
  case round =>
    obtain ⟨k, hk, rfl, rfl, hE, e1⟩ := hrel
    obtain ⟨k0, k1, k2⟩ := wide_of e1
    have hmc := more_cell
    replace hE := Lib.hid hE
    replace e1 := Lib.hid e1
    cases k with
    | zero =>
      have ex := sqX_end r
      have eb : sqB 0 = 0 := rfl
      rw [ex, eb]
      clear ex eb
      go_wp2_with fail
      go_ret
      exact ⟨rfl, hE.out⟩
    | succ j =>
      obtain ⟨x0, p1, p2, x1, hor, y1, y2, hb⟩ := sqX_step (r := r) (j := j) r0 r1 (by omega)
      have eb : sqB (j + 1) = 2 ^ j := rfl
      rw [eb]
      clear eb
      obtain ⟨x, hx⟩ : ∃ x, sqX r (j + 1) = x := ⟨_, rfl⟩
      obtain ⟨b, hb'⟩ : ∃ b, (2 : Int) ^ j = b := ⟨_, rfl⟩
      rw [hb'] at p1 p2
      rw [hx, hb'] at x1 hor y1 y2
      rw [hx] at x0 ⊢
      rw [hb'] at hb ⊢
      obtain ⟨m0, m1, m2, m3, m4⟩ := mul_hi_lo (x + b) (x + b) (by omega) (by omega) (by omega) (by omega)
      have wm := fun w => wideMul_call (x + b) (x + b) w (by omega) (by omega) (by omega) (by omega)
      have wc := fun w => wideCompare_call ((x + b) * (x + b) / 18446744073709551616) ((x + b) * (x + b) % 18446744073709551616) hi lo w m2 m3 l0 l1
      rw [m4, hN.out] at wc
      have WM := Lib.hid @wm
      have WC := Lib.hid @wc
      have hcmp := cmp_le ((x + b) * (x + b)) N
      have hle := R.out.le (c := x + b) (by omega)
      clear wm wc m0 m1 m2 m3 m4 hx hb'
      by_cases hc : x + b ≤ r
      · have hd : decide (cmpI ((x + b) * (x + b)) N ≤ 0) = true := hcmp.trans (decide_eq_true (hle.2 hc))
        replace y1 := Lib.hid (y1 hc)
        clear hcmp hle hc y2
        go_wp2_with fail
        refine region_more (by kernel_rfl) (by kernel_rfl) ?_
        repeat (go_big_quiet_step ((first
          | (go_at_call 42; with_reducible exact calls_more_o (WM.out _))
          | (go_at_call 44; with_reducible exact calls_more (WC.out _)))))
        refine wpQuiet_nil ?_
        rintro w1 ⟨p, rfl⟩
        go_wp2_with fail
        refine ⟨⟨j, by omega, by rw [y1.out], rfl, hE.out.mored p, (more_heap _ _ _ k0).trans e1.out⟩, ?_⟩
        simp only [intOf]; omega
      · have hd : decide (cmpI ((x + b) * (x + b)) N ≤ 0) = false := hcmp.trans (decide_eq_false (fun c => hc (hle.1 c)))
        replace y2 := Lib.hid (y2 (by omega))
        clear hcmp hle hc y1
        go_wp2_with fail
        refine region_more (by kernel_rfl) (by kernel_rfl) ?_
        repeat (go_big_quiet_step ((first
          | (go_at_call 42; with_reducible exact calls_more_o (WM.out _))
          | (go_at_call 44; with_reducible exact calls_more (WC.out _)))))
        refine wpQuiet_nil ?_
        rintro w1 ⟨p, rfl⟩
        go_wp2_with fail
        refine ⟨⟨j, by omega, by rw [y2.out], rfl, hE.out.mored p, (more_heap _ _ _ k0).trans e1.out⟩, ?_⟩
        simp only [intOf]; omega

set_option maxHeartbeats 2000000 in
theorem refSqrtWide_call (hi lo N : Int) (w : World) (h0 : 0 ≤ hi) (h1 : hi ≤ 18446744073709551615) (l0 : 0 ≤ lo) (l1 : lo ≤ 18446744073709551615) (hN : hi * 18446744073709551616 + lo = N) :
    Calls Try.prog 47 #[.agg #[.int .u64 hi, .int .u64 lo]] w fun e w' => e = .returned (.int .u64 (isq N)) ∧ ∃ p, w' = more w p := by
  have R := isq_spec (N := N) (by omega) (by omega)
  obtain ⟨r, hr⟩ : ∃ r, isq N = r := ⟨_, rfl⟩
  rw [hr] at R ⊢
  have r0 := R.r0
  have r1 := R.r1
  replace hN := Lib.hid hN
  replace R := Lib.hid R
  clear hr
  go_enter Try.func47, Try.ntmps47
  go_wp2_with fail
  go_loopw [3, 5] (fun s3 s5 wr => ∃ k : Nat, k ≤ 64 ∧ s3 = .int .u64 (sqX r k) ∧ s5 = .int .i64 ((k : Int) - 1) ∧ Ext w wr ∧ wr.heap[w.heap.size]? = some (wideO hi lo)) (fun _ s5 _ => (intOf s5 + 1).toNat)
  case atStart => exact ⟨64, by omega, by rw [sqX_start r0 r1], rfl, ⟨⟨[_], 0⟩, rfl⟩, at_new rfl⟩
  case round =>
    obtain ⟨k, hk, rfl, rfl, hE, e1⟩ := hrel
    obtain ⟨k0, k1, k2⟩ := wide_of e1
    have hmc := more_cell
    replace hE := Lib.hid hE
    replace e1 := Lib.hid e1
    cases k with
    | zero =>
      have ex := sqX_end r
      rw [ex]
      clear ex
      go_wp2_with fail
      go_ret
      exact ⟨rfl, hE.out⟩
    | succ j =>
      obtain ⟨x0, p1, p2, x1, hor, y1, y2, hb⟩ := sqX_step (r := r) (j := j) r0 r1 (by omega)
      have ej : ((j + 1 : Nat) : Int) - 1 = (j : Int) := by omega
      rw [ej]
      clear ej hb
      have j0 : (0 : Int) ≤ (j : Int) := by omega
      have j1 : (j : Int) ≤ 63 := by omega
      obtain ⟨x, hx⟩ : ∃ x, sqX r (j + 1) = x := ⟨_, rfl⟩
      obtain ⟨b, hb'⟩ : ∃ b, (2 : Int) ^ j = b := ⟨_, rfl⟩
      rw [hx, hb'] at x1 hor y1 y2
      rw [hx] at x0 ⊢
      rw [hb'] at p1 p2
      have hw : (2 : Int) ^ j = b := hb'
      obtain ⟨m0, m1, m2, m3, m4⟩ := mul_hi_lo (x + b) (x + b) (by omega) (by omega) (by omega) (by omega)
      have wm := fun w => refMul_call (x + b) (x + b) w (by omega) (by omega) (by omega) (by omega)
      have wc := fun w => refCompare_call ((x + b) * (x + b) / 18446744073709551616) ((x + b) * (x + b) % 18446744073709551616) hi lo w m2 m3 l0 l1
      rw [m4, hN.out] at wc
      have WM := Lib.hid @wm
      have WC := Lib.hid @wc
      have hcmp := cmp_le ((x + b) * (x + b)) N
      have hle := R.out.le (c := x + b) (by omega)
      clear wm wc m0 m1 m2 m3 m4 hx hb'
      by_cases hc : x + b ≤ r
      · have hd : decide (cmpI ((x + b) * (x + b)) N ≤ 0) = true := hcmp.trans (decide_eq_true (hle.2 hc))
        replace y1 := Lib.hid (y1 hc)
        clear hcmp hle hc y2
        go_wp2_with fail
        refine region_more (by kernel_rfl) (by kernel_rfl) ?_
        repeat (go_big_quiet_step ((first
          | (go_at_call 48; with_reducible exact calls_more_o (WM.out _))
          | (go_at_call 49; with_reducible exact calls_more (WC.out _)))))
        refine wpQuiet_nil ?_
        rintro w1 ⟨p, rfl⟩
        go_wp2_with fail
        refine ⟨⟨j, by omega, by rw [y1.out], rfl, hE.out.mored p, (more_heap _ _ _ k0).trans e1.out⟩, ?_⟩
        simp only [intOf]; omega
      · have hd : decide (cmpI ((x + b) * (x + b)) N ≤ 0) = false := hcmp.trans (decide_eq_false (fun c => hc (hle.1 c)))
        replace y2 := Lib.hid (y2 (by omega))
        clear hcmp hle hc y1
        go_wp2_with fail
        refine region_more (by kernel_rfl) (by kernel_rfl) ?_
        repeat (go_big_quiet_step ((first
          | (go_at_call 48; with_reducible exact calls_more_o (WM.out _))
          | (go_at_call 49; with_reducible exact calls_more (WC.out _)))))
        refine wpQuiet_nil ?_
        rintro w1 ⟨p, rfl⟩
        go_wp2_with fail
        refine ⟨⟨j, by omega, by rw [y2.out], rfl, hE.out.mored p, (more_heap _ _ _ k0).trans e1.out⟩, ?_⟩
        simp only [intOf]; omega
end Go.Proofs.Ytdbemgjjahcabaa
