/- Contracts of ref01.HalfWide and MulDiv. -/
import Derived.Test.YtjefcchdcoiinaaRefWide
import Derived.Deep.RegionWith
namespace Go.Proofs.Ytjefcchdcoiinaa
open Go.RowKit
set_option linter.unusedVariables false

set_option maxHeartbeats 1000000 in
theorem refDivMod_no (hi lo : Int) (w : World) :
    Calls Try.prog 47 #[.agg #[.int .u64 hi, .int .u64 lo], .int .u64 0] w fun e w' =>
      e = .returned (.tuple #[.agg #[.int .u64 0, .int .u64 0], .int .u64 0, .bool false]) ∧ (w.alloc (wideO hi lo)).alloc (wideO 0 0) = w' := by
  go_enter Try.func47, Try.ntmps47
  go_wp2
  exact bodyPost_ret (v := .tuple #[.agg #[.int .u64 0, .int .u64 0], .int .u64 0, .bool false]) (by simp [results, Try.results47, go_sem]) rfl ⟨rfl, rfl⟩

set_option maxHeartbeats 1000000 in
theorem refHalfWide_no (hi lo : Int) (w : World) :
    Calls Try.prog 43 #[.agg #[.int .u64 hi, .int .u64 lo], .int .u64 0] w fun e w' =>
      e = .returned (.tuple #[.agg #[.int .u64 0, .int .u64 0], .bool false]) ∧ ∃ p, w' = more w p := by
  go_enter Try.func43, Try.ntmps43
  go_wp2_with (go_at_call 47; (with_reducible refine (refDivMod_no _ _ _).mono ?_); rintro e w' ⟨rfl, rfl⟩)
  exact bodyPost_ret (v := .tuple #[.agg #[.int .u64 0, .int .u64 0], .bool false]) (by simp [results, Try.results43, go_sem]) rfl ⟨rfl, ⟨[_, _, _, _, _], 0⟩, rfl⟩

set_option maxHeartbeats 4000000 in
theorem refHalfWide_low (hi lo d qh ql r : Int) (w : World) (d0 : 1 ≤ d) (d1 : d ≤ 18446744073709551615) (r0 : 0 ≤ r) (r1 : r < d) (hr : r < d - r)
    (hC : ∀ w : World, Calls Try.prog 47 #[.agg #[.int .u64 hi, .int .u64 lo], .int .u64 d] w fun e w' =>
      e = .returned (.tuple #[.agg #[.int .u64 qh, .int .u64 ql], .int .u64 r, .bool true]) ∧ ((w.alloc (wideO hi lo)).alloc (wideO qh ql)).alloc (wideO qh ql) = w') :
    Calls Try.prog 43 #[.agg #[.int .u64 hi, .int .u64 lo], .int .u64 d] w fun e w' =>
      e = .returned (.tuple #[.agg #[.int .u64 qh, .int .u64 ql], .bool true]) ∧ ∃ p, w' = more w p := by
  have HC := Lib.hid @hC
  clear hC
  go_enter Try.func43, Try.ntmps43
  go_wp2_with (go_at_call 47; (with_reducible refine (HC.out _).mono ?_); rintro e w' ⟨rfl, rfl⟩)
  exact bodyPost_ret (v := .tuple #[.agg #[.int .u64 qh, .int .u64 ql], .bool true]) (by simp [results, Try.results43, go_sem]) rfl ⟨rfl, ⟨[_, _, _, _, _, _], 0⟩, rfl⟩

set_option maxHeartbeats 4000000 in
theorem refHalfWide_up (hi lo d qh ql r h l : Int) (w : World) (d0 : 1 ≤ d) (d1 : d ≤ 18446744073709551615) (r0 : 0 ≤ r) (r1 : r < d) (hr : d - r ≤ r)
    (hC : ∀ w : World, Calls Try.prog 47 #[.agg #[.int .u64 hi, .int .u64 lo], .int .u64 d] w fun e w' =>
      e = .returned (.tuple #[.agg #[.int .u64 qh, .int .u64 ql], .int .u64 r, .bool true]) ∧ ((w.alloc (wideO hi lo)).alloc (wideO qh ql)).alloc (wideO qh ql) = w')
    (hA : ∀ w : World, Calls Try.prog 38 #[.agg #[.int .u64 qh, .int .u64 ql], .agg #[.int .u64 0, .int .u64 1]] w fun e w' => e = .returned (.tuple #[.agg #[.int .u64 h, .int .u64 l], .bool true]) ∧
      ((w.alloc (wideO qh ql)).alloc (wideO 0 1)).alloc (wideO h l) = w') :
    Calls Try.prog 43 #[.agg #[.int .u64 hi, .int .u64 lo], .int .u64 d] w fun e w' =>
      e = .returned (.tuple #[.agg #[.int .u64 h, .int .u64 l], .bool true]) ∧ ∃ p, w' = more w p := by
  have HC := Lib.hid @hC
  have HA := Lib.hid @hA
  clear hC hA
  have hsd : ∀ (w : World) (n : Nat) (a : Addr) (v : Value), (w.drewN n).setCell a v = (w.setCell a v).drewN n := fun _ _ _ _ => rfl
  have had : ∀ (w : World) (n : Nat) (o : Obj), (w.drewN n).alloc o = (w.alloc o).drewN n := fun _ _ _ => rfl
  go_enter Try.func43, Try.ntmps43
  go_wp2_with (go_at_call 47; (with_reducible refine (HC.out _).mono ?_); rintro e w' ⟨rfl, rfl⟩)
  go_region_with (first
    | (go_at_call 48; (with_reducible refine (refOf_call _ _).mono ?_); rintro e w' ⟨rfl, rfl⟩)
    | (go_at_call 38; (with_reducible refine (HA.out _).mono ?_); rintro e w' ⟨rfl, rfl⟩))
  all_goals
    go_wp2
    exact bodyPost_ret (v := .tuple #[.agg #[.int .u64 h, .int .u64 l], .bool true]) (by simp [results, Try.results43, go_sem]) rfl ⟨rfl, ⟨[_, _, _, _, _, _, _, _, _, _], _⟩, rfl⟩

theorem refHalfWide_yes (hi lo d : Int) (h0 : 0 ≤ hi) (h1 : hi ≤ 18446744073709551615) (l0 : 0 ≤ lo) (l1 : lo ≤ 18446744073709551615) (d0 : 1 ≤ d) (d1 : d ≤ 18446744073709551615)
    (hf : hi * 18446744073709551616 + lo < 340282366920938463463374607431768211455) :
    ∃ h l : Int, 0 ≤ h ∧ h ≤ 18446744073709551615 ∧ 0 ≤ l ∧ l ≤ 18446744073709551615 ∧ h * 18446744073709551616 + l = halfI (hi * 18446744073709551616 + lo) d ∧
    ∀ w : World, Calls Try.prog 43 #[.agg #[.int .u64 hi, .int .u64 lo], .int .u64 d] w fun e w' =>
      e = .returned (.tuple #[.agg #[.int .u64 h, .int .u64 l], .bool true]) ∧ ∃ p, w' = more w p := by
  have hC := fun w => refDivMod_yes hi lo d w h0 h1 l0 l1 d0 d1
  obtain ⟨N, hN⟩ : ∃ N, hi * 18446744073709551616 + lo = N := ⟨_, rfl⟩
  rw [hN] at hC hf ⊢
  have N0 : 0 ≤ N := by omega
  obtain ⟨q, hq⟩ : ∃ q, N / d = q := ⟨_, rfl⟩
  obtain ⟨r, hr⟩ : ∃ r, N % d = r := ⟨_, rfl⟩
  have q0 : 0 ≤ q := by rw [← hq]; exact Int.ediv_nonneg N0 (by omega)
  have q1 : q ≤ N := by rw [← hq]; exact Int.ediv_le_self _ N0
  have r0 : 0 ≤ r := by rw [← hr]; exact Int.emod_nonneg _ (by omega)
  have r1 : r < d := by rw [← hr]; exact Int.emod_lt_of_pos _ (by omega)
  have hh : halfI N d = if d - r ≤ r then q + 1 else q := by unfold halfI; rw [if_neg (by omega), hq, hr]
  rw [hq, hr] at hC
  obtain ⟨qh, hqh⟩ : ∃ x, q / 18446744073709551616 = x := ⟨_, rfl⟩
  obtain ⟨ql, hql⟩ : ∃ x, q % 18446744073709551616 = x := ⟨_, rfl⟩
  rw [hqh, hql] at hC
  by_cases ht : d - r ≤ r
  · rw [if_pos ht] at hh
    obtain ⟨h, l, e, b0, b1, b2, b3, hA⟩ := refAdd_call qh ql 0 1 (by omega) (by omega) (by omega) (by omega) (by omega) (by omega) (by omega)
    exact ⟨h, l, b0, b1, b2, b3, by rw [hh]; omega, fun w => refHalfWide_up hi lo d qh ql r h l w d0 d1 r0 r1 ht hC hA⟩
  · rw [if_neg ht] at hh
    exact ⟨qh, ql, by omega, by omega, by omega, by omega, by rw [hh]; omega, fun w => refHalfWide_low hi lo d qh ql r w d0 d1 r0 r1 (by omega) hC⟩

set_option maxHeartbeats 1000000 in
theorem refMulDiv_call (a b d : Int) (w : World) (a0 : 0 ≤ a) (a1 : a ≤ 18446744073709551615) (b0 : 0 ≤ b) (b1 : b ≤ 18446744073709551615) (d0 : 0 ≤ d) (d1 : d ≤ 18446744073709551615) :
    Calls Try.prog 31 #[.int .u64 a, .int .u64 b, .int .u64 d] w fun e w' => e = .returned (.tuple #[.int .u64 (mdV a b d), .bool (mdB a b d)]) ∧ ∃ p, w' = more w p := by
  have hM := fun w => refMul_call a b w a0 a1 b0 b1
  obtain ⟨m0, m1, m2, m3, m4⟩ := mul_hi_lo a b a0 a1 b0 b1
  obtain ⟨H, hH⟩ : ∃ H, a * b / 18446744073709551616 = H := ⟨_, rfl⟩
  obtain ⟨L, hL⟩ : ∃ L, a * b % 18446744073709551616 = L := ⟨_, rfl⟩
  rw [hH, hL] at m4 hM
  rw [hH] at m0 m1
  rw [hL] at m2 m3
  have HM := Lib.hid @hM
  clear hM hH hL
  by_cases hd : d = 0
  · have e1 : mdB a b d = false := by simp [mdB, hd]
    have e2 : mdV a b d = 0 := by simp [mdV, e1]
    rw [e1, e2]
    clear e1 e2 m4
    subst hd
    go_enter Try.func31, Try.ntmps31
    go_wp2_with (first
      | (go_at_call 37; (with_reducible refine (HM.out _).mono ?_); rintro e w' ⟨rfl, rfl⟩)
      | (go_at_call 43; (with_reducible refine (refHalfWide_no _ _ _).mono ?_); rintro e w' ⟨rfl, p, rfl⟩))
    go_ret2
    exact ⟨rfl, _, (more_alloc _ _ _).trans (more_more w ⟨[_], 0⟩ _)⟩
  · obtain ⟨h, l, c0, c1, c2, c3, e, hC⟩ := refHalfWide_yes H L d m0 (by omega) m2 m3 (by omega) d1 (by omega)
    rw [m4] at e
    have HC := Lib.hid @hC
    clear hC m4
    by_cases hh : h = 0
    · have e1 : mdB a b d = true := decide_eq_true ⟨hd, by omega⟩
      have e2 : mdV a b d = l := by unfold mdV; rw [if_pos e1]; omega
      rw [e1, e2]
      subst hh
      clear e1 e2 e hd
      go_enter Try.func31, Try.ntmps31
      go_wp2_with (first
        | (go_at_call 37; (with_reducible refine (HM.out _).mono ?_); rintro e w' ⟨rfl, rfl⟩)
        | (go_at_call 43; (with_reducible refine (HC.out _).mono ?_); rintro e w' ⟨rfl, p, rfl⟩))
      go_ret2
      exact ⟨rfl, _, (more_alloc _ _ _).trans (more_more w ⟨[_], 0⟩ _)⟩
    · have e1 : mdB a b d = false := decide_eq_false (by omega)
      have e2 : mdV a b d = 0 := by unfold mdV; rw [e1]; rfl
      rw [e1, e2]
      have h2 : 0 < h := by omega
      clear e1 e2 e hd hh
      go_enter Try.func31, Try.ntmps31
      go_wp2_with (first
        | (go_at_call 37; (with_reducible refine (HM.out _).mono ?_); rintro e w' ⟨rfl, rfl⟩)
        | (go_at_call 43; (with_reducible refine (HC.out _).mono ?_); rintro e w' ⟨rfl, p, rfl⟩))
      go_ret2
      exact ⟨rfl, _, (more_alloc _ _ _).trans (more_more w ⟨[_], 0⟩ _)⟩
end Go.Proofs.Ytjefcchdcoiinaa
