/- Contracts of ref01.DivMod, HalfWide, MulDiv. -/
import Derived.Test.YtdbemgjjahcabaaMulDiv
import Derived.Test.YtdbemgjjahcabaaBits
import Derived.Test.YtdbemgjjahcabaaMore
namespace Go.Proofs.Ytdbemgjjahcabaa
open Go.RowKit
set_option linter.unusedVariables false

/-- the block of a number of 128 bits -/
abbrev wideO (h l : Int) : Obj := .cells #[.int .u64 h, .int .u64 l] 51

set_option maxHeartbeats 4000000 in
set_option maxRecDepth 100000 in
theorem refDivMod_yes (hi lo d : Int) (w : World) (h0 : 0 ≤ hi) (h1 : hi ≤ 18446744073709551615) (l0 : 0 ≤ lo) (l1 : lo ≤ 18446744073709551615) (d0 : 1 ≤ d) (d1 : d ≤ 18446744073709551615) :
    Calls Try.prog 58 #[.agg #[.int .u64 hi, .int .u64 lo], .int .u64 d] w fun e w' =>
      e = .returned (.tuple #[.agg #[.int .u64 ((hi * 18446744073709551616 + lo) / d / 18446744073709551616), .int .u64 ((hi * 18446744073709551616 + lo) / d % 18446744073709551616)], .int .u64 ((hi * 18446744073709551616 + lo) % d), .bool true]) ∧
      ((w.alloc (wideO hi lo)).alloc (wideO ((hi * 18446744073709551616 + lo) / d / 18446744073709551616) ((hi * 18446744073709551616 + lo) / d % 18446744073709551616))).alloc (wideO ((hi * 18446744073709551616 + lo) / d / 18446744073709551616) ((hi * 18446744073709551616 + lo) / d % 18446744073709551616)) = w' := by
  obtain ⟨N, hN⟩ : ∃ N, hi * 18446744073709551616 + lo = N := ⟨_, rfl⟩
  have N0 : 0 ≤ N := by omega
  have N1 : N < 340282366920938463463374607431768211456 := by omega
  rw [hN]
  have HB : ∀ j : Nat, (64 ≤ j → bits .and .u64 (hi / 2 ^ (j - 64)) 1 = N / 2 ^ j % 2) ∧ (j < 64 → bits .and .u64 (lo / 2 ^ j) 1 = N / 2 ^ j % 2) := fun j => by
    rw [← hN]; exact ⟨fun h => bit_high hi lo j h h0 h1 l0 l1, fun h => bit_low hi lo j h h0 l0 l1⟩
  replace HB := Lib.hid HB
  replace N1 := Lib.hid N1
  clear hN
  have hz : (d == 0) = false := beq_eq_false_iff_ne.2 (by omega)
  go_enter Try.func58, Try.ntmps58
  go_wp2_with fail
  go_loopw [8, 9] (fun r i wr => ∃ (k : Nat) (rv qh ql : Int), k ≤ 128 ∧ i = .int .i64 ((k : Int) - 1) ∧ r = .int .u64 rv ∧ DM N d k rv qh ql ∧ wr = ((w.alloc (wideO hi lo)).alloc (wideO 0 0)).alloc (wideO qh ql)) (fun _ i _ => (intOf i + 1).toNat)
  case atStart => exact ⟨128, 0, 0, 0, by omega, rfl, rfl, DM.start N d N0 N1.out d0, rfl⟩
  case round =>
    obtain ⟨k, rv, qh, ql, hk, rfl, rfl, hD, rfl⟩ := hrel
    obtain ⟨r0, r1, a0, a1, b0, b1⟩ := hD.bounds N0 N1.out d0
    by_cases hlt : k = 0
    · subst hlt
      obtain ⟨e1, e2, e3⟩ := hD.last
      subst e1 e2 e3
      clear hD
      go_wp2
      exact bodyPost_ret (v := .tuple #[.agg #[.int .u64 (N / d / 18446744073709551616), .int .u64 (N / d % 18446744073709551616)], .int .u64 (N % d), .bool true]) (by simp [results, Try.results58, go_sem]) rfl ⟨rfl, rfl⟩
    · obtain ⟨j, rfl⟩ : ∃ j : Nat, k = j + 1 := ⟨k - 1, by omega⟩
      have ej : ((j + 1 : Nat) : Int) - 1 = (j : Int) := by omega
      rw [ej]
      have j0 : (0 : Int) ≤ (j : Int) := by omega
      have j1 : (j : Int) ≤ 127 := by omega
      obtain ⟨b, hb⟩ : ∃ b, N / 2 ^ j % 2 = b := ⟨_, rfl⟩
      have hb0 : 0 ≤ b := by omega
      have hb1 : b ≤ 1 := by omega
      obtain ⟨S1, S2⟩ := hD.step (by omega) N0 N1.out d0 hb.symm
      have B := HB.out j
      rw [hb] at B
      obtain ⟨B1, B2⟩ := B
      replace S1 := Lib.hid S1
      replace S2 := Lib.hid S2
      clear hD hb ej hlt
      by_cases ht : 9223372036854775808 ≤ rv
      · have t1 : (rv / 9223372036854775808 == 1) = true := beq_iff_eq.2 (by omega)
        have e0 : IntKind.u64.wrap (rv * 2) = rv * 2 - 18446744073709551616 := by rw [IntKind.wrap_u64]; omega
        have e1 : bits .or .u64 (IntKind.u64.wrap (rv * 2)) b = rv * 2 - 18446744073709551616 + b := by
          rw [e0]; exact or_bit _ _ (by omega) (by omega) hb0 hb1 (by omega)
        have e2 : IntKind.u64.wrap (rv * 2 - 18446744073709551616 + b - d) = 2 * rv + b - d := by rw [IntKind.wrap_u64]; omega
        have T := S2.out (by omega)
        replace T := Lib.hid T
        clear e0 S1 S2
        by_cases hj : 64 ≤ j
        · have hj' : (64 : Int) ≤ (j : Int) := by omega
          have B := B1 hj
          clear B1 B2
          go_wp2
          exact ⟨⟨j, _, _, _, by omega, rfl, rfl, T.out.1 hj, rfl⟩, by simp [intOf]⟩
        · have hj' : (j : Int) < 64 := by omega
          have B := B2 (by omega)
          clear B1 B2
          go_wp2
          exact ⟨⟨j, _, _, _, by omega, rfl, rfl, T.out.2 (by omega), rfl⟩, by simp [intOf]⟩
      · have t1 : (rv / 9223372036854775808 == 1) = false := beq_eq_false_iff_ne.2 (by omega)
        have e1 : bits .or .u64 (rv * 2) b = 2 * rv + b := by
          rw [or_bit _ _ (by omega) (by omega) hb0 hb1 (by omega)]; omega
        by_cases hd : d ≤ 2 * rv + b
        · have T := S2.out hd
          replace T := Lib.hid T
          clear S1 S2
          by_cases hj : 64 ≤ j
          · have hj' : (64 : Int) ≤ (j : Int) := by omega
            have B := B1 hj
            clear B1 B2
            go_wp2
            exact ⟨⟨j, _, _, _, by omega, rfl, rfl, T.out.1 hj, rfl⟩, by simp [intOf]⟩
          · have hj' : (j : Int) < 64 := by omega
            have B := B2 (by omega)
            clear B1 B2
            go_wp2
            exact ⟨⟨j, _, _, _, by omega, rfl, rfl, T.out.2 (by omega), rfl⟩, by simp [intOf]⟩
        · have T := S1.out (by omega)
          replace T := Lib.hid T
          clear S1 S2
          by_cases hj : 64 ≤ j
          · have hj' : (64 : Int) ≤ (j : Int) := by omega
            have B := B1 hj
            clear B1 B2
            go_wp2
            exact ⟨⟨j, _, _, _, by omega, rfl, rfl, T.out, rfl⟩, by simp [intOf]⟩
          · have hj' : (j : Int) < 64 := by omega
            have B := B2 (by omega)
            clear B1 B2
            go_wp2
            exact ⟨⟨j, _, _, _, by omega, rfl, rfl, T.out, rfl⟩, by simp [intOf]⟩
end Go.Proofs.Ytdbemgjjahcabaa
