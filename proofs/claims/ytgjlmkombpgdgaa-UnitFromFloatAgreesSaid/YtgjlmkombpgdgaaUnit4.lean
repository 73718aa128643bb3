/- Contract of the reference's FromFloat. -/
import Derived.Test.YtgjlmkombpgdgaaUnit3
import Derived.Test.YtgjlmkombpgdgaaExt
namespace Go.Proofs.Ytgjlmkombpgdgaa
open Go.RowKit FL
set_option linter.unusedVariables false

theorem or_comm64 (a b : Int) (a0 : 0 ≤ a) (a1 : a < 18446744073709551616) (b0 : 0 ≤ b) (b1 : b < 18446744073709551616) : bits .or .u64 a b = bits .or .u64 b a := by
  rw [u64_or a b a0 a1 b0 b1, u64_or b a b0 b1 a0 a1, Nat.or_comm]
theorem half_low (hi lo : Int) (h0 : 0 ≤ hi) (l0 : 0 ≤ lo) (l1 : lo ≤ 18446744073709551615) : bits .or .u64 (lo / 2) (IntKind.u64.wrap (hi * 9223372036854775808)) = (hi * 18446744073709551616 + lo) / 2 % 18446744073709551616 := by
  have e : IntKind.u64.wrap (hi * 9223372036854775808) = hi % 2 * 9223372036854775808 := by rw [IntKind.wrap_u64]; omega
  rw [e, or_comm64 _ _ (by omega) (by omega) (by omega) (by omega), or_join _ _ 63 (by omega) (by omega) (by omega) (by omega) (by omega) (by omega)]
  omega
theorem main_ref {b m : Nat} (hm : m ≤ 65535) (h1 : b < 0x3FF0000000000000) (hn : nn b ≤ 99) : ∃ N : Int, 2 * (mm b : Int) * m + 2 ^ nn b = N ∧ N / 2 ^ (nn b + 1) = (ffN (rv b) m : Nat) ∧ 0 ≤ N ∧ N < 1267650600228229401496703205376 := by
  refine ⟨_, rfl, ?_⟩
  obtain ⟨_, n1, n2, n3⟩ := parts_of h1
  have e1 : (2 : Int) ^ (nn b + 1) = 2 * 2 ^ nn b := by rw [Int.pow_succ]; omega
  have e2 : (2 : Int) ^ nn b = 2 * 2 ^ (nn b - 1) := by
    have : nn b = nn b - 1 + 1 := by omega
    rw [this, Int.pow_succ]; simp only [Nat.add_sub_cancel]; omega
  have e3 : 2 * (mm b : Int) * m + 2 ^ nn b = 2 * ((mm b : Int) * m + 2 ^ (nn b - 1)) := by rw [e2, Int.mul_add, Int.mul_assoc]
  have k1 := pow2_pos (nn b - 1)
  have k2 := pow_le (show nn b ≤ 99 by omega)
  have k3 : (0 : Int) ≤ (mm b : Int) * m ∧ (mm b : Int) * m ≤ 9007199254740992 * 65535 := mul_bound _ _ _ _ (by omega) (by omega) (by omega) (by omega)
  refine ⟨?_, ?_, ?_⟩
  · rw [e3, e1, Int.mul_ediv_mul_of_pos _ _ (by omega), ffN_parts m h1, Int.natCast_ediv, Int.natCast_add, Int.natCast_mul, pow2_cast, pow2_cast]
  · rw [e3]; omega
  · rw [Int.mul_assoc]; omega

theorem calls_ext3 {P : Program} {f : FuncId} {args : Array Value} {w : World} {v : Value} {o1 o2 o3 : Obj} (h : Calls P f args w fun e w' => e = .returned v ∧ ((w.alloc o1).alloc o2).alloc o3 = w') : Calls P f args w fun e w' => e = .returned v ∧ ∃ q, w' = more w q :=
  h.mono fun _ _ ⟨he, hq⟩ => ⟨he, ⟨[o1, o2, o3], 0⟩, hq.symm⟩
set_option maxHeartbeats 2000000 in
set_option maxRecDepth 100000 in
theorem refFf_call (b m : Nat) (w : World) (hb : b < 18446744073709551616) (hm : m ≤ 65535) :
    Calls Try.prog 13 #[.float .f64 b, .int .u16 m] w fun e w' => e = .returned (.tuple #[.int .u16 (ff b m), .bool (!isn b)]) ∧ ∃ p, w' = more w p := by
  have o1 := o_ne b
  cases hn : isn b
  · rw [hn] at o1
    have o2 := o_le0 hn
    have o3 := o_ge1 hn
    by_cases h1 : sv b ≤ 0
    · rw [decide_eq_true h1] at o2
      have e : ff b m = 0 := by unfold ff; rw [if_neg (by rw [hn]; simp), if_pos h1]
      rw [e]
      clear o3 e h1 hn
      go_enter Try.func13, Try.ntmps13
      go_wp2
      go_ret2
      exact ⟨rfl, ⟨[], 0⟩, rfl⟩
    · rw [decide_eq_false h1] at o2
      by_cases h2 : (big : Int) ≤ sv b
      · rw [decide_eq_true h2] at o3
        have e : ff b m = m := by unfold ff; rw [if_neg (by rw [hn]; simp), if_neg h1, if_pos h2]
        rw [e]
        clear e h1 h2 hn
        go_enter Try.func13, Try.ntmps13
        go_wp2
        go_ret2
        exact ⟨rfl, ⟨[], 0⟩, rfl⟩
      · rw [decide_eq_false h2] at o3
        obtain ⟨u1, u2, u3⟩ := unit_of hb hn (by omega) (by omega)
        have e : ff b m = ffN (rv b) m := by unfold ff; rw [if_neg (by rw [hn]; simp), if_neg h1, if_neg h2, u3]; rfl
        obtain ⟨_, n1, n2, n3⟩ := parts_of u2
        have hr := bits_run b
        have a1 := and_52 b (by omega)
        have b1 : (b : Int) ≤ 18446744073709551615 := by omega
        have es : 99 < nn b → ((ff b m : Nat) : Int) = 0 := fun h => by rw [e, ffN_small (max := m) u2 hm h]; rfl
        have er := @main_ref b m hm u2
        rw [← e] at er
        have a2 := or_52 (b % 4503599627370496) (by omega)
        rw [← a1] at a2
        have hd : (b : Int) / 4503599627370496 = 0 ∧ ((nn b : Nat) : Int) = 1074 ∨ 1 ≤ (b : Int) / 4503599627370496 ∧ (b : Int) / 4503599627370496 ≤ 1022 ∧ (nn b : Int) = 1075 - (b : Int) / 4503599627370496 ∧ (mm b : Int) = bits .or .u64 (bits .and .u64 (b : Int) 4503599627370495) 4503599627370496 := by
          rw [a2]
          unfold nn mm
          by_cases h : b / 4503599627370496 = 0
          · left; rw [if_pos h]; omega
          · right; rw [if_neg h, if_neg h]; omega
        have vb := ff_le b m
        have vb' : ff b m ≤ 65535 := by omega
        have VB := Lib.hid vb'
        clear vb vb' e h1 h2 u3 hn a1 a2
        have ER := Lib.hid @er
        have ES := Lib.hid @es
        clear es er
        generalize nn b = n at *
        generalize mm b = k at *
        generalize ff b m = V at *
        rcases hd with ⟨d1, d2⟩ | ⟨d1, d2, d3, d4⟩
        · have v0 := ES.out (by omega)
          rw [v0]
          clear v0 n1 n2 n3 d2 u1 u2
          go_enter Try.func13, Try.ntmps13
          go_wp2_with (simp only [hr])
          go_ret2
          exact ⟨rfl, ⟨[], 0⟩, rfl⟩
        · have d5 : 1075 - (b : Int) / 4503599627370496 = n := d3.symm
          have d6 := d4.symm
          clear d3 d4
          by_cases h : 99 < n
          · have v0 := ES.out h
            rw [v0]
            have h' : (100 : Int) ≤ n := by omega
            clear v0 n1 n2 n3 u1 u2
            go_enter Try.func13, Try.ntmps13
            go_wp2_with (simp only [hr])
            go_ret2
            exact ⟨rfl, ⟨[], 0⟩, rfl⟩
          · have h' : (n : Int) < 100 := by omega
            obtain ⟨N, e1, e2, e3, e4⟩ := ER.out (by omega)
            have hmu := fun w => refMul_call (2 * k) m w (by omega) (by omega) (by omega) (by omega)
            have kb : (0 : Int) ≤ 2 * (k : Int) * m ∧ 2 * (k : Int) * m ≤ 18014398509481984 * 65535 := mul_bound _ _ _ _ (by omega) (by omega) (by omega) (by omega)
            obtain ⟨M, hM⟩ : ∃ M : Int, 2 * (k : Int) * m = M := ⟨_, rfl⟩
            rw [hM] at hmu kb e1
            obtain ⟨kb0, kb1⟩ := kb
            have HM := Lib.hid @hmu
            have E1 := Lib.hid e1
            have E2 := Lib.hid e2
            clear hM hmu e1 e2
            have hw : IntKind.u64.wrap (2 * (k : Int)) = 2 * k := IntWalk.u64_in _ (by omega)
            go_enter Try.func13, Try.ntmps13
            go_wp2_with (go_at_call 22; (with_reducible refine (HM.out _).mono ?_); rintro e w' ⟨rfl, rfl⟩)
            go_loopw [12] (fun s12 wr => ∃ j : Nat, j ≤ n ∧ s12 = .int .i64 j ∧ Ext w wr ∧ wr.heap[w.heap.size + 1]? = some (wideO (M / 18446744073709551616) (M % 18446744073709551616)) ∧ wr.heap[w.heap.size + 1 + 1]? = some (wideO (2 ^ j / 18446744073709551616) (2 ^ j % 18446744073709551616))) (fun s12 _ => n - (intOf s12).toNat)
            case atStart => exact ⟨0, by omega, rfl, ⟨⟨[_, _, _], 0⟩, rfl⟩, at_old (at_new (by simp)), at_new (by simp)⟩
            case round =>
              obtain ⟨j, hj, rfl, hE, f1, f2⟩ := hrel
              obtain ⟨g0, g1, g2⟩ := wide_of f1
              obtain ⟨k0, k1, k2⟩ := wide_of f2
              have z2 := froz_cells (i := 0) f2
              have z3 := froz_cells (i := 1) f2
              have hmc := more_cell
              have hmf := more_frozen
              replace hE := Lib.hid hE
              replace f1 := Lib.hid f1
              replace f2 := Lib.hid f2
              have p1 := pow2_pos j
              have p2 := pow_le (show j ≤ 99 by omega)
              by_cases hlt : j < n
              · have hadd := fun w => refAdd_call (2 ^ j / 18446744073709551616) (2 ^ j % 18446744073709551616) (2 ^ j / 18446744073709551616) (2 ^ j % 18446744073709551616) (2 ^ (j + 1)) (by omega) (by omega) (by omega) (by omega) (by omega) (by omega) (by rw [Int.pow_succ]; omega) (by rw [Int.pow_succ]; omega) w
                have HA := Lib.hid @(fun w => calls_ext3 (hadd w))
                clear hadd p1 p2
                generalize hPn : (2 : Int) ^ (j + 1) = Pn at *
                generalize (2 : Int) ^ j = Pj at *
                have HP := Lib.hid hPn
                clear hPn
                go_wp2_with (go_at_call 23; (with_reducible refine (HA.out _).mono ?_); rintro e w' ⟨rfl, p, rfl⟩)
                refine ⟨⟨j + 1, by omega, by go_num, ((hE.out.mored p).setCell (by omega) _).setCell (by omega) _, heap_set_other _ (by omega) (heap_set_other _ (by omega) (at_more f1.out)), ?_⟩, by simp only [intOf]; omega⟩
                rw [HP.out]
                exact heap_set _ (heap_set _ (at_more f2.out))
              · obtain rfl : j = n := by omega
                have E1 := E1.out
                have hadd := fun w => refAdd_call (M / 18446744073709551616) (M % 18446744073709551616) (2 ^ j / 18446744073709551616) (2 ^ j % 18446744073709551616) N (by omega) (by omega) (by omega) (by omega) (by omega) (by omega) (by omega) (by omega) w
                have HA := Lib.hid @(fun w => calls_ext3 (hadd w))
                have y2 := froz_cells (i := 0) f1.out
                have y3 := froz_cells (i := 1) f1.out
                clear hadd p1 p2 E1 hlt z2 z3
                generalize (2 : Int) ^ j = Pj at *
                go_wp2_with (go_at_call 23; (with_reducible refine (HA.out _).mono ?_); rintro e w' ⟨rfl, p, rfl⟩)
                have hE2 : Ext w (((more wr p).setCell ⟨w.heap.size + 1, 0, none⟩ (.int .u64 (N / 18446744073709551616))).setCell ⟨w.heap.size + 1, 1, none⟩ (.int .u64 (N % 18446744073709551616))) := ((hE.out.mored p).setCell (by omega) _).setCell (by omega) _
                have h1 : (((more wr p).setCell ⟨w.heap.size + 1, 0, none⟩ (.int .u64 (N / 18446744073709551616))).setCell ⟨w.heap.size + 1, 1, none⟩ (.int .u64 (N % 18446744073709551616))).heap[w.heap.size + 1]? = some (wideO (N / 18446744073709551616) (N % 18446744073709551616)) := heap_set _ (heap_set _ (at_more f1.out))
                refine at_world (fun V => Ext w V ∧ V.heap[w.heap.size + 1]? = some (wideO (N / 18446744073709551616) (N % 18446744073709551616))) ⟨hE2, h1⟩ ?_
                clear hE2 h1 y2 y3 k0 k1 k2 g0 g1 g2 f1 f2 hE HA
                rintro W ⟨hE, f1⟩
                go_loopw [13] (fun s13 wr => ∃ i : Nat, i ≤ j + 1 ∧ s13 = .int .i64 i ∧ Ext w wr ∧ wr.heap[w.heap.size + 1]? = some (wideO (N / 2 ^ i / 18446744073709551616) (N / 2 ^ i % 18446744073709551616))) (fun s13 _ => j + 1 - (intOf s13).toNat)
                case atStart => exact ⟨0, by omega, rfl, hE, by rw [Int.pow_zero, Int.ediv_one]; exact f1⟩
                case round =>
                  obtain ⟨i, hi, rfl, hE, f1⟩ := hrel
                  obtain ⟨k0, k1, k2⟩ := wide_of f1
                  have z2 := froz_cells (i := 0) f1
                  have z3 := froz_cells (i := 1) f1
                  replace hE := Lib.hid hE
                  replace f1 := Lib.hid f1
                  by_cases hlt : i ≤ j
                  · have d1 : N / 2 ^ (i + 1) = N / 2 ^ i / 2 := by rw [Int.pow_succ, Int.ediv_ediv_of_nonneg (by have := pow2_pos i; omega)]
                    have d2 : 0 ≤ N / 2 ^ i := Int.ediv_nonneg e3 (by have := pow2_pos i; omega)
                    have d3 : N / 2 ^ i ≤ N := Int.ediv_le_self _ e3
                    have D1 := Lib.hid d1
                    clear d1
                    generalize N / 2 ^ i = X at *
                    obtain ⟨H, hH⟩ : ∃ H, X / 18446744073709551616 = H := ⟨_, rfl⟩
                    obtain ⟨L, hL⟩ : ∃ L, X % 18446744073709551616 = L := ⟨_, rfl⟩
                    have q1 : 0 ≤ H := by omega
                    have q2 : H ≤ 18446744073709551615 := by omega
                    have q3 : 0 ≤ L := by omega
                    have q4 : L ≤ 18446744073709551615 := by omega
                    have qb := half_low H L q1 q3 q4
                    have qe : H * 18446744073709551616 + L = X := by omega
                    rw [qe] at qb
                    have qh : X / 2 / 18446744073709551616 = H / 2 := by omega
                    rw [hH] at k1
                    rw [hL] at k2
                    rw [hH, hL] at f1
                    have QH := Lib.hid qh
                    have QB := Lib.hid qb
                    clear hH hL qh qe qb d2 d3
                    go_wp2_with fail
                    refine ⟨⟨i + 1, by omega, by go_num, (hE.out.setCell (by omega) _).setCell (by omega) _, ?_⟩, by simp only [intOf]; omega⟩
                    rw [D1.out, QH.out, ← QB.out]
                    exact heap_set _ (heap_set _ f1.out)
                  · obtain rfl : i = j + 1 := by omega
                    have E2 := E2.out
                    rw [E2] at k1 k2
                    have v1 := VB.out
                    have w1 : ((V : Nat) : Int) % 18446744073709551616 = V := by omega
                    rw [w1] at k2
                    clear E2 w1
                    go_wp2_with fail
                    go_ret2
                    exact ⟨rfl, hE.out⟩
  · rw [hn] at o1
    have e : ff b m = 0 := by unfold ff; rw [if_pos hn]
    rw [e]
    clear e hn
    go_enter Try.func13, Try.ntmps13
    go_wp2
    go_ret2
    exact ⟨rfl, ⟨[], 0⟩, rfl⟩
end Go.Proofs.Ytgjlmkombpgdgaa
