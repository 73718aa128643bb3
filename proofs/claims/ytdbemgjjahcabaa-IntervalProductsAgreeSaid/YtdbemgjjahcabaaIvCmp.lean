/- Contracts of the comparisons and products of 128 bits. -/
import Derived.Test.YtdbemgjjahcabaaSq
import Derived.Test.YtdbemgjjahcabaaRefWide
import Derived.Test.YtdbemgjjahcabaaIvMem
namespace Go.Proofs.Ytdbemgjjahcabaa
open Go.RowKit
set_option linter.unusedVariables false

/-- block g holds a number of 128 bits -/
theorem wide_of {W : World} {g : Nat} {l h : Int} (e : W.heap[g]? = some (wideO l h)) : g < W.heap.size ∧ W.cell? ⟨g, 0, none⟩ = some (.int .u64 l) ∧ W.cell? ⟨g, 1, none⟩ = some (.int .u64 h) := by
  have hg : g < W.heap.size := by
    rcases Nat.lt_or_ge g W.heap.size with h1 | h1
    · exact h1
    · simp [h1] at e
  refine ⟨hg, ?_, ?_⟩ <;> simp [World.cell?, e]

set_option maxHeartbeats 400000 in
theorem isNaN_call (x : Int) (w : World) : Calls Try.prog 60 #[.int .u64 x] w fun e w' => e = .returned (.bool false) ∧ w = w' := by
  go_enter Try.func60, Try.ntmps60
  go_wp2
  go_ret
  exact ⟨rfl, rfl⟩

set_option maxHeartbeats 1000000 in
theorem cmpCompare_call (x y : Int) (w : World) : Calls Try.prog 57 #[.int .u64 x, .int .u64 y] w fun e w' => e = .returned (.int .i64 (cmpI x y)) ∧ w = w' := by
  unfold cmpI
  by_cases h1 : x < y
  · rw [if_pos h1]
    go_enter Try.func57, Try.ntmps57
    go_wp2_with (go_at_call 60; (with_reducible refine (isNaN_call _ _).mono ?_); rintro e w' ⟨rfl, rfl⟩)
    go_ret
    exact ⟨rfl, rfl⟩
  · rw [if_neg h1]
    by_cases h2 : y < x
    · rw [if_pos h2]
      go_enter Try.func57, Try.ntmps57
      go_wp2_with (go_at_call 60; (with_reducible refine (isNaN_call _ _).mono ?_); rintro e w' ⟨rfl, rfl⟩)
      go_ret
      exact ⟨rfl, rfl⟩
    · rw [if_neg h2]
      go_enter Try.func57, Try.ntmps57
      go_wp2_with (go_at_call 60; (with_reducible refine (isNaN_call _ _).mono ?_); rintro e w' ⟨rfl, rfl⟩)
      go_ret
      exact ⟨rfl, rfl⟩

set_option maxHeartbeats 1000000 in
theorem or_call (a c : Int) (b : Nat) (w : World) (h0 : w.cell? ⟨b, 0, none⟩ = some (.int .i64 a)) (h1 : w.cell? ⟨b, 1, none⟩ = some (.int .i64 c)) :
    Calls Try.prog 56 #[.slice (some ⟨b, 0, none⟩) 2 2] w fun e w' => e = .returned (.int .i64 (orI a c)) ∧ w = w' := by
  unfold orI
  by_cases ha : a = 0
  · rw [if_pos ha]
    subst ha
    by_cases hc : c = 0
    · subst hc
      go_enter Try.func56, Try.ntmps56
      go_wp2_with fail
      refine wp_loop_rounds 3 ?_
      iterate 4 all_goals (first | (rw [rounds_succ]; go_wp2) | skip)
      go_ret
      exact ⟨rfl, rfl⟩
    · have hcb : (c == 0) = false := beq_eq_false_iff_ne.2 hc
      clear hc
      go_enter Try.func56, Try.ntmps56
      go_wp2_with fail
      refine wp_loop_rounds 3 ?_
      iterate 4 all_goals (first | (rw [rounds_succ]; go_wp2) | skip)
      go_ret
      exact ⟨rfl, rfl⟩
  · rw [if_neg ha]
    have hab : (a == 0) = false := beq_eq_false_iff_ne.2 ha
    clear ha
    go_enter Try.func56, Try.ntmps56
    go_wp2_with fail
    refine wp_loop_rounds 3 ?_
    iterate 4 all_goals (first | (rw [rounds_succ]; go_wp2) | skip)
    go_ret
    exact ⟨rfl, rfl⟩

set_option maxHeartbeats 1000000 in
theorem wideCompare_call (ah al bh bl : Int) (w : World) (a0 : 0 ≤ al) (a1 : al ≤ 18446744073709551615) (b0 : 0 ≤ bl) (b1 : bl ≤ 18446744073709551615) :
    Calls Try.prog 44 #[.agg #[.int .u64 ah, .int .u64 al], .agg #[.int .u64 bh, .int .u64 bl]] w fun e w' => e = .returned (.int .i64 (cmpI (ah * 18446744073709551616 + al) (bh * 18446744073709551616 + bl))) ∧ ∃ p, w' = more w p := by
  rw [← cmp_wide a0 a1 b0 b1]
  have C1 := Lib.hid @(fun w => cmpCompare_call ah bh w)
  have C2 := Lib.hid @(fun w => cmpCompare_call al bl w)
  generalize cmpI ah bh = c1 at *
  generalize cmpI al bl = c2 at *
  have CO := Lib.hid @(fun b w h0 h1 => or_call c1 c2 b w h0 h1)
  go_enter Try.func44, Try.ntmps44
  go_wp2_with fail
  refine at_world (fun V => Ext w V ∧ V.heap[w.heap.size]? = some (wideO ah al) ∧ V.heap[w.heap.size + 1]? = some (wideO bh bl)) ⟨⟨⟨[_, _], 0⟩, rfl⟩, at_old (at_new rfl), at_new (by simp)⟩ ?_
  rintro V ⟨hE, e1, e2⟩
  obtain ⟨k0, k1, k2⟩ := wide_of e1
  obtain ⟨j0, j1, j2⟩ := wide_of e2
  replace hE := Lib.hid hE
  clear e1 e2
  have hmc := more_cell
  refine region_tail 10 (by kernel_rfl) (by kernel_rfl) ?_
  simp only [List.take_succ_cons, List.take_zero, List.drop_succ_cons, List.drop_zero]
  repeat (go_big_quiet_step ((go_at_call 57; first | with_reducible exact calls_more_same (C1.out _) | with_reducible exact calls_more_same (C2.out _))))
  refine wpQuiet_nil ?_
  rintro w1 ⟨p, rfl⟩
  go_wp2_with (go_at_call 56; (with_reducible refine (CO.out _ _ ?h0 ?h1).mono ?_); (case h0 => simp); (case h1 => simp); rintro e w' ⟨rfl, rfl⟩)
  go_ret
  exact ⟨rfl, (hE.out.mored p).alloc _⟩

set_option maxHeartbeats 400000 in
theorem wideMul_call (a b : Int) (w : World) (a0 : 0 ≤ a) (a1 : a ≤ 18446744073709551615) (b0 : 0 ≤ b) (b1 : b ≤ 18446744073709551615) :
    Calls Try.prog 42 #[.int .u64 a, .int .u64 b] w fun e w' => e = .returned (.agg #[.int .u64 (a * b / 18446744073709551616), .int .u64 (a * b % 18446744073709551616)]) ∧ w.alloc (wideO (a * b / 18446744073709551616) (a * b % 18446744073709551616)) = w' := by
  obtain ⟨m0, m1, m2, m3, m4⟩ := mul_hi_lo a b a0 a1 b0 b1
  have hm := fun w => mul64_call a b w a0 a1 b0 b1
  obtain ⟨H, hH⟩ : ∃ H, a * b / 18446744073709551616 = H := ⟨_, rfl⟩
  obtain ⟨L, hL⟩ : ∃ L, a * b % 18446744073709551616 = L := ⟨_, rfl⟩
  rw [hH, hL] at hm ⊢
  have HM := Lib.hid @hm
  clear hm hH hL m4
  go_enter Try.func42, Try.ntmps42
  go_wp2_with (go_at_call 53; (with_reducible refine (HM.out _).mono ?_); rintro e w' ⟨rfl, rfl⟩)
  exact bodyPost_ret (v := .agg #[.int .u64 H, .int .u64 L]) (by simp [results, Try.results42, go_sem]) rfl ⟨rfl, rfl⟩

theorem eql_u128 (a b c d : Int) (w : World) : (binOp .eql 51 (.agg #[.int .u64 a, .int .u64 b]) (.agg #[.int .u64 c, .int .u64 d])).run Try.prog w = .ok (.bool (a == c && b == d)) w := by
  have h1 : ∀ (a b : Int) (d : Nat), (Op.equalIn (d + 1) 49 (.int .u64 a) (.int .u64 b)).run Try.prog w = .ok (a == b) w := fun a b d => run_equalIn_int w d 49 .u64 .u64 a b Try.underlying49
  have p0 : ∀ a b : Int, (part 49 #[.int .u64 a, .int .u64 b] 0).run Try.prog w = .ok (.int .u64 a) w := fun _ _ => by kernel_rfl
  have p1 : ∀ a b : Int, (part 49 #[.int .u64 a, .int .u64 b] 1).run Try.prog w = .ok (.int .u64 b) w := fun _ _ => by kernel_rfl
  rw [run_eql_struct, show (10000 : Nat) = 9999 + 1 from rfl, run_equalIn_struct w 9999 51 _ _ (by kernel_rfl) (by kernel_rfl)]
  simp only [Program.fieldsOf, Try.underlying51, Op.eqFields]
  by_cases e1 : a = c <;> by_cases e2 : b = d <;> simp [p0, p1, h1 _ _ 9998, e1, e2]
set_option maxHeartbeats 1000000 in
theorem refCompare_call (ah al bh bl : Int) (w : World) (a0 : 0 ≤ al) (a1 : al ≤ 18446744073709551615) (b0 : 0 ≤ bl) (b1 : bl ≤ 18446744073709551615) :
    Calls Try.prog 49 #[.agg #[.int .u64 ah, .int .u64 al], .agg #[.int .u64 bh, .int .u64 bl]] w fun e w' => e = .returned (.int .i64 (cmpI (ah * 18446744073709551616 + al) (bh * 18446744073709551616 + bl))) ∧ ∃ p, w' = more w p := by
  have he := eql_u128
  have fin : ∀ c : Int, c = cmpI (ah * 18446744073709551616 + al) (bh * 18446744073709551616 + bl) → Calls Try.prog 49 #[.agg #[.int .u64 ah, .int .u64 al], .agg #[.int .u64 bh, .int .u64 bl]] w (fun e w' => e = .returned (.int .i64 c) ∧ ∃ p, w' = more w p) → Calls Try.prog 49 #[.agg #[.int .u64 ah, .int .u64 al], .agg #[.int .u64 bh, .int .u64 bl]] w fun e w' => e = .returned (.int .i64 (cmpI (ah * 18446744073709551616 + al) (bh * 18446744073709551616 + bl))) ∧ ∃ p, w' = more w p := fun c e h => e ▸ h
  by_cases h1 : ah = bh
  · subst h1
    by_cases h2 : al = bl
    · subst h2
      refine fin 0 (by unfold cmpI; rw [if_neg (by omega), if_neg (by omega)]) ?_
      clear fin
      go_enter Try.func49, Try.ntmps49; go_wp2; go_ret; exact ⟨rfl, ⟨[_, _], 0⟩, rfl⟩
    · have g2 : (al == bl) = false := beq_eq_false_iff_ne.2 h2
      by_cases h3 : al < bl
      · refine fin (-1) (by unfold cmpI; rw [if_pos (by omega)]) ?_
        have g3 : decide (al < bl) = true := decide_eq_true h3
        clear fin h2
        go_enter Try.func49, Try.ntmps49; go_wp2; go_ret; exact ⟨rfl, ⟨[_, _], 0⟩, rfl⟩
      · refine fin 1 (by unfold cmpI; rw [if_neg (by omega), if_pos (by omega)]) ?_
        have g3 : decide (al < bl) = false := decide_eq_false h3
        clear fin h2
        go_enter Try.func49, Try.ntmps49; go_wp2; go_ret; exact ⟨rfl, ⟨[_, _], 0⟩, rfl⟩
  · have g1 : (ah == bh) = false := beq_eq_false_iff_ne.2 h1
    by_cases h3 : ah < bh
    · refine fin (-1) (by unfold cmpI; rw [if_pos (by omega)]) ?_
      have g3 : decide (ah < bh) = true := decide_eq_true h3
      clear fin h1
      go_enter Try.func49, Try.ntmps49; go_wp2; go_ret; exact ⟨rfl, ⟨[_, _], 0⟩, rfl⟩
    · refine fin 1 (by unfold cmpI; rw [if_neg (by omega), if_pos (by omega)]) ?_
      have g3 : decide (ah < bh) = false := decide_eq_false h3
      clear fin h1
      go_enter Try.func49, Try.ntmps49; go_wp2; go_ret; exact ⟨rfl, ⟨[_, _], 0⟩, rfl⟩
end Go.Proofs.Ytdbemgjjahcabaa
