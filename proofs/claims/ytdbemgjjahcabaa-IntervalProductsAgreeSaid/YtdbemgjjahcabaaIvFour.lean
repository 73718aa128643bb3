/- Contracts of the reference's four, Mul and Div. -/
import Derived.Test.YtdbemgjjahcabaaIvRef
import Derived.Test.YtdbemgjjahcabaaIvMem
import Derived.Lib.MinMax
namespace Go.Proofs.Ytdbemgjjahcabaa
open Go.RowKit
set_option linter.unusedVariables false

/-- what the loop holds at the pair number k -/
def fst4 (D1 U1 D2 U2 D3 U3 D4 U4 : Int) (k lo hi : Int) : Prop :=
  (k = 0 ∧ lo = 0 ∧ hi = 0) ∨ (k = 1 ∧ lo = D1 ∧ hi = U1) ∨ (k = 2 ∧ lo = min D1 D2 ∧ hi = max U1 U2) ∨ (k = 3 ∧ lo = min D1 (min D2 D3) ∧ hi = max U1 (max U2 U3)) ∨ (k = 4 ∧ lo = min4 D1 D2 D3 D4 ∧ hi = max4 U1 U2 U3 U4)
abbrev arO (a b c d : Int) : Obj := .cells #[.int .i64 a, .int .i64 b, .int .i64 c, .int .i64 d] 66
theorem ar_of {W : World} {g : Nat} {a b c d : Int} (e : W.heap[g]? = some (arO a b c d)) : g < W.heap.size ∧ W.cell? ⟨g, 0, none⟩ = some (.int .i64 a) ∧ W.cell? ⟨g, 1, none⟩ = some (.int .i64 b) ∧ W.cell? ⟨g, 2, none⟩ = some (.int .i64 c) ∧ W.cell? ⟨g, 3, none⟩ = some (.int .i64 d) := by
  have hg : g < W.heap.size := by
    rcases Nat.lt_or_ge g W.heap.size with h1 | h1
    · exact h1
    · simp [h1] at e
  refine ⟨hg, ?_, ?_, ?_, ?_⟩ <;> simp [World.cell?, e]

set_option maxHeartbeats 4000000 in
theorem four_mul (xl xh yl yh D1 U1 D2 U2 D3 U3 D4 U4 : Int) (f1 : ∀ w, Calls Try.prog 50 #[.int .i64 xl, .int .i64 yl, .int .u64 1099511627776, .bool false] w fun e w' => e = .returned (.int .i64 D1) ∧ ∃ p, w' = more w p) (t1 : ∀ w, Calls Try.prog 50 #[.int .i64 xl, .int .i64 yl, .int .u64 1099511627776, .bool true] w fun e w' => e = .returned (.int .i64 U1) ∧ ∃ p, w' = more w p) (f2 : ∀ w, Calls Try.prog 50 #[.int .i64 xl, .int .i64 yh, .int .u64 1099511627776, .bool false] w fun e w' => e = .returned (.int .i64 D2) ∧ ∃ p, w' = more w p) (t2 : ∀ w, Calls Try.prog 50 #[.int .i64 xl, .int .i64 yh, .int .u64 1099511627776, .bool true] w fun e w' => e = .returned (.int .i64 U2) ∧ ∃ p, w' = more w p) (f3 : ∀ w, Calls Try.prog 50 #[.int .i64 xh, .int .i64 yl, .int .u64 1099511627776, .bool false] w fun e w' => e = .returned (.int .i64 D3) ∧ ∃ p, w' = more w p) (t3 : ∀ w, Calls Try.prog 50 #[.int .i64 xh, .int .i64 yl, .int .u64 1099511627776, .bool true] w fun e w' => e = .returned (.int .i64 U3) ∧ ∃ p, w' = more w p) (f4 : ∀ w, Calls Try.prog 50 #[.int .i64 xh, .int .i64 yh, .int .u64 1099511627776, .bool false] w fun e w' => e = .returned (.int .i64 D4) ∧ ∃ p, w' = more w p) (t4 : ∀ w, Calls Try.prog 50 #[.int .i64 xh, .int .i64 yh, .int .u64 1099511627776, .bool true] w fun e w' => e = .returned (.int .i64 U4) ∧ ∃ p, w' = more w p) (w : World) :
    Calls Try.prog 45 #[.agg #[.int .i64 xl, .int .i64 xh], .agg #[.int .i64 yl, .int .i64 yh], .bool false] w fun e w' => e = .returned (.tuple #[.agg #[.int .i64 (mkL (min4 D1 D2 D3 D4) (max4 U1 U2 U3 U4) true), .int .i64 (mkH (min4 D1 D2 D3 D4) (max4 U1 U2 U3 U4) true)], .bool (mkB (min4 D1 D2 D3 D4) (max4 U1 U2 U3 U4) true)]) ∧ ∃ p, w' = more w p := by
  have F1 := Lib.hid @f1
  have T1 := Lib.hid @t1
  have F2 := Lib.hid @f2
  have T2 := Lib.hid @t2
  have F3 := Lib.hid @f3
  have T3 := Lib.hid @t3
  have F4 := Lib.hid @f4
  have T4 := Lib.hid @t4
  clear f1 f2 f3 f4 t1 t2 t3 t4
  go_enter Try.func45, Try.ntmps45
  go_wp2_with fail
  go_loopw [10, 11, 12] (fun s10 s11 i wr => ∃ k lo hi : Int, i = .int .i64 k ∧ s10 = .int .i64 lo ∧ s11 = .int .i64 hi ∧ fst4 D1 U1 D2 U2 D3 U3 D4 U4 k lo hi ∧ Ext w wr ∧ wr.heap[w.heap.size + 1 + 1]? = some (ivO 0 0) ∧ wr.heap[w.heap.size + 1 + 1 + 1]? = some (arO xl xl xh xh) ∧ wr.heap[w.heap.size + 1 + 1 + 1 + 1]? = some (arO yl yh yl yh)) (fun _ _ i _ => (4 - intOf i).toNat)
  case atStart => exact ⟨0, 0, 0, rfl, rfl, rfl, .inl ⟨rfl, rfl, rfl⟩, ⟨⟨[_, _, _, _, _], 0⟩, rfl⟩, at_old (at_old (at_new (by simp))), at_old (at_new (by simp)), at_new (by simp)⟩
  case round =>
    obtain ⟨k, lo, hi, rfl, rfl, rfl, hc, hE, e2, e3, e4⟩ := hrel
    obtain ⟨k8, k9, k10, k11⟩ := iv_of e2
    obtain ⟨j8, j9, j10, j11, j12⟩ := ar_of e3
    obtain ⟨l8, l9, l10, l11, l12⟩ := ar_of e4
    have f0 : wr.frozen? ⟨w.heap.size + 1 + 1, 0, none⟩ = false := froz_of e2
    have f1 : wr.frozen? ⟨w.heap.size + 1 + 1, 1, none⟩ = false := froz_of e2
    have hmc := more_cell
    replace hE := Lib.hid hE
    replace e2 := Lib.hid e2
    replace e3 := Lib.hid e3
    replace e4 := Lib.hid e4
    clear k11
    rcases hc with ⟨rfl, rfl, rfl⟩ | ⟨rfl, rfl, rfl⟩ | ⟨rfl, rfl, rfl⟩ | ⟨rfl, rfl, rfl⟩ | ⟨rfl, rfl, rfl⟩
    · go_wp2_with fail
      refine region_more (by kernel_rfl) (by kernel_rfl) ?_
      repeat (go_big_quiet_step ((go_at_call 50; first | with_reducible exact calls_more (F1.out _) | with_reducible exact calls_more (T1.out _))))
      refine wpQuiet_nil ?_
      rintro w1 ⟨p, rfl⟩
      go_wp2_with fail
      exact ⟨⟨1, _, _, rfl, rfl, rfl, .inr (.inl ⟨rfl, rfl, rfl⟩), hE.out.mored p, (more_heap _ _ _ k8).trans e2.out, (more_heap _ _ _ j8).trans e3.out, (more_heap _ _ _ l8).trans e4.out⟩, by simp [intOf]⟩
    · go_wp2_with fail
      refine region_more (by kernel_rfl) (by kernel_rfl) ?_
      repeat (go_big_quiet_step ((go_at_call 50; first | with_reducible exact calls_more (F2.out _) | with_reducible exact calls_more (T2.out _))))
      refine wpQuiet_nil ?_
      rintro w1 ⟨p, rfl⟩
      go_wp2_with fail
      exact ⟨⟨2, _, _, rfl, rfl, rfl, .inr (.inr (.inl ⟨rfl, rfl, rfl⟩)), hE.out.mored p, (more_heap _ _ _ k8).trans e2.out, (more_heap _ _ _ j8).trans e3.out, (more_heap _ _ _ l8).trans e4.out⟩, by simp [intOf]⟩
    · go_wp2_with fail
      refine region_more (by kernel_rfl) (by kernel_rfl) ?_
      repeat (go_big_quiet_step ((go_at_call 50; first | with_reducible exact calls_more (F3.out _) | with_reducible exact calls_more (T3.out _))))
      refine wpQuiet_nil ?_
      rintro w1 ⟨p, rfl⟩
      go_wp2_with fail
      exact ⟨⟨3, _, _, rfl, rfl, rfl, .inr (.inr (.inr (.inl ⟨rfl, rfl, rfl⟩))), hE.out.mored p, (more_heap _ _ _ k8).trans e2.out, (more_heap _ _ _ j8).trans e3.out, (more_heap _ _ _ l8).trans e4.out⟩, by simp [intOf]⟩
    · go_wp2_with fail
      refine region_more (by kernel_rfl) (by kernel_rfl) ?_
      repeat (go_big_quiet_step ((go_at_call 50; first | with_reducible exact calls_more (F4.out _) | with_reducible exact calls_more (T4.out _))))
      refine wpQuiet_nil ?_
      rintro w1 ⟨p, rfl⟩
      go_wp2_with fail
      exact ⟨⟨4, _, _, rfl, rfl, rfl, .inr (.inr (.inr (.inr ⟨rfl, rfl, rfl⟩))), hE.out.mored p, (more_heap _ _ _ k8).trans e2.out, (more_heap _ _ _ j8).trans e3.out, (more_heap _ _ _ l8).trans e4.out⟩, by simp [intOf]⟩
    · have MD := Lib.hid @(fun w => refMade_call (min4 D1 D2 D3 D4) (max4 U1 U2 U3 U4) w)
      have hms := more_setCell
      have hmf := more_frozen
      go_wp2_with (go_at_call 38; (with_reducible refine (MD.out _).mono ?_); rintro e w' ⟨rfl, p, rfl⟩)
      refine bodyPost_ret (v := .tuple #[.agg #[.int .i64 (mkL (min4 D1 D2 D3 D4) (max4 U1 U2 U3 U4) true), .int .i64 (mkH (min4 D1 D2 D3 D4) (max4 U1 U2 U3 U4) true)], .bool (mkB (min4 D1 D2 D3 D4) (max4 U1 U2 U3 U4) true)]) (by simp [results, Try.results45, go_sem, *]) rfl ⟨rfl, ?_⟩
      show Ext w _
      repeat (first | exact hE.out | refine Ext.mored ?_ _ | (refine Ext.setCell ?_ (by have := hE.out.size; omega) _))

set_option maxHeartbeats 4000000 in
theorem four_div (xl xh yl yh D1 U1 D2 U2 D3 U3 D4 U4 : Int) (y0 : 0 ≤ yl) (y1 : yl ≤ 17592186044416) (y2 : 0 ≤ yh) (y3 : yh ≤ 17592186044416) (f1 : ∀ w, Calls Try.prog 50 #[.int .i64 xl, .int .i64 1099511627776, .int .u64 yl, .bool false] w fun e w' => e = .returned (.int .i64 D1) ∧ ∃ p, w' = more w p) (t1 : ∀ w, Calls Try.prog 50 #[.int .i64 xl, .int .i64 1099511627776, .int .u64 yl, .bool true] w fun e w' => e = .returned (.int .i64 U1) ∧ ∃ p, w' = more w p) (f2 : ∀ w, Calls Try.prog 50 #[.int .i64 xl, .int .i64 1099511627776, .int .u64 yh, .bool false] w fun e w' => e = .returned (.int .i64 D2) ∧ ∃ p, w' = more w p) (t2 : ∀ w, Calls Try.prog 50 #[.int .i64 xl, .int .i64 1099511627776, .int .u64 yh, .bool true] w fun e w' => e = .returned (.int .i64 U2) ∧ ∃ p, w' = more w p) (f3 : ∀ w, Calls Try.prog 50 #[.int .i64 xh, .int .i64 1099511627776, .int .u64 yl, .bool false] w fun e w' => e = .returned (.int .i64 D3) ∧ ∃ p, w' = more w p) (t3 : ∀ w, Calls Try.prog 50 #[.int .i64 xh, .int .i64 1099511627776, .int .u64 yl, .bool true] w fun e w' => e = .returned (.int .i64 U3) ∧ ∃ p, w' = more w p) (f4 : ∀ w, Calls Try.prog 50 #[.int .i64 xh, .int .i64 1099511627776, .int .u64 yh, .bool false] w fun e w' => e = .returned (.int .i64 D4) ∧ ∃ p, w' = more w p) (t4 : ∀ w, Calls Try.prog 50 #[.int .i64 xh, .int .i64 1099511627776, .int .u64 yh, .bool true] w fun e w' => e = .returned (.int .i64 U4) ∧ ∃ p, w' = more w p) (w : World) :
    Calls Try.prog 45 #[.agg #[.int .i64 xl, .int .i64 xh], .agg #[.int .i64 yl, .int .i64 yh], .bool true] w fun e w' => e = .returned (.tuple #[.agg #[.int .i64 (mkL (min4 D1 D2 D3 D4) (max4 U1 U2 U3 U4) true), .int .i64 (mkH (min4 D1 D2 D3 D4) (max4 U1 U2 U3 U4) true)], .bool (mkB (min4 D1 D2 D3 D4) (max4 U1 U2 U3 U4) true)]) ∧ ∃ p, w' = more w p := by
  have F1 := Lib.hid @f1
  have T1 := Lib.hid @t1
  have F2 := Lib.hid @f2
  have T2 := Lib.hid @t2
  have F3 := Lib.hid @f3
  have T3 := Lib.hid @t3
  have F4 := Lib.hid @f4
  have T4 := Lib.hid @t4
  clear f1 f2 f3 f4 t1 t2 t3 t4
  go_enter Try.func45, Try.ntmps45
  go_wp2_with fail
  go_loopw [10, 11, 12] (fun s10 s11 i wr => ∃ k lo hi : Int, i = .int .i64 k ∧ s10 = .int .i64 lo ∧ s11 = .int .i64 hi ∧ fst4 D1 U1 D2 U2 D3 U3 D4 U4 k lo hi ∧ Ext w wr ∧ wr.heap[w.heap.size + 1 + 1]? = some (ivO 0 0) ∧ wr.heap[w.heap.size + 1 + 1 + 1]? = some (arO xl xl xh xh) ∧ wr.heap[w.heap.size + 1 + 1 + 1 + 1]? = some (arO yl yh yl yh)) (fun _ _ i _ => (4 - intOf i).toNat)
  case atStart => exact ⟨0, 0, 0, rfl, rfl, rfl, .inl ⟨rfl, rfl, rfl⟩, ⟨⟨[_, _, _, _, _], 0⟩, rfl⟩, at_old (at_old (at_new (by simp))), at_old (at_new (by simp)), at_new (by simp)⟩
  case round =>
    obtain ⟨k, lo, hi, rfl, rfl, rfl, hc, hE, e2, e3, e4⟩ := hrel
    obtain ⟨k8, k9, k10, k11⟩ := iv_of e2
    obtain ⟨j8, j9, j10, j11, j12⟩ := ar_of e3
    obtain ⟨l8, l9, l10, l11, l12⟩ := ar_of e4
    have f0 : wr.frozen? ⟨w.heap.size + 1 + 1, 0, none⟩ = false := froz_of e2
    have f1 : wr.frozen? ⟨w.heap.size + 1 + 1, 1, none⟩ = false := froz_of e2
    have hmc := more_cell
    replace hE := Lib.hid hE
    replace e2 := Lib.hid e2
    replace e3 := Lib.hid e3
    replace e4 := Lib.hid e4
    clear k11
    rcases hc with ⟨rfl, rfl, rfl⟩ | ⟨rfl, rfl, rfl⟩ | ⟨rfl, rfl, rfl⟩ | ⟨rfl, rfl, rfl⟩ | ⟨rfl, rfl, rfl⟩
    · go_wp2_with fail
      refine region_more (by kernel_rfl) (by kernel_rfl) ?_
      repeat (go_big_quiet_step ((go_at_call 50; first | with_reducible exact calls_more (F1.out _) | with_reducible exact calls_more (T1.out _))))
      refine wpQuiet_nil ?_
      rintro w1 ⟨p, rfl⟩
      go_wp2_with fail
      exact ⟨⟨1, _, _, rfl, rfl, rfl, .inr (.inl ⟨rfl, rfl, rfl⟩), hE.out.mored p, (more_heap _ _ _ k8).trans e2.out, (more_heap _ _ _ j8).trans e3.out, (more_heap _ _ _ l8).trans e4.out⟩, by simp [intOf]⟩
    · go_wp2_with fail
      refine region_more (by kernel_rfl) (by kernel_rfl) ?_
      repeat (go_big_quiet_step ((go_at_call 50; first | with_reducible exact calls_more (F2.out _) | with_reducible exact calls_more (T2.out _))))
      refine wpQuiet_nil ?_
      rintro w1 ⟨p, rfl⟩
      go_wp2_with fail
      exact ⟨⟨2, _, _, rfl, rfl, rfl, .inr (.inr (.inl ⟨rfl, rfl, rfl⟩)), hE.out.mored p, (more_heap _ _ _ k8).trans e2.out, (more_heap _ _ _ j8).trans e3.out, (more_heap _ _ _ l8).trans e4.out⟩, by simp [intOf]⟩
    · go_wp2_with fail
      refine region_more (by kernel_rfl) (by kernel_rfl) ?_
      repeat (go_big_quiet_step ((go_at_call 50; first | with_reducible exact calls_more (F3.out _) | with_reducible exact calls_more (T3.out _))))
      refine wpQuiet_nil ?_
      rintro w1 ⟨p, rfl⟩
      go_wp2_with fail
      exact ⟨⟨3, _, _, rfl, rfl, rfl, .inr (.inr (.inr (.inl ⟨rfl, rfl, rfl⟩))), hE.out.mored p, (more_heap _ _ _ k8).trans e2.out, (more_heap _ _ _ j8).trans e3.out, (more_heap _ _ _ l8).trans e4.out⟩, by simp [intOf]⟩
    · go_wp2_with fail
      refine region_more (by kernel_rfl) (by kernel_rfl) ?_
      repeat (go_big_quiet_step ((go_at_call 50; first | with_reducible exact calls_more (F4.out _) | with_reducible exact calls_more (T4.out _))))
      refine wpQuiet_nil ?_
      rintro w1 ⟨p, rfl⟩
      go_wp2_with fail
      exact ⟨⟨4, _, _, rfl, rfl, rfl, .inr (.inr (.inr (.inr ⟨rfl, rfl, rfl⟩))), hE.out.mored p, (more_heap _ _ _ k8).trans e2.out, (more_heap _ _ _ j8).trans e3.out, (more_heap _ _ _ l8).trans e4.out⟩, by simp [intOf]⟩
    · have MD := Lib.hid @(fun w => refMade_call (min4 D1 D2 D3 D4) (max4 U1 U2 U3 U4) w)
      have hms := more_setCell
      have hmf := more_frozen
      go_wp2_with (go_at_call 38; (with_reducible refine (MD.out _).mono ?_); rintro e w' ⟨rfl, p, rfl⟩)
      refine bodyPost_ret (v := .tuple #[.agg #[.int .i64 (mkL (min4 D1 D2 D3 D4) (max4 U1 U2 U3 U4) true), .int .i64 (mkH (min4 D1 D2 D3 D4) (max4 U1 U2 U3 U4) true)], .bool (mkB (min4 D1 D2 D3 D4) (max4 U1 U2 U3 U4) true)]) (by simp [results, Try.results45, go_sem, *]) rfl ⟨rfl, ?_⟩
      show Ext w _
      repeat (first | exact hE.out | refine Ext.mored ?_ _ | (refine Ext.setCell ?_ (by have := hE.out.size; omega) _))

end Go.Proofs.Ytdbemgjjahcabaa
