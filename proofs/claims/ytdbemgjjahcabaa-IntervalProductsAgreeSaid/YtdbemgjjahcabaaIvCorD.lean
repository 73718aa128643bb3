/- Contract of corners with the function of Div. -/
import Derived.Test.YtdbemgjjahcabaaIvCor
namespace Go.Proofs.Ytdbemgjjahcabaa
open Go.RowKit
set_option linter.unusedVariables false

set_option maxHeartbeats 4000000 in
theorem corn_div (xl xh yl yh D1 U1 D2 U2 D3 U3 D4 U4 : Int) (K1 K2 K3 K4 : Bool) (c1 : ∀ w, Calls Try.prog 46 #[.int .i64 xl, .int .i64 yl] w fun e w' => e = .returned (.tuple #[.int .i64 D1, .int .i64 U1, .bool K1]) ∧ ∃ n, w' = w.drewN n) (c2 : ∀ w, Calls Try.prog 46 #[.int .i64 xl, .int .i64 yh] w fun e w' => e = .returned (.tuple #[.int .i64 D2, .int .i64 U2, .bool K2]) ∧ ∃ n, w' = w.drewN n) (c3 : ∀ w, Calls Try.prog 46 #[.int .i64 xh, .int .i64 yl] w fun e w' => e = .returned (.tuple #[.int .i64 D3, .int .i64 U3, .bool K3]) ∧ ∃ n, w' = w.drewN n) (c4 : ∀ w, Calls Try.prog 46 #[.int .i64 xh, .int .i64 yh] w fun e w' => e = .returned (.tuple #[.int .i64 D4, .int .i64 U4, .bool K4]) ∧ ∃ n, w' = w.drewN n) (w : World) :
    Calls Try.prog 39 #[.agg #[.int .i64 xl, .int .i64 xh], .agg #[.int .i64 yl, .int .i64 yh], .func (.func 46) #[] #[]] w fun e w' => e = .returned (.tuple #[.agg #[.int .i64 (mkL (min4 D1 D2 D3 D4) (max4 U1 U2 U3 U4) (K1 && K2 && K3 && K4)), .int .i64 (mkH (min4 D1 D2 D3 D4) (max4 U1 U2 U3 U4) (K1 && K2 && K3 && K4))], .bool (mkB (min4 D1 D2 D3 D4) (max4 U1 U2 U3 U4) (K1 && K2 && K3 && K4))]) ∧ ∃ p, w' = more w p := by
  have i0 : ∀ (b0 b1 b2 b3 b4 b5 b6 b7 : Value) (w : World), (Instr.index 59 (.agg #[b0, b1, b2, b3, b4, b5, b6, b7]) (.int .i64 0)).run Try.prog w = .ok (.agg #[b0, b1]) w := fun _ _ _ _ _ _ _ _ _ => by kernel_rfl
  have i1 : ∀ (b0 b1 b2 b3 b4 b5 b6 b7 : Value) (w : World), (Instr.index 59 (.agg #[b0, b1, b2, b3, b4, b5, b6, b7]) (.int .i64 1)).run Try.prog w = .ok (.agg #[b2, b3]) w := fun _ _ _ _ _ _ _ _ _ => by kernel_rfl
  have i2 : ∀ (b0 b1 b2 b3 b4 b5 b6 b7 : Value) (w : World), (Instr.index 59 (.agg #[b0, b1, b2, b3, b4, b5, b6, b7]) (.int .i64 2)).run Try.prog w = .ok (.agg #[b4, b5]) w := fun _ _ _ _ _ _ _ _ _ => by kernel_rfl
  have i3 : ∀ (b0 b1 b2 b3 b4 b5 b6 b7 : Value) (w : World), (Instr.index 59 (.agg #[b0, b1, b2, b3, b4, b5, b6, b7]) (.int .i64 3)).run Try.prog w = .ok (.agg #[b6, b7]) w := fun _ _ _ _ _ _ _ _ _ => by kernel_rfl
  have C1 := Lib.hid @c1
  have C2 := Lib.hid @c2
  have C3 := Lib.hid @c3
  have C4 := Lib.hid @c4
  replace i0 := Lib.hid @i0
  replace i1 := Lib.hid @i1
  replace i2 := Lib.hid @i2
  replace i3 := Lib.hid @i3
  clear c1 c2 c3 c4
  go_enter Try.func39, Try.ntmps39
  go_wp2_with fail
  go_loopw [35] (fun i wr => ∃ k lo hi : Int, i = .int .i64 k ∧ cst D1 U1 D2 U2 D3 U3 D4 U4 K1 K2 K3 K4 k lo hi ∧ Ext w wr ∧ wr.heap[w.heap.size + 1 + 1]? = some (ivO 0 0) ∧ wr.heap[w.heap.size + 1 + 1 + 1]? = some (ivO lo hi)) (fun i _ => (4 - intOf i).toNat)
  case atStart => exact ⟨0, 0, 0, rfl, .inl ⟨rfl, rfl, rfl⟩, ⟨⟨[_, _, _, _], 0⟩, rfl⟩, at_old (at_new (by simp)), at_new (by simp)⟩
  case round =>
    obtain ⟨k, lo, hi, rfl, hc, hE, e2, e3⟩ := hrel
    obtain ⟨k8, k9, k10, k11⟩ := iv_of e2
    obtain ⟨j8, j9, j10, j11⟩ := iv_of e3
    have f0 : wr.frozen? ⟨w.heap.size + 1 + 1, 0, none⟩ = false := froz_of e2
    have f1 : wr.frozen? ⟨w.heap.size + 1 + 1, 1, none⟩ = false := froz_of e2
    have f2 : wr.frozen? ⟨w.heap.size + 1 + 1 + 1, 0, none⟩ = false := froz_of e3
    have f3 : wr.frozen? ⟨w.heap.size + 1 + 1 + 1, 1, none⟩ = false := froz_of e3
    have hsd : ∀ (w : World) (n : Nat) (a : Addr) (v : Value), (w.drewN n).setCell a v = (w.setCell a v).drewN n := fun _ _ _ _ => rfl
    have had : ∀ (w : World) (n : Nat) (o : Obj), (w.drewN n).alloc o = (w.alloc o).drewN n := fun _ _ _ => rfl
    replace hE := Lib.hid hE
    replace e2 := Lib.hid e2
    replace e3 := Lib.hid e3
    clear k11 j11
    rcases hc with ⟨rfl, rfl, rfl⟩ | ⟨rfl, rfl, rfl, rfl⟩ | ⟨rfl, rfl, rfl, rfl, rfl⟩ | ⟨rfl, rfl, rfl, rfl, rfl, rfl⟩ | ⟨rfl, rfl, rfl, rfl, rfl, rfl, rfl⟩
    · have i := i0.out
      cases K1 with
      | false =>
        go_wp2_with fail
        refine (C1.out _).mono ?_
        rintro e w' ⟨rfl, n, rfl⟩
        go_wp2_with fail
        refine bodyPost_ret (v := .tuple #[.agg #[.int .i64 (0), .int .i64 (0)], .bool (false)]) (by simp [results, Try.results39, go_sem, *]) rfl ⟨ret_zero (by simp), ?_⟩
        show Ext w _
        repeat (first | exact hE.out | refine Ext.drewN ?_ _ | refine Ext.alloc ?_ _ | (refine Ext.setCell ?_ (by have := hE.out.size; omega) _))
      | true =>
        go_wp2_with fail
        refine (C1.out _).mono ?_
        rintro e w' ⟨rfl, n, rfl⟩
        go_wp2_with fail
        refine ⟨⟨1, _, _, rfl, .inr (.inl ⟨rfl, rfl, rfl, rfl⟩), ?_, at_drew (at_old (heap_set_other _ (by omega) (heap_set_other _ (by omega) (heap_set_other _ (by omega) (heap_set_other _ (by omega) e2.out))))), at_drew (at_old (heap_set2 (heap_set2 e3.out)))⟩, by simp [intOf]⟩
        repeat (first | exact hE.out | refine Ext.drewN ?_ _ | refine Ext.alloc ?_ _ | (refine Ext.setCell ?_ (by have := hE.out.size; omega) _))
    · have i := i1.out
      cases K2 with
      | false =>
        go_wp2_with fail
        refine (C2.out _).mono ?_
        rintro e w' ⟨rfl, n, rfl⟩
        go_wp2_with fail
        refine bodyPost_ret (v := .tuple #[.agg #[.int .i64 (0), .int .i64 (0)], .bool (false)]) (by simp [results, Try.results39, go_sem, *]) rfl ⟨ret_zero (by simp), ?_⟩
        show Ext w _
        repeat (first | exact hE.out | refine Ext.drewN ?_ _ | refine Ext.alloc ?_ _ | (refine Ext.setCell ?_ (by have := hE.out.size; omega) _))
      | true =>
        go_wp2_with fail
        refine (C2.out _).mono ?_
        rintro e w' ⟨rfl, n, rfl⟩
        go_wp2_with fail
        refine ⟨⟨2, _, _, rfl, .inr (.inr (.inl ⟨rfl, rfl, rfl, rfl, rfl⟩)), ?_, at_drew (at_old (heap_set_other _ (by omega) (heap_set_other _ (by omega) e2.out))), at_drew (at_old (heap_set2 e3.out))⟩, by simp [intOf]⟩
        repeat (first | exact hE.out | refine Ext.drewN ?_ _ | refine Ext.alloc ?_ _ | (refine Ext.setCell ?_ (by have := hE.out.size; omega) _))
    · have i := i2.out
      cases K3 with
      | false =>
        go_wp2_with fail
        refine (C3.out _).mono ?_
        rintro e w' ⟨rfl, n, rfl⟩
        go_wp2_with fail
        refine bodyPost_ret (v := .tuple #[.agg #[.int .i64 (0), .int .i64 (0)], .bool (false)]) (by simp [results, Try.results39, go_sem, *]) rfl ⟨ret_zero (by simp), ?_⟩
        show Ext w _
        repeat (first | exact hE.out | refine Ext.drewN ?_ _ | refine Ext.alloc ?_ _ | (refine Ext.setCell ?_ (by have := hE.out.size; omega) _))
      | true =>
        go_wp2_with fail
        refine (C3.out _).mono ?_
        rintro e w' ⟨rfl, n, rfl⟩
        go_wp2_with fail
        refine ⟨⟨3, _, _, rfl, .inr (.inr (.inr (.inl ⟨rfl, rfl, rfl, rfl, rfl, rfl⟩))), ?_, at_drew (at_old (heap_set_other _ (by omega) (heap_set_other _ (by omega) e2.out))), at_drew (at_old (heap_set2 e3.out))⟩, by simp [intOf]⟩
        repeat (first | exact hE.out | refine Ext.drewN ?_ _ | refine Ext.alloc ?_ _ | (refine Ext.setCell ?_ (by have := hE.out.size; omega) _))
    · have i := i3.out
      cases K4 with
      | false =>
        go_wp2_with fail
        refine (C4.out _).mono ?_
        rintro e w' ⟨rfl, n, rfl⟩
        go_wp2_with fail
        refine bodyPost_ret (v := .tuple #[.agg #[.int .i64 (0), .int .i64 (0)], .bool (false)]) (by simp [results, Try.results39, go_sem, *]) rfl ⟨ret_zero (by simp), ?_⟩
        show Ext w _
        repeat (first | exact hE.out | refine Ext.drewN ?_ _ | refine Ext.alloc ?_ _ | (refine Ext.setCell ?_ (by have := hE.out.size; omega) _))
      | true =>
        go_wp2_with fail
        refine (C4.out _).mono ?_
        rintro e w' ⟨rfl, n, rfl⟩
        go_wp2_with fail
        refine ⟨⟨4, _, _, rfl, .inr (.inr (.inr (.inr ⟨rfl, rfl, rfl, rfl, rfl, rfl, rfl⟩))), ?_, at_drew (at_old (heap_set_other _ (by omega) (heap_set_other _ (by omega) e2.out))), at_drew (at_old (heap_set2 e3.out))⟩, by simp [intOf]⟩
        repeat (first | exact hE.out | refine Ext.drewN ?_ _ | refine Ext.alloc ?_ _ | (refine Ext.setCell ?_ (by have := hE.out.size; omega) _))
    · have MD := Lib.hid @(fun w => made_call (min4 D1 D2 D3 D4) (max4 U1 U2 U3 U4) true w)
      have hms := more_setCell
      have hmc := more_cell
      have hmf := more_frozen
      go_wp2_with (go_at_call 37; (with_reducible refine (MD.out _).mono ?_); rintro e w' ⟨rfl, p, rfl⟩)
      refine bodyPost_ret (v := .tuple #[.agg #[.int .i64 (mkL (min4 D1 D2 D3 D4) (max4 U1 U2 U3 U4) true), .int .i64 (mkH (min4 D1 D2 D3 D4) (max4 U1 U2 U3 U4) true)], .bool (mkB (min4 D1 D2 D3 D4) (max4 U1 U2 U3 U4) true)]) (by simp [results, Try.results39, go_sem, *]) rfl ⟨rfl, ?_⟩
      show Ext w _
      repeat (first | exact hE.out | refine Ext.mored ?_ _ | refine Ext.drewN ?_ _ | refine Ext.alloc ?_ _ | (refine Ext.setCell ?_ (by have := hE.out.size; omega) _))
end Go.Proofs.Ytdbemgjjahcabaa
