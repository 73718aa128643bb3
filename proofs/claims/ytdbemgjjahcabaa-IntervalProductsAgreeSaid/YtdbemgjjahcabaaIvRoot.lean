/- Contracts of Sqrt and of the reference's. -/
import Derived.Test.YtdbemgjjahcabaaIvSqrt
import Derived.Deep.DeepCutAuto
namespace Go.Proofs.Ytdbemgjjahcabaa
open Go.RowKit
set_option linter.unusedVariables false

/-- whether an interval has a root -/
def qOk (xl xh : Int) : Bool := ivB xl xh && decide (0 ≤ xl)
theorem at_more {W : World} {p : Extra} {g : Nat} {v : Obj} (h : W.heap[g]? = some v) : (more W p).heap[g]? = some v := by
  have hg : g < W.heap.size := by
    rcases Nat.lt_or_ge g W.heap.size with h1 | h1
    · exact h1
    · simp [h1] at h
  rw [more_heap W p g hg]
  exact h
theorem root_small {N r : Int} (h : Root N r) (hN : N ≤ 19342813113834066795298816) : r ≤ 4398046511104 := by
  apply Int.not_lt.1
  intro hl
  have h1 := sq_mono (a := 4398046511105) (b := r) (by omega) (by omega)
  have h2 := h.lo
  omega
theorem csq_small {N : Int} (n0 : 0 ≤ N) (hN : N ≤ 19342813113834066795298816) : 0 ≤ csq N ∧ csq N ≤ 4398046511105 := by
  have h := isq_spec (N := N) n0 (by omega)
  have h1 := root_small h hN
  have h2 := h.r0
  unfold csq
  split <;> omega

set_option maxHeartbeats 1000000 in
theorem ivSqrt_x (xl xh : Int) (hx : ivB xl xh = false) (w : World) : Calls Try.prog 27 #[.agg #[.int .i64 xl, .int .i64 xh]] w fun e w' => e = .returned (.tuple #[.agg #[.int .i64 (0), .int .i64 (0)], .bool (false)]) ∧ ∃ p, w' = more w p := by
  have vx := fun w => valid_call xl xh w
  rw [hx] at vx
  have VX := Lib.hid @vx
  clear vx hx
  go_enter Try.func27, Try.ntmps27
  go_upto_region 1 with fail
  refine at_world (fun V => F2 w V xl xh ∧ V.heap[w.heap.size]? = some (ivO xl xh) ∧ V.heap[w.heap.size + 1]? = some (ivO 0 0) ∧ Ext w V) ⟨f2_of w xl xh, at_old (at_new rfl), at_new (by simp), ⟨[_, _], 0⟩, rfl⟩ ?_
  rintro V ⟨⟨⟨k0, k1, k2, k3⟩, ⟨k4, k5, k6, k7⟩, k8, k9, k10⟩, e1, e2, hE⟩
  have K := Lib.hid @k10
  clear k10
  replace e1 := Lib.hid e1
  replace e2 := Lib.hid e2
  replace hE := Lib.hid hE
  have hmc := more_cell
  have hmh := more_heap
  have hmf := more_frozen
  refine at_world (fun W' => ∃ p, W' = more V p) ⟨⟨[], 0⟩, rfl⟩ ?_
  rintro _ ⟨p, rfl⟩
  go_wp2_with (go_at_call 18; (with_reducible refine (calls_more_o (VX.out _)).mono ?_); rintro e w' ⟨rfl, q, rfl⟩)
  exact bodyPost_ret (v := .tuple #[.agg #[.int .i64 (0), .int .i64 (0)], .bool (false)]) (by simp [results, Try.results27, go_sem, *]) rfl ⟨rfl, K.out _ _ _⟩

set_option maxHeartbeats 1000000 in
theorem ivSqrt_neg (xl xh : Int) (hx : ivB xl xh = true) (hn : xl < 0) (w : World) : Calls Try.prog 27 #[.agg #[.int .i64 xl, .int .i64 xh]] w fun e w' => e = .returned (.tuple #[.agg #[.int .i64 (0), .int .i64 (0)], .bool (false)]) ∧ ∃ p, w' = more w p := by
  have vx := fun w => valid_call xl xh w
  rw [hx] at vx
  have VX := Lib.hid @vx
  clear vx hx
  go_enter Try.func27, Try.ntmps27
  go_upto_region 1 with fail
  refine at_world (fun V => F2 w V xl xh ∧ V.heap[w.heap.size]? = some (ivO xl xh) ∧ V.heap[w.heap.size + 1]? = some (ivO 0 0) ∧ Ext w V) ⟨f2_of w xl xh, at_old (at_new rfl), at_new (by simp), ⟨[_, _], 0⟩, rfl⟩ ?_
  rintro V ⟨⟨⟨k0, k1, k2, k3⟩, ⟨k4, k5, k6, k7⟩, k8, k9, k10⟩, e1, e2, hE⟩
  have K := Lib.hid @k10
  clear k10
  replace e1 := Lib.hid e1
  replace e2 := Lib.hid e2
  replace hE := Lib.hid hE
  have hmc := more_cell
  have hmh := more_heap
  have hmf := more_frozen
  refine at_world (fun W' => ∃ p, W' = more V p) ⟨⟨[], 0⟩, rfl⟩ ?_
  rintro _ ⟨p, rfl⟩
  go_wp2_with (go_at_call 18; (with_reducible refine (calls_more_o (VX.out _)).mono ?_); rintro e w' ⟨rfl, q, rfl⟩)
  exact bodyPost_ret (v := .tuple #[.agg #[.int .i64 (0), .int .i64 (0)], .bool (false)]) (by simp [results, Try.results27, go_sem, *]) rfl ⟨rfl, K.out _ _ _⟩

set_option maxHeartbeats 2000000 in
theorem ivSqrt_up (xl xh : Int) (hx : ivB xl xh = true) (hn : 0 ≤ xl) (hu : isq (xh * 1099511627776) * isq (xh * 1099511627776) < xh * 1099511627776) (w : World) : Calls Try.prog 27 #[.agg #[.int .i64 xl, .int .i64 xh]] w fun e w' => e = .returned (.tuple #[.agg #[.int .i64 (mkL (isq (xl * 1099511627776)) (isq (xh * 1099511627776) + 1) true), .int .i64 (mkH (isq (xl * 1099511627776)) (isq (xh * 1099511627776) + 1) true)], .bool (mkB (isq (xl * 1099511627776)) (isq (xh * 1099511627776) + 1) true)]) ∧ ∃ p, w' = more w p := by
  obtain ⟨x0, x1, x2⟩ := ivB_parts hx
  have vx := fun w => valid_call xl xh w
  rw [hx] at vx
  have VX := Lib.hid @vx
  clear vx hx
  obtain ⟨m0, m1, m2, m3, m4⟩ := mul_hi_lo xl 1099511627776 (by omega) (by omega) (by omega) (by omega)
  obtain ⟨g0, g1, g2, g3, g4⟩ := mul_hi_lo xh 1099511627776 (by omega) (by omega) (by omega) (by omega)
  have ml := fun w => wideMul_call xl 1099511627776 w (by omega) (by omega) (by omega) (by omega)
  have mh := fun w => wideMul_call xh 1099511627776 w (by omega) (by omega) (by omega) (by omega)
  have sl := fun w => wideSqrt_call _ _ _ w m0 (by omega) m2 m3 m4
  have sh := fun w => wideSqrt_call _ _ _ w g0 (by omega) g2 g3 g4
  have rl := isq_spec (N := xl * 1099511627776) (by omega) (by omega)
  have rh := isq_spec (N := xh * 1099511627776) (by omega) (by omega)
  have bl := root_small rl (by omega)
  have bh := root_small rh (by omega)
  have al := rl.r0
  have ah := rh.r0
  obtain ⟨rL, hL⟩ : ∃ r, isq (xl * 1099511627776) = r := ⟨_, rfl⟩
  obtain ⟨rH, hH⟩ : ∃ r, isq (xh * 1099511627776) = r := ⟨_, rfl⟩
  rw [hL] at sl bl al ⊢
  rw [hH] at sh bh ah hu ⊢
  obtain ⟨q0, q1, q2, q3, q4⟩ := mul_hi_lo rH rH ah (by omega) ah (by omega)
  have mq := fun w => wideMul_call rH rH w ah (by omega) ah (by omega)
  have cc := fun w => wideCompare_call (rH * rH / 18446744073709551616) (rH * rH % 18446744073709551616) (xh * 1099511627776 / 18446744073709551616) (xh * 1099511627776 % 18446744073709551616) w q2 q3 g2 g3
  rw [q4, g4] at cc
  have hd : decide (cmpI (rH * rH) (xh * 1099511627776) < 0) = true := (cmp_lt _ _).trans (decide_eq_true hu)
  have ML := Lib.hid @ml
  have MH := Lib.hid @mh
  have SL := Lib.hid @sl
  have SH := Lib.hid @sh
  have MQ := Lib.hid @mq
  have CC := Lib.hid @cc
  clear ml mh sl sh mq cc rl rh hu hL hH q0 q1 q2 q3 q4 m0 m1 m2 m3 m4 g0 g1 g2 g3 g4
  have MD := Lib.hid @(fun w => made_call rL (rH + 1) true w)
  generalize cmpI (rH * rH) (xh * 1099511627776) = cv at *
  go_enter Try.func27, Try.ntmps27
  go_upto_region 1 with fail
  refine at_world (fun V => F2 w V xl xh ∧ V.heap[w.heap.size]? = some (ivO xl xh) ∧ V.heap[w.heap.size + 1]? = some (ivO 0 0) ∧ Ext w V) ⟨f2_of w xl xh, at_old (at_new rfl), at_new (by simp), ⟨[_, _], 0⟩, rfl⟩ ?_
  rintro V ⟨⟨⟨k0, k1, k2, k3⟩, ⟨k4, k5, k6, k7⟩, k8, k9, k10⟩, e1, e2, hE⟩
  have K := Lib.hid @k10
  clear k10
  replace e1 := Lib.hid e1
  replace e2 := Lib.hid e2
  replace hE := Lib.hid hE
  have hmc := more_cell
  have hmh := more_heap
  have hmf := more_frozen
  refine at_world (fun W' => ∃ p, W' = more V p) ⟨⟨[], 0⟩, rfl⟩ ?_
  rintro _ ⟨p, rfl⟩
  go_upto_region 4 with (first
    | (go_at_call 18; (with_reducible refine (calls_more_o (VX.out _)).mono ?_); rintro e w' ⟨rfl, q, rfl⟩)
    | (go_at_call 42; first
      | ((with_reducible refine (calls_more_o (ML.out _)).mono ?_); rintro e w' ⟨rfl, q, rfl⟩)
      | ((with_reducible refine (calls_more_o (MH.out _)).mono ?_); rintro e w' ⟨rfl, q, rfl⟩))
    | (go_at_call 43; first
      | ((with_reducible refine (SL.out _).mono ?_); rintro e w' ⟨rfl, q, rfl⟩)
      | ((with_reducible refine (SH.out _).mono ?_); rintro e w' ⟨rfl, q, rfl⟩))
    | (go_at_call 37; (with_reducible refine (MD.out _).mono ?_); rintro e w' ⟨rfl, q, rfl⟩))
  go_cut [4, 5] (fun s4 s5 Z => ∃ g : Nat, s4 = .pointer (some ⟨g, 0, none⟩) ∧ s5 = .int .u64 rH ∧ Ext w Z ∧ Z.heap[w.heap.size]? = some (ivO xl xh) ∧ Z.heap[w.heap.size + 1]? = some (ivO 0 0) ∧ Z.heap[g]? = some (wideO (xh * 1099511627776 / 18446744073709551616) (xh * 1099511627776 % 18446744073709551616)))
  case first =>
    go_wp2_with (first
      | (go_at_call 18; (with_reducible refine (calls_more_o (VX.out _)).mono ?_); rintro e w' ⟨rfl, q, rfl⟩)
      | (go_at_call 42; first
        | ((with_reducible refine (calls_more_o (ML.out _)).mono ?_); rintro e w' ⟨rfl, q, rfl⟩)
        | ((with_reducible refine (calls_more_o (MH.out _)).mono ?_); rintro e w' ⟨rfl, q, rfl⟩))
      | (go_at_call 43; first
        | ((with_reducible refine (SL.out _).mono ?_); rintro e w' ⟨rfl, q, rfl⟩)
        | ((with_reducible refine (SH.out _).mono ?_); rintro e w' ⟨rfl, q, rfl⟩))
      | (go_at_call 37; (with_reducible refine (MD.out _).mono ?_); rintro e w' ⟨rfl, q, rfl⟩))
    go_meet
    refine ⟨_, rfl, rfl, ?_, ?_, ?_, ?_⟩
    · repeat (first | exact hE.out | refine Ext.mored ?_ _ | refine Ext.drewN ?_ _ | refine Ext.alloc ?_ _)
    all_goals repeat (first | exact e1.out | exact e2.out | refine at_more ?_ | (refine at_new ?_; rfl) | refine at_old ?_)
  case rest =>
    obtain ⟨g, rfl, rfl, hE, e1, e2, e3⟩ := hcut
    obtain ⟨l0, l1, l2⟩ := wide_of e3
    clear k0 k1 k2 k3 k4 k5 k6 k7 k8 k9 K
    obtain ⟨k0, k1, k2, k3⟩ := iv_of e1
    obtain ⟨k4, k5, k6, k7⟩ := iv_of e2
    have k8 : wc.frozen? ⟨w.heap.size + 1, 0, none⟩ = false := froz_of e2
    have k9 : wc.frozen? ⟨w.heap.size + 1, 1, none⟩ = false := froz_of e2
    replace hE := Lib.hid hE
    replace e1 := Lib.hid e1
    replace e2 := Lib.hid e2
    go_wp2_with fail
    refine region_more (by kernel_rfl) (by kernel_rfl) ?_
    repeat (go_big_quiet_step ((first
      | (go_at_call 42; first | with_reducible exact calls_more_o (MQ.out _) | with_reducible exact calls_more_o (MH.out _))
      | (go_at_call 44; with_reducible exact calls_more (CC.out _)))))
    refine wpQuiet_nil ?_
    rintro w1 ⟨q, rfl⟩
  
    go_wp2_with (first
      | (go_at_call 18; (with_reducible refine (calls_more_o (VX.out _)).mono ?_); rintro e w' ⟨rfl, q, rfl⟩)
      | (go_at_call 42; first
        | ((with_reducible refine (calls_more_o (ML.out _)).mono ?_); rintro e w' ⟨rfl, q, rfl⟩)
        | ((with_reducible refine (calls_more_o (MH.out _)).mono ?_); rintro e w' ⟨rfl, q, rfl⟩))
      | (go_at_call 43; first
        | ((with_reducible refine (calls_more (SL.out _)).mono ?_); rintro e w' ⟨rfl, q, rfl⟩)
        | ((with_reducible refine (calls_more (SH.out _)).mono ?_); rintro e w' ⟨rfl, q, rfl⟩))
      | (go_at_call 37; (with_reducible refine (calls_more (MD.out _)).mono ?_); rintro e w' ⟨rfl, q, rfl⟩))
    refine bodyPost_ret (v := .tuple #[.agg #[.int .i64 (mkL rL (rH + 1) true), .int .i64 (mkH rL (rH + 1) true)], .bool (mkB rL (rH + 1) true)]) (by simp [results, Try.results27, go_sem, *]) rfl ⟨rfl, ?_⟩
    show Ext w _
    repeat (first | exact hE.out | refine Ext.mored ?_ _ | refine Ext.drewN ?_ _ | refine Ext.alloc ?_ _ | (refine Ext.setCell ?_ (by have := hE.out.size; omega) _))
  

set_option maxHeartbeats 2000000 in
theorem ivSqrt_at (xl xh : Int) (hx : ivB xl xh = true) (hn : 0 ≤ xl) (hu : ¬ isq (xh * 1099511627776) * isq (xh * 1099511627776) < xh * 1099511627776) (w : World) : Calls Try.prog 27 #[.agg #[.int .i64 xl, .int .i64 xh]] w fun e w' => e = .returned (.tuple #[.agg #[.int .i64 (mkL (isq (xl * 1099511627776)) (isq (xh * 1099511627776)) true), .int .i64 (mkH (isq (xl * 1099511627776)) (isq (xh * 1099511627776)) true)], .bool (mkB (isq (xl * 1099511627776)) (isq (xh * 1099511627776)) true)]) ∧ ∃ p, w' = more w p := by
  obtain ⟨x0, x1, x2⟩ := ivB_parts hx
  have vx := fun w => valid_call xl xh w
  rw [hx] at vx
  have VX := Lib.hid @vx
  clear vx hx
  obtain ⟨m0, m1, m2, m3, m4⟩ := mul_hi_lo xl 1099511627776 (by omega) (by omega) (by omega) (by omega)
  obtain ⟨g0, g1, g2, g3, g4⟩ := mul_hi_lo xh 1099511627776 (by omega) (by omega) (by omega) (by omega)
  have ml := fun w => wideMul_call xl 1099511627776 w (by omega) (by omega) (by omega) (by omega)
  have mh := fun w => wideMul_call xh 1099511627776 w (by omega) (by omega) (by omega) (by omega)
  have sl := fun w => wideSqrt_call _ _ _ w m0 (by omega) m2 m3 m4
  have sh := fun w => wideSqrt_call _ _ _ w g0 (by omega) g2 g3 g4
  have rl := isq_spec (N := xl * 1099511627776) (by omega) (by omega)
  have rh := isq_spec (N := xh * 1099511627776) (by omega) (by omega)
  have bl := root_small rl (by omega)
  have bh := root_small rh (by omega)
  have al := rl.r0
  have ah := rh.r0
  obtain ⟨rL, hL⟩ : ∃ r, isq (xl * 1099511627776) = r := ⟨_, rfl⟩
  obtain ⟨rH, hH⟩ : ∃ r, isq (xh * 1099511627776) = r := ⟨_, rfl⟩
  rw [hL] at sl bl al ⊢
  rw [hH] at sh bh ah hu ⊢
  obtain ⟨q0, q1, q2, q3, q4⟩ := mul_hi_lo rH rH ah (by omega) ah (by omega)
  have mq := fun w => wideMul_call rH rH w ah (by omega) ah (by omega)
  have cc := fun w => wideCompare_call (rH * rH / 18446744073709551616) (rH * rH % 18446744073709551616) (xh * 1099511627776 / 18446744073709551616) (xh * 1099511627776 % 18446744073709551616) w q2 q3 g2 g3
  rw [q4, g4] at cc
  have hd : decide (cmpI (rH * rH) (xh * 1099511627776) < 0) = false := (cmp_lt _ _).trans (decide_eq_false hu)
  have ML := Lib.hid @ml
  have MH := Lib.hid @mh
  have SL := Lib.hid @sl
  have SH := Lib.hid @sh
  have MQ := Lib.hid @mq
  have CC := Lib.hid @cc
  clear ml mh sl sh mq cc rl rh hu hL hH q0 q1 q2 q3 q4 m0 m1 m2 m3 m4 g0 g1 g2 g3 g4
  have MD := Lib.hid @(fun w => made_call rL (rH) true w)
  generalize cmpI (rH * rH) (xh * 1099511627776) = cv at *
  go_enter Try.func27, Try.ntmps27
  go_upto_region 1 with fail
  refine at_world (fun V => F2 w V xl xh ∧ V.heap[w.heap.size]? = some (ivO xl xh) ∧ V.heap[w.heap.size + 1]? = some (ivO 0 0) ∧ Ext w V) ⟨f2_of w xl xh, at_old (at_new rfl), at_new (by simp), ⟨[_, _], 0⟩, rfl⟩ ?_
  rintro V ⟨⟨⟨k0, k1, k2, k3⟩, ⟨k4, k5, k6, k7⟩, k8, k9, k10⟩, e1, e2, hE⟩
  have K := Lib.hid @k10
  clear k10
  replace e1 := Lib.hid e1
  replace e2 := Lib.hid e2
  replace hE := Lib.hid hE
  have hmc := more_cell
  have hmh := more_heap
  have hmf := more_frozen
  refine at_world (fun W' => ∃ p, W' = more V p) ⟨⟨[], 0⟩, rfl⟩ ?_
  rintro _ ⟨p, rfl⟩
  go_upto_region 4 with (first
    | (go_at_call 18; (with_reducible refine (calls_more_o (VX.out _)).mono ?_); rintro e w' ⟨rfl, q, rfl⟩)
    | (go_at_call 42; first
      | ((with_reducible refine (calls_more_o (ML.out _)).mono ?_); rintro e w' ⟨rfl, q, rfl⟩)
      | ((with_reducible refine (calls_more_o (MH.out _)).mono ?_); rintro e w' ⟨rfl, q, rfl⟩))
    | (go_at_call 43; first
      | ((with_reducible refine (SL.out _).mono ?_); rintro e w' ⟨rfl, q, rfl⟩)
      | ((with_reducible refine (SH.out _).mono ?_); rintro e w' ⟨rfl, q, rfl⟩))
    | (go_at_call 37; (with_reducible refine (MD.out _).mono ?_); rintro e w' ⟨rfl, q, rfl⟩))
  go_cut [4, 5] (fun s4 s5 Z => ∃ g : Nat, s4 = .pointer (some ⟨g, 0, none⟩) ∧ s5 = .int .u64 rH ∧ Ext w Z ∧ Z.heap[w.heap.size]? = some (ivO xl xh) ∧ Z.heap[w.heap.size + 1]? = some (ivO 0 0) ∧ Z.heap[g]? = some (wideO (xh * 1099511627776 / 18446744073709551616) (xh * 1099511627776 % 18446744073709551616)))
  case first =>
    go_wp2_with (first
      | (go_at_call 18; (with_reducible refine (calls_more_o (VX.out _)).mono ?_); rintro e w' ⟨rfl, q, rfl⟩)
      | (go_at_call 42; first
        | ((with_reducible refine (calls_more_o (ML.out _)).mono ?_); rintro e w' ⟨rfl, q, rfl⟩)
        | ((with_reducible refine (calls_more_o (MH.out _)).mono ?_); rintro e w' ⟨rfl, q, rfl⟩))
      | (go_at_call 43; first
        | ((with_reducible refine (SL.out _).mono ?_); rintro e w' ⟨rfl, q, rfl⟩)
        | ((with_reducible refine (SH.out _).mono ?_); rintro e w' ⟨rfl, q, rfl⟩))
      | (go_at_call 37; (with_reducible refine (MD.out _).mono ?_); rintro e w' ⟨rfl, q, rfl⟩))
    go_meet
    refine ⟨_, rfl, rfl, ?_, ?_, ?_, ?_⟩
    · repeat (first | exact hE.out | refine Ext.mored ?_ _ | refine Ext.drewN ?_ _ | refine Ext.alloc ?_ _)
    all_goals repeat (first | exact e1.out | exact e2.out | refine at_more ?_ | (refine at_new ?_; rfl) | refine at_old ?_)
  case rest =>
    obtain ⟨g, rfl, rfl, hE, e1, e2, e3⟩ := hcut
    obtain ⟨l0, l1, l2⟩ := wide_of e3
    clear k0 k1 k2 k3 k4 k5 k6 k7 k8 k9 K
    obtain ⟨k0, k1, k2, k3⟩ := iv_of e1
    obtain ⟨k4, k5, k6, k7⟩ := iv_of e2
    have k8 : wc.frozen? ⟨w.heap.size + 1, 0, none⟩ = false := froz_of e2
    have k9 : wc.frozen? ⟨w.heap.size + 1, 1, none⟩ = false := froz_of e2
    replace hE := Lib.hid hE
    replace e1 := Lib.hid e1
    replace e2 := Lib.hid e2
    go_wp2_with fail
    refine region_more (by kernel_rfl) (by kernel_rfl) ?_
    repeat (go_big_quiet_step ((first
      | (go_at_call 42; first | with_reducible exact calls_more_o (MQ.out _) | with_reducible exact calls_more_o (MH.out _))
      | (go_at_call 44; with_reducible exact calls_more (CC.out _)))))
    refine wpQuiet_nil ?_
    rintro w1 ⟨q, rfl⟩
  
    go_wp2_with (first
      | (go_at_call 18; (with_reducible refine (calls_more_o (VX.out _)).mono ?_); rintro e w' ⟨rfl, q, rfl⟩)
      | (go_at_call 42; first
        | ((with_reducible refine (calls_more_o (ML.out _)).mono ?_); rintro e w' ⟨rfl, q, rfl⟩)
        | ((with_reducible refine (calls_more_o (MH.out _)).mono ?_); rintro e w' ⟨rfl, q, rfl⟩))
      | (go_at_call 43; first
        | ((with_reducible refine (calls_more (SL.out _)).mono ?_); rintro e w' ⟨rfl, q, rfl⟩)
        | ((with_reducible refine (calls_more (SH.out _)).mono ?_); rintro e w' ⟨rfl, q, rfl⟩))
      | (go_at_call 37; (with_reducible refine (calls_more (MD.out _)).mono ?_); rintro e w' ⟨rfl, q, rfl⟩))
    refine bodyPost_ret (v := .tuple #[.agg #[.int .i64 (mkL rL (rH) true), .int .i64 (mkH rL (rH) true)], .bool (mkB rL (rH) true)]) (by simp [results, Try.results27, go_sem, *]) rfl ⟨rfl, ?_⟩
    show Ext w _
    repeat (first | exact hE.out | refine Ext.mored ?_ _ | refine Ext.drewN ?_ _ | refine Ext.alloc ?_ _ | (refine Ext.setCell ?_ (by have := hE.out.size; omega) _))
  

theorem ivSqrt_call (xl xh : Int) (w : World) : Calls Try.prog 27 #[.agg #[.int .i64 xl, .int .i64 xh]] w fun e w' => e = .returned (.tuple #[.agg #[.int .i64 (mkL (isq (xl * 1099511627776)) (csq (xh * 1099511627776)) (qOk xl xh)), .int .i64 (mkH (isq (xl * 1099511627776)) (csq (xh * 1099511627776)) (qOk xl xh))], .bool (mkB (isq (xl * 1099511627776)) (csq (xh * 1099511627776)) (qOk xl xh))]) ∧ ∃ p, w' = more w p := by
  unfold qOk
  by_cases hx : ivB xl xh = true
  · by_cases hn : 0 ≤ xl
    · rw [hx, decide_eq_true hn, Bool.and_true]
      unfold csq
      by_cases hu : isq (xh * 1099511627776) * isq (xh * 1099511627776) < xh * 1099511627776
      · rw [if_pos hu]; exact ivSqrt_up xl xh hx hn hu w
      · rw [if_neg hu]; exact ivSqrt_at xl xh hx hn hu w
    · rw [hx, decide_eq_false hn, Bool.and_false]; exact ivSqrt_neg xl xh hx (by omega) w
  · have hx : ivB xl xh = false := by simpa using hx
    rw [hx, Bool.false_and]; exact ivSqrt_x xl xh hx w

set_option maxHeartbeats 1000000 in
theorem rvSqrt_x (xl xh : Int) (hx : ivB xl xh = false) (w : World) : Calls Try.prog 31 #[.agg #[.int .i64 xl, .int .i64 xh]] w fun e w' => e = .returned (.tuple #[.agg #[.int .i64 (0), .int .i64 (0)], .bool (false)]) ∧ ∃ p, w' = more w p := by
  have vx := fun w => refValid_call xl xh w
  rw [hx] at vx
  have VX := Lib.hid @vx
  clear vx hx
  go_enter Try.func31, Try.ntmps31
  go_upto_region 1 with fail
  refine at_world (fun V => F2 w V xl xh ∧ V.heap[w.heap.size]? = some (ivO xl xh) ∧ V.heap[w.heap.size + 1]? = some (ivO 0 0) ∧ Ext w V) ⟨f2_of w xl xh, at_old (at_new rfl), at_new (by simp), ⟨[_, _], 0⟩, rfl⟩ ?_
  rintro V ⟨⟨⟨k0, k1, k2, k3⟩, ⟨k4, k5, k6, k7⟩, k8, k9, k10⟩, e1, e2, hE⟩
  have K := Lib.hid @k10
  clear k10
  replace e1 := Lib.hid e1
  replace e2 := Lib.hid e2
  replace hE := Lib.hid hE
  have hmc := more_cell
  have hmh := more_heap
  have hmf := more_frozen
  refine at_world (fun W' => ∃ p, W' = more V p) ⟨⟨[], 0⟩, rfl⟩ ?_
  rintro _ ⟨p, rfl⟩
  go_wp2_with (go_at_call 19; (with_reducible refine (calls_more_o (VX.out _)).mono ?_); rintro e w' ⟨rfl, q, rfl⟩)
  exact bodyPost_ret (v := .tuple #[.agg #[.int .i64 (0), .int .i64 (0)], .bool (false)]) (by simp [results, Try.results31, go_sem, *]) rfl ⟨rfl, K.out _ _ _⟩

set_option maxHeartbeats 1000000 in
theorem rvSqrt_neg (xl xh : Int) (hx : ivB xl xh = true) (hn : xl < 0) (w : World) : Calls Try.prog 31 #[.agg #[.int .i64 xl, .int .i64 xh]] w fun e w' => e = .returned (.tuple #[.agg #[.int .i64 (0), .int .i64 (0)], .bool (false)]) ∧ ∃ p, w' = more w p := by
  have vx := fun w => refValid_call xl xh w
  rw [hx] at vx
  have VX := Lib.hid @vx
  clear vx hx
  go_enter Try.func31, Try.ntmps31
  go_upto_region 1 with fail
  refine at_world (fun V => F2 w V xl xh ∧ V.heap[w.heap.size]? = some (ivO xl xh) ∧ V.heap[w.heap.size + 1]? = some (ivO 0 0) ∧ Ext w V) ⟨f2_of w xl xh, at_old (at_new rfl), at_new (by simp), ⟨[_, _], 0⟩, rfl⟩ ?_
  rintro V ⟨⟨⟨k0, k1, k2, k3⟩, ⟨k4, k5, k6, k7⟩, k8, k9, k10⟩, e1, e2, hE⟩
  have K := Lib.hid @k10
  clear k10
  replace e1 := Lib.hid e1
  replace e2 := Lib.hid e2
  replace hE := Lib.hid hE
  have hmc := more_cell
  have hmh := more_heap
  have hmf := more_frozen
  refine at_world (fun W' => ∃ p, W' = more V p) ⟨⟨[], 0⟩, rfl⟩ ?_
  rintro _ ⟨p, rfl⟩
  go_wp2_with (go_at_call 19; (with_reducible refine (calls_more_o (VX.out _)).mono ?_); rintro e w' ⟨rfl, q, rfl⟩)
  exact bodyPost_ret (v := .tuple #[.agg #[.int .i64 (0), .int .i64 (0)], .bool (false)]) (by simp [results, Try.results31, go_sem, *]) rfl ⟨rfl, K.out _ _ _⟩

set_option maxHeartbeats 2000000 in
theorem rvSqrt_up (xl xh : Int) (hx : ivB xl xh = true) (hn : 0 ≤ xl) (hu : isq (xh * 1099511627776) * isq (xh * 1099511627776) < xh * 1099511627776) (w : World) : Calls Try.prog 31 #[.agg #[.int .i64 xl, .int .i64 xh]] w fun e w' => e = .returned (.tuple #[.agg #[.int .i64 (mkL (isq (xl * 1099511627776)) (isq (xh * 1099511627776) + 1) true), .int .i64 (mkH (isq (xl * 1099511627776)) (isq (xh * 1099511627776) + 1) true)], .bool (mkB (isq (xl * 1099511627776)) (isq (xh * 1099511627776) + 1) true)]) ∧ ∃ p, w' = more w p := by
  obtain ⟨x0, x1, x2⟩ := ivB_parts hx
  have vx := fun w => refValid_call xl xh w
  rw [hx] at vx
  have VX := Lib.hid @vx
  clear vx hx
  obtain ⟨m0, m1, m2, m3, m4⟩ := mul_hi_lo xl 1099511627776 (by omega) (by omega) (by omega) (by omega)
  obtain ⟨g0, g1, g2, g3, g4⟩ := mul_hi_lo xh 1099511627776 (by omega) (by omega) (by omega) (by omega)
  have ml := fun w => refMul_call xl 1099511627776 w (by omega) (by omega) (by omega) (by omega)
  have mh := fun w => refMul_call xh 1099511627776 w (by omega) (by omega) (by omega) (by omega)
  have sl := fun w => refSqrtWide_call _ _ _ w m0 (by omega) m2 m3 m4
  have sh := fun w => refSqrtWide_call _ _ _ w g0 (by omega) g2 g3 g4
  have rl := isq_spec (N := xl * 1099511627776) (by omega) (by omega)
  have rh := isq_spec (N := xh * 1099511627776) (by omega) (by omega)
  have bl := root_small rl (by omega)
  have bh := root_small rh (by omega)
  have al := rl.r0
  have ah := rh.r0
  obtain ⟨rL, hL⟩ : ∃ r, isq (xl * 1099511627776) = r := ⟨_, rfl⟩
  obtain ⟨rH, hH⟩ : ∃ r, isq (xh * 1099511627776) = r := ⟨_, rfl⟩
  rw [hL] at sl bl al ⊢
  rw [hH] at sh bh ah hu ⊢
  obtain ⟨q0, q1, q2, q3, q4⟩ := mul_hi_lo rH rH ah (by omega) ah (by omega)
  have mq := fun w => refMul_call rH rH w ah (by omega) ah (by omega)
  have cc := fun w => refCompare_call (rH * rH / 18446744073709551616) (rH * rH % 18446744073709551616) (xh * 1099511627776 / 18446744073709551616) (xh * 1099511627776 % 18446744073709551616) w q2 q3 g2 g3
  rw [q4, g4] at cc
  have hd : decide (cmpI (rH * rH) (xh * 1099511627776) < 0) = true := (cmp_lt _ _).trans (decide_eq_true hu)
  have ML := Lib.hid @ml
  have MH := Lib.hid @mh
  have SL := Lib.hid @sl
  have SH := Lib.hid @sh
  have MQ := Lib.hid @mq
  have CC := Lib.hid @cc
  clear ml mh sl sh mq cc rl rh hu hL hH q0 q1 q2 q3 q4 m0 m1 m2 m3 m4 g0 g1 g2 g3 g4
  have MD := Lib.hid @(fun w => refMade_call rL (rH + 1) w)
  generalize cmpI (rH * rH) (xh * 1099511627776) = cv at *
  go_enter Try.func31, Try.ntmps31
  go_upto_region 1 with fail
  refine at_world (fun V => F2 w V xl xh ∧ V.heap[w.heap.size]? = some (ivO xl xh) ∧ V.heap[w.heap.size + 1]? = some (ivO 0 0) ∧ Ext w V) ⟨f2_of w xl xh, at_old (at_new rfl), at_new (by simp), ⟨[_, _], 0⟩, rfl⟩ ?_
  rintro V ⟨⟨⟨k0, k1, k2, k3⟩, ⟨k4, k5, k6, k7⟩, k8, k9, k10⟩, e1, e2, hE⟩
  have K := Lib.hid @k10
  clear k10
  replace e1 := Lib.hid e1
  replace e2 := Lib.hid e2
  replace hE := Lib.hid hE
  have hmc := more_cell
  have hmh := more_heap
  have hmf := more_frozen
  refine at_world (fun W' => ∃ p, W' = more V p) ⟨⟨[], 0⟩, rfl⟩ ?_
  rintro _ ⟨p, rfl⟩
  go_upto_region 5 with (first
    | (go_at_call 19; (with_reducible refine (calls_more_o (VX.out _)).mono ?_); rintro e w' ⟨rfl, q, rfl⟩)
    | (go_at_call 48; first
      | ((with_reducible refine (calls_more_o (ML.out _)).mono ?_); rintro e w' ⟨rfl, q, rfl⟩)
      | ((with_reducible refine (calls_more_o (MH.out _)).mono ?_); rintro e w' ⟨rfl, q, rfl⟩))
    | (go_at_call 47; first
      | ((with_reducible refine (calls_more (SL.out _)).mono ?_); rintro e w' ⟨rfl, q, rfl⟩)
      | ((with_reducible refine (calls_more (SH.out _)).mono ?_); rintro e w' ⟨rfl, q, rfl⟩))
    | (go_at_call 38; (with_reducible refine (calls_more (MD.out _)).mono ?_); rintro e w' ⟨rfl, q, rfl⟩))
  refine at_world (fun Z => Ext w Z ∧ Z.heap[w.heap.size]? = some (ivO xl xh) ∧ Z.heap[w.heap.size + 1]? = some (ivO 0 0)) ⟨hE.out.mored _, (more_heap _ _ _ k0).trans e1.out, (more_heap _ _ _ k4).trans e2.out⟩ ?_
  clear k0 k1 k2 k3 k4 k5 k6 k7 k8 k9 K e1 e2 hE
  rintro Z ⟨hE, e1, e2⟩
  obtain ⟨k0, k1, k2, k3⟩ := iv_of e1
  obtain ⟨k4, k5, k6, k7⟩ := iv_of e2
  have k8 : Z.frozen? ⟨w.heap.size + 1, 0, none⟩ = false := froz_of e2
  have k9 : Z.frozen? ⟨w.heap.size + 1, 1, none⟩ = false := froz_of e2
  replace hE := Lib.hid hE
  replace e1 := Lib.hid e1
  replace e2 := Lib.hid e2
  refine region_more (by kernel_rfl) (by kernel_rfl) ?_
  repeat (go_big_quiet_step ((first
    | (go_at_call 48; first | with_reducible exact calls_more_o (MQ.out _) | with_reducible exact calls_more_o (MH.out _))
    | (go_at_call 49; with_reducible exact calls_more (CC.out _)))))
  refine wpQuiet_nil ?_
  rintro w1 ⟨q, rfl⟩
  go_wp2_with (first
    | (go_at_call 19; (with_reducible refine (calls_more_o (VX.out _)).mono ?_); rintro e w' ⟨rfl, q, rfl⟩)
    | (go_at_call 48; first
      | ((with_reducible refine (calls_more_o (ML.out _)).mono ?_); rintro e w' ⟨rfl, q, rfl⟩)
      | ((with_reducible refine (calls_more_o (MH.out _)).mono ?_); rintro e w' ⟨rfl, q, rfl⟩))
    | (go_at_call 47; first
      | ((with_reducible refine (calls_more (SL.out _)).mono ?_); rintro e w' ⟨rfl, q, rfl⟩)
      | ((with_reducible refine (calls_more (SH.out _)).mono ?_); rintro e w' ⟨rfl, q, rfl⟩))
    | (go_at_call 38; (with_reducible refine (calls_more (MD.out _)).mono ?_); rintro e w' ⟨rfl, q, rfl⟩))
  refine bodyPost_ret (v := .tuple #[.agg #[.int .i64 (mkL rL (rH + 1) true), .int .i64 (mkH rL (rH + 1) true)], .bool (mkB rL (rH + 1) true)]) (by simp [results, Try.results31, go_sem, *]) rfl ⟨rfl, ?_⟩
  show Ext w _
  repeat (first | exact hE.out | refine Ext.mored ?_ _ | refine Ext.drewN ?_ _ | refine Ext.alloc ?_ _ | (refine Ext.setCell ?_ (by have := hE.out.size; omega) _))

set_option maxHeartbeats 2000000 in
theorem rvSqrt_at (xl xh : Int) (hx : ivB xl xh = true) (hn : 0 ≤ xl) (hu : ¬ isq (xh * 1099511627776) * isq (xh * 1099511627776) < xh * 1099511627776) (w : World) : Calls Try.prog 31 #[.agg #[.int .i64 xl, .int .i64 xh]] w fun e w' => e = .returned (.tuple #[.agg #[.int .i64 (mkL (isq (xl * 1099511627776)) (isq (xh * 1099511627776)) true), .int .i64 (mkH (isq (xl * 1099511627776)) (isq (xh * 1099511627776)) true)], .bool (mkB (isq (xl * 1099511627776)) (isq (xh * 1099511627776)) true)]) ∧ ∃ p, w' = more w p := by
  obtain ⟨x0, x1, x2⟩ := ivB_parts hx
  have vx := fun w => refValid_call xl xh w
  rw [hx] at vx
  have VX := Lib.hid @vx
  clear vx hx
  obtain ⟨m0, m1, m2, m3, m4⟩ := mul_hi_lo xl 1099511627776 (by omega) (by omega) (by omega) (by omega)
  obtain ⟨g0, g1, g2, g3, g4⟩ := mul_hi_lo xh 1099511627776 (by omega) (by omega) (by omega) (by omega)
  have ml := fun w => refMul_call xl 1099511627776 w (by omega) (by omega) (by omega) (by omega)
  have mh := fun w => refMul_call xh 1099511627776 w (by omega) (by omega) (by omega) (by omega)
  have sl := fun w => refSqrtWide_call _ _ _ w m0 (by omega) m2 m3 m4
  have sh := fun w => refSqrtWide_call _ _ _ w g0 (by omega) g2 g3 g4
  have rl := isq_spec (N := xl * 1099511627776) (by omega) (by omega)
  have rh := isq_spec (N := xh * 1099511627776) (by omega) (by omega)
  have bl := root_small rl (by omega)
  have bh := root_small rh (by omega)
  have al := rl.r0
  have ah := rh.r0
  obtain ⟨rL, hL⟩ : ∃ r, isq (xl * 1099511627776) = r := ⟨_, rfl⟩
  obtain ⟨rH, hH⟩ : ∃ r, isq (xh * 1099511627776) = r := ⟨_, rfl⟩
  rw [hL] at sl bl al ⊢
  rw [hH] at sh bh ah hu ⊢
  obtain ⟨q0, q1, q2, q3, q4⟩ := mul_hi_lo rH rH ah (by omega) ah (by omega)
  have mq := fun w => refMul_call rH rH w ah (by omega) ah (by omega)
  have cc := fun w => refCompare_call (rH * rH / 18446744073709551616) (rH * rH % 18446744073709551616) (xh * 1099511627776 / 18446744073709551616) (xh * 1099511627776 % 18446744073709551616) w q2 q3 g2 g3
  rw [q4, g4] at cc
  have hd : decide (cmpI (rH * rH) (xh * 1099511627776) < 0) = false := (cmp_lt _ _).trans (decide_eq_false hu)
  have ML := Lib.hid @ml
  have MH := Lib.hid @mh
  have SL := Lib.hid @sl
  have SH := Lib.hid @sh
  have MQ := Lib.hid @mq
  have CC := Lib.hid @cc
  clear ml mh sl sh mq cc rl rh hu hL hH q0 q1 q2 q3 q4 m0 m1 m2 m3 m4 g0 g1 g2 g3 g4
  have MD := Lib.hid @(fun w => refMade_call rL (rH) w)
  generalize cmpI (rH * rH) (xh * 1099511627776) = cv at *
  go_enter Try.func31, Try.ntmps31
  go_upto_region 1 with fail
  refine at_world (fun V => F2 w V xl xh ∧ V.heap[w.heap.size]? = some (ivO xl xh) ∧ V.heap[w.heap.size + 1]? = some (ivO 0 0) ∧ Ext w V) ⟨f2_of w xl xh, at_old (at_new rfl), at_new (by simp), ⟨[_, _], 0⟩, rfl⟩ ?_
  rintro V ⟨⟨⟨k0, k1, k2, k3⟩, ⟨k4, k5, k6, k7⟩, k8, k9, k10⟩, e1, e2, hE⟩
  have K := Lib.hid @k10
  clear k10
  replace e1 := Lib.hid e1
  replace e2 := Lib.hid e2
  replace hE := Lib.hid hE
  have hmc := more_cell
  have hmh := more_heap
  have hmf := more_frozen
  refine at_world (fun W' => ∃ p, W' = more V p) ⟨⟨[], 0⟩, rfl⟩ ?_
  rintro _ ⟨p, rfl⟩
  go_upto_region 5 with (first
    | (go_at_call 19; (with_reducible refine (calls_more_o (VX.out _)).mono ?_); rintro e w' ⟨rfl, q, rfl⟩)
    | (go_at_call 48; first
      | ((with_reducible refine (calls_more_o (ML.out _)).mono ?_); rintro e w' ⟨rfl, q, rfl⟩)
      | ((with_reducible refine (calls_more_o (MH.out _)).mono ?_); rintro e w' ⟨rfl, q, rfl⟩))
    | (go_at_call 47; first
      | ((with_reducible refine (calls_more (SL.out _)).mono ?_); rintro e w' ⟨rfl, q, rfl⟩)
      | ((with_reducible refine (calls_more (SH.out _)).mono ?_); rintro e w' ⟨rfl, q, rfl⟩))
    | (go_at_call 38; (with_reducible refine (calls_more (MD.out _)).mono ?_); rintro e w' ⟨rfl, q, rfl⟩))
  refine at_world (fun Z => Ext w Z ∧ Z.heap[w.heap.size]? = some (ivO xl xh) ∧ Z.heap[w.heap.size + 1]? = some (ivO 0 0)) ⟨hE.out.mored _, (more_heap _ _ _ k0).trans e1.out, (more_heap _ _ _ k4).trans e2.out⟩ ?_
  clear k0 k1 k2 k3 k4 k5 k6 k7 k8 k9 K e1 e2 hE
  rintro Z ⟨hE, e1, e2⟩
  obtain ⟨k0, k1, k2, k3⟩ := iv_of e1
  obtain ⟨k4, k5, k6, k7⟩ := iv_of e2
  have k8 : Z.frozen? ⟨w.heap.size + 1, 0, none⟩ = false := froz_of e2
  have k9 : Z.frozen? ⟨w.heap.size + 1, 1, none⟩ = false := froz_of e2
  replace hE := Lib.hid hE
  replace e1 := Lib.hid e1
  replace e2 := Lib.hid e2
  refine region_more (by kernel_rfl) (by kernel_rfl) ?_
  repeat (go_big_quiet_step ((first
    | (go_at_call 48; first | with_reducible exact calls_more_o (MQ.out _) | with_reducible exact calls_more_o (MH.out _))
    | (go_at_call 49; with_reducible exact calls_more (CC.out _)))))
  refine wpQuiet_nil ?_
  rintro w1 ⟨q, rfl⟩
  go_wp2_with (first
    | (go_at_call 19; (with_reducible refine (calls_more_o (VX.out _)).mono ?_); rintro e w' ⟨rfl, q, rfl⟩)
    | (go_at_call 48; first
      | ((with_reducible refine (calls_more_o (ML.out _)).mono ?_); rintro e w' ⟨rfl, q, rfl⟩)
      | ((with_reducible refine (calls_more_o (MH.out _)).mono ?_); rintro e w' ⟨rfl, q, rfl⟩))
    | (go_at_call 47; first
      | ((with_reducible refine (calls_more (SL.out _)).mono ?_); rintro e w' ⟨rfl, q, rfl⟩)
      | ((with_reducible refine (calls_more (SH.out _)).mono ?_); rintro e w' ⟨rfl, q, rfl⟩))
    | (go_at_call 38; (with_reducible refine (calls_more (MD.out _)).mono ?_); rintro e w' ⟨rfl, q, rfl⟩))
  refine bodyPost_ret (v := .tuple #[.agg #[.int .i64 (mkL rL (rH) true), .int .i64 (mkH rL (rH) true)], .bool (mkB rL (rH) true)]) (by simp [results, Try.results31, go_sem, *]) rfl ⟨rfl, ?_⟩
  show Ext w _
  repeat (first | exact hE.out | refine Ext.mored ?_ _ | refine Ext.drewN ?_ _ | refine Ext.alloc ?_ _ | (refine Ext.setCell ?_ (by have := hE.out.size; omega) _))

theorem rvSqrt_call (xl xh : Int) (w : World) : Calls Try.prog 31 #[.agg #[.int .i64 xl, .int .i64 xh]] w fun e w' => e = .returned (.tuple #[.agg #[.int .i64 (mkL (isq (xl * 1099511627776)) (csq (xh * 1099511627776)) (qOk xl xh)), .int .i64 (mkH (isq (xl * 1099511627776)) (csq (xh * 1099511627776)) (qOk xl xh))], .bool (mkB (isq (xl * 1099511627776)) (csq (xh * 1099511627776)) (qOk xl xh))]) ∧ ∃ p, w' = more w p := by
  unfold qOk
  by_cases hx : ivB xl xh = true
  · by_cases hn : 0 ≤ xl
    · rw [hx, decide_eq_true hn, Bool.and_true]
      unfold csq
      by_cases hu : isq (xh * 1099511627776) * isq (xh * 1099511627776) < xh * 1099511627776
      · rw [if_pos hu]; exact rvSqrt_up xl xh hx hn hu w
      · rw [if_neg hu]; exact rvSqrt_at xl xh hx hn hu w
    · rw [hx, decide_eq_false hn, Bool.and_false]; exact rvSqrt_neg xl xh hx (by omega) w
  · have hx : ivB xl xh = false := by simpa using hx
    rw [hx, Bool.false_and]; exact rvSqrt_x xl xh hx w

end Go.Proofs.Ytdbemgjjahcabaa
