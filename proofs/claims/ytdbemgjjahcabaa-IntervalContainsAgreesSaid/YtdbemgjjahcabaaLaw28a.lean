/- The walk of IntervalContainsAgrees. -/
import Derived.Test.YtdbemgjjahcabaaIvLaw
namespace Go.Proofs.Ytdbemgjjahcabaa
open Go.RowKit
set_option linter.unusedVariables false

theorem Ext.below {w W : World} (h : Ext w W) : Below w.heap.size w W := by obtain ⟨q, rfl⟩ := h; exact more_below w q
theorem sOk_unit {x : Int} (h0 : -1099511627776 ≤ x) (h1 : x ≤ 1099511627776) : sOk x 1099511627776 = true ∧ sLo x 1099511627776 = x ∧ sHi x 1099511627776 = x := by
  have ho : okd x 1099511627776 = true := okd_of (decide_eq_true ⟨h0, h1⟩) (by decide) (by decide)
  obtain ⟨e1, e2, e3⟩ := s_good ho
  have eN : scN x 1099511627776 = x := if_neg (by decide)
  have eD : scD 1099511627776 = 1099511627776 := if_neg (by decide)
  rw [eN, eD] at e1 e2 e3
  have hk : rok (x * 1099511627776) 1099511627776 = true := decide_eq_true (by omega)
  obtain ⟨r1, r2⟩ := r_good hk
  rw [e1, e2, e3, hk, r1, r2, flo_exact _ _ (by decide), cei_exact _ _ (by decide)]
  exact ⟨rfl, rfl, rfl⟩
theorem sOk_far {x : Int} (h : x < -1099511627776 ∨ 1099511627776 < x) : sOk x 1099511627776 = false := by
  have hn : nearB x = false := decide_eq_false (by omega)
  exact (s_bad (okd_bad (by rw [hn]; rfl))).2.2
theorem ct_unit {a b x : Int} (hv : ivB a b = true) (h0 : -1099511627776 ≤ x) (h1 : x ≤ 1099511627776) (ha : a ≤ x) (hb : x ≤ b) : ctB a b x 1099511627776 = true := by
  obtain ⟨e1, e2, e3⟩ := sOk_unit h0 h1
  unfold ctB
  rw [e1, e2, e3, hv, decide_eq_true ha, decide_eq_true hb]; rfl
theorem ct_far {a b x : Int} (h : x < -1099511627776 ∨ 1099511627776 < x) : ctB a b x 1099511627776 = false := by
  unfold ctB
  rw [sOk_far h]; rfl
theorem ct_low {a b x : Int} (h : x < a) : ctB a b x 1099511627776 = false := by
  by_cases hf : x < -1099511627776 ∨ 1099511627776 < x
  · exact ct_far hf
  · obtain ⟨e1, e2, e3⟩ := sOk_unit (x := x) (by omega) (by omega)
    unfold ctB
    rw [e1, e2, e3, decide_eq_false (show ¬ a ≤ x by omega)]; simp

set_option maxHeartbeats 8000000 in
theorem ctAgree_gen (n0 n1 pl ph u v : Int) (w : World) (a0 : -9223372036854775808 ≤ n0) (a1 : n0 ≤ 9223372036854775807) (b0 : -9223372036854775808 ≤ n1) (b1 : n1 ≤ 9223372036854775807) (c0 : -9223372036854775808 ≤ pl) (c1 : pl ≤ 9223372036854775807) (d0 : -9223372036854775808 ≤ ph) (d1 : ph ≤ 9223372036854775807) (u0 : -9223372036854775808 ≤ u) (u1 : u ≤ 9223372036854775807) (v0 : -9223372036854775808 ≤ v) (v1 : v ≤ 9223372036854775807) (A B : Int) (hv : ivB A B = true) (mk : ∀ w, Calls Try.prog 9 #[.agg #[.int .i64 n0, .int .i64 n1]] w fun e w' => e = .returned (.agg #[.int .i64 A, .int .i64 B]) ∧ ∃ p, w' = more w p)
    (cA cB p1 p2 p3 p4 : Bool) (hp1 : decide (-1099511627776 ≤ A) = p1) (hp2 : decide (A ≤ 1099511627776) = p2) (hp3 : decide (-1099511627776 ≤ B) = p3) (hp4 : decide (B ≤ 1099511627776) = p4)
    (hA : ctB A B A 1099511627776 = (p1 && p2)) (hB : ctB A B B 1099511627776 = (p3 && p4)) : Calls Try.prog 3 #[.agg #[.int .i64 n0, .int .i64 n1], .agg #[.int .i64 pl, .int .i64 ph], .int .i64 u, .int .i64 v] w fun e w' => e = .returned (.bool true) ∧ Below w.heap.size w w' := by
  obtain ⟨x0, x1, x2⟩ := ivB_parts hv
  have mu0 : 0 ≤ u % 4000 := Int.emod_nonneg _ (by omega)
  have mu1 : u % 4000 < 4000 := Int.emod_lt_of_pos _ (by omega)
  have mv0 : 0 ≤ v % 400 := Int.emod_nonneg _ (by omega)
  have mv1 : v % 400 < 400 := Int.emod_lt_of_pos _ (by omega)
  have hC := ct_low (a := A) (b := B) (x := A - 1) (by omega)
  have k1 := fun w => ct_call A B (u % 4000 - 2000) (v % 400 - 200) w
  have k2 := fun w => rct_call A B (u % 4000 - 2000) (v % 400 - 200) w
  have k3 := fun w => ct_call pl ph u v w
  have k4 := fun w => rct_call pl ph u v w
  have k5 := fun w => ct_call A B A 1099511627776 w
  have k6 := fun w => ct_call A B B 1099511627776 w
  have k7 := fun w => ct_call A B (A - 1) 1099511627776 w
  rw [hA] at k5
  rw [hB] at k6
  rw [hC] at k7
  generalize ctB A B (u % 4000 - 2000) (v % 400 - 200) = r1 at k1 k2
  generalize ctB pl ph u v = r2 at k3 k4
  have K1 := Lib.hid @k1
  have K2 := Lib.hid @k2
  have K3 := Lib.hid @k3
  have K4 := Lib.hid @k4
  have K5 := Lib.hid @k5
  have K6 := Lib.hid @k6
  have K7 := Lib.hid @k7
  have MK := Lib.hid @mk
  clear k1 k2 k3 k4 k5 k6 k7 mk hA hB hC hv
  go_enter Try.func3, Try.ntmps3
  go_upto_region 1 with fail
  refine at_world (fun V => Ext w V ∧ V.heap[w.heap.size]? = some (prO n0 n1) ∧ V.heap[w.heap.size + 1]? = some (ivO pl ph)) ⟨⟨⟨[_, _], 0⟩, rfl⟩, at_old (at_new (by simp)), at_new (by simp)⟩ ?_
  rintro wc ⟨hE, en, ep⟩
  go_cut [9] (fun s9 Z => ∃ gx : Nat, Ext wc Z ∧ s9 = .pointer (some ⟨gx, 0, none⟩) ∧ Z.heap[gx]? = some (ivO A B))
  case first =>
    obtain ⟨cn0, cn1, cn2, cn3⟩ := pr_of en
    go_wp2_with (go_at_call 9; first | ((with_reducible refine (MK.out _).mono ?_); rintro e w' ⟨rfl, q, rfl⟩))
    go_meet
    refine ⟨_, ?_, rfl, ?_⟩
    all_goals repeat (first | exact Ext.refl _ | refine Ext.mored ?_ _ | refine Ext.drewN ?_ _ | refine Ext.alloc ?_ _ | (refine at_new ?_; first | rfl | (simp; done)) | refine at_more ?_ | refine at_drew ?_ | refine at_old ?_)
  case rest =>
    obtain ⟨gx, hX, rfl, ex⟩ := hcut
    replace hE := hE.trans hX
    replace en := at_ext hX en
    replace ep := at_ext hX ep
    clear hX
    go_upto_region 3 with (go_at_call 10; refine (mod_call _ _ _ (by omega) (by omega)).mono ?_; rintro e w' ⟨rfl, rfl⟩)
    obtain ⟨cp0, cp1, cp2, cp3⟩ := iv_of ep
    obtain ⟨cx0, cx1, cx2, cx3⟩ := iv_of ex
    replace hE := Lib.hid hE
    have hmc := more_cell
    have hmh := more_heap
    cases p1 <;> cases p2 <;> cases p3 <;> cases p4
    all_goals
      refine region_more (by kernel_rfl) (by kernel_rfl) ?_
      repeat (go_big_quiet_step (first | (go_at_call 11; first | with_reducible exact calls_more (awake_call _)) | (go_at_call 12; first | with_reducible exact calls_more (K1.out _) | with_reducible exact calls_more (K3.out _) | with_reducible exact calls_more (K5.out _) | with_reducible exact calls_more (K6.out _) | with_reducible exact calls_more (K7.out _)) | (go_at_call 13; first | with_reducible exact calls_more (K2.out _) | with_reducible exact calls_more (K4.out _))))
      refine wpQuiet_nil ?_
      rintro w1 ⟨p, rfl⟩
      go_wp2_with fail
      go_ret
      exact ⟨rfl, (hE.out.mored _).below⟩

theorem intervalContainsAgrees_walk (n0 n1 pl ph u v : Int) (w : World) (a0 : -9223372036854775808 ≤ n0) (a1 : n0 ≤ 9223372036854775807) (b0 : -9223372036854775808 ≤ n1) (b1 : n1 ≤ 9223372036854775807) (c0 : -9223372036854775808 ≤ pl) (c1 : pl ≤ 9223372036854775807) (d0 : -9223372036854775808 ≤ ph) (d1 : ph ≤ 9223372036854775807) (u0 : -9223372036854775808 ≤ u) (u1 : u ≤ 9223372036854775807) (v0 : -9223372036854775808 ≤ v) (v1 : v ≤ 9223372036854775807) : Calls Try.prog 3 #[.agg #[.int .i64 n0, .int .i64 n1], .agg #[.int .i64 pl, .int .i64 ph], .int .i64 u, .int .i64 v] w fun e w' => e = .returned (.bool true) ∧ Below w.heap.size w w' := by
  have hv := g_valid n0 n1
  have mk := fun w => make_call n0 n1 b0 b1 w
  generalize gA n0 n1 = A at *
  generalize A + gW n1 = B at *
  obtain ⟨x0, x1, x2⟩ := ivB_parts hv
  refine ctAgree_gen n0 n1 pl ph u v w a0 a1 b0 b1 c0 c1 d0 d1 u0 u1 v0 v1 A B hv mk true true _ _ _ _ rfl rfl rfl rfl ?_ ?_
  · by_cases h : -1099511627776 ≤ A ∧ A ≤ 1099511627776
    · rw [ct_unit hv h.1 h.2 (by omega) (by omega), decide_eq_true h.1, decide_eq_true h.2]; rfl
    · rw [ct_far (by omega)]
      symm
      rw [Bool.and_eq_false_iff, decide_eq_false_iff_not, decide_eq_false_iff_not]
      omega
  · by_cases h : -1099511627776 ≤ B ∧ B ≤ 1099511627776
    · rw [ct_unit hv h.1 h.2 (by omega) (by omega), decide_eq_true h.1, decide_eq_true h.2]; rfl
    · rw [ct_far (by omega)]
      symm
      rw [Bool.and_eq_false_iff, decide_eq_false_iff_not, decide_eq_false_iff_not]
      omega
end Go.Proofs.Ytdbemgjjahcabaa
