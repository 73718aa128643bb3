/- The walk of IntervalProductsAgree. -/
import Derived.Test.YtdbemgjjahcabaaLaw28e
namespace Go.Proofs.Ytdbemgjjahcabaa
open Go.RowKit
set_option linter.unusedVariables false

theorem ivMul_pair (xl xh yl yh : Int) : ∃ (l h : Int) (b : Bool), (∀ w, Calls Try.prog 26 #[.agg #[.int .i64 xl, .int .i64 xh], .agg #[.int .i64 yl, .int .i64 yh]] w fun e w' => e = .returned (.tuple #[.agg #[.int .i64 l, .int .i64 h], .bool b]) ∧ ∃ p, w' = more w p) ∧ (∀ w, Calls Try.prog 28 #[.agg #[.int .i64 xl, .int .i64 xh], .agg #[.int .i64 yl, .int .i64 yh]] w fun e w' => e = .returned (.tuple #[.agg #[.int .i64 l, .int .i64 h], .bool b]) ∧ ∃ p, w' = more w p) := ⟨_, _, _, fun w => ivMul_call xl xh yl yh w, fun w => rvMul_call xl xh yl yh w⟩
theorem ivDiv_pair (xl xh yl yh : Int) : ∃ (l h : Int) (b : Bool), (∀ w, Calls Try.prog 29 #[.agg #[.int .i64 xl, .int .i64 xh], .agg #[.int .i64 yl, .int .i64 yh]] w fun e w' => e = .returned (.tuple #[.agg #[.int .i64 l, .int .i64 h], .bool b]) ∧ ∃ p, w' = more w p) ∧ (∀ w, Calls Try.prog 30 #[.agg #[.int .i64 xl, .int .i64 xh], .agg #[.int .i64 yl, .int .i64 yh]] w fun e w' => e = .returned (.tuple #[.agg #[.int .i64 l, .int .i64 h], .bool b]) ∧ ∃ p, w' = more w p) := ⟨_, _, _, fun w => ivDiv_call xl xh yl yh w, fun w => rvDiv_call xl xh yl yh w⟩
theorem ivSqrt_pair (xl xh : Int) : ∃ (l h : Int) (b : Bool), (∀ w, Calls Try.prog 27 #[.agg #[.int .i64 xl, .int .i64 xh]] w fun e w' => e = .returned (.tuple #[.agg #[.int .i64 l, .int .i64 h], .bool b]) ∧ ∃ p, w' = more w p) ∧ (∀ w, Calls Try.prog 31 #[.agg #[.int .i64 xl, .int .i64 xh]] w fun e w' => e = .returned (.tuple #[.agg #[.int .i64 l, .int .i64 h], .bool b]) ∧ ∃ p, w' = more w p) := ⟨_, _, _, fun w => ivSqrt_call xl xh w, fun w => rvSqrt_call xl xh w⟩
theorem of_pair (n d : Int) : ∃ (l h : Int) (b : Bool), (∀ w, Calls Try.prog 32 #[.int .i64 n, .int .i64 d] w fun e w' => e = .returned (.tuple #[.agg #[.int .i64 l, .int .i64 h], .bool b]) ∧ ∃ p, w' = more w p) ∧ (∀ w, Calls Try.prog 33 #[.int .i64 n, .int .i64 d] w fun e w' => e = .returned (.tuple #[.agg #[.int .i64 l, .int .i64 h], .bool b]) ∧ ∃ p, w' = more w p) := ⟨_, _, _, fun w => of_call n d w, fun w => refOfI_call n d w⟩

theorem eql_bool_same (b : Bool) : (b == b) = true := by cases b <;> rfl
set_option maxHeartbeats 8000000 in
set_option maxRecDepth 100000 in
theorem intervalProductsAgree_walk (n0 n1 m0 m1 pl ph ql qh u v : Int) (w : World) (n0a : -9223372036854775808 ≤ n0) (n0b : n0 ≤ 9223372036854775807) (n1a : -9223372036854775808 ≤ n1) (n1b : n1 ≤ 9223372036854775807) (m0a : -9223372036854775808 ≤ m0) (m0b : m0 ≤ 9223372036854775807) (m1a : -9223372036854775808 ≤ m1) (m1b : m1 ≤ 9223372036854775807) (pla : -9223372036854775808 ≤ pl) (plb : pl ≤ 9223372036854775807) (pha : -9223372036854775808 ≤ ph) (phb : ph ≤ 9223372036854775807) (qla : -9223372036854775808 ≤ ql) (qlb : ql ≤ 9223372036854775807) (qha : -9223372036854775808 ≤ qh) (qhb : qh ≤ 9223372036854775807) (ua : -9223372036854775808 ≤ u) (ub : u ≤ 9223372036854775807) (va : -9223372036854775808 ≤ v) (vb : v ≤ 9223372036854775807) :
    Calls Try.prog 6 #[.agg #[.int .i64 n0, .int .i64 n1], .agg #[.int .i64 m0, .int .i64 m1], .agg #[.int .i64 pl, .int .i64 ph], .agg #[.int .i64 ql, .int .i64 qh], .int .i64 u, .int .i64 v] w fun e w' => e = .returned (.bool true) ∧ Below w.heap.size w w' := by
  have mx := fun w => make_call n0 n1 n1a n1b w
  have my := fun w => make_call m0 m1 m1a m1b w
  generalize gA n0 n1 + gW n1 = nh at *
  generalize gA n0 n1 = nl at *
  generalize gA m0 m1 + gW m1 = mh at *
  generalize gA m0 m1 = ml at *
  have Hmx := Lib.hid @mx
  have Hmy := Lib.hid @my
  clear mx my
  go_enter Try.func6, Try.ntmps6
  go_upto_region 1 with fail
  refine at_world (fun V => Ext w V ∧ V.heap[w.heap.size]? = some (prO n0 n1) ∧ V.heap[w.heap.size + 1]? = some (prO m0 m1) ∧ V.heap[w.heap.size + 1 + 1]? = some (ivO pl ph) ∧ V.heap[w.heap.size + 1 + 1 + 1]? = some (ivO ql qh)) ⟨⟨⟨[_, _, _, _], 0⟩, rfl⟩, at_old (at_old (at_old (at_new (by simp)))), at_old (at_old (at_new (by simp))), at_old (at_new (by simp)), at_new (by simp)⟩ ?_
  rintro wc ⟨hE, en, em, ep, eq⟩
  obtain ⟨cn0, cn1, cn2, cn3⟩ := pr_of en
  obtain ⟨cm0, cm1, cm2, cm3⟩ := pr_of em
  obtain ⟨cp0, cp1, cp2, cp3⟩ := iv_of ep
  obtain ⟨cq0, cq1, cq2, cq3⟩ := iv_of eq
  have hmc := more_cell
  have hmh := more_heap
  have hmf := more_frozen
  refine region_tail 12 (by kernel_rfl) (by kernel_rfl) ?_
  simp only [List.take_succ_cons, List.take_zero, List.drop_succ_cons, List.drop_zero]
  repeat (go_big_quiet_step ((go_at_call 9; first | with_reducible exact calls_more (Hmx.out _) | with_reducible exact calls_more (Hmy.out _))))
  refine wpQuiet_nil ?_
  rintro w1 ⟨p, rfl⟩
  go_wp2_with fail
  obtain ⟨gl, hgl⟩ : ∃ g, (more wc p).heap.size = g := ⟨_, rfl⟩
  have hE1 : Ext w ((more wc p).alloc (slO nl nh ml mh pl ph ql qh pl ph ml mh)) := (hE.mored p).alloc _
  have el : ((more wc p).alloc (slO nl nh ml mh pl ph ql qh pl ph ml mh)).heap[gl]? = some (slO nl nh ml mh pl ph ql qh pl ph ml mh) := at_new hgl.symm
  rw [hgl]
  refine at_world (fun V => Ext w V ∧ V.heap[gl]? = some (slO nl nh ml mh pl ph ql qh pl ph ml mh)) ⟨hE1, el⟩ ?_
  clear hE hE1 el hgl hmc hmh hmf cn0 cn1 cn2 cn3 cm0 cm1 cm2 cm3 cp0 cp1 cp2 cp3 cq0 cq1 cq2 cq3 en em ep eq
  rintro V ⟨hE, el⟩
  go_loopg [14] 3 (fun gk s14 wr => ∃ i : Nat, i + gk = 3 ∧ s14 = .int .i64 i ∧ Ext w wr ∧ wr.heap[gl]? = some (slO nl nh ml mh pl ph ql qh pl ph ml mh))
  case atStart => exact ⟨0, rfl, rfl, hE, el⟩
  case round =>
    obtain ⟨i, hi, rfl, hE, el⟩ := hrel
    obtain ⟨wc, rfl⟩ : ∃ wo : World, wo = wr := ⟨_, rfl⟩
    by_cases hlt : i < 3
    case neg =>
      as_aux_lemma =>
        obtain rfl : i = 3 := by omega
        clear el
        obtain ⟨k, hk⟩ : ∃ k, u % 4000 = k := ⟨_, rfl⟩
        obtain ⟨j, hj⟩ : ∃ j, v % 400 = j := ⟨_, rfl⟩
        have k0 : 0 ≤ k := by have := Int.emod_nonneg u (show (4000 : Int) ≠ 0 by omega); omega
        have k1 : k < 4000 := by have := Int.emod_lt_of_pos u (show (0 : Int) < 4000 by omega); omega
        have j0 : 0 ≤ j := by have := Int.emod_nonneg v (show (400 : Int) ≠ 0 by omega); omega
        have j1 : j < 400 := by have := Int.emod_lt_of_pos v (show (0 : Int) < 400 by omega); omega
        have hmu := fun w => mod_call u 4000 w (by omega) (by omega)
        have hmv := fun w => mod_call v 400 w (by omega) (by omega)
        rw [hk] at hmu
        rw [hj] at hmv
        have HMU := Lib.hid @hmu
        have HMV := Lib.hid @hmv
        clear hmu hmv hk hj
        obtain ⟨al0, ah0, ab0, c0a, c0b⟩ := of_pair (k - 2000) (j - 200)
        have C0a := Lib.hid @c0a
        have C0b := Lib.hid @c0b
        obtain ⟨al1, ah1, ab1, c1a, c1b⟩ := of_pair u v
        have C1a := Lib.hid @c1a
        have C1b := Lib.hid @c1b
        clear c0a c0b c1a c1b
        go_upto_region 15 with (go_at_call 10; first | ((with_reducible refine (HMU.out _).mono ?_); rintro e w' ⟨rfl, rfl⟩) | ((with_reducible refine (HMV.out _).mono ?_); rintro e w' ⟨rfl, rfl⟩))
        go_cut [31, 32] (fun s31 s32 Z => ∃ ga : Nat, Ext wc Z ∧ s31 = .pointer (some ⟨ga, 0, none⟩) ∧ s32 = .bool ab0 ∧ Z.heap[ga]? = some (ivO al0 ah0) ∧ wc.heap.size ≤ ga)
        case first =>
          as_aux_lemma =>
            go_wp2_with (go_at_call 32; first | ((with_reducible refine (C0a.out _).mono ?_); rintro e w' ⟨rfl, q, rfl⟩))
            go_meet
            refine ⟨_, ?_, rfl, rfl, ?_, ?_⟩
            all_goals repeat (first | exact Ext.refl _ | refine Ext.mored ?_ _ | refine Ext.drewN ?_ _ | refine Ext.alloc ?_ _ | (refine at_new ?_; first | rfl | (simp; done)) | refine at_more ?_ | refine at_drew ?_ | refine at_old ?_ | exact Nat.le_refl _ | (rw [more_size]; omega) | (simp [more_size]; omega) | (simp [more_size]; done))
        case rest =>
          obtain ⟨ga, hX, rfl, rfl, ea, la⟩ := hcut
          replace la := Nat.le_trans hE.size la
          replace hE := hE.trans hX
          clear hX
          go_upto_region 16 with fail
          go_cut [33, 34] (fun s33 s34 Z => ∃ gc : Nat, Ext wc Z ∧ s33 = .pointer (some ⟨gc, 0, none⟩) ∧ s34 = .bool ab0 ∧ Z.heap[gc]? = some (ivO al0 ah0) ∧ wc.heap.size ≤ gc)
          case first =>
            as_aux_lemma =>
              go_wp2_with (go_at_call 33; first | ((with_reducible refine (C0b.out _).mono ?_); rintro e w' ⟨rfl, q, rfl⟩))
              go_meet
              refine ⟨_, ?_, rfl, rfl, ?_, ?_⟩
              all_goals repeat (first | exact Ext.refl _ | refine Ext.mored ?_ _ | refine Ext.drewN ?_ _ | refine Ext.alloc ?_ _ | (refine at_new ?_; first | rfl | (simp; done)) | refine at_more ?_ | refine at_drew ?_ | refine at_old ?_ | exact Nat.le_refl _ | (rw [more_size]; omega) | (simp [more_size]; omega) | (simp [more_size]; done))
          case rest =>
            obtain ⟨gc, hX, rfl, rfl, ec, lc⟩ := hcut
            have nac : ga ≠ gc := by have := (iv_of ea).1; omega
            replace lc := Nat.le_trans hE.size lc
            replace hE := hE.trans hX
            replace ea := at_ext hX ea
            clear hX
            go_upto_region 17 with fail
            go_cut [35, 36] (fun s35 s36 Z => ∃ ge : Nat, Ext wc Z ∧ s35 = .pointer (some ⟨ge, 0, none⟩) ∧ s36 = .bool ab1 ∧ Z.heap[ge]? = some (ivO al1 ah1) ∧ wc.heap.size ≤ ge)
            case first =>
              as_aux_lemma =>
                go_wp2_with (go_at_call 32; first | ((with_reducible refine (C1a.out _).mono ?_); rintro e w' ⟨rfl, q, rfl⟩))
                go_meet
                refine ⟨_, ?_, rfl, rfl, ?_, ?_⟩
                all_goals repeat (first | exact Ext.refl _ | refine Ext.mored ?_ _ | refine Ext.drewN ?_ _ | refine Ext.alloc ?_ _ | (refine at_new ?_; first | rfl | (simp; done)) | refine at_more ?_ | refine at_drew ?_ | refine at_old ?_ | exact Nat.le_refl _ | (rw [more_size]; omega) | (simp [more_size]; omega) | (simp [more_size]; done))
            case rest =>
              obtain ⟨ge, hX, rfl, rfl, ee, le⟩ := hcut
              have nae : ga ≠ ge := by have := (iv_of ea).1; omega
              have nce : gc ≠ ge := by have := (iv_of ec).1; omega
              replace le := Nat.le_trans hE.size le
              replace hE := hE.trans hX
              replace ea := at_ext hX ea
              replace ec := at_ext hX ec
              clear hX
              go_upto_region 18 with fail
              go_cut [37, 38] (fun s37 s38 Z => ∃ gg : Nat, Ext wc Z ∧ s37 = .pointer (some ⟨gg, 0, none⟩) ∧ s38 = .bool ab1 ∧ Z.heap[gg]? = some (ivO al1 ah1) ∧ wc.heap.size ≤ gg)
              case first =>
                as_aux_lemma =>
                  go_wp2_with (go_at_call 33; first | ((with_reducible refine (C1b.out _).mono ?_); rintro e w' ⟨rfl, q, rfl⟩))
                  go_meet
                  refine ⟨_, ?_, rfl, rfl, ?_, ?_⟩
                  all_goals repeat (first | exact Ext.refl _ | refine Ext.mored ?_ _ | refine Ext.drewN ?_ _ | refine Ext.alloc ?_ _ | (refine at_new ?_; first | rfl | (simp; done)) | refine at_more ?_ | refine at_drew ?_ | refine at_old ?_ | exact Nat.le_refl _ | (rw [more_size]; omega) | (simp [more_size]; omega) | (simp [more_size]; done))
              case rest =>
                obtain ⟨gg, hX, rfl, rfl, eg, lg⟩ := hcut
                have nag : ga ≠ gg := by have := (iv_of ea).1; omega
                have ncg : gc ≠ gg := by have := (iv_of ec).1; omega
                have neg : ge ≠ gg := by have := (iv_of ee).1; omega
                replace lg := Nat.le_trans hE.size lg
                replace hE := hE.trans hX
                replace ea := at_ext hX ea
                replace ec := at_ext hX ec
                replace ee := at_ext hX ee
                clear hX
                obtain ⟨ca0, ca1, ca2, ca3⟩ := iv_of ea
                obtain ⟨cc0, cc1, cc2, cc3⟩ := iv_of ec
                obtain ⟨ce0, ce1, ce2, ce3⟩ := iv_of ee
                obtain ⟨cg0, cg1, cg2, cg3⟩ := iv_of eg
                have hmc := more_cell
                have hmh := more_heap
                have hmf := more_frozen
                have hn := eql_iv_same
                have hb := eql_bool_same
                replace hE := Lib.hid hE
                go_wp2_with (go_at_call 11; first | ((with_reducible refine (awake_call _).mono ?_); rintro e w' ⟨rfl, q, rfl⟩))
                go_ret
                exact ⟨rfl, (hE.out.mored _).below'⟩
    case pos =>
      have z0 := sl_size el
      go_upto_region 5 with fail
      go_cut [15, 16] (fun s15 s16 Z => ∃ (gx gy : Nat) (xl xh yl yh : Int), Ext wc Z ∧ s15 = .pointer (some ⟨gx, 0, none⟩) ∧ s16 = .pointer (some ⟨gy, 0, none⟩) ∧ Z.heap[gx]? = some (ivO xl xh) ∧ Z.heap[gy]? = some (ivO yl yh) ∧ wc.heap.size ≤ gx ∧ wc.heap.size ≤ gy)
      case first =>
        obtain rfl | rfl | rfl : i = 0 ∨ i = 1 ∨ i = 2 := by omega
        case inl =>
          as_aux_lemma =>
            have q0 : ∀ W', Ext wc W' → W'.cell? ⟨gl, 0, none⟩ = some (.int .i64 nl) := fun W' hW => cell_of (at_ext hW el) rfl
            have q1 : ∀ W', Ext wc W' → W'.cell? ⟨gl, 1, none⟩ = some (.int .i64 nh) := fun W' hW => cell_of (at_ext hW el) rfl
            have q2 : ∀ W', Ext wc W' → W'.cell? ⟨gl, 2, none⟩ = some (.int .i64 ml) := fun W' hW => cell_of (at_ext hW el) rfl
            have q3 : ∀ W', Ext wc W' → W'.cell? ⟨gl, 3, none⟩ = some (.int .i64 mh) := fun W' hW => cell_of (at_ext hW el) rfl
            go_region_held3 (fun w' => Ext wc w') ((repeat (first | assumption | exact Ext.refl _ | exact ext_drew _ | refine ext_drewW ?_ | refine Ext.mored ?_ _ | refine Ext.alloc ?_ _ | refine Ext.drewN ?_ _))) (fail)
            all_goals go_wp2_with fail
            all_goals
              go_meet
              refine ⟨_, _, nl, nh, ml, mh, ?_, rfl, rfl, ?_, ?_, ?_, ?_⟩
              · repeat (first | assumption | exact Ext.refl _ | exact ext_drew _ | refine ext_drewW ?_ | refine Ext.mored ?_ _ | refine Ext.alloc ?_ _)
              · repeat (first | refine at_more ?_ | refine at_drew1 ?_ | (refine at_new ?_; first | with_reducible rfl | (simp; done) | (simp; omega)) | refine at_old ?_)
              · repeat (first | refine at_more ?_ | refine at_drew1 ?_ | (refine at_new ?_; first | with_reducible rfl | (simp; done) | (simp; omega)) | refine at_old ?_)
              · first | exact Nat.le_refl _ | (simp; done) | (simp; omega)
              · first | exact Nat.le_refl _ | (simp; done) | (simp; omega)
        case inr.inl =>
          as_aux_lemma =>
            have q0 : ∀ W', Ext wc W' → W'.cell? ⟨gl, 4, none⟩ = some (.int .i64 pl) := fun W' hW => cell_of (at_ext hW el) rfl
            have q1 : ∀ W', Ext wc W' → W'.cell? ⟨gl, 5, none⟩ = some (.int .i64 ph) := fun W' hW => cell_of (at_ext hW el) rfl
            have q2 : ∀ W', Ext wc W' → W'.cell? ⟨gl, 6, none⟩ = some (.int .i64 ql) := fun W' hW => cell_of (at_ext hW el) rfl
            have q3 : ∀ W', Ext wc W' → W'.cell? ⟨gl, 7, none⟩ = some (.int .i64 qh) := fun W' hW => cell_of (at_ext hW el) rfl
            go_region_held3 (fun w' => Ext wc w') ((repeat (first | assumption | exact Ext.refl _ | exact ext_drew _ | refine ext_drewW ?_ | refine Ext.mored ?_ _ | refine Ext.alloc ?_ _ | refine Ext.drewN ?_ _))) (fail)
            all_goals go_wp2_with fail
            all_goals
              go_meet
              refine ⟨_, _, pl, ph, ql, qh, ?_, rfl, rfl, ?_, ?_, ?_, ?_⟩
              · repeat (first | assumption | exact Ext.refl _ | exact ext_drew _ | refine ext_drewW ?_ | refine Ext.mored ?_ _ | refine Ext.alloc ?_ _)
              · repeat (first | refine at_more ?_ | refine at_drew1 ?_ | (refine at_new ?_; first | with_reducible rfl | (simp; done) | (simp; omega)) | refine at_old ?_)
              · repeat (first | refine at_more ?_ | refine at_drew1 ?_ | (refine at_new ?_; first | with_reducible rfl | (simp; done) | (simp; omega)) | refine at_old ?_)
              · first | exact Nat.le_refl _ | (simp; done) | (simp; omega)
              · first | exact Nat.le_refl _ | (simp; done) | (simp; omega)
        case inr.inr =>
          as_aux_lemma =>
            have q0 : ∀ W', Ext wc W' → W'.cell? ⟨gl, 8, none⟩ = some (.int .i64 pl) := fun W' hW => cell_of (at_ext hW el) rfl
            have q1 : ∀ W', Ext wc W' → W'.cell? ⟨gl, 9, none⟩ = some (.int .i64 ph) := fun W' hW => cell_of (at_ext hW el) rfl
            have q2 : ∀ W', Ext wc W' → W'.cell? ⟨gl, 10, none⟩ = some (.int .i64 ml) := fun W' hW => cell_of (at_ext hW el) rfl
            have q3 : ∀ W', Ext wc W' → W'.cell? ⟨gl, 11, none⟩ = some (.int .i64 mh) := fun W' hW => cell_of (at_ext hW el) rfl
            go_region_held3 (fun w' => Ext wc w') ((repeat (first | assumption | exact Ext.refl _ | exact ext_drew _ | refine ext_drewW ?_ | refine Ext.mored ?_ _ | refine Ext.alloc ?_ _ | refine Ext.drewN ?_ _))) (fail)
            all_goals go_wp2_with fail
            all_goals
              go_meet
              refine ⟨_, _, pl, ph, ml, mh, ?_, rfl, rfl, ?_, ?_, ?_, ?_⟩
              · repeat (first | assumption | exact Ext.refl _ | exact ext_drew _ | refine ext_drewW ?_ | refine Ext.mored ?_ _ | refine Ext.alloc ?_ _)
              · repeat (first | refine at_more ?_ | refine at_drew1 ?_ | (refine at_new ?_; first | with_reducible rfl | (simp; done) | (simp; omega)) | refine at_old ?_)
              · repeat (first | refine at_more ?_ | refine at_drew1 ?_ | (refine at_new ?_; first | with_reducible rfl | (simp; done) | (simp; omega)) | refine at_old ?_)
              · first | exact Nat.le_refl _ | (simp; done) | (simp; omega)
              · first | exact Nat.le_refl _ | (simp; done) | (simp; omega)
      case rest =>
        obtain ⟨gx, gy, xl, xh, yl, yh, hX, rfl, rfl, ex, ey, lx, ly⟩ := hcut
        have nlx : gx ≠ gl := by omega
        have nly : gy ≠ gl := by omega
        replace lx := Nat.le_trans hE.size lx
        replace ly := Nat.le_trans hE.size ly
        replace hE := hE.trans hX
        replace el := at_ext hX el
        clear hX z0
        obtain ⟨al0, ah0, ab0, c0a, c0b⟩ := ivMul_pair xl xh yl yh
        have C0a := Lib.hid @c0a
        have C0b := Lib.hid @c0b
        clear c0a c0b
        obtain ⟨al1, ah1, ab1, c1a, c1b⟩ := ivDiv_pair xl xh yl yh
        have C1a := Lib.hid @c1a
        have C1b := Lib.hid @c1b
        clear c1a c1b
        obtain ⟨al2, ah2, ab2, c2a, c2b⟩ := ivSqrt_pair xl xh
        have C2a := Lib.hid @c2a
        have C2b := Lib.hid @c2b
        clear c2a c2b
        go_upto_region 6 with fail
        go_cut [17, 18] (fun s17 s18 Z => ∃ ga : Nat, Ext wc Z ∧ s17 = .pointer (some ⟨ga, 0, none⟩) ∧ s18 = .bool ab0 ∧ Z.heap[ga]? = some (ivO al0 ah0) ∧ wc.heap.size ≤ ga)
        case first =>
          as_aux_lemma =>
            obtain ⟨cx0, cx1, cx2, cx3⟩ := iv_of ex
            obtain ⟨cy0, cy1, cy2, cy3⟩ := iv_of ey
            go_wp2_with (go_at_call 26; first | ((with_reducible refine (C0a.out _).mono ?_); rintro e w' ⟨rfl, q, rfl⟩))
            go_meet
            refine ⟨_, ?_, rfl, rfl, ?_, ?_⟩
            all_goals repeat (first | exact Ext.refl _ | refine Ext.mored ?_ _ | refine Ext.drewN ?_ _ | refine Ext.alloc ?_ _ | (refine at_new ?_; first | rfl | (simp; done)) | refine at_more ?_ | refine at_drew ?_ | refine at_old ?_ | exact Nat.le_refl _ | (rw [more_size]; omega) | (simp [more_size]; omega) | (simp [more_size]; done))
        case rest =>
          obtain ⟨ga, hX, rfl, rfl, ea, la⟩ := hcut
          have nla : ga ≠ gl := by have := (sl_of el).1; omega
          have nxa : gx ≠ ga := by have := (iv_of ex).1; omega
          have nya : gy ≠ ga := by have := (iv_of ey).1; omega
          replace la := Nat.le_trans hE.size la
          replace hE := hE.trans hX
          replace el := at_ext hX el
          replace ex := at_ext hX ex
          replace ey := at_ext hX ey
          clear hX
          go_upto_region 7 with fail
          go_cut [19, 20] (fun s19 s20 Z => ∃ gc : Nat, Ext wc Z ∧ s19 = .pointer (some ⟨gc, 0, none⟩) ∧ s20 = .bool ab0 ∧ Z.heap[gc]? = some (ivO al0 ah0) ∧ wc.heap.size ≤ gc)
          case first =>
            as_aux_lemma =>
              obtain ⟨cx0, cx1, cx2, cx3⟩ := iv_of ex
              obtain ⟨cy0, cy1, cy2, cy3⟩ := iv_of ey
              go_wp2_with (go_at_call 28; first | ((with_reducible refine (C0b.out _).mono ?_); rintro e w' ⟨rfl, q, rfl⟩))
              go_meet
              refine ⟨_, ?_, rfl, rfl, ?_, ?_⟩
              all_goals repeat (first | exact Ext.refl _ | refine Ext.mored ?_ _ | refine Ext.drewN ?_ _ | refine Ext.alloc ?_ _ | (refine at_new ?_; first | rfl | (simp; done)) | refine at_more ?_ | refine at_drew ?_ | refine at_old ?_ | exact Nat.le_refl _ | (rw [more_size]; omega) | (simp [more_size]; omega) | (simp [more_size]; done))
          case rest =>
            obtain ⟨gc, hX, rfl, rfl, ec, lc⟩ := hcut
            have nlc : gc ≠ gl := by have := (sl_of el).1; omega
            have nxc : gx ≠ gc := by have := (iv_of ex).1; omega
            have nyc : gy ≠ gc := by have := (iv_of ey).1; omega
            have nac : ga ≠ gc := by have := (iv_of ea).1; omega
            replace lc := Nat.le_trans hE.size lc
            replace hE := hE.trans hX
            replace el := at_ext hX el
            replace ex := at_ext hX ex
            replace ey := at_ext hX ey
            replace ea := at_ext hX ea
            clear hX
            go_upto_region 8 with fail
            go_cut [21, 22] (fun s21 s22 Z => ∃ ge : Nat, Ext wc Z ∧ s21 = .pointer (some ⟨ge, 0, none⟩) ∧ s22 = .bool ab1 ∧ Z.heap[ge]? = some (ivO al1 ah1) ∧ wc.heap.size ≤ ge)
            case first =>
              as_aux_lemma =>
                obtain ⟨cx0, cx1, cx2, cx3⟩ := iv_of ex
                obtain ⟨cy0, cy1, cy2, cy3⟩ := iv_of ey
                go_wp2_with (go_at_call 29; first | ((with_reducible refine (C1a.out _).mono ?_); rintro e w' ⟨rfl, q, rfl⟩))
                go_meet
                refine ⟨_, ?_, rfl, rfl, ?_, ?_⟩
                all_goals repeat (first | exact Ext.refl _ | refine Ext.mored ?_ _ | refine Ext.drewN ?_ _ | refine Ext.alloc ?_ _ | (refine at_new ?_; first | rfl | (simp; done)) | refine at_more ?_ | refine at_drew ?_ | refine at_old ?_ | exact Nat.le_refl _ | (rw [more_size]; omega) | (simp [more_size]; omega) | (simp [more_size]; done))
            case rest =>
              obtain ⟨ge, hX, rfl, rfl, ee, le⟩ := hcut
              have nle : ge ≠ gl := by have := (sl_of el).1; omega
              have nxe : gx ≠ ge := by have := (iv_of ex).1; omega
              have nye : gy ≠ ge := by have := (iv_of ey).1; omega
              have nae : ga ≠ ge := by have := (iv_of ea).1; omega
              have nce : gc ≠ ge := by have := (iv_of ec).1; omega
              replace le := Nat.le_trans hE.size le
              replace hE := hE.trans hX
              replace el := at_ext hX el
              replace ex := at_ext hX ex
              replace ey := at_ext hX ey
              replace ea := at_ext hX ea
              replace ec := at_ext hX ec
              clear hX
              go_upto_region 9 with fail
              go_cut [23, 24] (fun s23 s24 Z => ∃ gg : Nat, Ext wc Z ∧ s23 = .pointer (some ⟨gg, 0, none⟩) ∧ s24 = .bool ab1 ∧ Z.heap[gg]? = some (ivO al1 ah1) ∧ wc.heap.size ≤ gg)
              case first =>
                as_aux_lemma =>
                  obtain ⟨cx0, cx1, cx2, cx3⟩ := iv_of ex
                  obtain ⟨cy0, cy1, cy2, cy3⟩ := iv_of ey
                  go_wp2_with (go_at_call 30; first | ((with_reducible refine (C1b.out _).mono ?_); rintro e w' ⟨rfl, q, rfl⟩))
                  go_meet
                  refine ⟨_, ?_, rfl, rfl, ?_, ?_⟩
                  all_goals repeat (first | exact Ext.refl _ | refine Ext.mored ?_ _ | refine Ext.drewN ?_ _ | refine Ext.alloc ?_ _ | (refine at_new ?_; first | rfl | (simp; done)) | refine at_more ?_ | refine at_drew ?_ | refine at_old ?_ | exact Nat.le_refl _ | (rw [more_size]; omega) | (simp [more_size]; omega) | (simp [more_size]; done))
              case rest =>
                obtain ⟨gg, hX, rfl, rfl, eg, lg⟩ := hcut
                have nlg : gg ≠ gl := by have := (sl_of el).1; omega
                have nxg : gx ≠ gg := by have := (iv_of ex).1; omega
                have nyg : gy ≠ gg := by have := (iv_of ey).1; omega
                have nag : ga ≠ gg := by have := (iv_of ea).1; omega
                have ncg : gc ≠ gg := by have := (iv_of ec).1; omega
                have neg : ge ≠ gg := by have := (iv_of ee).1; omega
                replace lg := Nat.le_trans hE.size lg
                replace hE := hE.trans hX
                replace el := at_ext hX el
                replace ex := at_ext hX ex
                replace ey := at_ext hX ey
                replace ea := at_ext hX ea
                replace ec := at_ext hX ec
                replace ee := at_ext hX ee
                clear hX
                go_upto_region 10 with fail
                go_cut [25, 26] (fun s25 s26 Z => ∃ gs : Nat, Ext wc Z ∧ s25 = .pointer (some ⟨gs, 0, none⟩) ∧ s26 = .bool ab2 ∧ Z.heap[gs]? = some (ivO al2 ah2) ∧ wc.heap.size ≤ gs)
                case first =>
                  as_aux_lemma =>
                    obtain ⟨cx0, cx1, cx2, cx3⟩ := iv_of ex
                    go_wp2_with (go_at_call 27; first | ((with_reducible refine (C2a.out _).mono ?_); rintro e w' ⟨rfl, q, rfl⟩))
                    go_meet
                    refine ⟨_, ?_, rfl, rfl, ?_, ?_⟩
                    all_goals repeat (first | exact Ext.refl _ | refine Ext.mored ?_ _ | refine Ext.drewN ?_ _ | refine Ext.alloc ?_ _ | (refine at_new ?_; first | rfl | (simp; done)) | refine at_more ?_ | refine at_drew ?_ | refine at_old ?_ | exact Nat.le_refl _ | (rw [more_size]; omega) | (simp [more_size]; omega) | (simp [more_size]; done))
                case rest =>
                  obtain ⟨gs, hX, rfl, rfl, es, ls⟩ := hcut
                  have nls : gs ≠ gl := by have := (sl_of el).1; omega
                  have nxs : gx ≠ gs := by have := (iv_of ex).1; omega
                  have nys : gy ≠ gs := by have := (iv_of ey).1; omega
                  have nas : ga ≠ gs := by have := (iv_of ea).1; omega
                  have ncs : gc ≠ gs := by have := (iv_of ec).1; omega
                  have nes : ge ≠ gs := by have := (iv_of ee).1; omega
                  have ngs : gg ≠ gs := by have := (iv_of eg).1; omega
                  replace ls := Nat.le_trans hE.size ls
                  replace hE := hE.trans hX
                  replace el := at_ext hX el
                  replace ex := at_ext hX ex
                  replace ey := at_ext hX ey
                  replace ea := at_ext hX ea
                  replace ec := at_ext hX ec
                  replace ee := at_ext hX ee
                  replace eg := at_ext hX eg
                  clear hX
                  go_upto_region 11 with fail
                  go_cut [27, 28] (fun s27 s28 Z => ∃ gt : Nat, Ext wc Z ∧ s27 = .pointer (some ⟨gt, 0, none⟩) ∧ s28 = .bool ab2 ∧ Z.heap[gt]? = some (ivO al2 ah2) ∧ wc.heap.size ≤ gt)
                  case first =>
                    as_aux_lemma =>
                      obtain ⟨cx0, cx1, cx2, cx3⟩ := iv_of ex
                      go_wp2_with (go_at_call 31; first | ((with_reducible refine (C2b.out _).mono ?_); rintro e w' ⟨rfl, q, rfl⟩))
                      go_meet
                      refine ⟨_, ?_, rfl, rfl, ?_, ?_⟩
                      all_goals repeat (first | exact Ext.refl _ | refine Ext.mored ?_ _ | refine Ext.drewN ?_ _ | refine Ext.alloc ?_ _ | (refine at_new ?_; first | rfl | (simp; done)) | refine at_more ?_ | refine at_drew ?_ | refine at_old ?_ | exact Nat.le_refl _ | (rw [more_size]; omega) | (simp [more_size]; omega) | (simp [more_size]; done))
                  case rest =>
                    obtain ⟨gt, hX, rfl, rfl, et, lt⟩ := hcut
                    have nlt : gt ≠ gl := by have := (sl_of el).1; omega
                    have nxt : gx ≠ gt := by have := (iv_of ex).1; omega
                    have nyt : gy ≠ gt := by have := (iv_of ey).1; omega
                    have nat : ga ≠ gt := by have := (iv_of ea).1; omega
                    have nct : gc ≠ gt := by have := (iv_of ec).1; omega
                    have net : ge ≠ gt := by have := (iv_of ee).1; omega
                    have ngt : gg ≠ gt := by have := (iv_of eg).1; omega
                    have nst : gs ≠ gt := by have := (iv_of es).1; omega
                    replace lt := Nat.le_trans hE.size lt
                    replace hE := hE.trans hX
                    replace el := at_ext hX el
                    replace ex := at_ext hX ex
                    replace ey := at_ext hX ey
                    replace ea := at_ext hX ea
                    replace ec := at_ext hX ec
                    replace ee := at_ext hX ee
                    replace eg := at_ext hX eg
                    replace es := at_ext hX es
                    clear hX
                    obtain ⟨ca0, ca1, ca2, ca3⟩ := iv_of ea
                    obtain ⟨cc0, cc1, cc2, cc3⟩ := iv_of ec
                    obtain ⟨ce0, ce1, ce2, ce3⟩ := iv_of ee
                    obtain ⟨cg0, cg1, cg2, cg3⟩ := iv_of eg
                    obtain ⟨cs0, cs1, cs2, cs3⟩ := iv_of es
                    obtain ⟨ct0, ct1, ct2, ct3⟩ := iv_of et
                    have hn := neq_iv_same
                    have HE := Lib.hid hE
                    have EL := Lib.hid el
                    clear hE el
                    go_wp2_with fail
                    go_roundg (gk - 1)
                    case measure => omega
                    case rel => exact ⟨i + 1, by omega, by go_num, HE.out, EL.out⟩
end Go.Proofs.Ytdbemgjjahcabaa
