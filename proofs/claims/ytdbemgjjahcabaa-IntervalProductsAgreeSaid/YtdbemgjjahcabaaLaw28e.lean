/- The walk of IntervalSumsAgree. -/
import Derived.Test.YtdbemgjjahcabaaLaw28d
import Derived.Deep.LoopGhost
namespace Go.Proofs.Ytdbemgjjahcabaa
open Go.RowKit
set_option linter.unusedVariables false

/-- three pairs of intervals -/
abbrev slO (c0 c1 c2 c3 c4 c5 c6 c7 c8 c9 ca cb : Int) : Obj := .cells #[.int .i64 c0, .int .i64 c1, .int .i64 c2, .int .i64 c3, .int .i64 c4, .int .i64 c5, .int .i64 c6, .int .i64 c7, .int .i64 c8, .int .i64 c9, .int .i64 ca, .int .i64 cb] 30
theorem sl_size {W : World} {g : Nat} {c0 c1 c2 c3 c4 c5 c6 c7 c8 c9 ca cb : Int} (e : W.heap[g]? = some (slO c0 c1 c2 c3 c4 c5 c6 c7 c8 c9 ca cb)) : g < W.heap.size := by
  rcases Nat.lt_or_ge g W.heap.size with h1 | h1
  · exact h1
  · simp [h1] at e
theorem sl_of {W : World} {g : Nat} {c0 c1 c2 c3 c4 c5 c6 c7 c8 c9 ca cb : Int} (e : W.heap[g]? = some (slO c0 c1 c2 c3 c4 c5 c6 c7 c8 c9 ca cb)) : g < W.heap.size ∧ True := ⟨sl_size e, trivial⟩
theorem add_pair (xl xh yl yh : Int) : ∃ (l h : Int) (b : Bool), (∀ w, Calls Try.prog 14 #[.agg #[.int .i64 xl, .int .i64 xh], .agg #[.int .i64 yl, .int .i64 yh]] w fun e w' => e = .returned (.tuple #[.agg #[.int .i64 l, .int .i64 h], .bool b]) ∧ ∃ p, w' = more w p) ∧ (∀ w, Calls Try.prog 15 #[.agg #[.int .i64 xl, .int .i64 xh], .agg #[.int .i64 yl, .int .i64 yh]] w fun e w' => e = .returned (.tuple #[.agg #[.int .i64 l, .int .i64 h], .bool b]) ∧ ∃ p, w' = more w p) := ⟨_, _, _, fun w => add_call xl xh yl yh w, fun w => refAdd_call xl xh yl yh w⟩
theorem sub_pair (xl xh yl yh : Int) : ∃ (l h : Int) (b : Bool), (∀ w, Calls Try.prog 16 #[.agg #[.int .i64 xl, .int .i64 xh], .agg #[.int .i64 yl, .int .i64 yh]] w fun e w' => e = .returned (.tuple #[.agg #[.int .i64 l, .int .i64 h], .bool b]) ∧ ∃ p, w' = more w p) ∧ (∀ w, Calls Try.prog 17 #[.agg #[.int .i64 xl, .int .i64 xh], .agg #[.int .i64 yl, .int .i64 yh]] w fun e w' => e = .returned (.tuple #[.agg #[.int .i64 l, .int .i64 h], .bool b]) ∧ ∃ p, w' = more w p) := ⟨_, _, _, fun w => sub_call xl xh yl yh w, fun w => refSub_call xl xh yl yh w⟩
theorem min_pair (xl xh yl yh : Int) : ∃ (l h : Int) (b : Bool), (∀ w, Calls Try.prog 20 #[.agg #[.int .i64 xl, .int .i64 xh], .agg #[.int .i64 yl, .int .i64 yh]] w fun e w' => e = .returned (.tuple #[.agg #[.int .i64 l, .int .i64 h], .bool b]) ∧ ∃ p, w' = more w p) ∧ (∀ w, Calls Try.prog 21 #[.agg #[.int .i64 xl, .int .i64 xh], .agg #[.int .i64 yl, .int .i64 yh]] w fun e w' => e = .returned (.tuple #[.agg #[.int .i64 l, .int .i64 h], .bool b]) ∧ ∃ p, w' = more w p) := ⟨_, _, _, fun w => min_call xl xh yl yh w, fun w => refMin_call xl xh yl yh w⟩
theorem max_pair (xl xh yl yh : Int) : ∃ (l h : Int) (b : Bool), (∀ w, Calls Try.prog 22 #[.agg #[.int .i64 xl, .int .i64 xh], .agg #[.int .i64 yl, .int .i64 yh]] w fun e w' => e = .returned (.tuple #[.agg #[.int .i64 l, .int .i64 h], .bool b]) ∧ ∃ p, w' = more w p) ∧ (∀ w, Calls Try.prog 23 #[.agg #[.int .i64 xl, .int .i64 xh], .agg #[.int .i64 yl, .int .i64 yh]] w fun e w' => e = .returned (.tuple #[.agg #[.int .i64 l, .int .i64 h], .bool b]) ∧ ∃ p, w' = more w p) := ⟨_, _, _, fun w => max_call xl xh yl yh w, fun w => refMax_call xl xh yl yh w⟩
theorem hull_pair (xl xh yl yh : Int) : ∃ (l h : Int) (b : Bool), (∀ w, Calls Try.prog 24 #[.agg #[.int .i64 xl, .int .i64 xh], .agg #[.int .i64 yl, .int .i64 yh]] w fun e w' => e = .returned (.tuple #[.agg #[.int .i64 l, .int .i64 h], .bool b]) ∧ ∃ p, w' = more w p) ∧ (∀ w, Calls Try.prog 25 #[.agg #[.int .i64 xl, .int .i64 xh], .agg #[.int .i64 yl, .int .i64 yh]] w fun e w' => e = .returned (.tuple #[.agg #[.int .i64 l, .int .i64 h], .bool b]) ∧ ∃ p, w' = more w p) := ⟨_, _, _, fun w => hull_call xl xh yl yh w, fun w => refHull_call xl xh yl yh w⟩
theorem valid_pair (xl xh : Int) : ∃ b : Bool, (∀ w, Calls Try.prog 18 #[.agg #[.int .i64 xl, .int .i64 xh]] w fun e w' => e = .returned (.bool b) ∧ w.alloc (ivO xl xh) = w') ∧ (∀ w, Calls Try.prog 19 #[.agg #[.int .i64 xl, .int .i64 xh]] w fun e w' => e = .returned (.bool b) ∧ w.alloc (ivO xl xh) = w') := ⟨_, fun w => valid_call xl xh w, fun w => refValid_call xl xh w⟩
theorem cell_of {W : World} {g i : Nat} {vs : Array Value} {t : TypeId} {v : Value} (e : W.heap[g]? = some (.cells vs t)) (h : vs[i]? = some v) : W.cell? ⟨g, i, none⟩ = some v := by simp [World.cell?, e, h]
set_option maxHeartbeats 8000000 in
set_option maxRecDepth 100000 in
theorem intervalSumsAgree_walk (n0 n1 m0 m1 pl ph ql qh : Int) (w : World) (n0a : -9223372036854775808 ≤ n0) (n0b : n0 ≤ 9223372036854775807) (n1a : -9223372036854775808 ≤ n1) (n1b : n1 ≤ 9223372036854775807) (m0a : -9223372036854775808 ≤ m0) (m0b : m0 ≤ 9223372036854775807) (m1a : -9223372036854775808 ≤ m1) (m1b : m1 ≤ 9223372036854775807) (pla : -9223372036854775808 ≤ pl) (plb : pl ≤ 9223372036854775807) (pha : -9223372036854775808 ≤ ph) (phb : ph ≤ 9223372036854775807) (qla : -9223372036854775808 ≤ ql) (qlb : ql ≤ 9223372036854775807) (qha : -9223372036854775808 ≤ qh) (qhb : qh ≤ 9223372036854775807) :
    Calls Try.prog 4 #[.agg #[.int .i64 n0, .int .i64 n1], .agg #[.int .i64 m0, .int .i64 m1], .agg #[.int .i64 pl, .int .i64 ph], .agg #[.int .i64 ql, .int .i64 qh]] w fun e w' => e = .returned (.bool true) ∧ Below w.heap.size w w' := by
  have mx := fun w => make_call n0 n1 n1a n1b w
  have my := fun w => make_call m0 m1 m1a m1b w
  generalize gA n0 n1 + gW n1 = nh at *
  generalize gA n0 n1 = nl at *
  generalize gA m0 m1 + gW m1 = mh at *
  generalize gA m0 m1 = ml at *
  have Hmx := Lib.hid @mx
  have Hmy := Lib.hid @my
  clear mx my
  go_enter Try.func4, Try.ntmps4
  go_upto_region 1 with fail
  refine at_world (fun V => Ext w V ∧ V.heap[w.heap.size]? = some (prO n0 n1) ∧ V.heap[w.heap.size + 1]? = some (prO m0 m1) ∧ V.heap[w.heap.size + 1 + 1]? = some (ivO pl ph) ∧ V.heap[w.heap.size + 1 + 1 + 1]? = some (ivO ql qh)) ⟨⟨⟨[_, _, _, _], 0⟩, rfl⟩, at_old (at_old (at_old (at_new (by simp)))), at_old (at_old (at_new (by simp))), at_old (at_new (by simp)), at_new (by simp)⟩ ?_
  rintro wc ⟨hE, en, em, ep, eq⟩
  obtain ⟨cn0, cn1, cn2, cn3⟩ := pr_of en
  obtain ⟨cm0, cm1, cm2, cm3⟩ := pr_of em
  obtain ⟨cp0, cp1, cp2, cp3⟩ := iv_of ep
  obtain ⟨cq0, cq1, cq2, cq3⟩ := iv_of eq
  have hmc := more_cell
  have hmh := more_heap
  have hmf := more_frozen
  refine region_tail 12 (by kernel_rfl) (by kernel_rfl) ?_
  simp only [List.take_succ_cons, List.take_zero, List.drop_succ_cons, List.drop_zero]
  repeat (go_big_quiet_step ((go_at_call 9; first | with_reducible exact calls_more (Hmx.out _) | with_reducible exact calls_more (Hmy.out _))))
  refine wpQuiet_nil ?_
  rintro w1 ⟨p, rfl⟩
  go_wp2_with fail
  obtain ⟨gl, hgl⟩ : ∃ g, (more wc p).heap.size = g := ⟨_, rfl⟩
  have hE1 : Ext w ((more wc p).alloc (slO nl nh ml mh pl ph ql qh nl nh ql qh)) := (hE.mored p).alloc _
  have el : ((more wc p).alloc (slO nl nh ml mh pl ph ql qh nl nh ql qh)).heap[gl]? = some (slO nl nh ml mh pl ph ql qh nl nh ql qh) := at_new hgl.symm
  rw [hgl]
  refine at_world (fun V => Ext w V ∧ V.heap[gl]? = some (slO nl nh ml mh pl ph ql qh nl nh ql qh)) ⟨hE1, el⟩ ?_
  clear hE hE1 el hgl hmc hmh hmf cn0 cn1 cn2 cn3 cm0 cm1 cm2 cm3 cp0 cp1 cp2 cp3 cq0 cq1 cq2 cq3 en em ep eq
  rintro V ⟨hE, el⟩
  go_loopg [10] 3 (fun gk s10 wr => ∃ i : Nat, i + gk = 3 ∧ s10 = .int .i64 i ∧ Ext w wr ∧ wr.heap[gl]? = some (slO nl nh ml mh pl ph ql qh nl nh ql qh))
  case atStart => exact ⟨0, rfl, rfl, hE, el⟩
  case round =>
    obtain ⟨i, hi, rfl, hE, el⟩ := hrel
    obtain ⟨wc, rfl⟩ : ∃ wo : World, wo = wr := ⟨_, rfl⟩
    by_cases hlt : i < 3
    case neg =>
      obtain rfl : i = 3 := by omega
      replace hE := Lib.hid hE
      go_wp2_with (go_at_call 11; first | ((with_reducible refine (awake_call _).mono ?_); rintro e w' ⟨rfl, q, rfl⟩))
      go_ret
      exact ⟨rfl, (hE.out.mored _).below'⟩
    case pos =>
      have z0 := sl_size el
      go_upto_region 5 with fail
      go_cut [11, 12] (fun s11 s12 Z => ∃ (gx gy : Nat) (xl xh yl yh : Int), Ext wc Z ∧ s11 = .pointer (some ⟨gx, 0, none⟩) ∧ s12 = .pointer (some ⟨gy, 0, none⟩) ∧ Z.heap[gx]? = some (ivO xl xh) ∧ Z.heap[gy]? = some (ivO yl yh) ∧ wc.heap.size ≤ gx ∧ wc.heap.size ≤ gy)
      case first =>
        obtain rfl | rfl | rfl : i = 0 ∨ i = 1 ∨ i = 2 := by omega
        case inl =>
          as_aux_lemma =>
            have q0 : ∀ W', Ext wc W' → W'.cell? ⟨gl, 0, none⟩ = some (.int .i64 nl) := fun W' hW => cell_of (at_ext hW el) rfl
            have q1 : ∀ W', Ext wc W' → W'.cell? ⟨gl, 1, none⟩ = some (.int .i64 nh) := fun W' hW => cell_of (at_ext hW el) rfl
            have q2 : ∀ W', Ext wc W' → W'.cell? ⟨gl, 2, none⟩ = some (.int .i64 ml) := fun W' hW => cell_of (at_ext hW el) rfl
            have q3 : ∀ W', Ext wc W' → W'.cell? ⟨gl, 3, none⟩ = some (.int .i64 mh) := fun W' hW => cell_of (at_ext hW el) rfl
            go_region_held3 (fun w' => Ext wc w') ((repeat (first | assumption | exact Ext.refl _ | exact ext_drew _ | refine ext_drewW ?_ | refine Ext.mored ?_ _ | refine Ext.alloc ?_ _ | refine Ext.drewN ?_ _))) (fail)
            all_goals go_wp2_with fail
            all_goals
              go_meet
              refine ⟨_, _, nl, nh, ml, mh, ?_, rfl, rfl, ?_, ?_, ?_, ?_⟩
              · repeat (first | assumption | exact Ext.refl _ | exact ext_drew _ | refine ext_drewW ?_ | refine Ext.mored ?_ _ | refine Ext.alloc ?_ _)
              · repeat (first | refine at_more ?_ | refine at_drew1 ?_ | (refine at_new ?_; first | with_reducible rfl | (simp; done) | (simp; omega)) | refine at_old ?_)
              · repeat (first | refine at_more ?_ | refine at_drew1 ?_ | (refine at_new ?_; first | with_reducible rfl | (simp; done) | (simp; omega)) | refine at_old ?_)
              · first | exact Nat.le_refl _ | (simp; done) | (simp; omega)
              · first | exact Nat.le_refl _ | (simp; done) | (simp; omega)
        case inr.inl =>
          as_aux_lemma =>
            have q0 : ∀ W', Ext wc W' → W'.cell? ⟨gl, 4, none⟩ = some (.int .i64 pl) := fun W' hW => cell_of (at_ext hW el) rfl
            have q1 : ∀ W', Ext wc W' → W'.cell? ⟨gl, 5, none⟩ = some (.int .i64 ph) := fun W' hW => cell_of (at_ext hW el) rfl
            have q2 : ∀ W', Ext wc W' → W'.cell? ⟨gl, 6, none⟩ = some (.int .i64 ql) := fun W' hW => cell_of (at_ext hW el) rfl
            have q3 : ∀ W', Ext wc W' → W'.cell? ⟨gl, 7, none⟩ = some (.int .i64 qh) := fun W' hW => cell_of (at_ext hW el) rfl
            go_region_held3 (fun w' => Ext wc w') ((repeat (first | assumption | exact Ext.refl _ | exact ext_drew _ | refine ext_drewW ?_ | refine Ext.mored ?_ _ | refine Ext.alloc ?_ _ | refine Ext.drewN ?_ _))) (fail)
            all_goals go_wp2_with fail
            all_goals
              go_meet
              refine ⟨_, _, pl, ph, ql, qh, ?_, rfl, rfl, ?_, ?_, ?_, ?_⟩
              · repeat (first | assumption | exact Ext.refl _ | exact ext_drew _ | refine ext_drewW ?_ | refine Ext.mored ?_ _ | refine Ext.alloc ?_ _)
              · repeat (first | refine at_more ?_ | refine at_drew1 ?_ | (refine at_new ?_; first | with_reducible rfl | (simp; done) | (simp; omega)) | refine at_old ?_)
              · repeat (first | refine at_more ?_ | refine at_drew1 ?_ | (refine at_new ?_; first | with_reducible rfl | (simp; done) | (simp; omega)) | refine at_old ?_)
              · first | exact Nat.le_refl _ | (simp; done) | (simp; omega)
              · first | exact Nat.le_refl _ | (simp; done) | (simp; omega)
        case inr.inr =>
          as_aux_lemma =>
            have q0 : ∀ W', Ext wc W' → W'.cell? ⟨gl, 8, none⟩ = some (.int .i64 nl) := fun W' hW => cell_of (at_ext hW el) rfl
            have q1 : ∀ W', Ext wc W' → W'.cell? ⟨gl, 9, none⟩ = some (.int .i64 nh) := fun W' hW => cell_of (at_ext hW el) rfl
            have q2 : ∀ W', Ext wc W' → W'.cell? ⟨gl, 10, none⟩ = some (.int .i64 ql) := fun W' hW => cell_of (at_ext hW el) rfl
            have q3 : ∀ W', Ext wc W' → W'.cell? ⟨gl, 11, none⟩ = some (.int .i64 qh) := fun W' hW => cell_of (at_ext hW el) rfl
            go_region_held3 (fun w' => Ext wc w') ((repeat (first | assumption | exact Ext.refl _ | exact ext_drew _ | refine ext_drewW ?_ | refine Ext.mored ?_ _ | refine Ext.alloc ?_ _ | refine Ext.drewN ?_ _))) (fail)
            all_goals go_wp2_with fail
            all_goals
              go_meet
              refine ⟨_, _, nl, nh, ql, qh, ?_, rfl, rfl, ?_, ?_, ?_, ?_⟩
              · repeat (first | assumption | exact Ext.refl _ | exact ext_drew _ | refine ext_drewW ?_ | refine Ext.mored ?_ _ | refine Ext.alloc ?_ _)
              · repeat (first | refine at_more ?_ | refine at_drew1 ?_ | (refine at_new ?_; first | with_reducible rfl | (simp; done) | (simp; omega)) | refine at_old ?_)
              · repeat (first | refine at_more ?_ | refine at_drew1 ?_ | (refine at_new ?_; first | with_reducible rfl | (simp; done) | (simp; omega)) | refine at_old ?_)
              · first | exact Nat.le_refl _ | (simp; done) | (simp; omega)
              · first | exact Nat.le_refl _ | (simp; done) | (simp; omega)
      case rest =>
        obtain ⟨gx, gy, xl, xh, yl, yh, hX, rfl, rfl, ex, ey, lx, ly⟩ := hcut
        have nlx : gx ≠ gl := by omega
        have nly : gy ≠ gl := by omega
        replace lx := Nat.le_trans hE.size lx
        replace ly := Nat.le_trans hE.size ly
        replace hE := hE.trans hX
        replace el := at_ext hX el
        clear hX z0
        obtain ⟨al0, ah0, ab0, c0a, c0b⟩ := add_pair xl xh yl yh
        have C0a := Lib.hid @c0a
        have C0b := Lib.hid @c0b
        clear c0a c0b
        obtain ⟨al1, ah1, ab1, c1a, c1b⟩ := sub_pair xl xh yl yh
        have C1a := Lib.hid @c1a
        have C1b := Lib.hid @c1b
        clear c1a c1b
        obtain ⟨al2, ah2, ab2, c2a, c2b⟩ := min_pair xl xh yl yh
        have C2a := Lib.hid @c2a
        have C2b := Lib.hid @c2b
        clear c2a c2b
        obtain ⟨al3, ah3, ab3, c3a, c3b⟩ := max_pair xl xh yl yh
        have C3a := Lib.hid @c3a
        have C3b := Lib.hid @c3b
        clear c3a c3b
        obtain ⟨al4, ah4, ab4, c4a, c4b⟩ := hull_pair xl xh yl yh
        have C4a := Lib.hid @c4a
        have C4b := Lib.hid @c4b
        clear c4a c4b
        obtain ⟨vb, v1, v2⟩ := valid_pair xl xh
        have V1 := Lib.hid @v1
        have V2 := Lib.hid @v2
        clear v1 v2
        go_upto_region 6 with fail
        go_cut [13, 14] (fun s13 s14 Z => ∃ ga : Nat, Ext wc Z ∧ s13 = .pointer (some ⟨ga, 0, none⟩) ∧ s14 = .bool ab0 ∧ Z.heap[ga]? = some (ivO al0 ah0) ∧ wc.heap.size ≤ ga)
        case first =>
          as_aux_lemma =>
            obtain ⟨cx0, cx1, cx2, cx3⟩ := iv_of ex
            obtain ⟨cy0, cy1, cy2, cy3⟩ := iv_of ey
            go_wp2_with (go_at_call 14; first | ((with_reducible refine (C0a.out _).mono ?_); rintro e w' ⟨rfl, q, rfl⟩))
            go_meet
            refine ⟨_, ?_, rfl, rfl, ?_, ?_⟩
            all_goals repeat (first | exact Ext.refl _ | refine Ext.mored ?_ _ | refine Ext.drewN ?_ _ | refine Ext.alloc ?_ _ | (refine at_new ?_; first | rfl | (simp; done)) | refine at_more ?_ | refine at_drew ?_ | refine at_old ?_ | exact Nat.le_refl _ | (rw [more_size]; omega) | (simp [more_size]; omega) | (simp [more_size]; done))
        case rest =>
          obtain ⟨ga, hX, rfl, rfl, ea, la⟩ := hcut
          have nla : ga ≠ gl := by have := (sl_of el).1; omega
          have nxa : gx ≠ ga := by have := (iv_of ex).1; omega
          have nya : gy ≠ ga := by have := (iv_of ey).1; omega
          replace la := Nat.le_trans hE.size la
          replace hE := hE.trans hX
          replace el := at_ext hX el
          replace ex := at_ext hX ex
          replace ey := at_ext hX ey
          clear hX
          go_upto_region 7 with fail
          go_cut [15, 16] (fun s15 s16 Z => ∃ gc : Nat, Ext wc Z ∧ s15 = .pointer (some ⟨gc, 0, none⟩) ∧ s16 = .bool ab0 ∧ Z.heap[gc]? = some (ivO al0 ah0) ∧ wc.heap.size ≤ gc)
          case first =>
            as_aux_lemma =>
              obtain ⟨cx0, cx1, cx2, cx3⟩ := iv_of ex
              obtain ⟨cy0, cy1, cy2, cy3⟩ := iv_of ey
              go_wp2_with (go_at_call 15; first | ((with_reducible refine (C0b.out _).mono ?_); rintro e w' ⟨rfl, q, rfl⟩))
              go_meet
              refine ⟨_, ?_, rfl, rfl, ?_, ?_⟩
              all_goals repeat (first | exact Ext.refl _ | refine Ext.mored ?_ _ | refine Ext.drewN ?_ _ | refine Ext.alloc ?_ _ | (refine at_new ?_; first | rfl | (simp; done)) | refine at_more ?_ | refine at_drew ?_ | refine at_old ?_ | exact Nat.le_refl _ | (rw [more_size]; omega) | (simp [more_size]; omega) | (simp [more_size]; done))
          case rest =>
            obtain ⟨gc, hX, rfl, rfl, ec, lc⟩ := hcut
            have nlc : gc ≠ gl := by have := (sl_of el).1; omega
            have nxc : gx ≠ gc := by have := (iv_of ex).1; omega
            have nyc : gy ≠ gc := by have := (iv_of ey).1; omega
            have nac : ga ≠ gc := by have := (iv_of ea).1; omega
            replace lc := Nat.le_trans hE.size lc
            replace hE := hE.trans hX
            replace el := at_ext hX el
            replace ex := at_ext hX ex
            replace ey := at_ext hX ey
            replace ea := at_ext hX ea
            clear hX
            go_upto_region 8 with fail
            go_cut [17, 18] (fun s17 s18 Z => ∃ ge : Nat, Ext wc Z ∧ s17 = .pointer (some ⟨ge, 0, none⟩) ∧ s18 = .bool ab1 ∧ Z.heap[ge]? = some (ivO al1 ah1) ∧ wc.heap.size ≤ ge)
            case first =>
              as_aux_lemma =>
                obtain ⟨cx0, cx1, cx2, cx3⟩ := iv_of ex
                obtain ⟨cy0, cy1, cy2, cy3⟩ := iv_of ey
                go_wp2_with (go_at_call 16; first | ((with_reducible refine (C1a.out _).mono ?_); rintro e w' ⟨rfl, q, rfl⟩))
                go_meet
                refine ⟨_, ?_, rfl, rfl, ?_, ?_⟩
                all_goals repeat (first | exact Ext.refl _ | refine Ext.mored ?_ _ | refine Ext.drewN ?_ _ | refine Ext.alloc ?_ _ | (refine at_new ?_; first | rfl | (simp; done)) | refine at_more ?_ | refine at_drew ?_ | refine at_old ?_ | exact Nat.le_refl _ | (rw [more_size]; omega) | (simp [more_size]; omega) | (simp [more_size]; done))
            case rest =>
              obtain ⟨ge, hX, rfl, rfl, ee, le⟩ := hcut
              have nle : ge ≠ gl := by have := (sl_of el).1; omega
              have nxe : gx ≠ ge := by have := (iv_of ex).1; omega
              have nye : gy ≠ ge := by have := (iv_of ey).1; omega
              have nae : ga ≠ ge := by have := (iv_of ea).1; omega
              have nce : gc ≠ ge := by have := (iv_of ec).1; omega
              replace le := Nat.le_trans hE.size le
              replace hE := hE.trans hX
              replace el := at_ext hX el
              replace ex := at_ext hX ex
              replace ey := at_ext hX ey
              replace ea := at_ext hX ea
              replace ec := at_ext hX ec
              clear hX
              go_upto_region 9 with fail
              go_cut [19, 20] (fun s19 s20 Z => ∃ gg : Nat, Ext wc Z ∧ s19 = .pointer (some ⟨gg, 0, none⟩) ∧ s20 = .bool ab1 ∧ Z.heap[gg]? = some (ivO al1 ah1) ∧ wc.heap.size ≤ gg)
              case first =>
                as_aux_lemma =>
                  obtain ⟨cx0, cx1, cx2, cx3⟩ := iv_of ex
                  obtain ⟨cy0, cy1, cy2, cy3⟩ := iv_of ey
                  go_wp2_with (go_at_call 17; first | ((with_reducible refine (C1b.out _).mono ?_); rintro e w' ⟨rfl, q, rfl⟩))
                  go_meet
                  refine ⟨_, ?_, rfl, rfl, ?_, ?_⟩
                  all_goals repeat (first | exact Ext.refl _ | refine Ext.mored ?_ _ | refine Ext.drewN ?_ _ | refine Ext.alloc ?_ _ | (refine at_new ?_; first | rfl | (simp; done)) | refine at_more ?_ | refine at_drew ?_ | refine at_old ?_ | exact Nat.le_refl _ | (rw [more_size]; omega) | (simp [more_size]; omega) | (simp [more_size]; done))
              case rest =>
                obtain ⟨gg, hX, rfl, rfl, eg, lg⟩ := hcut
                have nlg : gg ≠ gl := by have := (sl_of el).1; omega
                have nxg : gx ≠ gg := by have := (iv_of ex).1; omega
                have nyg : gy ≠ gg := by have := (iv_of ey).1; omega
                have nag : ga ≠ gg := by have := (iv_of ea).1; omega
                have ncg : gc ≠ gg := by have := (iv_of ec).1; omega
                have neg : ge ≠ gg := by have := (iv_of ee).1; omega
                replace lg := Nat.le_trans hE.size lg
                replace hE := hE.trans hX
                replace el := at_ext hX el
                replace ex := at_ext hX ex
                replace ey := at_ext hX ey
                replace ea := at_ext hX ea
                replace ec := at_ext hX ec
                replace ee := at_ext hX ee
                clear hX
                go_upto_region 10 with fail
                go_cut [98] (fun s98 Z => Ext wc Z ∧ s98 = .bool false)
                case first =>
                  as_aux_lemma =>
                    obtain ⟨ca0, ca1, ca2, ca3⟩ := iv_of ea
                    obtain ⟨cc0, cc1, cc2, cc3⟩ := iv_of ec
                    obtain ⟨ce0, ce1, ce2, ce3⟩ := iv_of ee
                    obtain ⟨cg0, cg1, cg2, cg3⟩ := iv_of eg
                    obtain ⟨cx0, cx1, cx2, cx3⟩ := iv_of ex
                    have hmc := more_cell
                    have hmh := more_heap
                    have hmf := more_frozen
                    have hn := neq_iv_same
                    refine region_more (by kernel_rfl) (by kernel_rfl) ?_
                    repeat (go_big_quiet_step (first | (go_at_call 18; first | with_reducible exact calls_more_o (V1.out _)) | (go_at_call 19; first | with_reducible exact calls_more_o (V2.out _))))
                    refine wpQuiet_nil ?_
                    rintro w1 ⟨p, rfl⟩
                    go_wp2_with fail
                    go_meet
                    refine ⟨?_, rfl⟩
                    all_goals repeat (first | exact Ext.refl _ | refine Ext.mored ?_ _ | refine Ext.drewN ?_ _ | refine Ext.alloc ?_ _ | (refine at_new ?_; first | rfl | (simp; done)) | refine at_more ?_ | refine at_drew ?_ | refine at_old ?_ | exact Nat.le_refl _ | (rw [more_size]; omega) | (simp [more_size]; omega) | (simp [more_size]; done))
                case rest =>
                  obtain ⟨hX, rfl⟩ := hcut
                  replace hE := hE.trans hX
                  replace el := at_ext hX el
                  replace ex := at_ext hX ex
                  replace ey := at_ext hX ey
                  replace ea := at_ext hX ea
                  replace ec := at_ext hX ec
                  replace ee := at_ext hX ee
                  replace eg := at_ext hX eg
                  clear hX
                  go_upto_region 12 with fail
                  go_cut [14] (fun s14 Z => Ext w Z ∧ s14 = .bool ab2 ∧ Z.heap[ga]? = some (ivO al2 ah2) ∧ Z.heap[gx]? = wc.heap[gx]? ∧ Z.heap[gy]? = wc.heap[gy]? ∧ Z.heap[gc]? = wc.heap[gc]? ∧ Z.heap[ge]? = wc.heap[ge]? ∧ Z.heap[gg]? = wc.heap[gg]? ∧ Z.heap[gl]? = wc.heap[gl]?)
                  case first =>
                    as_aux_lemma =>
                      obtain ⟨cx0, cx1, cx2, cx3⟩ := iv_of ex
                      obtain ⟨cy0, cy1, cy2, cy3⟩ := iv_of ey
                      obtain ⟨ca0, ca1, ca2, ca3⟩ := iv_of ea
                      have fz0 : wc.frozen? ⟨ga, 0, none⟩ = false := froz_of ea
                      have fz1 : wc.frozen? ⟨ga, 1, none⟩ = false := froz_of ea
                      have hmc := more_cell
                      have hmh := more_heap
                      have hmf := more_frozen
                      go_wp2_with (go_at_call 20; first | ((with_reducible refine (C2a.out _).mono ?_); rintro e w' ⟨rfl, q, rfl⟩))
                      all_goals
                        go_meet
                        refine ⟨?_, rfl, ?_, ?_, ?_, ?_, ?_, ?_, ?_⟩
                        · repeat (first | exact hE | refine Ext.mored ?_ _ | refine ext_drewW ?_ | refine Ext.drewN ?_ _ | refine Ext.alloc ?_ _ | (refine Ext.setCell ?_ (by omega) _))
                        · repeat (first | exact heap_set2 ea | exact heap_set2 (at_more ea) | exact heap_set2 (at_more (at_drew1 ea)) | exact heap_set2 (at_more (at_more (at_drew1 ea))) | refine at_more ?_ | refine at_drew1 ?_)
                        · refine Eq.trans ?_ ex.symm
                          repeat (first | exact ex | refine heap_set_other _ (by omega) ?_ | refine at_more ?_ | refine at_drew1 ?_)
                        · refine Eq.trans ?_ ey.symm
                          repeat (first | exact ey | refine heap_set_other _ (by omega) ?_ | refine at_more ?_ | refine at_drew1 ?_)
                        · refine Eq.trans ?_ ec.symm
                          repeat (first | exact ec | refine heap_set_other _ (by omega) ?_ | refine at_more ?_ | refine at_drew1 ?_)
                        · refine Eq.trans ?_ ee.symm
                          repeat (first | exact ee | refine heap_set_other _ (by omega) ?_ | refine at_more ?_ | refine at_drew1 ?_)
                        · refine Eq.trans ?_ eg.symm
                          repeat (first | exact eg | refine heap_set_other _ (by omega) ?_ | refine at_more ?_ | refine at_drew1 ?_)
                        · refine Eq.trans ?_ el.symm
                          repeat (first | exact el | refine heap_set_other _ (by omega) ?_ | refine at_more ?_ | refine at_drew1 ?_)
                  case rest =>
                    obtain ⟨hX, rfl, ea, fx, fy, fc, fe, fg, fl⟩ := hcut
                    clear hE; have hE := hX; clear hX
                    replace ex := fx.trans ex; clear fx
                    replace ey := fy.trans ey; clear fy
                    replace ec := fc.trans ec; clear fc
                    replace ee := fe.trans ee; clear fe
                    replace eg := fg.trans eg; clear fg
                    replace el := fl.trans el; clear fl
                    go_upto_region 13 with fail
                    go_cut [16] (fun s16 Z => Ext w Z ∧ s16 = .bool ab2 ∧ Z.heap[gc]? = some (ivO al2 ah2) ∧ Z.heap[gx]? = wc.heap[gx]? ∧ Z.heap[gy]? = wc.heap[gy]? ∧ Z.heap[ga]? = wc.heap[ga]? ∧ Z.heap[ge]? = wc.heap[ge]? ∧ Z.heap[gg]? = wc.heap[gg]? ∧ Z.heap[gl]? = wc.heap[gl]?)
                    case first =>
                      as_aux_lemma =>
                        obtain ⟨cx0, cx1, cx2, cx3⟩ := iv_of ex
                        obtain ⟨cy0, cy1, cy2, cy3⟩ := iv_of ey
                        obtain ⟨cc0, cc1, cc2, cc3⟩ := iv_of ec
                        have fz0 : wc.frozen? ⟨gc, 0, none⟩ = false := froz_of ec
                        have fz1 : wc.frozen? ⟨gc, 1, none⟩ = false := froz_of ec
                        have hmc := more_cell
                        have hmh := more_heap
                        have hmf := more_frozen
                        go_wp2_with (go_at_call 21; first | ((with_reducible refine (C2b.out _).mono ?_); rintro e w' ⟨rfl, q, rfl⟩))
                        all_goals
                          go_meet
                          refine ⟨?_, rfl, ?_, ?_, ?_, ?_, ?_, ?_, ?_⟩
                          · repeat (first | exact hE | refine Ext.mored ?_ _ | refine ext_drewW ?_ | refine Ext.drewN ?_ _ | refine Ext.alloc ?_ _ | (refine Ext.setCell ?_ (by omega) _))
                          · repeat (first | exact heap_set2 ec | exact heap_set2 (at_more ec) | exact heap_set2 (at_more (at_drew1 ec)) | exact heap_set2 (at_more (at_more (at_drew1 ec))) | refine at_more ?_ | refine at_drew1 ?_)
                          · refine Eq.trans ?_ ex.symm
                            repeat (first | exact ex | refine heap_set_other _ (by omega) ?_ | refine at_more ?_ | refine at_drew1 ?_)
                          · refine Eq.trans ?_ ey.symm
                            repeat (first | exact ey | refine heap_set_other _ (by omega) ?_ | refine at_more ?_ | refine at_drew1 ?_)
                          · refine Eq.trans ?_ ea.symm
                            repeat (first | exact ea | refine heap_set_other _ (by omega) ?_ | refine at_more ?_ | refine at_drew1 ?_)
                          · refine Eq.trans ?_ ee.symm
                            repeat (first | exact ee | refine heap_set_other _ (by omega) ?_ | refine at_more ?_ | refine at_drew1 ?_)
                          · refine Eq.trans ?_ eg.symm
                            repeat (first | exact eg | refine heap_set_other _ (by omega) ?_ | refine at_more ?_ | refine at_drew1 ?_)
                          · refine Eq.trans ?_ el.symm
                            repeat (first | exact el | refine heap_set_other _ (by omega) ?_ | refine at_more ?_ | refine at_drew1 ?_)
                    case rest =>
                      obtain ⟨hX, rfl, ec, fx, fy, fa, fe, fg, fl⟩ := hcut
                      clear hE; have hE := hX; clear hX
                      replace ex := fx.trans ex; clear fx
                      replace ey := fy.trans ey; clear fy
                      replace ea := fa.trans ea; clear fa
                      replace ee := fe.trans ee; clear fe
                      replace eg := fg.trans eg; clear fg
                      replace el := fl.trans el; clear fl
                      go_upto_region 14 with fail
                      go_cut [18] (fun s18 Z => Ext w Z ∧ s18 = .bool ab3 ∧ Z.heap[ge]? = some (ivO al3 ah3) ∧ Z.heap[gx]? = wc.heap[gx]? ∧ Z.heap[gy]? = wc.heap[gy]? ∧ Z.heap[ga]? = wc.heap[ga]? ∧ Z.heap[gc]? = wc.heap[gc]? ∧ Z.heap[gg]? = wc.heap[gg]? ∧ Z.heap[gl]? = wc.heap[gl]?)
                      case first =>
                        as_aux_lemma =>
                          obtain ⟨cx0, cx1, cx2, cx3⟩ := iv_of ex
                          obtain ⟨cy0, cy1, cy2, cy3⟩ := iv_of ey
                          obtain ⟨ce0, ce1, ce2, ce3⟩ := iv_of ee
                          have fz0 : wc.frozen? ⟨ge, 0, none⟩ = false := froz_of ee
                          have fz1 : wc.frozen? ⟨ge, 1, none⟩ = false := froz_of ee
                          have hmc := more_cell
                          have hmh := more_heap
                          have hmf := more_frozen
                          go_wp2_with (go_at_call 22; first | ((with_reducible refine (C3a.out _).mono ?_); rintro e w' ⟨rfl, q, rfl⟩))
                          all_goals
                            go_meet
                            refine ⟨?_, rfl, ?_, ?_, ?_, ?_, ?_, ?_, ?_⟩
                            · repeat (first | exact hE | refine Ext.mored ?_ _ | refine ext_drewW ?_ | refine Ext.drewN ?_ _ | refine Ext.alloc ?_ _ | (refine Ext.setCell ?_ (by omega) _))
                            · repeat (first | exact heap_set2 ee | exact heap_set2 (at_more ee) | exact heap_set2 (at_more (at_drew1 ee)) | exact heap_set2 (at_more (at_more (at_drew1 ee))) | refine at_more ?_ | refine at_drew1 ?_)
                            · refine Eq.trans ?_ ex.symm
                              repeat (first | exact ex | refine heap_set_other _ (by omega) ?_ | refine at_more ?_ | refine at_drew1 ?_)
                            · refine Eq.trans ?_ ey.symm
                              repeat (first | exact ey | refine heap_set_other _ (by omega) ?_ | refine at_more ?_ | refine at_drew1 ?_)
                            · refine Eq.trans ?_ ea.symm
                              repeat (first | exact ea | refine heap_set_other _ (by omega) ?_ | refine at_more ?_ | refine at_drew1 ?_)
                            · refine Eq.trans ?_ ec.symm
                              repeat (first | exact ec | refine heap_set_other _ (by omega) ?_ | refine at_more ?_ | refine at_drew1 ?_)
                            · refine Eq.trans ?_ eg.symm
                              repeat (first | exact eg | refine heap_set_other _ (by omega) ?_ | refine at_more ?_ | refine at_drew1 ?_)
                            · refine Eq.trans ?_ el.symm
                              repeat (first | exact el | refine heap_set_other _ (by omega) ?_ | refine at_more ?_ | refine at_drew1 ?_)
                      case rest =>
                        obtain ⟨hX, rfl, ee, fx, fy, fa, fc, fg, fl⟩ := hcut
                        clear hE; have hE := hX; clear hX
                        replace ex := fx.trans ex; clear fx
                        replace ey := fy.trans ey; clear fy
                        replace ea := fa.trans ea; clear fa
                        replace ec := fc.trans ec; clear fc
                        replace eg := fg.trans eg; clear fg
                        replace el := fl.trans el; clear fl
                        go_upto_region 15 with fail
                        go_cut [20] (fun s20 Z => Ext w Z ∧ s20 = .bool ab3 ∧ Z.heap[gg]? = some (ivO al3 ah3) ∧ Z.heap[gx]? = wc.heap[gx]? ∧ Z.heap[gy]? = wc.heap[gy]? ∧ Z.heap[ga]? = wc.heap[ga]? ∧ Z.heap[gc]? = wc.heap[gc]? ∧ Z.heap[ge]? = wc.heap[ge]? ∧ Z.heap[gl]? = wc.heap[gl]?)
                        case first =>
                          as_aux_lemma =>
                            obtain ⟨cx0, cx1, cx2, cx3⟩ := iv_of ex
                            obtain ⟨cy0, cy1, cy2, cy3⟩ := iv_of ey
                            obtain ⟨cg0, cg1, cg2, cg3⟩ := iv_of eg
                            have fz0 : wc.frozen? ⟨gg, 0, none⟩ = false := froz_of eg
                            have fz1 : wc.frozen? ⟨gg, 1, none⟩ = false := froz_of eg
                            have hmc := more_cell
                            have hmh := more_heap
                            have hmf := more_frozen
                            go_wp2_with (go_at_call 23; first | ((with_reducible refine (C3b.out _).mono ?_); rintro e w' ⟨rfl, q, rfl⟩))
                            all_goals
                              go_meet
                              refine ⟨?_, rfl, ?_, ?_, ?_, ?_, ?_, ?_, ?_⟩
                              · repeat (first | exact hE | refine Ext.mored ?_ _ | refine ext_drewW ?_ | refine Ext.drewN ?_ _ | refine Ext.alloc ?_ _ | (refine Ext.setCell ?_ (by omega) _))
                              · repeat (first | exact heap_set2 eg | exact heap_set2 (at_more eg) | exact heap_set2 (at_more (at_drew1 eg)) | exact heap_set2 (at_more (at_more (at_drew1 eg))) | refine at_more ?_ | refine at_drew1 ?_)
                              · refine Eq.trans ?_ ex.symm
                                repeat (first | exact ex | refine heap_set_other _ (by omega) ?_ | refine at_more ?_ | refine at_drew1 ?_)
                              · refine Eq.trans ?_ ey.symm
                                repeat (first | exact ey | refine heap_set_other _ (by omega) ?_ | refine at_more ?_ | refine at_drew1 ?_)
                              · refine Eq.trans ?_ ea.symm
                                repeat (first | exact ea | refine heap_set_other _ (by omega) ?_ | refine at_more ?_ | refine at_drew1 ?_)
                              · refine Eq.trans ?_ ec.symm
                                repeat (first | exact ec | refine heap_set_other _ (by omega) ?_ | refine at_more ?_ | refine at_drew1 ?_)
                              · refine Eq.trans ?_ ee.symm
                                repeat (first | exact ee | refine heap_set_other _ (by omega) ?_ | refine at_more ?_ | refine at_drew1 ?_)
                              · refine Eq.trans ?_ el.symm
                                repeat (first | exact el | refine heap_set_other _ (by omega) ?_ | refine at_more ?_ | refine at_drew1 ?_)
                        case rest =>
                          obtain ⟨hX, rfl, eg, fx, fy, fa, fc, fe, fl⟩ := hcut
                          clear hE; have hE := hX; clear hX
                          replace ex := fx.trans ex; clear fx
                          replace ey := fy.trans ey; clear fy
                          replace ea := fa.trans ea; clear fa
                          replace ec := fc.trans ec; clear fc
                          replace ee := fe.trans ee; clear fe
                          replace el := fl.trans el; clear fl
                          go_upto_region 16 with fail
                          go_cut [140] (fun s140 Z => Ext wc Z ∧ s140 = .bool false)
                          case first =>
                            as_aux_lemma =>
                              obtain ⟨ca0, ca1, ca2, ca3⟩ := iv_of ea
                              obtain ⟨cc0, cc1, cc2, cc3⟩ := iv_of ec
                              obtain ⟨ce0, ce1, ce2, ce3⟩ := iv_of ee
                              obtain ⟨cg0, cg1, cg2, cg3⟩ := iv_of eg
                              have hmc := more_cell
                              have hmh := more_heap
                              have hmf := more_frozen
                              have hn := neq_iv_same
                              go_wp2_with fail
                              go_meet
                              refine ⟨?_, rfl⟩
                              all_goals repeat (first | exact Ext.refl _ | refine Ext.mored ?_ _ | refine Ext.drewN ?_ _ | refine Ext.alloc ?_ _ | (refine at_new ?_; first | rfl | (simp; done)) | refine at_more ?_ | refine at_drew ?_ | refine at_old ?_ | exact Nat.le_refl _ | (rw [more_size]; omega) | (simp [more_size]; omega) | (simp [more_size]; done))
                          case rest =>
                            obtain ⟨hX, rfl⟩ := hcut
                            replace hE := hE.trans hX
                            replace el := at_ext hX el
                            replace ex := at_ext hX ex
                            replace ey := at_ext hX ey
                            replace ea := at_ext hX ea
                            replace ec := at_ext hX ec
                            replace ee := at_ext hX ee
                            replace eg := at_ext hX eg
                            clear hX
                            go_upto_region 18 with fail
                            go_cut [14] (fun s14 Z => Ext w Z ∧ s14 = .bool ab4 ∧ Z.heap[ga]? = some (ivO al4 ah4) ∧ Z.heap[gx]? = wc.heap[gx]? ∧ Z.heap[gy]? = wc.heap[gy]? ∧ Z.heap[gc]? = wc.heap[gc]? ∧ Z.heap[ge]? = wc.heap[ge]? ∧ Z.heap[gg]? = wc.heap[gg]? ∧ Z.heap[gl]? = wc.heap[gl]?)
                            case first =>
                              as_aux_lemma =>
                                obtain ⟨cx0, cx1, cx2, cx3⟩ := iv_of ex
                                obtain ⟨cy0, cy1, cy2, cy3⟩ := iv_of ey
                                obtain ⟨ca0, ca1, ca2, ca3⟩ := iv_of ea
                                have fz0 : wc.frozen? ⟨ga, 0, none⟩ = false := froz_of ea
                                have fz1 : wc.frozen? ⟨ga, 1, none⟩ = false := froz_of ea
                                have hmc := more_cell
                                have hmh := more_heap
                                have hmf := more_frozen
                                go_wp2_with (go_at_call 24; first | ((with_reducible refine (C4a.out _).mono ?_); rintro e w' ⟨rfl, q, rfl⟩))
                                all_goals
                                  go_meet
                                  refine ⟨?_, rfl, ?_, ?_, ?_, ?_, ?_, ?_, ?_⟩
                                  · repeat (first | exact hE | refine Ext.mored ?_ _ | refine ext_drewW ?_ | refine Ext.drewN ?_ _ | refine Ext.alloc ?_ _ | (refine Ext.setCell ?_ (by omega) _))
                                  · repeat (first | exact heap_set2 ea | exact heap_set2 (at_more ea) | exact heap_set2 (at_more (at_drew1 ea)) | exact heap_set2 (at_more (at_more (at_drew1 ea))) | refine at_more ?_ | refine at_drew1 ?_)
                                  · refine Eq.trans ?_ ex.symm
                                    repeat (first | exact ex | refine heap_set_other _ (by omega) ?_ | refine at_more ?_ | refine at_drew1 ?_)
                                  · refine Eq.trans ?_ ey.symm
                                    repeat (first | exact ey | refine heap_set_other _ (by omega) ?_ | refine at_more ?_ | refine at_drew1 ?_)
                                  · refine Eq.trans ?_ ec.symm
                                    repeat (first | exact ec | refine heap_set_other _ (by omega) ?_ | refine at_more ?_ | refine at_drew1 ?_)
                                  · refine Eq.trans ?_ ee.symm
                                    repeat (first | exact ee | refine heap_set_other _ (by omega) ?_ | refine at_more ?_ | refine at_drew1 ?_)
                                  · refine Eq.trans ?_ eg.symm
                                    repeat (first | exact eg | refine heap_set_other _ (by omega) ?_ | refine at_more ?_ | refine at_drew1 ?_)
                                  · refine Eq.trans ?_ el.symm
                                    repeat (first | exact el | refine heap_set_other _ (by omega) ?_ | refine at_more ?_ | refine at_drew1 ?_)
                            case rest =>
                              obtain ⟨hX, rfl, ea, fx, fy, fc, fe, fg, fl⟩ := hcut
                              clear hE; have hE := hX; clear hX
                              replace ex := fx.trans ex; clear fx
                              replace ey := fy.trans ey; clear fy
                              replace ec := fc.trans ec; clear fc
                              replace ee := fe.trans ee; clear fe
                              replace eg := fg.trans eg; clear fg
                              replace el := fl.trans el; clear fl
                              go_upto_region 19 with fail
                              go_cut [16] (fun s16 Z => Ext w Z ∧ s16 = .bool ab4 ∧ Z.heap[gc]? = some (ivO al4 ah4) ∧ Z.heap[gx]? = wc.heap[gx]? ∧ Z.heap[gy]? = wc.heap[gy]? ∧ Z.heap[ga]? = wc.heap[ga]? ∧ Z.heap[ge]? = wc.heap[ge]? ∧ Z.heap[gg]? = wc.heap[gg]? ∧ Z.heap[gl]? = wc.heap[gl]?)
                              case first =>
                                as_aux_lemma =>
                                  obtain ⟨cx0, cx1, cx2, cx3⟩ := iv_of ex
                                  obtain ⟨cy0, cy1, cy2, cy3⟩ := iv_of ey
                                  obtain ⟨cc0, cc1, cc2, cc3⟩ := iv_of ec
                                  have fz0 : wc.frozen? ⟨gc, 0, none⟩ = false := froz_of ec
                                  have fz1 : wc.frozen? ⟨gc, 1, none⟩ = false := froz_of ec
                                  have hmc := more_cell
                                  have hmh := more_heap
                                  have hmf := more_frozen
                                  go_wp2_with (go_at_call 25; first | ((with_reducible refine (C4b.out _).mono ?_); rintro e w' ⟨rfl, q, rfl⟩))
                                  all_goals
                                    go_meet
                                    refine ⟨?_, rfl, ?_, ?_, ?_, ?_, ?_, ?_, ?_⟩
                                    · repeat (first | exact hE | refine Ext.mored ?_ _ | refine ext_drewW ?_ | refine Ext.drewN ?_ _ | refine Ext.alloc ?_ _ | (refine Ext.setCell ?_ (by omega) _))
                                    · repeat (first | exact heap_set2 ec | exact heap_set2 (at_more ec) | exact heap_set2 (at_more (at_drew1 ec)) | exact heap_set2 (at_more (at_more (at_drew1 ec))) | refine at_more ?_ | refine at_drew1 ?_)
                                    · refine Eq.trans ?_ ex.symm
                                      repeat (first | exact ex | refine heap_set_other _ (by omega) ?_ | refine at_more ?_ | refine at_drew1 ?_)
                                    · refine Eq.trans ?_ ey.symm
                                      repeat (first | exact ey | refine heap_set_other _ (by omega) ?_ | refine at_more ?_ | refine at_drew1 ?_)
                                    · refine Eq.trans ?_ ea.symm
                                      repeat (first | exact ea | refine heap_set_other _ (by omega) ?_ | refine at_more ?_ | refine at_drew1 ?_)
                                    · refine Eq.trans ?_ ee.symm
                                      repeat (first | exact ee | refine heap_set_other _ (by omega) ?_ | refine at_more ?_ | refine at_drew1 ?_)
                                    · refine Eq.trans ?_ eg.symm
                                      repeat (first | exact eg | refine heap_set_other _ (by omega) ?_ | refine at_more ?_ | refine at_drew1 ?_)
                                    · refine Eq.trans ?_ el.symm
                                      repeat (first | exact el | refine heap_set_other _ (by omega) ?_ | refine at_more ?_ | refine at_drew1 ?_)
                              case rest =>
                                obtain ⟨hX, rfl, ec, fx, fy, fa, fe, fg, fl⟩ := hcut
                                clear hE; have hE := hX; clear hX
                                replace ex := fx.trans ex; clear fx
                                replace ey := fy.trans ey; clear fy
                                replace ea := fa.trans ea; clear fa
                                replace ee := fe.trans ee; clear fe
                                replace eg := fg.trans eg; clear fg
                                replace el := fl.trans el; clear fl
                                obtain ⟨ca0, ca1, ca2, ca3⟩ := iv_of ea
                                obtain ⟨cc0, cc1, cc2, cc3⟩ := iv_of ec
                                have hn := neq_iv_same
                                have HE := Lib.hid hE
                                have EL := Lib.hid el
                                clear hE el
                                go_wp2_with fail
                                go_roundg (gk - 1)
                                case measure => omega
                                case rel => exact ⟨i + 1, by omega, by go_num, HE.out, EL.out⟩
end Go.Proofs.Ytdbemgjjahcabaa
