/- The walk of IntervalIsMonotone. -/
import Derived.Test.YtdbemgjjahcabaaLaw28b
import Derived.Deep.RegionHeld3
namespace Go.Proofs.Ytdbemgjjahcabaa
open Go.RowKit
set_option linter.unusedVariables false

theorem ext_drew (w : World) : Ext w w.drew := ⟨⟨[], 1⟩, rfl⟩
theorem ext_drewW {w W : World} (h : Ext w W) : Ext w W.drew := h.drewN 1
theorem at_drew1 {W : World} {g : Nat} {v : Obj} (h : W.heap[g]? = some v) : W.drew.heap[g]? = some v := h
theorem mLo_le (xl xh yl yh : Int) : mLo xl xh yl yh * 1099511627776 ≤ xl * yl ∧ mLo xl xh yl yh * 1099511627776 ≤ xl * yh ∧ mLo xl xh yl yh * 1099511627776 ≤ xh * yl ∧ mLo xl xh yl yh * 1099511627776 ≤ xh * yh := by
  have f : ∀ P m : Int, m ≤ P / 1099511627776 → m * 1099511627776 ≤ P := fun P m h => (le_flo (by decide)).1 h
  refine ⟨f _ _ ?_, f _ _ ?_, f _ _ ?_, f _ _ ?_⟩ <;> (unfold mLo cLo min4; omega)
theorem le_mHi (xl xh yl yh : Int) : xl * yl ≤ mHi xl xh yl yh * 1099511627776 ∧ xl * yh ≤ mHi xl xh yl yh * 1099511627776 ∧ xh * yl ≤ mHi xl xh yl yh * 1099511627776 ∧ xh * yh ≤ mHi xl xh yl yh * 1099511627776 := by
  have f : ∀ P m : Int, cei P 1099511627776 ≤ m → P ≤ m * 1099511627776 := fun P m h => (cei_le (by decide)).1 h
  refine ⟨f _ _ ?_, f _ _ ?_, f _ _ ?_, f _ _ ?_⟩ <;> (unfold mHi cHi max4; omega)
theorem mul_wide {wl wh xl xh yl yh : Int} (h1 : wl ≤ xl) (h2 : xl ≤ xh) (h3 : xh ≤ wh) (hy : yl ≤ yh) :
    mLo wl wh yl yh ≤ mLo xl xh yl yh ∧ mHi xl xh yl yh ≤ mHi wl wh yl yh := by
  obtain ⟨a1, a2, a3, a4⟩ := mLo_le wl wh yl yh
  obtain ⟨b1, b2, b3, b4⟩ := le_mHi wl wh yl yh
  have lo : ∀ x y : Int, wl ≤ x → x ≤ wh → yl ≤ y → y ≤ yh → mLo wl wh yl yh ≤ x * y / 1099511627776 := fun x y c1 c2 c3 c4 => by
    have := @bil_lo _ wl wh yl yh x y 1 1 (by omega) (by omega) (by omega) (by omega) (by omega) (by omega) a1 a2 a3 a4
    exact (le_flo (by decide)).2 (by omega)
  have hi : ∀ x y : Int, wl ≤ x → x ≤ wh → yl ≤ y → y ≤ yh → cei (x * y) 1099511627776 ≤ mHi wl wh yl yh := fun x y c1 c2 c3 c4 => by
    have := @bil_hi _ wl wh yl yh x y 1 1 (by omega) (by omega) (by omega) (by omega) (by omega) (by omega) b1 b2 b3 b4
    exact (cei_le (by decide)).2 (by omega)
  have l1 := lo xl yl (by omega) (by omega) (by omega) hy
  have l2 := lo xl yh (by omega) (by omega) hy (by omega)
  have l3 := lo xh yl (by omega) (by omega) (by omega) hy
  have l4 := lo xh yh (by omega) (by omega) hy (by omega)
  have r1 := hi xl yl (by omega) (by omega) (by omega) hy
  have r2 := hi xl yh (by omega) (by omega) hy (by omega)
  have r3 := hi xh yl (by omega) (by omega) (by omega) hy
  have r4 := hi xh yh (by omega) (by omega) hy (by omega)
  generalize mLo wl wh yl yh = L at *
  generalize mHi wl wh yl yh = H at *
  unfold mLo mHi cLo cHi min4 max4
  omega
theorem mono_plain {xl xh yl yh kl kh : Int} (hx : ivB xl xh = true) (hy : ivB yl yh = true) (hk : ivB kl kh = true) (x1 : -2199023255552 ≤ xl) (x2 : xh ≤ 4398046511102) (y1 : -2199023255552 ≤ yl) (y2 : yh ≤ 4398046511102) (k1 : -2199023255552 ≤ kl) (k2 : kh ≤ 4398046511102) :
    ∃ wl wh al ah bl bh cl ch dl dh : Int, (∀ w, Calls Try.prog 24 #[.agg #[.int .i64 (xl), .int .i64 (xh)], .agg #[.int .i64 (kl), .int .i64 (kh)]] w fun e w' => e = .returned (.tuple #[.agg #[.int .i64 (wl), .int .i64 (wh)], .bool (true)]) ∧ ∃ p, w' = more w p) ∧ (∀ w, Calls Try.prog 26 #[.agg #[.int .i64 (xl), .int .i64 (xh)], .agg #[.int .i64 (yl), .int .i64 (yh)]] w fun e w' => e = .returned (.tuple #[.agg #[.int .i64 (al), .int .i64 (ah)], .bool (true)]) ∧ ∃ p, w' = more w p) ∧ (∀ w, Calls Try.prog 26 #[.agg #[.int .i64 (wl), .int .i64 (wh)], .agg #[.int .i64 (yl), .int .i64 (yh)]] w fun e w' => e = .returned (.tuple #[.agg #[.int .i64 (bl), .int .i64 (bh)], .bool (true)]) ∧ ∃ p, w' = more w p) ∧ (∀ w, Calls Try.prog 16 #[.agg #[.int .i64 (xl), .int .i64 (xh)], .agg #[.int .i64 (yl), .int .i64 (yh)]] w fun e w' => e = .returned (.tuple #[.agg #[.int .i64 (cl), .int .i64 (ch)], .bool (true)]) ∧ ∃ p, w' = more w p) ∧ (∀ w, Calls Try.prog 16 #[.agg #[.int .i64 (wl), .int .i64 (wh)], .agg #[.int .i64 (yl), .int .i64 (yh)]] w fun e w' => e = .returned (.tuple #[.agg #[.int .i64 (dl), .int .i64 (dh)], .bool (true)]) ∧ ∃ p, w' = more w p) ∧ bl ≤ al ∧ ah ≤ bh ∧ dl ≤ cl ∧ ch ≤ dh := by
  obtain ⟨x0, _, _⟩ := ivB_parts hx
  obtain ⟨y0, _, _⟩ := ivB_parts hy
  obtain ⟨k0, _, _⟩ := ivB_parts hk
  have hw : ivB (min xl kl) (max xh kh) = true := decide_eq_true (by omega)
  obtain ⟨w1, w2⟩ : min xl kl ≤ xl ∧ xh ≤ max xh kh := by omega
  have w3 : -2199023255552 ≤ min xl kl ∧ max xh kh ≤ 4398046511102 := by omega
  have c1 := fun w => hull_call xl xh kl kh w
  rw [hx, hk] at c1
  obtain ⟨g1, g2, g3⟩ := mk_good' (ok := true && true) rfl hw
  rw [g1, g2, g3] at c1
  generalize min xl kl = wl at *
  generalize max xh kh = wh at *
  obtain ⟨m1, m2⟩ := mul_ok hx hy (by omega) (by omega) (by omega) (by omega)
  obtain ⟨m3, m4⟩ := mul_ok hw hy (by omega) (by omega) (by omega) (by omega)
  have c2 := fun w => ivMul_call xl xh yl yh w
  have c3 := fun w => ivMul_call wl wh yl yh w
  obtain ⟨g4, g5, g6⟩ := mk_good' m1 m2
  obtain ⟨g7, g8, g9⟩ := mk_good' m3 m4
  rw [g4, g5, g6] at c2
  rw [g7, g8, g9] at c3
  have c4 := fun w => sub_call xl xh yl yh w
  have c5 := fun w => sub_call wl wh yl yh w
  obtain ⟨g10, g11, g12⟩ := mk_good' (lo := xl - yh) (hi := xh - yl) (ok := true && true) rfl (decide_eq_true (by omega))
  obtain ⟨g13, g14, g15⟩ := mk_good' (lo := wl - yh) (hi := wh - yl) (ok := true && true) rfl (decide_eq_true (by omega))
  rw [hx, hy, g10, g11, g12] at c4
  rw [hw, hy, g13, g14, g15] at c5
  obtain ⟨q1, q2⟩ := mul_wide w1 x0 w2 y0
  exact ⟨wl, wh, _, _, _, _, _, _, _, _, c1, c2, c3, c4, c5, q1, q2, by omega, by omega⟩

set_option maxHeartbeats 8000000 in
set_option maxRecDepth 100000 in
theorem intervalIsMonotone_walk (n0 n1 m0 m1 k0 k1 : Int) (w : World) (n0a : -9223372036854775808 ≤ n0) (n0b : n0 ≤ 9223372036854775807) (n1a : -9223372036854775808 ≤ n1) (n1b : n1 ≤ 9223372036854775807) (m0a : -9223372036854775808 ≤ m0) (m0b : m0 ≤ 9223372036854775807) (m1a : -9223372036854775808 ≤ m1) (m1b : m1 ≤ 9223372036854775807) (k0a : -9223372036854775808 ≤ k0) (k0b : k0 ≤ 9223372036854775807) (k1a : -9223372036854775808 ≤ k1) (k1b : k1 ≤ 9223372036854775807) :
    Calls Try.prog 7 #[.agg #[.int .i64 n0, .int .i64 n1], .agg #[.int .i64 m0, .int .i64 m1], .agg #[.int .i64 k0, .int .i64 k1]] w fun e w' => e = .returned (.bool true) ∧ Below w.heap.size w w' := by
  have hx := g_valid n0 n1
  have hy := g_valid m0 m1
  have hk := g_valid k0 k1
  have bx := g_bounds n0 n1
  have by' := g_bounds m0 m1
  have bk := g_bounds k0 k1
  obtain ⟨wl, wh, al, ah, bl, bh, cl, ch, dl, dh, c1, c2, c3, c4, c5, q1, q2, q3, q4⟩ := mono_plain hx hy hk (by omega) (by omega) (by omega) (by omega) (by omega) (by omega)
  have mx := fun w => make_call n0 n1 n1a n1b w
  have my := fun w => make_call m0 m1 m1a m1b w
  have mk := fun w => make_call k0 k1 k1a k1b w
  generalize gA n0 n1 + gW n1 = xh at *
  generalize gA n0 n1 = xl at *
  generalize gA m0 m1 + gW m1 = yh at *
  generalize gA m0 m1 = yl at *
  generalize gA k0 k1 + gW k1 = kh at *
  generalize gA k0 k1 = kl at *
  have MX := Lib.hid @mx
  have MY := Lib.hid @my
  have MK := Lib.hid @mk
  have C1 := Lib.hid @c1
  have C2 := Lib.hid @c2
  have C3 := Lib.hid @c3
  have C4 := Lib.hid @c4
  have C5 := Lib.hid @c5
  have t1 : decide (bl ≤ al) = true := decide_eq_true q1
  have t2 : decide (ah ≤ bh) = true := decide_eq_true q2
  have t3 : decide (dl ≤ cl) = true := decide_eq_true q3
  have t4 : decide (ch ≤ dh) = true := decide_eq_true q4
  clear mx my mk c1 c2 c3 c4 c5 hx hy hk bx by' bk
  go_enter Try.func7, Try.ntmps7
  go_upto_region 1 with fail
  refine at_world (fun V => Ext w V ∧ V.heap[w.heap.size]? = some (prO n0 n1) ∧ V.heap[w.heap.size + 1]? = some (prO m0 m1) ∧ V.heap[w.heap.size + 1 + 1]? = some (prO k0 k1)) ⟨⟨⟨[_, _, _], 0⟩, rfl⟩, at_old (at_old (at_new (by simp))), at_old (at_new (by simp)), at_new (by simp)⟩ ?_
  rintro wc ⟨hE, en, em, ek⟩
  go_cut [7, 8] (fun s7 s8 Z => ∃ gx gy : Nat, Ext wc Z ∧ s7 = .pointer (some ⟨gx, 0, none⟩) ∧ s8 = .pointer (some ⟨gy, 0, none⟩) ∧ Z.heap[gx]? = some (ivO xl xh) ∧ Z.heap[gy]? = some (ivO yl yh))
  case first =>
    obtain ⟨cn0, cn1, cn2, cn3⟩ := pr_of en
    obtain ⟨cm0, cm1, cm2, cm3⟩ := pr_of em
    have hmc := more_cell
    have hmh := more_heap
    have hmf := more_frozen
    have q0 : ∀ W', Ext wc W' → W'.cell? ⟨w.heap.size, 0, none⟩ = some (.int .i64 n0) := fun W' hW => (pr_of (at_ext hW en)).2.1
    have q1 : ∀ W', Ext wc W' → W'.cell? ⟨w.heap.size, 1, none⟩ = some (.int .i64 n1) := fun W' hW => (pr_of (at_ext hW en)).2.2.1
    have q2 : ∀ W', Ext wc W' → W'.cell? ⟨w.heap.size + 1, 0, none⟩ = some (.int .i64 m0) := fun W' hW => (pr_of (at_ext hW em)).2.1
    have q3 : ∀ W', Ext wc W' → W'.cell? ⟨w.heap.size + 1, 1, none⟩ = some (.int .i64 m1) := fun W' hW => (pr_of (at_ext hW em)).2.2.1
    have hq0 := fun W' (hW : Ext wc W') => (pr_of (at_ext hW en)).2.2.2
    have hq1 := fun W' (hW : Ext wc W') => (pr_of (at_ext hW em)).2.2.2
    have hms := more_setCell
    have hlt : ∀ (W : World) (p : Extra) (b : Nat), b < W.heap.size → b < (more W p).heap.size := fun W p b h => by rw [more_size]; omega
    have hlt2 : ∀ (W : World) (p q : Extra) (b : Nat), b < W.heap.size → b < (more (more W p) q).heap.size := fun W p q b h => by rw [more_size, more_size]; omega
    have hmz : ∀ (X : World) (o : Obj) (q : Extra), (more (X.alloc o) q).heap.size = (more X q).heap.size + 1 := fun X o q => by rw [more_size, more_size]; simp; omega
    have hmz2 : ∀ (X : World) (o : Obj) (p q : Extra), (more (more (X.alloc o).drew p) q).heap.size = (more (more X.drew p) q).heap.size + 1 := fun X o p q => by simp [more_size]; omega
    have hmz3 : ∀ (X : World) (o : Obj) (q : Extra), (more (X.alloc o).drew q).heap.size = (more X.drew q).heap.size + 1 := fun X o q => by simp [more_size]; omega
    have hmz4 : ∀ (X : World) (o : Obj) (p q : Extra), (more (more (X.alloc o) p) q).heap.size = (more (more X p) q).heap.size + 1 := fun X o p q => by simp [more_size]; omega
    have hl3 : ∀ (W : World) (p : Extra), W.heap.size < (more W.drew p).heap.size + 1 := fun W p => by simp [more_size]; omega
    have hl4 : ∀ (W : World) (p q : Extra), W.heap.size < (more (more W.drew p) q).heap.size + 1 := fun W p q => by simp [more_size]; omega
    have hl5 : ∀ (W : World) (p q : Extra), W.heap.size < (more (more W p) q).heap.size + 1 := fun W p q => by simp [more_size]; omega
    have hl2 : ∀ (W : World) (p : Extra), W.heap.size < (more W p).heap.size + 1 := fun W p => by rw [more_size]; omega
    have hn1 : ∀ (W : World) (p : Extra), (W.heap.size = (more W p).heap.size + 1) = False := fun W p => eq_false (by rw [more_size]; omega)
    go_region_held3 (fun w' => Ext wc w') ((repeat (first | assumption | exact Ext.refl _ | exact ext_drew _ | refine ext_drewW ?_ | refine Ext.mored ?_ _ | refine Ext.alloc ?_ _ | refine Ext.drewN ?_ _))) (first | (go_at_call 9; (with_reducible refine (MX.out _).mono ?_); rintro e w2 ⟨rfl, p, rfl⟩) | (go_at_call 9; (with_reducible refine (MY.out _).mono ?_); rintro e w2 ⟨rfl, p, rfl⟩))
    all_goals go_wp2_with fail
    all_goals
      go_meet
      refine ⟨_, _, ?_, rfl, rfl, ?_, ?_⟩
      · repeat (first | exact Ext.refl _ | exact ext_drew _ | refine ext_drewW ?_ | refine Ext.mored ?_ _ | refine Ext.alloc ?_ _)
      all_goals repeat (first | refine at_more ?_ | refine at_drew1 ?_ | (refine at_new ?_; first | with_reducible rfl | (simp [more_size]; done) | (simp [more_size]; omega)) | refine at_old ?_)
  case rest =>
    obtain ⟨gx, gy, hX, rfl, rfl, ex, ey⟩ := hcut
    replace hE := hE.trans hX
    replace en := at_ext hX en
    replace em := at_ext hX em
    replace ek := at_ext hX ek
    clear hX
    go_upto_region 2 with fail
    go_cut [9, 10] (fun s9 s10 Z => ∃ gw : Nat, Ext wc Z ∧ s9 = .pointer (some ⟨gw, 0, none⟩) ∧ s10 = .bool true ∧ Z.heap[gw]? = some (ivO wl wh))
    case first =>
      obtain ⟨cx0, cx1, cx2, cx3⟩ := iv_of ex
      obtain ⟨ck0, ck1, ck2, ck3⟩ := pr_of ek
      have hmc := more_cell
      have hmh := more_heap
      have hmf := more_frozen
      have q0 : ∀ W', Ext wc W' → W'.cell? ⟨gx, 0, none⟩ = some (.int .i64 xl) := fun W' hW => (iv_of (at_ext hW ex)).2.1
      have q1 : ∀ W', Ext wc W' → W'.cell? ⟨gx, 1, none⟩ = some (.int .i64 xh) := fun W' hW => (iv_of (at_ext hW ex)).2.2.1
      have q2 : ∀ W', Ext wc W' → W'.cell? ⟨w.heap.size + 1 + 1, 0, none⟩ = some (.int .i64 k0) := fun W' hW => (pr_of (at_ext hW ek)).2.1
      have q3 : ∀ W', Ext wc W' → W'.cell? ⟨w.heap.size + 1 + 1, 1, none⟩ = some (.int .i64 k1) := fun W' hW => (pr_of (at_ext hW ek)).2.2.1
      have hq0 := fun W' (hW : Ext wc W') => (iv_of (at_ext hW ex)).2.2.2
      have hq1 := fun W' (hW : Ext wc W') => (pr_of (at_ext hW ek)).2.2.2
      have hms := more_setCell
      have hlt : ∀ (W : World) (p : Extra) (b : Nat), b < W.heap.size → b < (more W p).heap.size := fun W p b h => by rw [more_size]; omega
      have hlt2 : ∀ (W : World) (p q : Extra) (b : Nat), b < W.heap.size → b < (more (more W p) q).heap.size := fun W p q b h => by rw [more_size, more_size]; omega
      have hmz : ∀ (X : World) (o : Obj) (q : Extra), (more (X.alloc o) q).heap.size = (more X q).heap.size + 1 := fun X o q => by rw [more_size, more_size]; simp; omega
      have hmz2 : ∀ (X : World) (o : Obj) (p q : Extra), (more (more (X.alloc o).drew p) q).heap.size = (more (more X.drew p) q).heap.size + 1 := fun X o p q => by simp [more_size]; omega
      have hmz3 : ∀ (X : World) (o : Obj) (q : Extra), (more (X.alloc o).drew q).heap.size = (more X.drew q).heap.size + 1 := fun X o q => by simp [more_size]; omega
      have hmz4 : ∀ (X : World) (o : Obj) (p q : Extra), (more (more (X.alloc o) p) q).heap.size = (more (more X p) q).heap.size + 1 := fun X o p q => by simp [more_size]; omega
      have hl3 : ∀ (W : World) (p : Extra), W.heap.size < (more W.drew p).heap.size + 1 := fun W p => by simp [more_size]; omega
      have hl4 : ∀ (W : World) (p q : Extra), W.heap.size < (more (more W.drew p) q).heap.size + 1 := fun W p q => by simp [more_size]; omega
      have hl5 : ∀ (W : World) (p q : Extra), W.heap.size < (more (more W p) q).heap.size + 1 := fun W p q => by simp [more_size]; omega
      have hl2 : ∀ (W : World) (p : Extra), W.heap.size < (more W p).heap.size + 1 := fun W p => by rw [more_size]; omega
      have hn1 : ∀ (W : World) (p : Extra), (W.heap.size = (more W p).heap.size + 1) = False := fun W p => eq_false (by rw [more_size]; omega)
      go_region_held3 (fun w' => Ext wc w') ((repeat (first | assumption | exact Ext.refl _ | exact ext_drew _ | refine ext_drewW ?_ | refine Ext.mored ?_ _ | refine Ext.alloc ?_ _ | refine Ext.drewN ?_ _))) (first | (go_at_call 9; (with_reducible refine (MK.out _).mono ?_); rintro e w2 ⟨rfl, p, rfl⟩) | (go_at_call 24; (with_reducible refine (C1.out _).mono ?_); rintro e w2 ⟨rfl, p, rfl⟩))
      all_goals go_wp2_with fail
      all_goals
        go_meet
        refine ⟨_, ?_, rfl, rfl, ?_⟩
        · repeat (first | exact Ext.refl _ | exact ext_drew _ | refine ext_drewW ?_ | refine Ext.mored ?_ _ | refine Ext.alloc ?_ _)
        all_goals repeat (first | refine at_more ?_ | refine at_drew1 ?_ | (refine at_new ?_; first | with_reducible rfl | (simp [more_size]; done) | (simp [more_size]; omega)) | refine at_old ?_)
    case rest =>
      obtain ⟨gw, hX, rfl, rfl, ew⟩ := hcut
      replace hE := hE.trans hX
      replace en := at_ext hX en
      replace em := at_ext hX em
      replace ek := at_ext hX ek
      replace ex := at_ext hX ex
      replace ey := at_ext hX ey
      clear hX
      go_upto_region 3 with fail
      go_cut [11, 12] (fun s11 s12 Z => ∃ ga : Nat, Ext wc Z ∧ s11 = .pointer (some ⟨ga, 0, none⟩) ∧ s12 = .bool true ∧ Z.heap[ga]? = some (ivO al ah))
      case first =>
        obtain ⟨cx0, cx1, cx2, cx3⟩ := iv_of ex
        obtain ⟨cy0, cy1, cy2, cy3⟩ := iv_of ey
        go_wp2_with (go_at_call 26; first | ((with_reducible refine (C2.out _).mono ?_); rintro e w' ⟨rfl, q, rfl⟩))
        go_meet
        refine ⟨_, ?_, rfl, rfl, ?_⟩
        all_goals repeat (first | exact Ext.refl _ | refine Ext.mored ?_ _ | refine Ext.drewN ?_ _ | refine Ext.alloc ?_ _ | (refine at_new ?_; first | rfl | (simp; done)) | refine at_more ?_ | refine at_drew ?_ | refine at_old ?_)
      case rest =>
        obtain ⟨ga, hX, rfl, rfl, ea⟩ := hcut
        replace hE := hE.trans hX
        replace en := at_ext hX en
        replace em := at_ext hX em
        replace ek := at_ext hX ek
        replace ex := at_ext hX ex
        replace ey := at_ext hX ey
        replace ew := at_ext hX ew
        clear hX
        go_upto_region 4 with fail
        go_cut [13, 14] (fun s13 s14 Z => ∃ gb : Nat, Ext wc Z ∧ s13 = .pointer (some ⟨gb, 0, none⟩) ∧ s14 = .bool true ∧ Z.heap[gb]? = some (ivO bl bh))
        case first =>
          obtain ⟨cw0, cw1, cw2, cw3⟩ := iv_of ew
          obtain ⟨cy0, cy1, cy2, cy3⟩ := iv_of ey
          go_wp2_with (go_at_call 26; first | ((with_reducible refine (C3.out _).mono ?_); rintro e w' ⟨rfl, q, rfl⟩))
          go_meet
          refine ⟨_, ?_, rfl, rfl, ?_⟩
          all_goals repeat (first | exact Ext.refl _ | refine Ext.mored ?_ _ | refine Ext.drewN ?_ _ | refine Ext.alloc ?_ _ | (refine at_new ?_; first | rfl | (simp; done)) | refine at_more ?_ | refine at_drew ?_ | refine at_old ?_)
        case rest =>
          obtain ⟨gb, hX, rfl, rfl, eb⟩ := hcut
          replace hE := hE.trans hX
          replace en := at_ext hX en
          replace em := at_ext hX em
          replace ek := at_ext hX ek
          replace ex := at_ext hX ex
          replace ey := at_ext hX ey
          replace ew := at_ext hX ew
          replace ea := at_ext hX ea
          clear hX
          go_upto_region 5 with fail
          go_cut [15, 16] (fun s15 s16 Z => ∃ gc : Nat, Ext wc Z ∧ s15 = .pointer (some ⟨gc, 0, none⟩) ∧ s16 = .bool true ∧ Z.heap[gc]? = some (ivO cl ch))
          case first =>
            obtain ⟨cx0, cx1, cx2, cx3⟩ := iv_of ex
            obtain ⟨cy0, cy1, cy2, cy3⟩ := iv_of ey
            go_wp2_with (go_at_call 16; first | ((with_reducible refine (C4.out _).mono ?_); rintro e w' ⟨rfl, q, rfl⟩))
            go_meet
            refine ⟨_, ?_, rfl, rfl, ?_⟩
            all_goals repeat (first | exact Ext.refl _ | refine Ext.mored ?_ _ | refine Ext.drewN ?_ _ | refine Ext.alloc ?_ _ | (refine at_new ?_; first | rfl | (simp; done)) | refine at_more ?_ | refine at_drew ?_ | refine at_old ?_)
          case rest =>
            obtain ⟨gc, hX, rfl, rfl, ec⟩ := hcut
            replace hE := hE.trans hX
            replace en := at_ext hX en
            replace em := at_ext hX em
            replace ek := at_ext hX ek
            replace ex := at_ext hX ex
            replace ey := at_ext hX ey
            replace ew := at_ext hX ew
            replace ea := at_ext hX ea
            replace eb := at_ext hX eb
            clear hX
            go_upto_region 6 with fail
            go_cut [17, 18] (fun s17 s18 Z => ∃ gd : Nat, Ext wc Z ∧ s17 = .pointer (some ⟨gd, 0, none⟩) ∧ s18 = .bool true ∧ Z.heap[gd]? = some (ivO dl dh))
            case first =>
              obtain ⟨cw0, cw1, cw2, cw3⟩ := iv_of ew
              obtain ⟨cy0, cy1, cy2, cy3⟩ := iv_of ey
              go_wp2_with (go_at_call 16; first | ((with_reducible refine (C5.out _).mono ?_); rintro e w' ⟨rfl, q, rfl⟩))
              go_meet
              refine ⟨_, ?_, rfl, rfl, ?_⟩
              all_goals repeat (first | exact Ext.refl _ | refine Ext.mored ?_ _ | refine Ext.drewN ?_ _ | refine Ext.alloc ?_ _ | (refine at_new ?_; first | rfl | (simp; done)) | refine at_more ?_ | refine at_drew ?_ | refine at_old ?_)
            case rest =>
              obtain ⟨gd, hX, rfl, rfl, ed⟩ := hcut
              replace hE := hE.trans hX
              replace en := at_ext hX en
              replace em := at_ext hX em
              replace ek := at_ext hX ek
              replace ex := at_ext hX ex
              replace ey := at_ext hX ey
              replace ew := at_ext hX ew
              replace ea := at_ext hX ea
              replace eb := at_ext hX eb
              replace ec := at_ext hX ec
              clear hX
              obtain ⟨ca0, ca1, ca2, ca3⟩ := iv_of ea
              obtain ⟨cb0, cb1, cb2, cb3⟩ := iv_of eb
              obtain ⟨cc0, cc1, cc2, cc3⟩ := iv_of ec
              obtain ⟨cd0, cd1, cd2, cd3⟩ := iv_of ed
              replace hE := Lib.hid hE
              have hmc := more_cell
              have hmh := more_heap
              have hmf := more_frozen
              go_wp2_with (go_at_call 11; first | ((with_reducible refine (awake_call _).mono ?_); rintro e w' ⟨rfl, q, rfl⟩))
              go_ret
              exact ⟨rfl, (hE.out.mored _).below'⟩
end Go.Proofs.Ytdbemgjjahcabaa
