/- The walk of ScaleAgrees: it returns true. -/
import Derived.Test.YtmehclilgmigkaaBoth
namespace Go.Proofs.Ytmehclilgmigkaa
open Go.RowKit
set_option linter.unusedVariables false

theorem below_ma {B : Nat} {a W : World} {q : Extra} {o : Obj} (h : Below B a W) (hB : B ≤ W.heap.size) : Below B a ((more W q).alloc o) := by rw [more_alloc]; exact below_more h hB _
theorem new_ma {W : World} {o : Obj} : W.heap.size < (W.alloc o).heap.size := by simp
theorem lt_ma {W : World} {q : Extra} {o : Obj} {g : Nat} (h : g < W.heap.size) : g < ((more W q).alloc o).heap.size := by rw [more_alloc, more_size]; omega
theorem le_ma {W : World} {q : Extra} {o : Obj} {g : Nat} (h : g ≤ W.heap.size) : g ≤ ((more W q).alloc o).heap.size := by rw [more_alloc, more_size]; omega
theorem pix_ma {W : World} {q : Extra} {o : Obj} {g : Nat} {x y z a f : Int} (hg : g < W.heap.size) (h : Pix5 W g x y z a f) : Pix5 ((more W q).alloc o) g x y z a f := by rw [more_alloc]; exact pix_more hg h _
theorem pix_new_ma {W : World} {x y z a f : Int} : Pix5 (W.alloc (.cells #[.int .u16 x, .int .u16 y, .int .u16 z, .int .u16 a, .int .u16 f] 35)) W.heap.size x y z a f := by
  refine ⟨?_, ?_, ?_, ?_, ?_, at_new rfl⟩ <;> go_simp
theorem four_scale (x y z a f k m : Int) (hm : m = 255 ∨ m = 65535) (hv : validB x y z a f m = true) (x0 : 0 ≤ x) (y0 : 0 ≤ y) (z0 : 0 ≤ z) (k0 : 0 ≤ k) (k1 : k ≤ m) : ∃ x1 y1 z1 a1 f1 : Int,
    (∀ W : World, Calls Try.prog 24 #[.agg #[.int .u16 x, .int .u16 y, .int .u16 z, .int .u16 a, .int .u16 f], .int .u16 k, .int .u16 m] W fun e w' => e = .returned (.tuple #[.agg #[.int .u16 x1, .int .u16 y1, .int .u16 z1, .int .u16 a1, .int .u16 f1], .bool true]) ∧ ∃ o1 o2 o3 : Obj, w' = (((W.alloc o1).alloc o2).alloc o3)) ∧
    (∀ W : World, Calls Try.prog 37 #[.agg #[.int .u16 x, .int .u16 y, .int .u16 z, .int .u16 a, .int .u16 f], .int .u16 k, .int .u16 m] W fun e w' => e = .returned (.tuple #[.agg #[.int .u16 x1, .int .u16 y1, .int .u16 z1, .int .u16 a1, .int .u16 f1], .bool true]) ∧ ∃ o1 o2 o3 o4 : Obj, ∃ n : Nat, w' = ((((W.alloc o1).alloc o2).alloc o3).alloc o4).drewN n) :=
  ⟨_, _, _, _, _, fun W => scale_at x y z a f k m hm hv x0 y0 z0 k0 k1 W, fun W => refScale_at x y z a f k m hm hv x0 y0 z0 k0 k1 W⟩
theorem four_both (x y z a f k j m : Int) (hm : m = 255 ∨ m = 65535) (hv : validB x y z a f m = true) (x0 : 0 ≤ x) (y0 : 0 ≤ y) (z0 : 0 ≤ z) (k0 : 0 ≤ k) (k1 : k ≤ m) (j0 : 0 ≤ j) (j1 : j ≤ m) : ∃ x2 y2 z2 a2 f2 : Int,
    (∀ W : World, Calls Try.prog 38 #[.agg #[.int .u16 x, .int .u16 y, .int .u16 z, .int .u16 a, .int .u16 f], .int .u16 k, .int .u16 j, .int .u16 m] W fun e w' => e = .returned (.tuple #[.agg #[.int .u16 x2, .int .u16 y2, .int .u16 z2, .int .u16 a2, .int .u16 f2], .bool true]) ∧ ∃ o1 o2 o3 o4 o5 o6 o7 o8 : Obj, w' = ((((((((W.alloc o1).alloc o2).alloc o3).alloc o4).alloc o5).alloc o6).alloc o7).alloc o8)) ∧
    (∀ W : World, Calls Try.prog 39 #[.agg #[.int .u16 x, .int .u16 y, .int .u16 z, .int .u16 a, .int .u16 f], .int .u16 k, .int .u16 j, .int .u16 m] W fun e w' => e = .returned (.tuple #[.agg #[.int .u16 x2, .int .u16 y2, .int .u16 z2, .int .u16 a2, .int .u16 f2], .bool true]) ∧ ∃ o1 o2 o3 o4 o5 o6 o7 o8 o9 o10 o11 : Obj, ∃ n : Nat, w' = (((((((((((W.alloc o1).alloc o2).alloc o3).alloc o4).alloc o5).alloc o6).alloc o7).alloc o8).alloc o9).alloc o10).alloc o11).drewN n) :=
  ⟨_, _, _, _, _, fun W => both_full x y z a f k j m hm hv x0 y0 z0 k0 k1 j0 j1 W, fun W => refBoth_at x y z a f k j m hm hv x0 y0 z0 k0 k1 j0 j1 W⟩

set_option maxHeartbeats 8000000 in
set_option maxRecDepth 100000 in
theorem agrees_at (n0 n1 n2 n3 n4 k j t xq yq zq aq fq u k2 j2 m : Int) (w : World) (h0 : -9223372036854775808 ≤ n0) (g0 : n0 ≤ 9223372036854775807) (h1 : -9223372036854775808 ≤ n1) (g1 : n1 ≤ 9223372036854775807) (h2 : -9223372036854775808 ≤ n2) (g2 : n2 ≤ 9223372036854775807) (h3 : -9223372036854775808 ≤ n3) (g3 : n3 ≤ 9223372036854775807) (h4 : -9223372036854775808 ≤ n4) (g4 : n4 ≤ 9223372036854775807) (k0 : -9223372036854775808 ≤ k) (k1 : k ≤ 9223372036854775807) (j0 : -9223372036854775808 ≤ j) (j1 : j ≤ 9223372036854775807)
    (xq0 : 0 ≤ xq) (yq0 : 0 ≤ yq) (zq0 : 0 ≤ zq) (k20 : 0 ≤ k2) (j20 : 0 ≤ j2) (hmt : gmax t = m) (hm : m = 255 ∨ m = 65535) :
    Calls Try.prog 9 #[.agg #[.int .i64 n0, .int .i64 n1, .int .i64 n2, .int .i64 n3, .int .i64 n4], .int .i64 k, .int .i64 j, .int .i64 t, .agg #[.int .u16 xq, .int .u16 yq, .int .u16 zq, .int .u16 aq, .int .u16 fq], .int .u16 u, .int .u16 k2, .int .u16 j2] w fun e w' => e = .returned (.bool true) ∧ Below w.heap.size w w' := by
  obtain ⟨s0, s1⟩ := gsam_bounds k m (by omega)
  obtain ⟨t0, t1⟩ := gsam_bounds j m (by omega)
  have m0 : 0 ≤ m := by omega
  have m1 : m ≤ 65535 := by omega
  have CM : ∀ W : World, Calls Try.prog 16 #[.int .i64 t] W fun e w' => e = .returned (.int .u16 m) ∧ W = w' := fun W => by rw [← hmt]; exact max_call t W
  have CS : ∀ W : World, Calls Try.prog 23 #[.int .i64 k, .int .u16 m] W fun e w' => e = .returned (.int .u16 (gsam k m)) ∧ W = w' := fun W => sample_call k m W m0 m1 k0 k1
  have CT : ∀ W : World, Calls Try.prog 23 #[.int .i64 j, .int .u16 m] W fun e w' => e = .returned (.int .u16 (gsam j m)) ∧ W = w' := fun W => sample_call j m W m0 m1 j0 j1
  obtain ⟨x4, y4, z4, a4, f4, b4, hs1, hs2⟩ := pair_scale xq yq zq aq fq k2 u xq0 yq0 zq0 k20
  have CG := genPixel_ex n0 n1 n2 n3 n4 m
  have HM := Lib.hid hm
  replace CM := Lib.hid @CM
  replace CS := Lib.hid @CS
  replace CT := Lib.hid @CT
  replace CG := Lib.hid @CG
  have CS1 := Lib.hid @hs1
  have CS2 := Lib.hid @hs2
  clear hs1 hs2
  clear hmt hm k0 k1 j0 j1 xq0 yq0 zq0
  have hsd : ∀ (w : World) (n : Nat) (a : Addr) (v : Value), (w.drewN n).setCell a v = (w.setCell a v).drewN n := fun _ _ _ _ => rfl
  have had : ∀ (w : World) (n : Nat) (o : Obj), (w.drewN n).alloc o = (w.alloc o).drewN n := fun _ _ _ => rfl
  go_enter Try.func9, Try.ntmps9
  go_upto_region 3 with (first | (go_at_call 16; (with_reducible refine (CM.out _).mono ?_); rintro e w1 ⟨rfl, rfl⟩) | (go_at_call 22; (with_reducible refine (CG.out _ m0 m1 h0 g0 h1 g1 h2 g2 h3 g3 h4 g4).mono ?_); rintro e w1 ⟨x, y, z, a, f, rfl, hv, x0, y0, z0, p1, p2, n, rfl⟩))
  obtain ⟨x1, y1, z1, a1, f1, hc1, hc2⟩ := four_scale x y z a f (gsam k m) m HM.out hv x0 y0 z0 s0 s1
  obtain ⟨x2, y2, z2, a2, f2, hc3, hc4⟩ := four_both x y z a f (gsam k m) (gsam j m) m HM.out hv x0 y0 z0 s0 s1 t0 t1
  obtain ⟨x3, y3, z3, a3, f3, b3, hc5, hc6⟩ := pair_both x y z a f k2 j2 m HM.out hv x0 y0 z0 k20 j20
  have C1 := Lib.hid @hc1
  have C2 := Lib.hid @hc2
  have C3 := Lib.hid @hc3
  have C4 := Lib.hid @hc4
  have C5 := Lib.hid @hc5
  have C6 := Lib.hid @hc6
  clear hc1 hc2 hc3 hc4 hc5 hc6 hv x0 y0 z0
  go_cut [12, 18, 19, 20] (fun s12 s18 s19 s20 wx => ∃ gq gp r1 : Nat, s12 = .pointer (some ⟨gq, 0, none⟩) ∧ s18 = .pointer (some ⟨gp, 0, none⟩) ∧ s19 = .pointer (some ⟨r1, 0, none⟩) ∧ s20 = .bool true ∧ Below w.heap.size w wx ∧ w.heap.size ≤ wx.heap.size ∧ gq < wx.heap.size ∧ gp < wx.heap.size ∧ r1 < wx.heap.size ∧ Pix5 wx gq xq yq zq aq fq ∧ Pix5 wx gp x y z a f ∧ Pix5 wx r1 x1 y1 z1 a1 f1)
  case first =>
    go_region_held3 (fun w' => w'.cell? ⟨(w.heap.size + 1 + 1 + 1 + 1), 0, none⟩ = some (.int .u16 x) ∧ w'.cell? ⟨(w.heap.size + 1 + 1 + 1 + 1), 1, none⟩ = some (.int .u16 y) ∧ w'.cell? ⟨(w.heap.size + 1 + 1 + 1 + 1), 2, none⟩ = some (.int .u16 z) ∧ w'.cell? ⟨(w.heap.size + 1 + 1 + 1 + 1), 3, none⟩ = some (.int .u16 a) ∧ w'.cell? ⟨(w.heap.size + 1 + 1 + 1 + 1), 4, none⟩ = some (.int .u16 f)) ((refine ⟨?_, ?_, ?_, ?_, ?_⟩ <;> go_simp))
      (first | (go_at_call 23; (with_reducible refine (CS.out _).mono ?_); rintro e w1 ⟨rfl, rfl⟩) | (go_at_call 23; (with_reducible refine (CT.out _).mono ?_); rintro e w1 ⟨rfl, rfl⟩) | (go_at_call 24; (with_reducible refine (C1.out _).mono ?_); rintro e w1 ⟨rfl, o1, o2, o3, rfl⟩))
    all_goals
      go_wp2_with fail
      go_meet
      refine ⟨_, _, _, rfl, rfl, rfl, rfl, more_below w ⟨[_, _, _, _, _, _, _, _, _], _⟩, ?_, ?_, ?_, ?_, ⟨?_, ?_, ?_, ?_, ?_, ?_⟩, ⟨?_, ?_, ?_, ?_, ?_, ?_⟩, ⟨?_, ?_, ?_, ?_, ?_, ?_⟩⟩
      all_goals first | (go_simp; done) | (simp; omega) | (simp; done) | (refine at_drew ?_; repeat (first | (refine at_new ?_; simp; done) | refine at_old ?_))
  case rest =>
  obtain ⟨gq, gp, r1, rfl, rfl, rfl, rfl, hb, hs, hgq, hgp, hr1, pgq, pgp, pr1⟩ := hcut
  have hgp1 : gp < wc.heap.size + 1 := by omega
  have hgq1 : gp ≤ wc.heap.size + 1 := by omega
  have hgp2 : gp < wc.heap.size + 1 + 1 := by omega
  have hgq2 : gp ≤ wc.heap.size + 1 + 1 := by omega
  have hgp3 : gp < wc.heap.size + 1 + 1 + 1 := by omega
  have hgq3 : gp ≤ wc.heap.size + 1 + 1 + 1 := by omega
  have hgp4 : gp < wc.heap.size + 1 + 1 + 1 + 1 := by omega
  have hgq4 : gp ≤ wc.heap.size + 1 + 1 + 1 + 1 := by omega
  have hgp5 : gp < wc.heap.size + 1 + 1 + 1 + 1 + 1 := by omega
  have hgq5 : gp ≤ wc.heap.size + 1 + 1 + 1 + 1 + 1 := by omega
  have hgp6 : gp < wc.heap.size + 1 + 1 + 1 + 1 + 1 + 1 := by omega
  have hgq6 : gp ≤ wc.heap.size + 1 + 1 + 1 + 1 + 1 + 1 := by omega
  have hgp7 : gp < wc.heap.size + 1 + 1 + 1 + 1 + 1 + 1 + 1 := by omega
  have hgq7 : gp ≤ wc.heap.size + 1 + 1 + 1 + 1 + 1 + 1 + 1 := by omega
  have hgp8 : gp < wc.heap.size + 1 + 1 + 1 + 1 + 1 + 1 + 1 + 1 := by omega
  have hgq8 : gp ≤ wc.heap.size + 1 + 1 + 1 + 1 + 1 + 1 + 1 + 1 := by omega
  have hgp9 : gp < wc.heap.size + 1 + 1 + 1 + 1 + 1 + 1 + 1 + 1 + 1 := by omega
  have hgq9 : gp ≤ wc.heap.size + 1 + 1 + 1 + 1 + 1 + 1 + 1 + 1 + 1 := by omega
  have hgp10 : gp < wc.heap.size + 1 + 1 + 1 + 1 + 1 + 1 + 1 + 1 + 1 + 1 := by omega
  have hgq10 : gp ≤ wc.heap.size + 1 + 1 + 1 + 1 + 1 + 1 + 1 + 1 + 1 + 1 := by omega
  have hgp11 : gp < wc.heap.size + 1 + 1 + 1 + 1 + 1 + 1 + 1 + 1 + 1 + 1 + 1 := by omega
  have hgq11 : gp ≤ wc.heap.size + 1 + 1 + 1 + 1 + 1 + 1 + 1 + 1 + 1 + 1 + 1 := by omega
  have hgp12 : gp < wc.heap.size + 1 + 1 + 1 + 1 + 1 + 1 + 1 + 1 + 1 + 1 + 1 + 1 := by omega
  have hgq12 : gp ≤ wc.heap.size + 1 + 1 + 1 + 1 + 1 + 1 + 1 + 1 + 1 + 1 + 1 + 1 := by omega
  have hgp13 : gp < wc.heap.size + 1 + 1 + 1 + 1 + 1 + 1 + 1 + 1 + 1 + 1 + 1 + 1 + 1 := by omega
  have hgq13 : gp ≤ wc.heap.size + 1 + 1 + 1 + 1 + 1 + 1 + 1 + 1 + 1 + 1 + 1 + 1 + 1 := by omega
  go_upto_region 4 with fail
  go_cut [21, 22] (fun s21 s22 wx => ∃ r2 : Nat, s21 = .pointer (some ⟨r2, 0, none⟩) ∧ s22 = .bool true ∧ Below w.heap.size w wx ∧ w.heap.size ≤ wx.heap.size ∧ gq < wx.heap.size ∧ gp < wx.heap.size ∧ r1 < wx.heap.size ∧ r2 < wx.heap.size ∧ Pix5 wx gq xq yq zq aq fq ∧ Pix5 wx gp x y z a f ∧ Pix5 wx r1 x1 y1 z1 a1 f1 ∧ Pix5 wx r2 x1 y1 z1 a1 f1)
  case first =>
    obtain ⟨c0, c1, c2, c3, c4, c5⟩ := id pgp
    go_region_held3 (fun w' => w'.cell? ⟨gp, 0, none⟩ = some (.int .u16 x) ∧ w'.cell? ⟨gp, 1, none⟩ = some (.int .u16 y) ∧ w'.cell? ⟨gp, 2, none⟩ = some (.int .u16 z) ∧ w'.cell? ⟨gp, 3, none⟩ = some (.int .u16 a) ∧ w'.cell? ⟨gp, 4, none⟩ = some (.int .u16 f)) ((refine ⟨?_, ?_, ?_, ?_, ?_⟩ <;> go_simp))
      (first | (go_at_call 23; (with_reducible refine (CS.out _).mono ?_); rintro e w1 ⟨rfl, rfl⟩) | (go_at_call 23; (with_reducible refine (CT.out _).mono ?_); rintro e w1 ⟨rfl, rfl⟩) | (go_at_call 37; (with_reducible refine (C2.out _).mono ?_); rintro e w1 ⟨rfl, o1, o2, o3, o4, n, rfl⟩))
    all_goals
      go_wp2_with fail
      go_meet
      refine ⟨_, rfl, rfl, below_more hb hs ⟨[_, _, _, _, _], _⟩, ?_, ?_, ?_, ?_, ?_, pix_more hgq pgq ⟨[_, _, _, _, _], _⟩, pix_more hgp pgp ⟨[_, _, _, _, _], _⟩, pix_more hr1 pr1 ⟨[_, _, _, _, _], _⟩, ⟨?_, ?_, ?_, ?_, ?_, ?_⟩⟩
      all_goals first | (go_simp; done) | (simp; omega) | (simp; done) | (refine at_drew ?_; repeat (first | (refine at_new ?_; simp; done) | refine at_old ?_))
  case rest =>
  obtain ⟨r2, rfl, rfl, hb, hs, hgq, hgp, hr1, hr2, pgq, pgp, pr1, pr2⟩ := hcut
  have hgp1 : gp < wc.heap.size + 1 := by omega
  have hgq1 : gp ≤ wc.heap.size + 1 := by omega
  have hgp2 : gp < wc.heap.size + 1 + 1 := by omega
  have hgq2 : gp ≤ wc.heap.size + 1 + 1 := by omega
  have hgp3 : gp < wc.heap.size + 1 + 1 + 1 := by omega
  have hgq3 : gp ≤ wc.heap.size + 1 + 1 + 1 := by omega
  have hgp4 : gp < wc.heap.size + 1 + 1 + 1 + 1 := by omega
  have hgq4 : gp ≤ wc.heap.size + 1 + 1 + 1 + 1 := by omega
  have hgp5 : gp < wc.heap.size + 1 + 1 + 1 + 1 + 1 := by omega
  have hgq5 : gp ≤ wc.heap.size + 1 + 1 + 1 + 1 + 1 := by omega
  have hgp6 : gp < wc.heap.size + 1 + 1 + 1 + 1 + 1 + 1 := by omega
  have hgq6 : gp ≤ wc.heap.size + 1 + 1 + 1 + 1 + 1 + 1 := by omega
  have hgp7 : gp < wc.heap.size + 1 + 1 + 1 + 1 + 1 + 1 + 1 := by omega
  have hgq7 : gp ≤ wc.heap.size + 1 + 1 + 1 + 1 + 1 + 1 + 1 := by omega
  have hgp8 : gp < wc.heap.size + 1 + 1 + 1 + 1 + 1 + 1 + 1 + 1 := by omega
  have hgq8 : gp ≤ wc.heap.size + 1 + 1 + 1 + 1 + 1 + 1 + 1 + 1 := by omega
  have hgp9 : gp < wc.heap.size + 1 + 1 + 1 + 1 + 1 + 1 + 1 + 1 + 1 := by omega
  have hgq9 : gp ≤ wc.heap.size + 1 + 1 + 1 + 1 + 1 + 1 + 1 + 1 + 1 := by omega
  have hgp10 : gp < wc.heap.size + 1 + 1 + 1 + 1 + 1 + 1 + 1 + 1 + 1 + 1 := by omega
  have hgq10 : gp ≤ wc.heap.size + 1 + 1 + 1 + 1 + 1 + 1 + 1 + 1 + 1 + 1 := by omega
  have hgp11 : gp < wc.heap.size + 1 + 1 + 1 + 1 + 1 + 1 + 1 + 1 + 1 + 1 + 1 := by omega
  have hgq11 : gp ≤ wc.heap.size + 1 + 1 + 1 + 1 + 1 + 1 + 1 + 1 + 1 + 1 + 1 := by omega
  have hgp12 : gp < wc.heap.size + 1 + 1 + 1 + 1 + 1 + 1 + 1 + 1 + 1 + 1 + 1 + 1 := by omega
  have hgq12 : gp ≤ wc.heap.size + 1 + 1 + 1 + 1 + 1 + 1 + 1 + 1 + 1 + 1 + 1 + 1 := by omega
  have hgp13 : gp < wc.heap.size + 1 + 1 + 1 + 1 + 1 + 1 + 1 + 1 + 1 + 1 + 1 + 1 + 1 := by omega
  have hgq13 : gp ≤ wc.heap.size + 1 + 1 + 1 + 1 + 1 + 1 + 1 + 1 + 1 + 1 + 1 + 1 + 1 := by omega
  go_upto_region 5 with fail
  go_cut [23, 24] (fun s23 s24 wx => ∃ r3 : Nat, s23 = .pointer (some ⟨r3, 0, none⟩) ∧ s24 = .bool true ∧ Below w.heap.size w wx ∧ w.heap.size ≤ wx.heap.size ∧ gq < wx.heap.size ∧ gp < wx.heap.size ∧ r1 < wx.heap.size ∧ r2 < wx.heap.size ∧ r3 < wx.heap.size ∧ Pix5 wx gq xq yq zq aq fq ∧ Pix5 wx gp x y z a f ∧ Pix5 wx r1 x1 y1 z1 a1 f1 ∧ Pix5 wx r2 x1 y1 z1 a1 f1 ∧ Pix5 wx r3 x2 y2 z2 a2 f2)
  case first =>
    obtain ⟨c0, c1, c2, c3, c4, c5⟩ := id pgp
    go_region_held3 (fun w' => w'.cell? ⟨gp, 0, none⟩ = some (.int .u16 x) ∧ w'.cell? ⟨gp, 1, none⟩ = some (.int .u16 y) ∧ w'.cell? ⟨gp, 2, none⟩ = some (.int .u16 z) ∧ w'.cell? ⟨gp, 3, none⟩ = some (.int .u16 a) ∧ w'.cell? ⟨gp, 4, none⟩ = some (.int .u16 f)) ((refine ⟨?_, ?_, ?_, ?_, ?_⟩ <;> go_simp))
      (first | (go_at_call 23; (with_reducible refine (CS.out _).mono ?_); rintro e w1 ⟨rfl, rfl⟩) | (go_at_call 23; (with_reducible refine (CT.out _).mono ?_); rintro e w1 ⟨rfl, rfl⟩) | (go_at_call 38; (with_reducible refine (C3.out _).mono ?_); rintro e w1 ⟨rfl, o1, o2, o3, o4, o5, o6, o7, o8, rfl⟩))
    all_goals
      go_wp2_with fail
      go_meet
      refine ⟨_, rfl, rfl, below_more hb hs ⟨[_, _, _, _, _, _, _, _, _], _⟩, ?_, ?_, ?_, ?_, ?_, ?_, pix_more hgq pgq ⟨[_, _, _, _, _, _, _, _, _], _⟩, pix_more hgp pgp ⟨[_, _, _, _, _, _, _, _, _], _⟩, pix_more hr1 pr1 ⟨[_, _, _, _, _, _, _, _, _], _⟩, pix_more hr2 pr2 ⟨[_, _, _, _, _, _, _, _, _], _⟩, ⟨?_, ?_, ?_, ?_, ?_, ?_⟩⟩
      all_goals first | (go_simp; done) | (simp; omega) | (simp; done) | (refine at_drew ?_; repeat (first | (refine at_new ?_; simp; done) | refine at_old ?_))
  case rest =>
  obtain ⟨r3, rfl, rfl, hb, hs, hgq, hgp, hr1, hr2, hr3, pgq, pgp, pr1, pr2, pr3⟩ := hcut
  have hgp1 : gp < wc.heap.size + 1 := by omega
  have hgq1 : gp ≤ wc.heap.size + 1 := by omega
  have hgp2 : gp < wc.heap.size + 1 + 1 := by omega
  have hgq2 : gp ≤ wc.heap.size + 1 + 1 := by omega
  have hgp3 : gp < wc.heap.size + 1 + 1 + 1 := by omega
  have hgq3 : gp ≤ wc.heap.size + 1 + 1 + 1 := by omega
  have hgp4 : gp < wc.heap.size + 1 + 1 + 1 + 1 := by omega
  have hgq4 : gp ≤ wc.heap.size + 1 + 1 + 1 + 1 := by omega
  have hgp5 : gp < wc.heap.size + 1 + 1 + 1 + 1 + 1 := by omega
  have hgq5 : gp ≤ wc.heap.size + 1 + 1 + 1 + 1 + 1 := by omega
  have hgp6 : gp < wc.heap.size + 1 + 1 + 1 + 1 + 1 + 1 := by omega
  have hgq6 : gp ≤ wc.heap.size + 1 + 1 + 1 + 1 + 1 + 1 := by omega
  have hgp7 : gp < wc.heap.size + 1 + 1 + 1 + 1 + 1 + 1 + 1 := by omega
  have hgq7 : gp ≤ wc.heap.size + 1 + 1 + 1 + 1 + 1 + 1 + 1 := by omega
  have hgp8 : gp < wc.heap.size + 1 + 1 + 1 + 1 + 1 + 1 + 1 + 1 := by omega
  have hgq8 : gp ≤ wc.heap.size + 1 + 1 + 1 + 1 + 1 + 1 + 1 + 1 := by omega
  have hgp9 : gp < wc.heap.size + 1 + 1 + 1 + 1 + 1 + 1 + 1 + 1 + 1 := by omega
  have hgq9 : gp ≤ wc.heap.size + 1 + 1 + 1 + 1 + 1 + 1 + 1 + 1 + 1 := by omega
  have hgp10 : gp < wc.heap.size + 1 + 1 + 1 + 1 + 1 + 1 + 1 + 1 + 1 + 1 := by omega
  have hgq10 : gp ≤ wc.heap.size + 1 + 1 + 1 + 1 + 1 + 1 + 1 + 1 + 1 + 1 := by omega
  have hgp11 : gp < wc.heap.size + 1 + 1 + 1 + 1 + 1 + 1 + 1 + 1 + 1 + 1 + 1 := by omega
  have hgq11 : gp ≤ wc.heap.size + 1 + 1 + 1 + 1 + 1 + 1 + 1 + 1 + 1 + 1 + 1 := by omega
  have hgp12 : gp < wc.heap.size + 1 + 1 + 1 + 1 + 1 + 1 + 1 + 1 + 1 + 1 + 1 + 1 := by omega
  have hgq12 : gp ≤ wc.heap.size + 1 + 1 + 1 + 1 + 1 + 1 + 1 + 1 + 1 + 1 + 1 + 1 := by omega
  have hgp13 : gp < wc.heap.size + 1 + 1 + 1 + 1 + 1 + 1 + 1 + 1 + 1 + 1 + 1 + 1 + 1 := by omega
  have hgq13 : gp ≤ wc.heap.size + 1 + 1 + 1 + 1 + 1 + 1 + 1 + 1 + 1 + 1 + 1 + 1 + 1 := by omega
  go_upto_region 6 with fail
  go_cut [25, 26] (fun s25 s26 wx => ∃ r4 : Nat, s25 = .pointer (some ⟨r4, 0, none⟩) ∧ s26 = .bool true ∧ Below w.heap.size w wx ∧ w.heap.size ≤ wx.heap.size ∧ gq < wx.heap.size ∧ gp < wx.heap.size ∧ r1 < wx.heap.size ∧ r2 < wx.heap.size ∧ r3 < wx.heap.size ∧ r4 < wx.heap.size ∧ Pix5 wx gq xq yq zq aq fq ∧ Pix5 wx gp x y z a f ∧ Pix5 wx r1 x1 y1 z1 a1 f1 ∧ Pix5 wx r2 x1 y1 z1 a1 f1 ∧ Pix5 wx r3 x2 y2 z2 a2 f2 ∧ Pix5 wx r4 x2 y2 z2 a2 f2)
  case first =>
    obtain ⟨c0, c1, c2, c3, c4, c5⟩ := id pgp
    go_region_held3 (fun w' => w'.cell? ⟨gp, 0, none⟩ = some (.int .u16 x) ∧ w'.cell? ⟨gp, 1, none⟩ = some (.int .u16 y) ∧ w'.cell? ⟨gp, 2, none⟩ = some (.int .u16 z) ∧ w'.cell? ⟨gp, 3, none⟩ = some (.int .u16 a) ∧ w'.cell? ⟨gp, 4, none⟩ = some (.int .u16 f)) ((refine ⟨?_, ?_, ?_, ?_, ?_⟩ <;> go_simp))
      (first | (go_at_call 23; (with_reducible refine (CS.out _).mono ?_); rintro e w1 ⟨rfl, rfl⟩) | (go_at_call 23; (with_reducible refine (CT.out _).mono ?_); rintro e w1 ⟨rfl, rfl⟩) | (go_at_call 39; (with_reducible refine (C4.out _).mono ?_); rintro e w1 ⟨rfl, o1, o2, o3, o4, o5, o6, o7, o8, o9, o10, o11, n, rfl⟩))
    all_goals
      go_wp2_with fail
      go_meet
      refine ⟨_, rfl, rfl, below_more hb hs ⟨[_, _, _, _, _, _, _, _, _, _, _, _], _⟩, ?_, ?_, ?_, ?_, ?_, ?_, ?_, pix_more hgq pgq ⟨[_, _, _, _, _, _, _, _, _, _, _, _], _⟩, pix_more hgp pgp ⟨[_, _, _, _, _, _, _, _, _, _, _, _], _⟩, pix_more hr1 pr1 ⟨[_, _, _, _, _, _, _, _, _, _, _, _], _⟩, pix_more hr2 pr2 ⟨[_, _, _, _, _, _, _, _, _, _, _, _], _⟩, pix_more hr3 pr3 ⟨[_, _, _, _, _, _, _, _, _, _, _, _], _⟩, ⟨?_, ?_, ?_, ?_, ?_, ?_⟩⟩
      all_goals first | (go_simp; done) | (simp; omega) | (simp; done) | (refine at_drew ?_; repeat (first | (refine at_new ?_; simp; done) | refine at_old ?_))
  case rest =>
  obtain ⟨r4, rfl, rfl, hb, hs, hgq, hgp, hr1, hr2, hr3, hr4, pgq, pgp, pr1, pr2, pr3, pr4⟩ := hcut
  obtain ⟨c0, c1, c2, c3, c4, c5⟩ := id pgq
  go_upto_region 8 with (go_at_call 24; (with_reducible refine (CS1.out _).mono ?_); rintro e w1 ⟨rfl, q, rfl⟩)
  clear c0 c1 c2 c3 c4 c5
  refine at_world (fun W => Below w.heap.size w W ∧ w.heap.size ≤ W.heap.size ∧ gq < W.heap.size ∧ gp < W.heap.size ∧ r1 < W.heap.size ∧ r2 < W.heap.size ∧ r3 < W.heap.size ∧ r4 < W.heap.size ∧ (more wc q).heap.size < W.heap.size ∧ Pix5 W gq xq yq zq aq fq ∧ Pix5 W gp x y z a f ∧ Pix5 W r1 x1 y1 z1 a1 f1 ∧ Pix5 W r2 x1 y1 z1 a1 f1 ∧ Pix5 W r3 x2 y2 z2 a2 f2 ∧ Pix5 W r4 x2 y2 z2 a2 f2 ∧ Pix5 W (more wc q).heap.size x4 y4 z4 a4 f4) ⟨below_ma hb hs, le_ma hs, lt_ma hgq, lt_ma hgp, lt_ma hr1, lt_ma hr2, lt_ma hr3, lt_ma hr4, new_ma, pix_ma hgq pgq, pix_ma hgp pgp, pix_ma hr1 pr1, pix_ma hr2 pr2, pix_ma hr3 pr3, pix_ma hr4 pr4, pix_new_ma⟩ ?_
  generalize (more wc q).heap.size = r5
  clear hb hs hgq hgp hr1 hr2 hr3 hr4 pgq pgp pr1 pr2 pr3 pr4
  rintro wc ⟨hb, hs, hgq, hgp, hr1, hr2, hr3, hr4, hr5, pgq, pgp, pr1, pr2, pr3, pr4, pr5⟩
  obtain ⟨c0, c1, c2, c3, c4, c5⟩ := id pgq
  go_upto_region 9 with (go_at_call 37; (with_reducible refine (CS2.out _).mono ?_); rintro e w1 ⟨rfl, q, rfl⟩)
  clear c0 c1 c2 c3 c4 c5
  refine at_world (fun W => Below w.heap.size w W ∧ w.heap.size ≤ W.heap.size ∧ gq < W.heap.size ∧ gp < W.heap.size ∧ r1 < W.heap.size ∧ r2 < W.heap.size ∧ r3 < W.heap.size ∧ r4 < W.heap.size ∧ r5 < W.heap.size ∧ (more wc q).heap.size < W.heap.size ∧ Pix5 W gq xq yq zq aq fq ∧ Pix5 W gp x y z a f ∧ Pix5 W r1 x1 y1 z1 a1 f1 ∧ Pix5 W r2 x1 y1 z1 a1 f1 ∧ Pix5 W r3 x2 y2 z2 a2 f2 ∧ Pix5 W r4 x2 y2 z2 a2 f2 ∧ Pix5 W r5 x4 y4 z4 a4 f4 ∧ Pix5 W (more wc q).heap.size x4 y4 z4 a4 f4) ⟨below_ma hb hs, le_ma hs, lt_ma hgq, lt_ma hgp, lt_ma hr1, lt_ma hr2, lt_ma hr3, lt_ma hr4, lt_ma hr5, new_ma, pix_ma hgq pgq, pix_ma hgp pgp, pix_ma hr1 pr1, pix_ma hr2 pr2, pix_ma hr3 pr3, pix_ma hr4 pr4, pix_ma hr5 pr5, pix_new_ma⟩ ?_
  generalize (more wc q).heap.size = r6
  clear hb hs hgq hgp hr1 hr2 hr3 hr4 hr5 pgq pgp pr1 pr2 pr3 pr4 pr5
  rintro wc ⟨hb, hs, hgq, hgp, hr1, hr2, hr3, hr4, hr5, hr6, pgq, pgp, pr1, pr2, pr3, pr4, pr5, pr6⟩
  obtain ⟨c0, c1, c2, c3, c4, c5⟩ := id pgp
  go_upto_region 10 with (go_at_call 38; (with_reducible refine (C5.out _).mono ?_); rintro e w1 ⟨rfl, q, rfl⟩)
  clear c0 c1 c2 c3 c4 c5
  refine at_world (fun W => Below w.heap.size w W ∧ w.heap.size ≤ W.heap.size ∧ gq < W.heap.size ∧ gp < W.heap.size ∧ r1 < W.heap.size ∧ r2 < W.heap.size ∧ r3 < W.heap.size ∧ r4 < W.heap.size ∧ r5 < W.heap.size ∧ r6 < W.heap.size ∧ (more wc q).heap.size < W.heap.size ∧ Pix5 W gq xq yq zq aq fq ∧ Pix5 W gp x y z a f ∧ Pix5 W r1 x1 y1 z1 a1 f1 ∧ Pix5 W r2 x1 y1 z1 a1 f1 ∧ Pix5 W r3 x2 y2 z2 a2 f2 ∧ Pix5 W r4 x2 y2 z2 a2 f2 ∧ Pix5 W r5 x4 y4 z4 a4 f4 ∧ Pix5 W r6 x4 y4 z4 a4 f4 ∧ Pix5 W (more wc q).heap.size x3 y3 z3 a3 f3) ⟨below_ma hb hs, le_ma hs, lt_ma hgq, lt_ma hgp, lt_ma hr1, lt_ma hr2, lt_ma hr3, lt_ma hr4, lt_ma hr5, lt_ma hr6, new_ma, pix_ma hgq pgq, pix_ma hgp pgp, pix_ma hr1 pr1, pix_ma hr2 pr2, pix_ma hr3 pr3, pix_ma hr4 pr4, pix_ma hr5 pr5, pix_ma hr6 pr6, pix_new_ma⟩ ?_
  generalize (more wc q).heap.size = r7
  clear hb hs hgq hgp hr1 hr2 hr3 hr4 hr5 hr6 pgq pgp pr1 pr2 pr3 pr4 pr5 pr6
  rintro wc ⟨hb, hs, hgq, hgp, hr1, hr2, hr3, hr4, hr5, hr6, hr7, pgq, pgp, pr1, pr2, pr3, pr4, pr5, pr6, pr7⟩
  obtain ⟨c0, c1, c2, c3, c4, c5⟩ := id pgp
  go_upto_region 11 with (go_at_call 39; (with_reducible refine (C6.out _).mono ?_); rintro e w1 ⟨rfl, q, rfl⟩)
  clear c0 c1 c2 c3 c4 c5
  refine at_world (fun W => Below w.heap.size w W ∧ w.heap.size ≤ W.heap.size ∧ gq < W.heap.size ∧ gp < W.heap.size ∧ r1 < W.heap.size ∧ r2 < W.heap.size ∧ r3 < W.heap.size ∧ r4 < W.heap.size ∧ r5 < W.heap.size ∧ r6 < W.heap.size ∧ r7 < W.heap.size ∧ (more wc q).heap.size < W.heap.size ∧ Pix5 W gq xq yq zq aq fq ∧ Pix5 W gp x y z a f ∧ Pix5 W r1 x1 y1 z1 a1 f1 ∧ Pix5 W r2 x1 y1 z1 a1 f1 ∧ Pix5 W r3 x2 y2 z2 a2 f2 ∧ Pix5 W r4 x2 y2 z2 a2 f2 ∧ Pix5 W r5 x4 y4 z4 a4 f4 ∧ Pix5 W r6 x4 y4 z4 a4 f4 ∧ Pix5 W r7 x3 y3 z3 a3 f3 ∧ Pix5 W (more wc q).heap.size x3 y3 z3 a3 f3) ⟨below_ma hb hs, le_ma hs, lt_ma hgq, lt_ma hgp, lt_ma hr1, lt_ma hr2, lt_ma hr3, lt_ma hr4, lt_ma hr5, lt_ma hr6, lt_ma hr7, new_ma, pix_ma hgq pgq, pix_ma hgp pgp, pix_ma hr1 pr1, pix_ma hr2 pr2, pix_ma hr3 pr3, pix_ma hr4 pr4, pix_ma hr5 pr5, pix_ma hr6 pr6, pix_ma hr7 pr7, pix_new_ma⟩ ?_
  generalize (more wc q).heap.size = r8
  clear hb hs hgq hgp hr1 hr2 hr3 hr4 hr5 hr6 hr7 pgq pgp pr1 pr2 pr3 pr4 pr5 pr6 pr7
  rintro wc ⟨hb, hs, hgq, hgp, hr1, hr2, hr3, hr4, hr5, hr6, hr7, hr8, pgq, pgp, pr1, pr2, pr3, pr4, pr5, pr6, pr7, pr8⟩
  obtain ⟨gq_0, gq_1, gq_2, gq_3, gq_4, gq_5⟩ := pgq
  obtain ⟨gp_0, gp_1, gp_2, gp_3, gp_4, gp_5⟩ := pgp
  obtain ⟨r1_0, r1_1, r1_2, r1_3, r1_4, r1_5⟩ := pr1
  obtain ⟨r2_0, r2_1, r2_2, r2_3, r2_4, r2_5⟩ := pr2
  obtain ⟨r3_0, r3_1, r3_2, r3_3, r3_4, r3_5⟩ := pr3
  obtain ⟨r4_0, r4_1, r4_2, r4_3, r4_4, r4_5⟩ := pr4
  obtain ⟨r5_0, r5_1, r5_2, r5_3, r5_4, r5_5⟩ := pr5
  obtain ⟨r6_0, r6_1, r6_2, r6_3, r6_4, r6_5⟩ := pr6
  obtain ⟨r7_0, r7_1, r7_2, r7_3, r7_4, r7_5⟩ := pr7
  obtain ⟨r8_0, r8_1, r8_2, r8_3, r8_4, r8_5⟩ := pr8
  have hmc := more_cell
  have hmh := more_heap
  have he := eql_pixel_same
  rw [← more_none wc]
  go_wp2_with (go_at_call 25; (with_reducible refine (calls_more (awake11_more _)).mono ?_); rintro e w1 ⟨rfl, q, rfl⟩)
  go_returns
  exact ⟨rfl, below_more hb hs _⟩

theorem scaleAgrees_walk (n0 n1 n2 n3 n4 k j t xq yq zq aq fq u k2 j2 : Int) (w : World) (h0 : -9223372036854775808 ≤ n0) (g0 : n0 ≤ 9223372036854775807) (h1 : -9223372036854775808 ≤ n1) (g1 : n1 ≤ 9223372036854775807) (h2 : -9223372036854775808 ≤ n2) (g2 : n2 ≤ 9223372036854775807) (h3 : -9223372036854775808 ≤ n3) (g3 : n3 ≤ 9223372036854775807) (h4 : -9223372036854775808 ≤ n4) (g4 : n4 ≤ 9223372036854775807) (k0 : -9223372036854775808 ≤ k) (k1 : k ≤ 9223372036854775807) (j0 : -9223372036854775808 ≤ j) (j1 : j ≤ 9223372036854775807) (_ : -9223372036854775808 ≤ t) (_ : t ≤ 9223372036854775807)
    (xq0 : 0 ≤ xq) (_ : xq ≤ 65535) (yq0 : 0 ≤ yq) (_ : yq ≤ 65535) (zq0 : 0 ≤ zq) (_ : zq ≤ 65535) (_ : 0 ≤ aq) (_ : aq ≤ 65535) (_ : 0 ≤ fq) (_ : fq ≤ 65535) (_ : 0 ≤ u) (_ : u ≤ 65535) (k20 : 0 ≤ k2) (_ : k2 ≤ 65535) (j20 : 0 ≤ j2) (_ : j2 ≤ 65535) :
    Calls Try.prog 9 #[.agg #[.int .i64 n0, .int .i64 n1, .int .i64 n2, .int .i64 n3, .int .i64 n4], .int .i64 k, .int .i64 j, .int .i64 t, .agg #[.int .u16 xq, .int .u16 yq, .int .u16 zq, .int .u16 aq, .int .u16 fq], .int .u16 u, .int .u16 k2, .int .u16 j2] w fun e w' => e = .returned (.bool true) ∧ Below w.heap.size w w' :=
  agrees_at n0 n1 n2 n3 n4 k j t xq yq zq aq fq u k2 j2 _ w h0 g0 h1 g1 h2 g2 h3 g3 h4 g4 k0 k1 j0 j1 xq0 yq0 zq0 k20 j20 rfl (gmax_cases t)
end Go.Proofs.Ytmehclilgmigkaa
