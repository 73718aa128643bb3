/- The walk of ScaleStaysValid: it returns true. -/
import Derived.Test.YtmehclilgmigkaaPix3
import Derived.Test.YtmehclilgmigkaaHeap
import Derived.Deep.RegionHeld3
import Derived.Deep.DeepCutAuto
namespace Go.Proofs.Ytmehclilgmigkaa
open Go.RowKit

theorem pix_more {W : World} {g : Nat} {x y z a f : Int} (hg : g < W.heap.size) (h : Pix5 W g x y z a f) (p : Extra) : Pix5 (more W p) g x y z a f :=
  ⟨(more_cell W p g 0 hg).trans h.1, (more_cell W p g 1 hg).trans h.2.1, (more_cell W p g 2 hg).trans h.2.2.1, (more_cell W p g 3 hg).trans h.2.2.2.1, (more_cell W p g 4 hg).trans h.2.2.2.2.1, (more_heap W p g hg).trans h.2.2.2.2.2⟩
theorem at_world {P : Program} {c : Code} {Q : Exit → Act → World → Prop} {a : Act} {W : World} (F : World → Prop) (h : F W) (k : ∀ W, F W → c.wp P Q a W) : c.wp P Q a W := k W h
theorem awake11_more (w : World) : Calls Try.prog 25 #[] w fun e w' => e = .returned (.bool true) ∧ ∃ q, w' = more w q :=
  (awake11_call w).mono fun _ _ ⟨h, o1, o2, o3, o4, hw⟩ => ⟨h, ⟨[o1, o2, o3, o4], 0⟩, hw⟩
theorem scaled_max (x m : Int) (m0 : 1 ≤ m) : halfI (x * m) m = x := half_mul x m m0
theorem scaled_zero (x m : Int) (m0 : 1 ≤ m) : halfI (x * 0) m = 0 := by rw [Int.mul_zero, half_eq _ _ m0, Int.ediv_eq_zero_of_lt (by omega) (by omega)]
theorem scale_at (x y z a f k m : Int) (hm : m = 255 ∨ m = 65535) (hv : validB x y z a f m = true) (x0 : 0 ≤ x) (y0 : 0 ≤ y) (z0 : 0 ≤ z) (k0 : 0 ≤ k) (k1 : k ≤ m) (W : World) :
    Calls Try.prog 24 #[.agg #[.int .u16 x, .int .u16 y, .int .u16 z, .int .u16 a, .int .u16 f], .int .u16 k, .int .u16 m] W fun e w' => e = .returned (.tuple #[.agg #[.int .u16 (halfI (x * k) m), .int .u16 (halfI (y * k) m), .int .u16 (halfI (z * k) m), .int .u16 (halfI (a * k) m), .int .u16 (halfI (f * k) m)], .bool true]) ∧ ∃ o1 o2 o3 : Obj, w' = (((W.alloc o1).alloc o2).alloc o3) := by
  rcases hm with rfl | rfl
  · exact scale255 _ _ _ _ _ _ W hv x0 y0 z0 k0 k1
  · exact scale65535 _ _ _ _ _ _ W hv x0 y0 z0 k0 k1
theorem scale_whole (x y z a f m : Int) (hm : m = 255 ∨ m = 65535) (hv : validB x y z a f m = true) (x0 : 0 ≤ x) (y0 : 0 ≤ y) (z0 : 0 ≤ z) (W : World) :
    Calls Try.prog 24 #[.agg #[.int .u16 x, .int .u16 y, .int .u16 z, .int .u16 a, .int .u16 f], .int .u16 m, .int .u16 m] W fun e w' => e = .returned (.tuple #[.agg #[.int .u16 x, .int .u16 y, .int .u16 z, .int .u16 a, .int .u16 f], .bool true]) ∧ ∃ o1 o2 o3 : Obj, w' = (((W.alloc o1).alloc o2).alloc o3) := by
  have h := scale_at x y z a f m m hm hv x0 y0 z0 (by omega) (by omega) W
  rw [scaled_max x m (by omega), scaled_max y m (by omega), scaled_max z m (by omega), scaled_max a m (by omega), scaled_max f m (by omega)] at h
  exact h
theorem scale_none (x y z a f m : Int) (hm : m = 255 ∨ m = 65535) (hv : validB x y z a f m = true) (x0 : 0 ≤ x) (y0 : 0 ≤ y) (z0 : 0 ≤ z) (W : World) :
    Calls Try.prog 24 #[.agg #[.int .u16 x, .int .u16 y, .int .u16 z, .int .u16 a, .int .u16 f], .int .u16 0, .int .u16 m] W fun e w' => e = .returned (.tuple #[.agg #[.int .u16 0, .int .u16 0, .int .u16 0, .int .u16 0, .int .u16 0], .bool true]) ∧ ∃ o1 o2 o3 : Obj, w' = (((W.alloc o1).alloc o2).alloc o3) := by
  have h := scale_at x y z a f 0 m hm hv x0 y0 z0 (by omega) (by omega) W
  rw [scaled_zero x m (by omega), scaled_zero y m (by omega), scaled_zero z m (by omega), scaled_zero a m (by omega), scaled_zero f m (by omega)] at h
  exact h
theorem both_at (x y z a f k j m : Int) (hm : m = 255 ∨ m = 65535) (hv : validB x y z a f m = true) (x0 : 0 ≤ x) (y0 : 0 ≤ y) (z0 : 0 ≤ z) (k0 : 0 ≤ k) (k1 : k ≤ m) (j0 : 0 ≤ j) (j1 : j ≤ m) :
    ∃ x' y' z' a' f' : Int, (∀ W : World, Calls Try.prog 38 #[.agg #[.int .u16 x, .int .u16 y, .int .u16 z, .int .u16 a, .int .u16 f], .int .u16 k, .int .u16 j, .int .u16 m] W fun e w' => e = .returned (.tuple #[.agg #[.int .u16 x', .int .u16 y', .int .u16 z', .int .u16 a', .int .u16 f'], .bool true]) ∧ ∃ o1 o2 o3 o4 o5 o6 o7 o8 : Obj, w' = ((((((((W.alloc o1).alloc o2).alloc o3).alloc o4).alloc o5).alloc o6).alloc o7).alloc o8)) ∧
      validB x' y' z' a' f' m = true := by
  have hv2 := valid_scaled _ _ _ _ _ j m (valid_scaled x y z a f k m hv (by omega) k0 k1) (by omega) j0 j1
  refine ⟨_, _, _, _, _, fun W => ?_, hv2⟩
  rcases hm with rfl | rfl
  · exact both255 _ _ _ _ _ _ _ W hv x0 y0 z0 k0 k1 j0 j1
  · exact both65535 _ _ _ _ _ _ _ W hv x0 y0 z0 k0 k1 j0 j1

set_option maxHeartbeats 8000000 in
theorem stay_at (n0 n1 n2 n3 n4 k j t m : Int) (w : World) (h0 : -9223372036854775808 ≤ n0) (g0 : n0 ≤ 9223372036854775807) (h1 : -9223372036854775808 ≤ n1) (g1 : n1 ≤ 9223372036854775807) (h2 : -9223372036854775808 ≤ n2) (g2 : n2 ≤ 9223372036854775807) (h3 : -9223372036854775808 ≤ n3) (g3 : n3 ≤ 9223372036854775807) (h4 : -9223372036854775808 ≤ n4) (g4 : n4 ≤ 9223372036854775807) (k0 : -9223372036854775808 ≤ k) (k1 : k ≤ 9223372036854775807) (j0 : -9223372036854775808 ≤ j) (j1 : j ≤ 9223372036854775807) (hmt : gmax t = m) (hm : m = 255 ∨ m = 65535) :
    Calls Try.prog 10 #[.agg #[.int .i64 n0, .int .i64 n1, .int .i64 n2, .int .i64 n3, .int .i64 n4], .int .i64 k, .int .i64 j, .int .i64 t] w fun e w' => e = .returned (.bool true) ∧ Below w.heap.size w w' := by
  obtain ⟨s0, s1⟩ := gsam_bounds k m (by omega)
  obtain ⟨t0, t1⟩ := gsam_bounds j m (by omega)
  have m0 : 0 ≤ m := by omega
  have m1 : m ≤ 65535 := by omega
  have CM : ∀ W : World, Calls Try.prog 16 #[.int .i64 t] W fun e w' => e = .returned (.int .u16 m) ∧ W = w' := fun W => by rw [← hmt]; exact max_call t W
  have CS : ∀ W : World, Calls Try.prog 23 #[.int .i64 k, .int .u16 m] W fun e w' => e = .returned (.int .u16 (gsam k m)) ∧ W = w' := fun W => sample_call k m W m0 m1 k0 k1
  have CT : ∀ W : World, Calls Try.prog 23 #[.int .i64 j, .int .u16 m] W fun e w' => e = .returned (.int .u16 (gsam j m)) ∧ W = w' := fun W => sample_call j m W m0 m1 j0 j1
  have CG := genPixel_ex n0 n1 n2 n3 n4 m
  have HM := Lib.hid hm
  have CM := Lib.hid @CM
  have CS := Lib.hid @CS
  have CT := Lib.hid @CT
  have CG := Lib.hid @CG
  clear hmt hm k0 k1 j0 j1
  have hsd : ∀ (w : World) (n : Nat) (a : Addr) (v : Value), (w.drewN n).setCell a v = (w.setCell a v).drewN n := fun _ _ _ _ => rfl
  have had : ∀ (w : World) (n : Nat) (o : Obj), (w.drewN n).alloc o = (w.alloc o).drewN n := fun _ _ _ => rfl
  go_enter Try.func10, Try.ntmps10
  go_upto_region 3 with (first | (go_at_call 16; (with_reducible refine (CM.out _).mono ?_); rintro e w1 ⟨rfl, rfl⟩) | (go_at_call 22; (with_reducible refine (CG.out _ m0 m1 h0 g0 h1 g1 h2 g2 h3 g3 h4 g4).mono ?_); rintro e w1 ⟨x, y, z, a, f, rfl, hv, x0, y0, z0, p1, p2, n, rfl⟩))
  obtain ⟨x', y', z', a', f', hcb, hv'⟩ := both_at x y z a f (gsam k m) (gsam j m) m HM.out hv x0 y0 z0 s0 s1 t0 t1
  have CB := Lib.hid @hcb
  clear hcb
  go_cut [10, 11, 12] (fun s10 s11 s12 wx => ∃ gp g : Nat, s10 = .pointer (some ⟨gp, 0, none⟩) ∧ s11 = .pointer (some ⟨g, 0, none⟩) ∧ s12 = .bool true ∧ Below w.heap.size w wx ∧ w.heap.size ≤ wx.heap.size ∧ g < wx.heap.size ∧ gp < wx.heap.size ∧
    Pix5 wx gp x y z a f ∧ Pix5 wx g x' y' z' a' f')
  case first =>
    go_region_held3 (fun w' => w'.cell? ⟨w.heap.size + 1 + 1 + 1, 0, none⟩ = some (.int .u16 x) ∧ w'.cell? ⟨w.heap.size + 1 + 1 + 1, 1, none⟩ = some (.int .u16 y) ∧ w'.cell? ⟨w.heap.size + 1 + 1 + 1, 2, none⟩ = some (.int .u16 z) ∧ w'.cell? ⟨w.heap.size + 1 + 1 + 1, 3, none⟩ = some (.int .u16 a) ∧ w'.cell? ⟨w.heap.size + 1 + 1 + 1, 4, none⟩ = some (.int .u16 f)) ((refine ⟨?_, ?_, ?_, ?_, ?_⟩ <;> go_simp))
      (first | (go_at_call 23; (with_reducible refine (CS.out _).mono ?_); rintro e w1 ⟨rfl, rfl⟩) | (go_at_call 23; (with_reducible refine (CT.out _).mono ?_); rintro e w1 ⟨rfl, rfl⟩) | (go_at_call 38; (with_reducible refine (CB.out _).mono ?_); rintro e w1 ⟨rfl, o1, o2, o3, o4, o5, o6, o7, o8, rfl⟩))
    all_goals
      go_wp2_with fail
      go_meet
      refine ⟨_, _, rfl, rfl, rfl, more_below w ⟨[_, _, _, _, _, _, _, _, _, _, _, _, _], _⟩, ?_, ?_, ?_, ⟨?_, ?_, ?_, ?_, ?_, ?_⟩, ⟨?_, ?_, ?_, ?_, ?_, ?_⟩⟩
      all_goals first | (go_simp; done) | (simp; omega) | (simp; done) | (refine at_drew ?_; repeat (first | (refine at_new ?_; simp; done) | refine at_old ?_))
  case rest =>
    obtain ⟨gp, g, rfl, rfl, rfl, hb, hs, hg, hgp, hp, hq⟩ := hcut
    obtain ⟨k0, k1, k2, k3, k4, kb⟩ := hp
    obtain ⟨l0, l1, l2, l3, l4, lb⟩ := hq
    have hgp1 : gp < wc.heap.size + 1 := by omega
    have hgq1 : gp ≤ wc.heap.size + 1 := by omega
    have hgp2 : gp < wc.heap.size + 1 + 1 := by omega
    have hgq2 : gp ≤ wc.heap.size + 1 + 1 := by omega
    have hgp3 : gp < wc.heap.size + 1 + 1 + 1 := by omega
    have hgq3 : gp ≤ wc.heap.size + 1 + 1 + 1 := by omega
    have hgp4 : gp < wc.heap.size + 1 + 1 + 1 + 1 := by omega
    have hgq4 : gp ≤ wc.heap.size + 1 + 1 + 1 + 1 := by omega
    have hgp5 : gp < wc.heap.size + 1 + 1 + 1 + 1 + 1 := by omega
    have hgq5 : gp ≤ wc.heap.size + 1 + 1 + 1 + 1 + 1 := by omega
    have hgp6 : gp < wc.heap.size + 1 + 1 + 1 + 1 + 1 + 1 := by omega
    have hgq6 : gp ≤ wc.heap.size + 1 + 1 + 1 + 1 + 1 + 1 := by omega
    have hgp7 : gp < wc.heap.size + 1 + 1 + 1 + 1 + 1 + 1 + 1 := by omega
    have hgq7 : gp ≤ wc.heap.size + 1 + 1 + 1 + 1 + 1 + 1 + 1 := by omega
    have CW := Lib.hid @(scale_whole x y z a f m HM.out hv x0 y0 z0)
    have CN := Lib.hid @(scale_none x y z a f m HM.out hv x0 y0 z0)
    go_upto_region 6 with (first | (go_at_call 24; (with_reducible refine (CW.out _).mono ?_); rintro e w1 ⟨rfl, r1, r2, r3, rfl⟩) | (go_at_call 24; (with_reducible refine (CN.out _).mono ?_); rintro e w1 ⟨rfl, u1, u2, u3, rfl⟩))
    refine at_world (fun W => Below w.heap.size w W ∧ w.heap.size ≤ W.heap.size ∧ gp < W.heap.size ∧ g < W.heap.size ∧ wc.heap.size + 1 + 1 + 1 < W.heap.size ∧ wc.heap.size + 1 + 1 + 1 + 1 + 1 + 1 + 1 < W.heap.size ∧
      Pix5 W gp x y z a f ∧ Pix5 W g x' y' z' a' f' ∧ Pix5 W (wc.heap.size + 1 + 1 + 1) x y z a f ∧ Pix5 W (wc.heap.size + 1 + 1 + 1 + 1 + 1 + 1 + 1) 0 0 0 0 0) ?_ ?_
    · refine ⟨below_more hb hs ⟨[_, _, _, _, _, _, _, _], 0⟩, ?_, ?_, ?_, ?_, ?_, pix_more hgp ⟨k0, k1, k2, k3, k4, kb⟩ ⟨[_, _, _, _, _, _, _, _], 0⟩, pix_more hg ⟨l0, l1, l2, l3, l4, lb⟩ ⟨[_, _, _, _, _, _, _, _], 0⟩, ⟨?_, ?_, ?_, ?_, ?_, ?_⟩, ⟨?_, ?_, ?_, ?_, ?_, ?_⟩⟩
      all_goals first | (go_simp; done) | (simp; omega) | (simp; done) | (repeat (first | (refine at_new ?_; simp; done) | refine at_old ?_))
    generalize wc.heap.size + 1 + 1 + 1 + 1 + 1 + 1 + 1 = g5
    generalize wc.heap.size + 1 + 1 + 1 = g3
    rintro wd ⟨hb, hs, h1, h2, h3, h4, ⟨i0, i1, i2, i3, i4, ib⟩, ⟨j0, j1, j2, j3, j4, jb⟩, ⟨k0, k1, k2, k3, k4, kb⟩, ⟨l0, l1, l2, l3, l4, lb⟩⟩
    have hmc := more_cell
    have hmh := more_heap
    have he := eql_pixel_same
    rw [← more_none wd]
    go_wp2_with (first | (go_at_call 25; (with_reducible refine (calls_more (awake11_more _)).mono ?_); rintro e w1 ⟨rfl, q, rfl⟩) | (go_at_call 30; (with_reducible refine (calls_more_valid (refValid_call _ _ _ _ _ _ _)).mono ?_); rintro e w1 ⟨rfl, q, rfl⟩))
    go_returns
    exact ⟨rfl, below_more hb hs _⟩

theorem scaleStaysValid_walk (n0 n1 n2 n3 n4 k j t : Int) (w : World) (h0 : -9223372036854775808 ≤ n0) (g0 : n0 ≤ 9223372036854775807) (h1 : -9223372036854775808 ≤ n1) (g1 : n1 ≤ 9223372036854775807) (h2 : -9223372036854775808 ≤ n2) (g2 : n2 ≤ 9223372036854775807) (h3 : -9223372036854775808 ≤ n3) (g3 : n3 ≤ 9223372036854775807) (h4 : -9223372036854775808 ≤ n4) (g4 : n4 ≤ 9223372036854775807) (k0 : -9223372036854775808 ≤ k) (k1 : k ≤ 9223372036854775807) (j0 : -9223372036854775808 ≤ j) (j1 : j ≤ 9223372036854775807) :
    Calls Try.prog 10 #[.agg #[.int .i64 n0, .int .i64 n1, .int .i64 n2, .int .i64 n3, .int .i64 n4], .int .i64 k, .int .i64 j, .int .i64 t] w fun e w' => e = .returned (.bool true) ∧ Below w.heap.size w w' :=
  stay_at n0 n1 n2 n3 n4 k j t _ w h0 g0 h1 g1 h2 g2 h3 g3 h4 g4 k0 k1 j0 j1 rfl (gmax_cases t)
end Go.Proofs.Ytmehclilgmigkaa
