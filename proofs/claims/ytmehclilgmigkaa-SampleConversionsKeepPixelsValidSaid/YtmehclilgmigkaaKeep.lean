/- The walk of SampleConversionsKeepPixelsValid: it returns true. -/
import Derived.Test.YtmehclilgmigkaaConv
import Derived.Test.YtmehclilgmigkaaPix3
import Derived.Test.YtmehclilgmigkaaHeap
import Derived.Test.YtmehclilgmigkaaLaw05a
import Derived.Deep.RegionHeld3
import Derived.Deep.DeepCutAuto
import Derived.BigQuiet
namespace Go.Proofs.Ytmehclilgmigkaa
open Go.RowKit BigFrame

theorem to16_mono (a b : Int) (h : a ≤ b) : to16I a ≤ to16I b := by unfold to16I; omega
theorem to8_mono (a b : Int) (h : a ≤ b) : to8I a ≤ to8I b := by rw [to8_eq, to8_eq]; omega
theorem to8_bd (v : Int) (h0 : 0 ≤ v) (h1 : v ≤ 65535) : 0 ≤ to8I v ∧ to8I v ≤ 255 := to8_bounds v h0 h1
theorem valid_wide (x y z a f : Int) (hv : validB x y z a f 255 = true) : validB (to16I x) (to16I y) (to16I z) (to16I a) (to16I f) 65535 = true := by
  obtain ⟨v0, v1, v2, v3, v4⟩ := valid_parts hv
  exact decide_eq_true ⟨to16_mono _ _ v0, to16_mono _ _ v1, to16_mono _ _ v2, to16_mono _ _ v3, by unfold to16I; omega⟩
theorem valid_narrow (x y z a f : Int) (hv : validB x y z a f 65535 = true) : validB (to8I x) (to8I y) (to8I z) (to8I a) (to8I f) 255 = true := by
  obtain ⟨v0, v1, v2, v3, v4⟩ := valid_parts hv
  exact decide_eq_true ⟨to8_mono _ _ v0, to8_mono _ _ v1, to8_mono _ _ v2, to8_mono _ _ v3, by rw [to8_eq]; omega⟩

/-- a generated pixel, the same at every call -/
theorem genPixel_at (n0 n1 n2 n3 n4 m : Int) (m0 : 0 ≤ m) (m1 : m ≤ 65535) (h0 : -9223372036854775808 ≤ n0) (g0 : n0 ≤ 9223372036854775807) (h1 : -9223372036854775808 ≤ n1) (g1 : n1 ≤ 9223372036854775807) (h2 : -9223372036854775808 ≤ n2) (g2 : n2 ≤ 9223372036854775807) (h3 : -9223372036854775808 ≤ n3) (g3 : n3 ≤ 9223372036854775807) (h4 : -9223372036854775808 ≤ n4) (g4 : n4 ≤ 9223372036854775807) :
    ∃ x y z a f : Int, (∀ w : World, Calls Try.prog 22 #[.agg #[.int .i64 n0, .int .i64 n1, .int .i64 n2, .int .i64 n3, .int .i64 n4], .int .u16 m] w fun e w' => e = .returned (.agg #[.int .u16 x, .int .u16 y, .int .u16 z, .int .u16 a, .int .u16 f]) ∧ ∃ o1 o2 : Obj, ∃ n : Nat, w' = ((w.alloc o1).alloc o2).drewN n) ∧
      validB x y z a f m = true ∧ 0 ≤ x ∧ 0 ≤ y ∧ 0 ≤ z := by
  obtain ⟨f0, f1⟩ := gsam_bounds n4 m m0
  obtain ⟨a0, a1⟩ := galp_bounds n3 n4 m m0
  obtain ⟨x0, x1⟩ := gsam_bounds n0 (galp n3 n4 m) a0
  obtain ⟨y0, y1⟩ := gsam_bounds n1 (galp n3 n4 m) a0
  obtain ⟨z0, z1⟩ := gsam_bounds n2 (galp n3 n4 m) a0
  exact ⟨_, _, _, _, _, fun w => genPixel n0 n1 n2 n3 n4 m w m0 m1 h0 g0 h1 g1 h2 g2 h3 g3 h4 g4, decide_eq_true ⟨x1, y1, z1, a1, f1⟩, x0, y0, z0⟩



set_option maxHeartbeats 8000000 in
theorem keep_gt (n0 n1 n2 n3 n4 b c : Int) (w : World) (h0 : -9223372036854775808 ≤ n0) (g0 : n0 ≤ 9223372036854775807) (h1 : -9223372036854775808 ≤ n1) (g1 : n1 ≤ 9223372036854775807) (h2 : -9223372036854775808 ≤ n2) (g2 : n2 ≤ 9223372036854775807) (h3 : -9223372036854775808 ≤ n3) (g3 : n3 ≤ 9223372036854775807) (h4 : -9223372036854775808 ≤ n4) (g4 : n4 ≤ 9223372036854775807)  (hbc : c < b) :
    Calls Try.prog 12 #[.agg #[.int .i64 n0, .int .i64 n1, .int .i64 n2, .int .i64 n3, .int .i64 n4], .int .u16 b, .int .u16 c] w fun e w' => e = .returned (.bool true) ∧ Below w.heap.size w w' := by
  obtain ⟨x, y, z, a, f, hc8, hv, x0, y0, z0⟩ := genPixel_at n0 n1 n2 n3 n4 255 (by omega) (by omega) h0 g0 h1 g1 h2 g2 h3 g3 h4 g4
  obtain ⟨x', y', z', a', f', hc16, hv', x0', y0', z0'⟩ := genPixel_at n0 n1 n2 n3 n4 65535 (by omega) (by omega) h0 g0 h1 g1 h2 g2 h3 g3 h4 g4
  have C8 := Lib.hid @hc8
  have C16 := Lib.hid @hc16
  clear hc8 hc16
  obtain ⟨v0, v1, v2, v3, v4⟩ := valid_parts hv
  obtain ⟨v0', v1', v2', v3', v4'⟩ := valid_parts hv'
  have V16 := valid_wide x y z a f hv
  have V8 := valid_narrow x' y' z' a' f' hv'
  have rx := round8 x x0 (by omega)
  have ry := round8 y y0 (by omega)
  have rz := round8 z z0 (by omega)
  have ra := round8 a (by omega) (by omega)
  have rf := round8 f (by omega) (by omega)
  obtain ⟨tx, sx⟩ := to16_bounds x x0
  obtain ⟨ty, sy⟩ := to16_bounds y y0
  obtain ⟨tz, sz⟩ := to16_bounds z z0
  obtain ⟨ta, sa⟩ := to16_bounds a (by omega)
  obtain ⟨tf, sf⟩ := to16_bounds f (by omega)
  have hd : decide (c < b) = true := decide_eq_true hbc
  have hsd : ∀ (w : World) (n : Nat) (a : Addr) (v : Value), (w.drewN n).setCell a v = (w.setCell a v).drewN n := fun _ _ _ _ => rfl
  have had : ∀ (w : World) (n : Nat) (o : Obj), (w.drewN n).alloc o = (w.alloc o).drewN n := fun _ _ _ => rfl
  go_enter Try.func12, Try.ntmps12
  go_upto_region 1 with fail
  go_cut [7, 8] (fun s7 s8 wx => ∃ g g' : Nat, s7 = .pointer (some ⟨g, 0, none⟩) ∧ s8 = .pointer (some ⟨g', 0, none⟩) ∧ Below w.heap.size w wx ∧ w.heap.size ≤ wx.heap.size ∧ g < wx.heap.size ∧ g' < wx.heap.size ∧
    Pix5 wx g x y z a f ∧ Pix5 wx g' x' y' z' a' f')
  case first =>
    go_region_held3 (fun w' => w'.cell? ⟨w.heap.size, 0, none⟩ = some (.int .i64 n0) ∧ w'.cell? ⟨w.heap.size, 1, none⟩ = some (.int .i64 n1) ∧ w'.cell? ⟨w.heap.size, 2, none⟩ = some (.int .i64 n2) ∧ w'.cell? ⟨w.heap.size, 3, none⟩ = some (.int .i64 n3) ∧ w'.cell? ⟨w.heap.size, 4, none⟩ = some (.int .i64 n4)) ((refine ⟨?_, ?_, ?_, ?_, ?_⟩ <;> go_simp))
      (first | (go_at_call 22; (with_reducible refine (C8.out _).mono ?_); rintro e w1 ⟨rfl, o1, o2, n, rfl⟩) | (go_at_call 22; (with_reducible refine (C16.out _).mono ?_); rintro e w1 ⟨rfl, o1, o2, n, rfl⟩))
    all_goals
      go_wp2_with fail
      go_meet
      refine ⟨_, _, rfl, rfl, more_below w ⟨[_, _, _, _, _, _, _], _⟩, ?_, ?_, ?_, ⟨?_, ?_, ?_, ?_, ?_, ?_⟩, ⟨?_, ?_, ?_, ?_, ?_, ?_⟩⟩
      all_goals first | (go_simp; done) | (simp; omega) | (simp; done) | (refine at_drew ?_; repeat (first | (refine at_new ?_; simp; done) | refine at_old ?_))
  case rest =>
    obtain ⟨g, g', rfl, rfl, hb, hs, hg, hg', ⟨k0, k1, k2, k3, k4, kb⟩, ⟨l0, l1, l2, l3, l4, lb⟩⟩ := hcut
    have hmc := more_cell
    have hmh := more_heap
    have he := eql_pixel_same
    go_wp2
    refine region_more (by kernel_rfl) (by kernel_rfl) ?_
    repeat (go_big_quiet_step ((first
      | (go_at_call 15; exact calls_more_drewN (awake05_call _))
      | (go_at_call 29; exact calls_more_valid (valid_call _ _ _ _ _ _ _))
      | (go_at_call 13; exact calls_more_same (to16_call _ _ (by omega) (by omega)))
      | (go_at_call 14; exact calls_more_drewN (to8_call _ _ (by omega) (by omega)))
      | (go_at_call 33; exact calls_more (widen_call _ _ _ _ _ _ (by omega) (by omega) (by omega) (by omega) (by omega) (by omega) (by omega) (by omega) (by omega) (by omega)))
      | (go_at_call 35; exact calls_more (narrow_call _ _ _ _ _ _ (by omega) (by omega) (by omega) (by omega) (by omega) (by omega) (by omega) (by omega) (by omega) (by omega))))))
    refine wpQuiet_nil ?_
    rintro w1 ⟨p, rfl⟩
    go_wp2
    go_returns
    exact ⟨rfl, below_more hb hs _⟩

set_option maxHeartbeats 8000000 in
theorem keep_le (n0 n1 n2 n3 n4 b c : Int) (w : World) (h0 : -9223372036854775808 ≤ n0) (g0 : n0 ≤ 9223372036854775807) (h1 : -9223372036854775808 ≤ n1) (g1 : n1 ≤ 9223372036854775807) (h2 : -9223372036854775808 ≤ n2) (g2 : n2 ≤ 9223372036854775807) (h3 : -9223372036854775808 ≤ n3) (g3 : n3 ≤ 9223372036854775807) (h4 : -9223372036854775808 ≤ n4) (g4 : n4 ≤ 9223372036854775807) (b0 : 0 ≤ b) (b1 : b ≤ 65535) (c0 : 0 ≤ c) (c1 : c ≤ 65535) (hbc : b ≤ c) :
    Calls Try.prog 12 #[.agg #[.int .i64 n0, .int .i64 n1, .int .i64 n2, .int .i64 n3, .int .i64 n4], .int .u16 b, .int .u16 c] w fun e w' => e = .returned (.bool true) ∧ Below w.heap.size w w' := by
  obtain ⟨x, y, z, a, f, hc8, hv, x0, y0, z0⟩ := genPixel_at n0 n1 n2 n3 n4 255 (by omega) (by omega) h0 g0 h1 g1 h2 g2 h3 g3 h4 g4
  obtain ⟨x', y', z', a', f', hc16, hv', x0', y0', z0'⟩ := genPixel_at n0 n1 n2 n3 n4 65535 (by omega) (by omega) h0 g0 h1 g1 h2 g2 h3 g3 h4 g4
  have C8 := Lib.hid @hc8
  have C16 := Lib.hid @hc16
  clear hc8 hc16
  obtain ⟨v0, v1, v2, v3, v4⟩ := valid_parts hv
  obtain ⟨v0', v1', v2', v3', v4'⟩ := valid_parts hv'
  have V16 := valid_wide x y z a f hv
  have V8 := valid_narrow x' y' z' a' f' hv'
  have rx := round8 x x0 (by omega)
  have ry := round8 y y0 (by omega)
  have rz := round8 z z0 (by omega)
  have ra := round8 a (by omega) (by omega)
  have rf := round8 f (by omega) (by omega)
  obtain ⟨tx, sx⟩ := to16_bounds x x0
  obtain ⟨ty, sy⟩ := to16_bounds y y0
  obtain ⟨tz, sz⟩ := to16_bounds z z0
  obtain ⟨ta, sa⟩ := to16_bounds a (by omega)
  obtain ⟨tf, sf⟩ := to16_bounds f (by omega)
  have hd : decide (c < b) = false := decide_eq_false (by omega)
  have m8 := to8_mono b c hbc
  have m16 := to16_mono b c hbc
  have hd8 : decide (to8I b ≤ to8I c) = true := decide_eq_true m8
  have hd16 : decide (to16I b ≤ to16I c) = true := decide_eq_true m16
  have hsd : ∀ (w : World) (n : Nat) (a : Addr) (v : Value), (w.drewN n).setCell a v = (w.setCell a v).drewN n := fun _ _ _ _ => rfl
  have had : ∀ (w : World) (n : Nat) (o : Obj), (w.drewN n).alloc o = (w.alloc o).drewN n := fun _ _ _ => rfl
  go_enter Try.func12, Try.ntmps12
  go_upto_region 1 with fail
  go_cut [7, 8] (fun s7 s8 wx => ∃ g g' : Nat, s7 = .pointer (some ⟨g, 0, none⟩) ∧ s8 = .pointer (some ⟨g', 0, none⟩) ∧ Below w.heap.size w wx ∧ w.heap.size ≤ wx.heap.size ∧ g < wx.heap.size ∧ g' < wx.heap.size ∧
    Pix5 wx g x y z a f ∧ Pix5 wx g' x' y' z' a' f')
  case first =>
    go_region_held3 (fun w' => w'.cell? ⟨w.heap.size, 0, none⟩ = some (.int .i64 n0) ∧ w'.cell? ⟨w.heap.size, 1, none⟩ = some (.int .i64 n1) ∧ w'.cell? ⟨w.heap.size, 2, none⟩ = some (.int .i64 n2) ∧ w'.cell? ⟨w.heap.size, 3, none⟩ = some (.int .i64 n3) ∧ w'.cell? ⟨w.heap.size, 4, none⟩ = some (.int .i64 n4)) ((refine ⟨?_, ?_, ?_, ?_, ?_⟩ <;> go_simp))
      (first | (go_at_call 22; (with_reducible refine (C8.out _).mono ?_); rintro e w1 ⟨rfl, o1, o2, n, rfl⟩) | (go_at_call 22; (with_reducible refine (C16.out _).mono ?_); rintro e w1 ⟨rfl, o1, o2, n, rfl⟩))
    all_goals
      go_wp2_with fail
      go_meet
      refine ⟨_, _, rfl, rfl, more_below w ⟨[_, _, _, _, _, _, _], _⟩, ?_, ?_, ?_, ⟨?_, ?_, ?_, ?_, ?_, ?_⟩, ⟨?_, ?_, ?_, ?_, ?_, ?_⟩⟩
      all_goals first | (go_simp; done) | (simp; omega) | (simp; done) | (refine at_drew ?_; repeat (first | (refine at_new ?_; simp; done) | refine at_old ?_))
  case rest =>
    obtain ⟨g, g', rfl, rfl, hb, hs, hg, hg', ⟨k0, k1, k2, k3, k4, kb⟩, ⟨l0, l1, l2, l3, l4, lb⟩⟩ := hcut
    have hmc := more_cell
    have hmh := more_heap
    have he := eql_pixel_same
    go_wp2
    refine region_more (by kernel_rfl) (by kernel_rfl) ?_
    repeat (go_big_quiet_step ((first
      | (go_at_call 15; exact calls_more_drewN (awake05_call _))
      | (go_at_call 29; exact calls_more_valid (valid_call _ _ _ _ _ _ _))
      | (go_at_call 13; exact calls_more_same (to16_call _ _ (by omega) (by omega)))
      | (go_at_call 14; exact calls_more_drewN (to8_call _ _ (by omega) (by omega)))
      | (go_at_call 33; exact calls_more (widen_call _ _ _ _ _ _ (by omega) (by omega) (by omega) (by omega) (by omega) (by omega) (by omega) (by omega) (by omega) (by omega)))
      | (go_at_call 35; exact calls_more (narrow_call _ _ _ _ _ _ (by omega) (by omega) (by omega) (by omega) (by omega) (by omega) (by omega) (by omega) (by omega) (by omega))))))
    refine wpQuiet_nil ?_
    rintro w1 ⟨p, rfl⟩
    go_wp2
    go_returns
    exact ⟨rfl, below_more hb hs _⟩

theorem sampleConversionsKeepPixelsValid_walk (n0 n1 n2 n3 n4 b c : Int) (w : World) (h0 : -9223372036854775808 ≤ n0) (g0 : n0 ≤ 9223372036854775807) (h1 : -9223372036854775808 ≤ n1) (g1 : n1 ≤ 9223372036854775807) (h2 : -9223372036854775808 ≤ n2) (g2 : n2 ≤ 9223372036854775807) (h3 : -9223372036854775808 ≤ n3) (g3 : n3 ≤ 9223372036854775807) (h4 : -9223372036854775808 ≤ n4) (g4 : n4 ≤ 9223372036854775807) (b0 : 0 ≤ b) (b1 : b ≤ 65535) (c0 : 0 ≤ c) (c1 : c ≤ 65535) :
    Calls Try.prog 12 #[.agg #[.int .i64 n0, .int .i64 n1, .int .i64 n2, .int .i64 n3, .int .i64 n4], .int .u16 b, .int .u16 c] w fun e w' => e = .returned (.bool true) ∧ Below w.heap.size w w' := by
  by_cases h : c < b
  · exact keep_gt n0 n1 n2 n3 n4 b c w h0 g0 h1 g1 h2 g2 h3 g3 h4 g4 h
  · exact keep_le n0 n1 n2 n3 n4 b c w h0 g0 h1 g1 h2 g2 h3 g3 h4 g4 b0 b1 c0 c1 (by omega)
end Go.Proofs.Ytmehclilgmigkaa
