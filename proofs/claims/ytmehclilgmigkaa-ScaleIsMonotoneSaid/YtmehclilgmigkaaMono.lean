/- The walk of ScaleIsMonotone: it returns true. -/
import Derived.Test.YtmehclilgmigkaaPix3
namespace Go.Proofs.Ytmehclilgmigkaa
open Go.RowKit

set_option maxHeartbeats 2000000 in
theorem mono_255_keep (n0 n1 n2 n3 n4 k j t : Int) (w : World) (h0 : -9223372036854775808 ≤ n0) (g0 : n0 ≤ 9223372036854775807) (h1 : -9223372036854775808 ≤ n1) (g1 : n1 ≤ 9223372036854775807) (h2 : -9223372036854775808 ≤ n2) (g2 : n2 ≤ 9223372036854775807) (h3 : -9223372036854775808 ≤ n3) (g3 : n3 ≤ 9223372036854775807) (h4 : -9223372036854775808 ≤ n4) (g4 : n4 ≤ 9223372036854775807) (k0 : -9223372036854775808 ≤ k) (k1 : k ≤ 9223372036854775807) (j0 : -9223372036854775808 ≤ j) (j1 : j ≤ 9223372036854775807) (hm : gmax t = 255) (ht : gsam k 255 ≤ gsam j 255) :
    Calls Try.prog 6 #[.agg #[.int .i64 n0, .int .i64 n1, .int .i64 n2, .int .i64 n3, .int .i64 n4], .int .i64 k, .int .i64 j, .int .i64 t] w fun e w' => e = .returned (.bool true) ∧ Below w.heap.size w w' := by
  obtain ⟨s0, s1⟩ := gsam_bounds k 255 (by omega)
  obtain ⟨t0, t1⟩ := gsam_bounds j 255 (by omega)
  have hsd : ∀ (w : World) (n : Nat) (a : Addr) (v : Value), (w.drewN n).setCell a v = (w.setCell a v).drewN n := fun _ _ _ _ => rfl
  have had : ∀ (w : World) (n : Nat) (o : Obj), (w.drewN n).alloc o = (w.alloc o).drewN n := fun _ _ _ => rfl
  go_enter Try.func6, Try.ntmps6
  go_wp2_with (first | (go_at_call 16; refine (max_call _ _).mono ?_; rintro e w1 ⟨rfl, rfl⟩) | (go_at_call 22; refine (genPixel_ex _ _ _ _ _ _ _ (by omega) (by omega) h0 g0 h1 g1 h2 g2 h3 g3 h4 g4).mono ?_; rintro e w1 ⟨x, y, z, a, f, rfl, hv, x0, y0, z0, p1, p2, n, rfl⟩) | (go_at_call 23; refine (sample_call _ _ _ (by omega) (by omega) (by omega) (by omega)).mono ?_; rintro e w1 ⟨rfl, rfl⟩))
  refine (scale255 _ _ _ _ _ _ _ hv x0 y0 z0 (by omega) (by omega)).mono ?_
  rintro e w1 ⟨rfl, o1, o2, o3, rfl⟩
  go_wp2_with fail
  refine (scale255 _ _ _ _ _ _ _ hv x0 y0 z0 (by omega) (by omega)).mono ?_
  rintro e w1 ⟨rfl, r1, r2, r3, rfl⟩
  obtain ⟨v0, v1, v2, v3, v4⟩ := valid_parts hv
  have mx := scaled_mono x (gsam k 255) (gsam j 255) 255 (by omega) (by omega) (by omega)
  have lx := scaled_le x (gsam j 255) 255 (by omega) (by omega) (by omega)
  have dx : decide (halfI (x * gsam j 255) 255 < halfI (x * gsam k 255) 255) = false := decide_eq_false (by omega)
  have my := scaled_mono y (gsam k 255) (gsam j 255) 255 (by omega) (by omega) (by omega)
  have ly := scaled_le y (gsam j 255) 255 (by omega) (by omega) (by omega)
  have dy : decide (halfI (y * gsam j 255) 255 < halfI (y * gsam k 255) 255) = false := decide_eq_false (by omega)
  have mz := scaled_mono z (gsam k 255) (gsam j 255) 255 (by omega) (by omega) (by omega)
  have lz := scaled_le z (gsam j 255) 255 (by omega) (by omega) (by omega)
  have dz : decide (halfI (z * gsam j 255) 255 < halfI (z * gsam k 255) 255) = false := decide_eq_false (by omega)
  have ma := scaled_mono a (gsam k 255) (gsam j 255) 255 (by omega) (by omega) (by omega)
  have la := scaled_le a (gsam j 255) 255 (by omega) (by omega) (by omega)
  have mf := scaled_mono f (gsam k 255) (gsam j 255) 255 (by omega) (by omega) (by omega)
  have lf := scaled_le f (gsam j 255) 255 (by omega) (by omega) (by omega)
  go_wp2_with (go_at_call 25; refine (awake11_call _).mono ?_; rintro e w1 ⟨rfl, q1, q2, q3, q4, rfl⟩)
  refine wp_loop_rounds 4 ?_
  iterate 3
    rw [rounds_succ]
    go_wp2_with fail
    go_quiet (fail)
    go_wp2_with fail
  rw [rounds_succ]
  go_wp2_with fail
  go_returns
  exact ⟨rfl, by repeat' (first | (with_reducible exact Below.refl _ _) | (with_reducible refine below_drewN ?_ _) | (with_reducible refine Below.alloc ?_ ?_ _) | (with_reducible refine Below.setCell ?_ ?_ _) | go_size)⟩

set_option maxHeartbeats 2000000 in
theorem mono_255_swap (n0 n1 n2 n3 n4 k j t : Int) (w : World) (h0 : -9223372036854775808 ≤ n0) (g0 : n0 ≤ 9223372036854775807) (h1 : -9223372036854775808 ≤ n1) (g1 : n1 ≤ 9223372036854775807) (h2 : -9223372036854775808 ≤ n2) (g2 : n2 ≤ 9223372036854775807) (h3 : -9223372036854775808 ≤ n3) (g3 : n3 ≤ 9223372036854775807) (h4 : -9223372036854775808 ≤ n4) (g4 : n4 ≤ 9223372036854775807) (k0 : -9223372036854775808 ≤ k) (k1 : k ≤ 9223372036854775807) (j0 : -9223372036854775808 ≤ j) (j1 : j ≤ 9223372036854775807) (hm : gmax t = 255) (ht : gsam j 255 < gsam k 255) :
    Calls Try.prog 6 #[.agg #[.int .i64 n0, .int .i64 n1, .int .i64 n2, .int .i64 n3, .int .i64 n4], .int .i64 k, .int .i64 j, .int .i64 t] w fun e w' => e = .returned (.bool true) ∧ Below w.heap.size w w' := by
  obtain ⟨s0, s1⟩ := gsam_bounds k 255 (by omega)
  obtain ⟨t0, t1⟩ := gsam_bounds j 255 (by omega)
  have hsd : ∀ (w : World) (n : Nat) (a : Addr) (v : Value), (w.drewN n).setCell a v = (w.setCell a v).drewN n := fun _ _ _ _ => rfl
  have had : ∀ (w : World) (n : Nat) (o : Obj), (w.drewN n).alloc o = (w.alloc o).drewN n := fun _ _ _ => rfl
  go_enter Try.func6, Try.ntmps6
  go_wp2_with (first | (go_at_call 16; refine (max_call _ _).mono ?_; rintro e w1 ⟨rfl, rfl⟩) | (go_at_call 22; refine (genPixel_ex _ _ _ _ _ _ _ (by omega) (by omega) h0 g0 h1 g1 h2 g2 h3 g3 h4 g4).mono ?_; rintro e w1 ⟨x, y, z, a, f, rfl, hv, x0, y0, z0, p1, p2, n, rfl⟩) | (go_at_call 23; refine (sample_call _ _ _ (by omega) (by omega) (by omega) (by omega)).mono ?_; rintro e w1 ⟨rfl, rfl⟩))
  refine (scale255 _ _ _ _ _ _ _ hv x0 y0 z0 (by omega) (by omega)).mono ?_
  rintro e w1 ⟨rfl, o1, o2, o3, rfl⟩
  go_wp2_with fail
  refine (scale255 _ _ _ _ _ _ _ hv x0 y0 z0 (by omega) (by omega)).mono ?_
  rintro e w1 ⟨rfl, r1, r2, r3, rfl⟩
  obtain ⟨v0, v1, v2, v3, v4⟩ := valid_parts hv
  have mx := scaled_mono x (gsam j 255) (gsam k 255) 255 (by omega) (by omega) (by omega)
  have lx := scaled_le x (gsam k 255) 255 (by omega) (by omega) (by omega)
  have dx : decide (halfI (x * gsam k 255) 255 < halfI (x * gsam j 255) 255) = false := decide_eq_false (by omega)
  have my := scaled_mono y (gsam j 255) (gsam k 255) 255 (by omega) (by omega) (by omega)
  have ly := scaled_le y (gsam k 255) 255 (by omega) (by omega) (by omega)
  have dy : decide (halfI (y * gsam k 255) 255 < halfI (y * gsam j 255) 255) = false := decide_eq_false (by omega)
  have mz := scaled_mono z (gsam j 255) (gsam k 255) 255 (by omega) (by omega) (by omega)
  have lz := scaled_le z (gsam k 255) 255 (by omega) (by omega) (by omega)
  have dz : decide (halfI (z * gsam k 255) 255 < halfI (z * gsam j 255) 255) = false := decide_eq_false (by omega)
  have ma := scaled_mono a (gsam j 255) (gsam k 255) 255 (by omega) (by omega) (by omega)
  have la := scaled_le a (gsam k 255) 255 (by omega) (by omega) (by omega)
  have mf := scaled_mono f (gsam j 255) (gsam k 255) 255 (by omega) (by omega) (by omega)
  have lf := scaled_le f (gsam k 255) 255 (by omega) (by omega) (by omega)
  go_wp2_with (go_at_call 25; refine (awake11_call _).mono ?_; rintro e w1 ⟨rfl, q1, q2, q3, q4, rfl⟩)
  refine wp_loop_rounds 4 ?_
  iterate 3
    rw [rounds_succ]
    go_wp2_with fail
    go_quiet (fail)
    go_wp2_with fail
  rw [rounds_succ]
  go_wp2_with fail
  go_returns
  exact ⟨rfl, by repeat' (first | (with_reducible exact Below.refl _ _) | (with_reducible refine below_drewN ?_ _) | (with_reducible refine Below.alloc ?_ ?_ _) | (with_reducible refine Below.setCell ?_ ?_ _) | go_size)⟩

set_option maxHeartbeats 2000000 in
theorem mono_65535_keep (n0 n1 n2 n3 n4 k j t : Int) (w : World) (h0 : -9223372036854775808 ≤ n0) (g0 : n0 ≤ 9223372036854775807) (h1 : -9223372036854775808 ≤ n1) (g1 : n1 ≤ 9223372036854775807) (h2 : -9223372036854775808 ≤ n2) (g2 : n2 ≤ 9223372036854775807) (h3 : -9223372036854775808 ≤ n3) (g3 : n3 ≤ 9223372036854775807) (h4 : -9223372036854775808 ≤ n4) (g4 : n4 ≤ 9223372036854775807) (k0 : -9223372036854775808 ≤ k) (k1 : k ≤ 9223372036854775807) (j0 : -9223372036854775808 ≤ j) (j1 : j ≤ 9223372036854775807) (hm : gmax t = 65535) (ht : gsam k 65535 ≤ gsam j 65535) :
    Calls Try.prog 6 #[.agg #[.int .i64 n0, .int .i64 n1, .int .i64 n2, .int .i64 n3, .int .i64 n4], .int .i64 k, .int .i64 j, .int .i64 t] w fun e w' => e = .returned (.bool true) ∧ Below w.heap.size w w' := by
  obtain ⟨s0, s1⟩ := gsam_bounds k 65535 (by omega)
  obtain ⟨t0, t1⟩ := gsam_bounds j 65535 (by omega)
  have hsd : ∀ (w : World) (n : Nat) (a : Addr) (v : Value), (w.drewN n).setCell a v = (w.setCell a v).drewN n := fun _ _ _ _ => rfl
  have had : ∀ (w : World) (n : Nat) (o : Obj), (w.drewN n).alloc o = (w.alloc o).drewN n := fun _ _ _ => rfl
  go_enter Try.func6, Try.ntmps6
  go_wp2_with (first | (go_at_call 16; refine (max_call _ _).mono ?_; rintro e w1 ⟨rfl, rfl⟩) | (go_at_call 22; refine (genPixel_ex _ _ _ _ _ _ _ (by omega) (by omega) h0 g0 h1 g1 h2 g2 h3 g3 h4 g4).mono ?_; rintro e w1 ⟨x, y, z, a, f, rfl, hv, x0, y0, z0, p1, p2, n, rfl⟩) | (go_at_call 23; refine (sample_call _ _ _ (by omega) (by omega) (by omega) (by omega)).mono ?_; rintro e w1 ⟨rfl, rfl⟩))
  refine (scale65535 _ _ _ _ _ _ _ hv x0 y0 z0 (by omega) (by omega)).mono ?_
  rintro e w1 ⟨rfl, o1, o2, o3, rfl⟩
  go_wp2_with fail
  refine (scale65535 _ _ _ _ _ _ _ hv x0 y0 z0 (by omega) (by omega)).mono ?_
  rintro e w1 ⟨rfl, r1, r2, r3, rfl⟩
  obtain ⟨v0, v1, v2, v3, v4⟩ := valid_parts hv
  have mx := scaled_mono x (gsam k 65535) (gsam j 65535) 65535 (by omega) (by omega) (by omega)
  have lx := scaled_le x (gsam j 65535) 65535 (by omega) (by omega) (by omega)
  have dx : decide (halfI (x * gsam j 65535) 65535 < halfI (x * gsam k 65535) 65535) = false := decide_eq_false (by omega)
  have my := scaled_mono y (gsam k 65535) (gsam j 65535) 65535 (by omega) (by omega) (by omega)
  have ly := scaled_le y (gsam j 65535) 65535 (by omega) (by omega) (by omega)
  have dy : decide (halfI (y * gsam j 65535) 65535 < halfI (y * gsam k 65535) 65535) = false := decide_eq_false (by omega)
  have mz := scaled_mono z (gsam k 65535) (gsam j 65535) 65535 (by omega) (by omega) (by omega)
  have lz := scaled_le z (gsam j 65535) 65535 (by omega) (by omega) (by omega)
  have dz : decide (halfI (z * gsam j 65535) 65535 < halfI (z * gsam k 65535) 65535) = false := decide_eq_false (by omega)
  have ma := scaled_mono a (gsam k 65535) (gsam j 65535) 65535 (by omega) (by omega) (by omega)
  have la := scaled_le a (gsam j 65535) 65535 (by omega) (by omega) (by omega)
  have mf := scaled_mono f (gsam k 65535) (gsam j 65535) 65535 (by omega) (by omega) (by omega)
  have lf := scaled_le f (gsam j 65535) 65535 (by omega) (by omega) (by omega)
  go_wp2_with (go_at_call 25; refine (awake11_call _).mono ?_; rintro e w1 ⟨rfl, q1, q2, q3, q4, rfl⟩)
  refine wp_loop_rounds 4 ?_
  iterate 3
    rw [rounds_succ]
    go_wp2_with fail
    go_quiet (fail)
    go_wp2_with fail
  rw [rounds_succ]
  go_wp2_with fail
  go_returns
  exact ⟨rfl, by repeat' (first | (with_reducible exact Below.refl _ _) | (with_reducible refine below_drewN ?_ _) | (with_reducible refine Below.alloc ?_ ?_ _) | (with_reducible refine Below.setCell ?_ ?_ _) | go_size)⟩

set_option maxHeartbeats 2000000 in
theorem mono_65535_swap (n0 n1 n2 n3 n4 k j t : Int) (w : World) (h0 : -9223372036854775808 ≤ n0) (g0 : n0 ≤ 9223372036854775807) (h1 : -9223372036854775808 ≤ n1) (g1 : n1 ≤ 9223372036854775807) (h2 : -9223372036854775808 ≤ n2) (g2 : n2 ≤ 9223372036854775807) (h3 : -9223372036854775808 ≤ n3) (g3 : n3 ≤ 9223372036854775807) (h4 : -9223372036854775808 ≤ n4) (g4 : n4 ≤ 9223372036854775807) (k0 : -9223372036854775808 ≤ k) (k1 : k ≤ 9223372036854775807) (j0 : -9223372036854775808 ≤ j) (j1 : j ≤ 9223372036854775807) (hm : gmax t = 65535) (ht : gsam j 65535 < gsam k 65535) :
    Calls Try.prog 6 #[.agg #[.int .i64 n0, .int .i64 n1, .int .i64 n2, .int .i64 n3, .int .i64 n4], .int .i64 k, .int .i64 j, .int .i64 t] w fun e w' => e = .returned (.bool true) ∧ Below w.heap.size w w' := by
  obtain ⟨s0, s1⟩ := gsam_bounds k 65535 (by omega)
  obtain ⟨t0, t1⟩ := gsam_bounds j 65535 (by omega)
  have hsd : ∀ (w : World) (n : Nat) (a : Addr) (v : Value), (w.drewN n).setCell a v = (w.setCell a v).drewN n := fun _ _ _ _ => rfl
  have had : ∀ (w : World) (n : Nat) (o : Obj), (w.drewN n).alloc o = (w.alloc o).drewN n := fun _ _ _ => rfl
  go_enter Try.func6, Try.ntmps6
  go_wp2_with (first | (go_at_call 16; refine (max_call _ _).mono ?_; rintro e w1 ⟨rfl, rfl⟩) | (go_at_call 22; refine (genPixel_ex _ _ _ _ _ _ _ (by omega) (by omega) h0 g0 h1 g1 h2 g2 h3 g3 h4 g4).mono ?_; rintro e w1 ⟨x, y, z, a, f, rfl, hv, x0, y0, z0, p1, p2, n, rfl⟩) | (go_at_call 23; refine (sample_call _ _ _ (by omega) (by omega) (by omega) (by omega)).mono ?_; rintro e w1 ⟨rfl, rfl⟩))
  refine (scale65535 _ _ _ _ _ _ _ hv x0 y0 z0 (by omega) (by omega)).mono ?_
  rintro e w1 ⟨rfl, o1, o2, o3, rfl⟩
  go_wp2_with fail
  refine (scale65535 _ _ _ _ _ _ _ hv x0 y0 z0 (by omega) (by omega)).mono ?_
  rintro e w1 ⟨rfl, r1, r2, r3, rfl⟩
  obtain ⟨v0, v1, v2, v3, v4⟩ := valid_parts hv
  have mx := scaled_mono x (gsam j 65535) (gsam k 65535) 65535 (by omega) (by omega) (by omega)
  have lx := scaled_le x (gsam k 65535) 65535 (by omega) (by omega) (by omega)
  have dx : decide (halfI (x * gsam k 65535) 65535 < halfI (x * gsam j 65535) 65535) = false := decide_eq_false (by omega)
  have my := scaled_mono y (gsam j 65535) (gsam k 65535) 65535 (by omega) (by omega) (by omega)
  have ly := scaled_le y (gsam k 65535) 65535 (by omega) (by omega) (by omega)
  have dy : decide (halfI (y * gsam k 65535) 65535 < halfI (y * gsam j 65535) 65535) = false := decide_eq_false (by omega)
  have mz := scaled_mono z (gsam j 65535) (gsam k 65535) 65535 (by omega) (by omega) (by omega)
  have lz := scaled_le z (gsam k 65535) 65535 (by omega) (by omega) (by omega)
  have dz : decide (halfI (z * gsam k 65535) 65535 < halfI (z * gsam j 65535) 65535) = false := decide_eq_false (by omega)
  have ma := scaled_mono a (gsam j 65535) (gsam k 65535) 65535 (by omega) (by omega) (by omega)
  have la := scaled_le a (gsam k 65535) 65535 (by omega) (by omega) (by omega)
  have mf := scaled_mono f (gsam j 65535) (gsam k 65535) 65535 (by omega) (by omega) (by omega)
  have lf := scaled_le f (gsam k 65535) 65535 (by omega) (by omega) (by omega)
  go_wp2_with (go_at_call 25; refine (awake11_call _).mono ?_; rintro e w1 ⟨rfl, q1, q2, q3, q4, rfl⟩)
  refine wp_loop_rounds 4 ?_
  iterate 3
    rw [rounds_succ]
    go_wp2_with fail
    go_quiet (fail)
    go_wp2_with fail
  rw [rounds_succ]
  go_wp2_with fail
  go_returns
  exact ⟨rfl, by repeat' (first | (with_reducible exact Below.refl _ _) | (with_reducible refine below_drewN ?_ _) | (with_reducible refine Below.alloc ?_ ?_ _) | (with_reducible refine Below.setCell ?_ ?_ _) | go_size)⟩

theorem scaleIsMonotone_walk (n0 n1 n2 n3 n4 k j t : Int) (w : World) (h0 : -9223372036854775808 ≤ n0) (g0 : n0 ≤ 9223372036854775807) (h1 : -9223372036854775808 ≤ n1) (g1 : n1 ≤ 9223372036854775807) (h2 : -9223372036854775808 ≤ n2) (g2 : n2 ≤ 9223372036854775807) (h3 : -9223372036854775808 ≤ n3) (g3 : n3 ≤ 9223372036854775807) (h4 : -9223372036854775808 ≤ n4) (g4 : n4 ≤ 9223372036854775807) (k0 : -9223372036854775808 ≤ k) (k1 : k ≤ 9223372036854775807) (j0 : -9223372036854775808 ≤ j) (j1 : j ≤ 9223372036854775807) :
    Calls Try.prog 6 #[.agg #[.int .i64 n0, .int .i64 n1, .int .i64 n2, .int .i64 n3, .int .i64 n4], .int .i64 k, .int .i64 j, .int .i64 t] w fun e w' => e = .returned (.bool true) ∧ Below w.heap.size w w' := by
  rcases gmax_cases t with hm | hm
  · by_cases ht : gsam k 255 ≤ gsam j 255
    · exact mono_255_keep n0 n1 n2 n3 n4 k j t w h0 g0 h1 g1 h2 g2 h3 g3 h4 g4 k0 k1 j0 j1 hm ht
    · exact mono_255_swap n0 n1 n2 n3 n4 k j t w h0 g0 h1 g1 h2 g2 h3 g3 h4 g4 k0 k1 j0 j1 hm (by omega)
  · by_cases ht : gsam k 65535 ≤ gsam j 65535
    · exact mono_65535_keep n0 n1 n2 n3 n4 k j t w h0 g0 h1 g1 h2 g2 h3 g3 h4 g4 k0 k1 j0 j1 hm ht
    · exact mono_65535_swap n0 n1 n2 n3 n4 k j t w h0 g0 h1 g1 h2 g2 h3 g3 h4 g4 k0 k1 j0 j1 hm (by omega)
end Go.Proofs.Ytmehclilgmigkaa
