/- The walk of ScaleTwice: it returns true. -/
import Derived.Test.YtmehclilgmigkaaPix3
namespace Go.Proofs.Ytmehclilgmigkaa
open Go.RowKit

theorem scaled_max (x m : Int) (m0 : 1 ≤ m) : halfI (x * m) m = x := half_mul x m m0
theorem scaled_zero_t (x m : Int) (m0 : 1 ≤ m) : halfI (x * 0) m = 0 := by rw [Int.mul_zero, half_eq _ _ m0, Int.ediv_eq_zero_of_lt (by omega) (by omega)]

theorem near_once (f u v m F A : Int) (m0 : 1 ≤ m) (v0 : 0 ≤ v) (hF : halfI (f * u) m = F) (hA : halfI (F * v) m = A) :
    2 * (A * m * m) ≤ 2 * (f * u * v) + m * v + m * m ∧ 2 * (f * u * v) ≤ 2 * (A * m * m) + m * v + m * m := by
  obtain ⟨a1, a2⟩ := half_spec (f * u) m m0
  obtain ⟨b1, b2⟩ := half_spec (F * v) m m0
  rw [hF] at a1 a2
  rw [hA] at b1 b2
  have c1 : 2 * (F * m) * v ≤ (2 * (f * u) + m) * v := Int.mul_le_mul_of_nonneg_right a1 v0
  have c2 : (2 * (f * u) + m) * v ≤ (2 * (F * m) + 2 * m) * v := Int.mul_le_mul_of_nonneg_right (by omega) v0
  have d1 : 2 * (A * m) * m ≤ (2 * (F * v) + m) * m := Int.mul_le_mul_of_nonneg_right b1 (by omega)
  have d2 : (2 * (F * v) + m) * m ≤ (2 * (A * m) + 2 * m) * m := Int.mul_le_mul_of_nonneg_right (by omega) (by omega)
  simp only [Int.add_mul, Int.mul_assoc] at c1 c2 d1 d2 ⊢
  have e : F * (m * v) = F * (v * m) := by rw [Int.mul_comm m v]
  omega
theorem twice_near (f u v m : Int) (m0 : 1 ≤ m) (m1 : m ≤ 65535) (f0 : 0 ≤ f) (f1 : f ≤ m) (u0 : 0 ≤ u) (u1 : u ≤ m) (v0 : 0 ≤ v) (v1 : v ≤ m) :
    halfI (halfI (f * u) m * v) m - halfI (halfI (f * v) m * u) m ≤ 1 ∧ halfI (halfI (f * v) m * u) m - halfI (halfI (f * u) m * v) m ≤ 1 ∧
    0 ≤ halfI (halfI (f * u) m * v) m ∧ halfI (halfI (f * u) m * v) m ≤ 65535 ∧ 0 ≤ halfI (halfI (f * v) m * u) m ∧ halfI (halfI (f * v) m * u) m ≤ 65535 := by
  have p0 := half_nonneg (f * u) m (Int.mul_nonneg f0 u0) (by omega)
  have p1 := half_nonneg (f * v) m (Int.mul_nonneg f0 v0) (by omega)
  have p2 := scaled_le f u m m0 f0 u1
  have p3 := scaled_le f v m m0 f0 v1
  have q0 := half_nonneg (halfI (f * u) m * v) m (Int.mul_nonneg p0 v0) (by omega)
  have q1 := half_nonneg (halfI (f * v) m * u) m (Int.mul_nonneg p1 u0) (by omega)
  have q2 := scaled_le (halfI (f * u) m) v m m0 p0 v1
  have q3 := scaled_le (halfI (f * v) m) u m m0 p1 u1
  refine ⟨?_, ?_, q0, by omega, q1, by omega⟩
  all_goals
    by_cases hu : u = m
    · subst hu
      rw [scaled_max f u m0, scaled_max _ u m0]
      omega
    · by_cases hv : v = m
      · subst hv
        rw [scaled_max f v m0, scaled_max _ v m0]
        omega
      · obtain ⟨x1, x2⟩ := near_once f u v m _ _ m0 v0 rfl rfl
        obtain ⟨y1, y2⟩ := near_once f v u m _ _ m0 u0 rfl rfl
        generalize halfI (halfI (f * u) m * v) m = A at *
        generalize halfI (halfI (f * v) m * u) m = B at *
        have e : f * v * u = f * u * v := Int.mul_right_comm _ _ _
        rw [e] at y1 y2
        have z1 : m * u + m ≤ m * m := by
          have := Int.mul_le_mul_of_nonneg_left (show u + 1 ≤ m by omega) (show 0 ≤ m by omega)
          rw [Int.mul_add] at this; omega
        have z2 : m * v + m ≤ m * m := by
          have := Int.mul_le_mul_of_nonneg_left (show v + 1 ≤ m by omega) (show 0 ≤ m by omega)
          rw [Int.mul_add] at this; omega
        apply Int.not_lt.1
        intro c
        first
          | (have c2 : (B + 2) * m * m ≤ A * m * m := Int.mul_le_mul_of_nonneg_right (Int.mul_le_mul_of_nonneg_right (by omega) (by omega)) (by omega)
             simp only [Int.add_mul, Int.mul_assoc] at c2 x1 x2 y1 y2
             omega)
          | (have c2 : (A + 2) * m * m ≤ B * m * m := Int.mul_le_mul_of_nonneg_right (Int.mul_le_mul_of_nonneg_right (by omega) (by omega)) (by omega)
             simp only [Int.add_mul, Int.mul_assoc] at c2 x1 x2 y1 y2
             omega)

set_option maxHeartbeats 4000000 in
theorem twice_255 (n0 n1 n2 n3 n4 k j t : Int) (w : World) (h0 : -9223372036854775808 ≤ n0) (g0 : n0 ≤ 9223372036854775807) (h1 : -9223372036854775808 ≤ n1) (g1 : n1 ≤ 9223372036854775807) (h2 : -9223372036854775808 ≤ n2) (g2 : n2 ≤ 9223372036854775807) (h3 : -9223372036854775808 ≤ n3) (g3 : n3 ≤ 9223372036854775807) (h4 : -9223372036854775808 ≤ n4) (g4 : n4 ≤ 9223372036854775807) (k0 : -9223372036854775808 ≤ k) (k1 : k ≤ 9223372036854775807) (j0 : -9223372036854775808 ≤ j) (j1 : j ≤ 9223372036854775807) (hm : gmax t = 255) :
    Calls Try.prog 11 #[.agg #[.int .i64 n0, .int .i64 n1, .int .i64 n2, .int .i64 n3, .int .i64 n4], .int .i64 k, .int .i64 j, .int .i64 t] w fun e w' => e = .returned (.bool true) ∧ Below w.heap.size w w' := by
  obtain ⟨s0, s1⟩ := gsam_bounds k 255 (by omega)
  obtain ⟨t0, t1⟩ := gsam_bounds j 255 (by omega)
  have hsd : ∀ (w : World) (n : Nat) (a : Addr) (v : Value), (w.drewN n).setCell a v = (w.setCell a v).drewN n := fun _ _ _ _ => rfl
  have had : ∀ (w : World) (n : Nat) (o : Obj), (w.drewN n).alloc o = (w.alloc o).drewN n := fun _ _ _ => rfl
  go_enter Try.func11, Try.ntmps11
  go_wp2_with (first | (go_at_call 16; refine (max_call _ _).mono ?_; rintro e w1 ⟨rfl, rfl⟩) | (go_at_call 22; refine (genPixel_ex _ _ _ _ _ _ _ (by omega) (by omega) h0 g0 h1 g1 h2 g2 h3 g3 h4 g4).mono ?_; rintro e w1 ⟨x, y, z, a, f, rfl, hv, x0, y0, z0, p1, p2, n, rfl⟩) | (go_at_call 23; refine (sample_call _ _ _ (by omega) (by omega) (by omega) (by omega)).mono ?_; rintro e w1 ⟨rfl, rfl⟩))
  refine (both255 _ _ _ _ _ _ _ _ hv x0 y0 z0 s0 s1 t0 t1).mono ?_
  rintro e w1 ⟨rfl, o1, o2, o3, o4, o5, o6, o7, o8, rfl⟩
  go_wp2_with fail
  refine (both255 _ _ _ _ _ _ _ _ hv x0 y0 z0 t0 t1 s0 s1).mono ?_
  rintro e w1 ⟨rfl, o1, o2, o3, o4, o5, o6, o7, o8, rfl⟩
  go_wp2_with fail
  refine (both255 _ _ _ _ _ _ _ _ hv x0 y0 z0 s0 s1 (by omega) (by omega)).mono ?_
  rintro e w1 ⟨rfl, o1, o2, o3, o4, o5, o6, o7, o8, rfl⟩
  rw [scaled_max _ 255 (by omega), scaled_max _ 255 (by omega), scaled_max _ 255 (by omega), scaled_max _ 255 (by omega), scaled_max _ 255 (by omega)]
  go_wp2_with fail
  refine (both255 _ _ _ _ _ _ _ _ hv x0 y0 z0 (by omega) (by omega) s0 s1).mono ?_
  rintro e w1 ⟨rfl, o1, o2, o3, o4, o5, o6, o7, o8, rfl⟩
  rw [scaled_max x 255 (by omega), scaled_max y 255 (by omega), scaled_max z 255 (by omega), scaled_max a 255 (by omega), scaled_max f 255 (by omega)]
  go_wp2_with fail
  refine (scale255 _ _ _ _ _ _ _ hv x0 y0 z0 s0 s1).mono ?_
  rintro e w1 ⟨rfl, r1, r2, r3, rfl⟩
  have he := eql_pixel_same
  obtain ⟨v0, v1, v2, v3, v4⟩ := valid_parts hv
  obtain ⟨d1, d2, d3, d4, d5, d6⟩ := twice_near f (gsam k 255) (gsam j 255) 255 (by omega) (by omega) (by omega) (by omega) s0 s1 t0 t1
  go_wp2_with (go_at_call 25; refine (awake11_call _).mono ?_; rintro e w1 ⟨rfl, q1, q2, q3, q4, rfl⟩)
  go_returns
  exact ⟨rfl, by repeat' (first | (with_reducible exact Below.refl _ _) | (with_reducible refine below_drewN ?_ _) | (with_reducible refine Below.alloc ?_ ?_ _) | (with_reducible refine Below.setCell ?_ ?_ _) | go_size)⟩

set_option maxHeartbeats 4000000 in
theorem twice_65535 (n0 n1 n2 n3 n4 k j t : Int) (w : World) (h0 : -9223372036854775808 ≤ n0) (g0 : n0 ≤ 9223372036854775807) (h1 : -9223372036854775808 ≤ n1) (g1 : n1 ≤ 9223372036854775807) (h2 : -9223372036854775808 ≤ n2) (g2 : n2 ≤ 9223372036854775807) (h3 : -9223372036854775808 ≤ n3) (g3 : n3 ≤ 9223372036854775807) (h4 : -9223372036854775808 ≤ n4) (g4 : n4 ≤ 9223372036854775807) (k0 : -9223372036854775808 ≤ k) (k1 : k ≤ 9223372036854775807) (j0 : -9223372036854775808 ≤ j) (j1 : j ≤ 9223372036854775807) (hm : gmax t = 65535) :
    Calls Try.prog 11 #[.agg #[.int .i64 n0, .int .i64 n1, .int .i64 n2, .int .i64 n3, .int .i64 n4], .int .i64 k, .int .i64 j, .int .i64 t] w fun e w' => e = .returned (.bool true) ∧ Below w.heap.size w w' := by
  obtain ⟨s0, s1⟩ := gsam_bounds k 65535 (by omega)
  obtain ⟨t0, t1⟩ := gsam_bounds j 65535 (by omega)
  have hsd : ∀ (w : World) (n : Nat) (a : Addr) (v : Value), (w.drewN n).setCell a v = (w.setCell a v).drewN n := fun _ _ _ _ => rfl
  have had : ∀ (w : World) (n : Nat) (o : Obj), (w.drewN n).alloc o = (w.alloc o).drewN n := fun _ _ _ => rfl
  go_enter Try.func11, Try.ntmps11
  go_wp2_with (first | (go_at_call 16; refine (max_call _ _).mono ?_; rintro e w1 ⟨rfl, rfl⟩) | (go_at_call 22; refine (genPixel_ex _ _ _ _ _ _ _ (by omega) (by omega) h0 g0 h1 g1 h2 g2 h3 g3 h4 g4).mono ?_; rintro e w1 ⟨x, y, z, a, f, rfl, hv, x0, y0, z0, p1, p2, n, rfl⟩) | (go_at_call 23; refine (sample_call _ _ _ (by omega) (by omega) (by omega) (by omega)).mono ?_; rintro e w1 ⟨rfl, rfl⟩))
  refine (both65535 _ _ _ _ _ _ _ _ hv x0 y0 z0 s0 s1 t0 t1).mono ?_
  rintro e w1 ⟨rfl, o1, o2, o3, o4, o5, o6, o7, o8, rfl⟩
  go_wp2_with fail
  refine (both65535 _ _ _ _ _ _ _ _ hv x0 y0 z0 t0 t1 s0 s1).mono ?_
  rintro e w1 ⟨rfl, o1, o2, o3, o4, o5, o6, o7, o8, rfl⟩
  go_wp2_with fail
  refine (both65535 _ _ _ _ _ _ _ _ hv x0 y0 z0 s0 s1 (by omega) (by omega)).mono ?_
  rintro e w1 ⟨rfl, o1, o2, o3, o4, o5, o6, o7, o8, rfl⟩
  rw [scaled_max _ 65535 (by omega), scaled_max _ 65535 (by omega), scaled_max _ 65535 (by omega), scaled_max _ 65535 (by omega), scaled_max _ 65535 (by omega)]
  go_wp2_with fail
  refine (both65535 _ _ _ _ _ _ _ _ hv x0 y0 z0 (by omega) (by omega) s0 s1).mono ?_
  rintro e w1 ⟨rfl, o1, o2, o3, o4, o5, o6, o7, o8, rfl⟩
  rw [scaled_max x 65535 (by omega), scaled_max y 65535 (by omega), scaled_max z 65535 (by omega), scaled_max a 65535 (by omega), scaled_max f 65535 (by omega)]
  go_wp2_with fail
  refine (scale65535 _ _ _ _ _ _ _ hv x0 y0 z0 s0 s1).mono ?_
  rintro e w1 ⟨rfl, r1, r2, r3, rfl⟩
  have he := eql_pixel_same
  obtain ⟨v0, v1, v2, v3, v4⟩ := valid_parts hv
  obtain ⟨d1, d2, d3, d4, d5, d6⟩ := twice_near f (gsam k 65535) (gsam j 65535) 65535 (by omega) (by omega) (by omega) (by omega) s0 s1 t0 t1
  go_wp2_with (go_at_call 25; refine (awake11_call _).mono ?_; rintro e w1 ⟨rfl, q1, q2, q3, q4, rfl⟩)
  go_returns
  exact ⟨rfl, by repeat' (first | (with_reducible exact Below.refl _ _) | (with_reducible refine below_drewN ?_ _) | (with_reducible refine Below.alloc ?_ ?_ _) | (with_reducible refine Below.setCell ?_ ?_ _) | go_size)⟩

theorem scaleTwice_walk (n0 n1 n2 n3 n4 k j t : Int) (w : World) (h0 : -9223372036854775808 ≤ n0) (g0 : n0 ≤ 9223372036854775807) (h1 : -9223372036854775808 ≤ n1) (g1 : n1 ≤ 9223372036854775807) (h2 : -9223372036854775808 ≤ n2) (g2 : n2 ≤ 9223372036854775807) (h3 : -9223372036854775808 ≤ n3) (g3 : n3 ≤ 9223372036854775807) (h4 : -9223372036854775808 ≤ n4) (g4 : n4 ≤ 9223372036854775807) (k0 : -9223372036854775808 ≤ k) (k1 : k ≤ 9223372036854775807) (j0 : -9223372036854775808 ≤ j) (j1 : j ≤ 9223372036854775807) :
    Calls Try.prog 11 #[.agg #[.int .i64 n0, .int .i64 n1, .int .i64 n2, .int .i64 n3, .int .i64 n4], .int .i64 k, .int .i64 j, .int .i64 t] w fun e w' => e = .returned (.bool true) ∧ Below w.heap.size w w' := by
  rcases gmax_cases t with hm | hm
  · exact twice_255 n0 n1 n2 n3 n4 k j t w h0 g0 h1 g1 h2 g2 h3 g3 h4 g4 k0 k1 j0 j1 hm
  · exact twice_65535 n0 n1 n2 n3 n4 k j t w h0 g0 h1 g1 h2 g2 h3 g3 h4 g4 k0 k1 j0 j1 hm
end Go.Proofs.Ytmehclilgmigkaa
