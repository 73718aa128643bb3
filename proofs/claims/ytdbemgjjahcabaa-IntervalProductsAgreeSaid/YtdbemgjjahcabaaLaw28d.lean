/- The walk of IntervalEnclosesResults. -/
import Derived.Test.YtdbemgjjahcabaaLaw28c
import Derived.Deep.RegionWith
namespace Go.Proofs.Ytdbemgjjahcabaa
open Go.RowKit
set_option linter.unusedVariables false

theorem ct_true {lo hi n d : Int} (hv : ivB lo hi = true) (hn : nearB n = true) (hd : nearB d = true) (d1 : 1 ≤ d) (h1 : lo * d ≤ n * 1099511627776) (h2 : n * 1099511627776 ≤ hi * d) : ctB lo hi n d = true := by
  rw [ct_agree]
  unfold rcB
  have eN : scN n d = n := if_neg (by omega)
  have eD : scD d = d := if_neg (by omega)
  rw [hv, okd_of hn hd (by omega), eN, eD, decide_eq_true h1, decide_eq_true (by rw [Int.neg_mul, Int.neg_mul]; omega)]; rfl
/-- a fraction between -2 and 2, and its enclosure -/
theorem of_frac {p q : Int} (q1 : 1 ≤ q) (q2 : q ≤ 1000) (p1 : -1000 ≤ p) (p2 : p ≤ 1000) (p3 : -2 * q ≤ p) (p4 : p ≤ 2 * q) :
    ∃ l h : Int, (∀ w, Calls Try.prog 32 #[.int .i64 p, .int .i64 q] w fun e w' => e = .returned (.tuple #[.agg #[.int .i64 l, .int .i64 h], .bool true]) ∧ ∃ p, w' = more w p) ∧
      ivB l h = true ∧ -2199023255552 ≤ l ∧ h ≤ 2199023255552 ∧ l * q ≤ p * 1099511627776 ∧ p * 1099511627776 ≤ h * q := by
  have ho : okd p q = true := okd_of (decide_eq_true (by omega)) (decide_eq_true (by omega)) (by omega)
  obtain ⟨e1, e2, e3⟩ := s_good ho
  have eN : scN p q = p := if_neg (by omega)
  have eD : scD q = q := if_neg (by omega)
  rw [eN, eD] at e1 e2 e3
  have hk : rok (p * 1099511627776) q = true := decide_eq_true (by omega)
  obtain ⟨r1, r2⟩ := r_good hk
  rw [r1] at e1
  rw [r2] at e2
  rw [hk] at e3
  have b1 : -2199023255552 ≤ p * 1099511627776 / q := (le_flo q1).2 (by omega)
  have b2 : cei (p * 1099511627776) q ≤ 2199023255552 := (cei_le q1).2 (by omega)
  have b3 := flo_le_cei (p * 1099511627776) q q1
  have b4 := flo_mul_le (p * 1099511627776) q q1
  have b5 := le_cei_mul (p * 1099511627776) q q1
  have c := fun w => of_call p q w
  rw [e1, e2, e3] at c
  have hv : ivB (p * 1099511627776 / q) (cei (p * 1099511627776) q) = true := decide_eq_true (by omega)
  obtain ⟨g1, g2, g3⟩ := mk_good hv
  rw [g1, g2, g3] at c
  exact ⟨_, _, c, hv, b1, b2, b4, b5⟩
theorem hull_wide {l h ml mh q P : Int} (q1 : 1 ≤ q) (hv : ivB l h = true) (hm : ivB ml mh = true) (l1 : -2199023255552 ≤ l) (h1 : h ≤ 2199023255552) (m1 : -2199023255552 ≤ ml) (m2 : mh ≤ 4398046511102) (hl : l * q ≤ P) (hh : P ≤ h * q) :
    ∃ xl xh : Int, (∀ w, Calls Try.prog 24 #[.agg #[.int .i64 l, .int .i64 h], .agg #[.int .i64 ml, .int .i64 mh]] w fun e w' => e = .returned (.tuple #[.agg #[.int .i64 xl, .int .i64 xh], .bool true]) ∧ ∃ p, w' = more w p) ∧
      ivB xl xh = true ∧ -2199023255552 ≤ xl ∧ xh ≤ 4398046511102 ∧ q * xl ≤ P ∧ P ≤ q * xh := by
  obtain ⟨a0, _, _⟩ := ivB_parts hv
  obtain ⟨b0, _, _⟩ := ivB_parts hm
  have hw : ivB (min l ml) (max h mh) = true := decide_eq_true (by omega)
  have c := fun w => hull_call l h ml mh w
  rw [hv, hm] at c
  obtain ⟨g1, g2, g3⟩ := mk_good' (ok := true && true) rfl hw
  rw [g1, g2, g3] at c
  have k1 := Int.mul_le_mul_of_nonneg_right (show min l ml ≤ l by omega) (show 0 ≤ q by omega)
  have k2 := Int.mul_le_mul_of_nonneg_right (show h ≤ max h mh by omega) (show 0 ≤ q by omega)
  refine ⟨_, _, c, hw, by omega, by omega, ?_, ?_⟩
  · rw [Int.mul_comm]; omega
  · rw [Int.mul_comm q]; omega
theorem prod_bound {p s : Int} (p1 : -1000 ≤ p) (p2 : p ≤ 1000) (s1 : 0 ≤ s) (s2 : s ≤ 1000) : -1000000 ≤ p * s ∧ p * s ≤ 1000000 := by
  have h1 := @bil_lo (-1000000) (-1000) 1000 0 1000 p s 1 1 (by omega) (by omega) (by omega) (by omega) (by omega) (by omega) (by decide) (by decide) (by decide) (by decide)
  have h2 := @bil_hi 1000000 (-1000) 1000 0 1000 p s 1 1 (by omega) (by omega) (by omega) (by omega) (by omega) (by omega) (by decide) (by decide) (by decide) (by decide)
  omega
theorem sum_le {a b q s P R : Int} (q0 : 0 ≤ q) (s0 : 0 ≤ s) (h1 : q * a ≤ P) (h2 : s * b ≤ R) : (a + b) * (q * s) ≤ P * s + R * q := by
  have k1 := Int.mul_le_mul_of_nonneg_right h1 s0
  have k2 := Int.mul_le_mul_of_nonneg_right h2 q0
  have e1 : (a + b) * (q * s) = q * a * s + s * b * q := by
    rw [Int.add_mul]
    congr 1
    · rw [← Int.mul_assoc, Int.mul_comm a q]
    · rw [Int.mul_comm q s, ← Int.mul_assoc, Int.mul_comm b s]
  omega
theorem le_sum {a b q s P R : Int} (q0 : 0 ≤ q) (s0 : 0 ≤ s) (h1 : P ≤ q * a) (h2 : R ≤ s * b) : P * s + R * q ≤ (a + b) * (q * s) := by
  have := @sum_le (-a) (-b) q s (-P) (-R) q0 s0 (by rw [Int.mul_neg]; omega) (by rw [Int.mul_neg]; omega)
  have e : (-a + -b) * (q * s) = -((a + b) * (q * s)) := by rw [← Int.neg_add, Int.neg_mul]
  rw [e, Int.neg_mul, Int.neg_mul] at this
  omega
theorem unit_sum (p r q s : Int) : p * 1099511627776 * s + r * 1099511627776 * q = (p * s + r * q) * 1099511627776 := by
  rw [Int.add_mul, Int.mul_right_comm p, Int.mul_right_comm r]
/-- the quotients' bounds -/
theorem quo_lo {K x yl yh p r q s : Int} (q0 : 0 ≤ q) (s0 : 0 ≤ s) (a : q * x ≤ p * 1099511627776) (b1 : s * yl ≤ r * 1099511627776) (b2 : r * 1099511627776 ≤ s * yh) (k1 : K * yl ≤ x * 1099511627776) (k2 : K * yh ≤ x * 1099511627776) :
    K * (q * r) ≤ p * s * 1099511627776 := by
  have h1 : K * (r * 1099511627776) ≤ s * (x * 1099511627776) := by
    by_cases hK : 0 ≤ K
    · have g1 := Int.mul_le_mul_of_nonneg_left b2 hK
      have g2 := Int.mul_le_mul_of_nonneg_left k2 s0
      rw [Int.mul_left_comm K s] at g1
      omega
    · have g1 := Int.mul_le_mul_of_nonpos_left (show K ≤ 0 by omega) b1
      have g2 := Int.mul_le_mul_of_nonneg_left k1 s0
      rw [Int.mul_left_comm K s] at g1
      omega
  have h2 : K * r ≤ s * x := by
    rw [← Int.mul_assoc, ← Int.mul_assoc] at h1
    omega
  have h3 := Int.mul_le_mul_of_nonneg_left h2 q0
  have h4 := Int.mul_le_mul_of_nonneg_left a s0
  have e1 : K * (q * r) = q * (K * r) := Int.mul_left_comm _ _ _
  have e2 : q * (s * x) = s * (q * x) := Int.mul_left_comm _ _ _
  have e3 : p * s * 1099511627776 = s * (p * 1099511627776) := by rw [Int.mul_comm p s, Int.mul_assoc]
  omega
theorem quo_hi {K x yl yh p r q s : Int} (q0 : 0 ≤ q) (s0 : 0 ≤ s) (a : p * 1099511627776 ≤ q * x) (b1 : s * yl ≤ r * 1099511627776) (b2 : r * 1099511627776 ≤ s * yh) (k1 : x * 1099511627776 ≤ K * yl) (k2 : x * 1099511627776 ≤ K * yh) :
    p * s * 1099511627776 ≤ K * (q * r) := by
  have := @quo_lo (-K) (-x) yl yh (-p) r q s q0 s0 (by rw [Int.mul_neg, Int.neg_mul]; omega) b1 b2 (by rw [Int.neg_mul, Int.neg_mul]; omega) (by rw [Int.neg_mul, Int.neg_mul]; omega)
  rw [Int.neg_mul, Int.neg_mul, Int.neg_mul] at this
  omega
theorem prod_le {m q s p r : Int} (h : m * 1099511627776 * (q * s) ≤ p * 1099511627776 * (r * 1099511627776)) : m * (q * s) ≤ p * r * 1099511627776 := by
  have e1 : m * 1099511627776 * (q * s) = m * (q * s) * 1099511627776 := Int.mul_right_comm _ _ _
  have e2 : p * 1099511627776 * (r * 1099511627776) = p * r * 1099511627776 * 1099511627776 := by
    rw [← Int.mul_assoc, Int.mul_right_comm p]
  omega
theorem le_prod {m q s p r : Int} (h : p * 1099511627776 * (r * 1099511627776) ≤ m * 1099511627776 * (q * s)) : p * r * 1099511627776 ≤ m * (q * s) := by
  have e1 : m * 1099511627776 * (q * s) = m * (q * s) * 1099511627776 := Int.mul_right_comm _ _ _
  have e2 : p * 1099511627776 * (r * 1099511627776) = p * r * 1099511627776 * 1099511627776 := by
    rw [← Int.mul_assoc, Int.mul_right_comm p]
  omega
theorem near_small {v : Int} (h : -1099511627776 ≤ v ∧ v ≤ 1099511627776) : nearB v = true := decide_eq_true h
/-- the plain law: what the four operations give, and that the results contain the fractions' ones -/
theorem enc_plain {p q r s xl xh yl yh : Int} (q1 : 1 ≤ q) (q2 : q ≤ 1000) (s1 : 1 ≤ s) (s2 : s ≤ 1000) (p1 : -1000 ≤ p) (p2 : p ≤ 1000) (r1 : -1000 ≤ r) (r2 : r ≤ 1000)
    (hx : ivB xl xh = true) (hy : ivB yl yh = true) (x1 : -2199023255552 ≤ xl) (x2 : xh ≤ 4398046511102) (y1 : -2199023255552 ≤ yl) (y2 : yh ≤ 4398046511102)
    (a1 : q * xl ≤ p * 1099511627776) (a2 : p * 1099511627776 ≤ q * xh) (b1 : s * yl ≤ r * 1099511627776) (b2 : r * 1099511627776 ≤ s * yh) :
    ∃ el eh gl gh il ih kl kh : Int, ∃ l : Bool, (∀ w, Calls Try.prog 14 #[.agg #[.int .i64 (xl), .int .i64 (xh)], .agg #[.int .i64 (yl), .int .i64 (yh)]] w fun e w' => e = .returned (.tuple #[.agg #[.int .i64 (el), .int .i64 (eh)], .bool (true)]) ∧ ∃ p, w' = more w p) ∧ (∀ w, Calls Try.prog 16 #[.agg #[.int .i64 (xl), .int .i64 (xh)], .agg #[.int .i64 (yl), .int .i64 (yh)]] w fun e w' => e = .returned (.tuple #[.agg #[.int .i64 (gl), .int .i64 (gh)], .bool (true)]) ∧ ∃ p, w' = more w p) ∧ (∀ w, Calls Try.prog 26 #[.agg #[.int .i64 (xl), .int .i64 (xh)], .agg #[.int .i64 (yl), .int .i64 (yh)]] w fun e w' => e = .returned (.tuple #[.agg #[.int .i64 (il), .int .i64 (ih)], .bool (true)]) ∧ ∃ p, w' = more w p) ∧ (∀ w, Calls Try.prog 29 #[.agg #[.int .i64 (xl), .int .i64 (xh)], .agg #[.int .i64 (yl), .int .i64 (yh)]] w fun e w' => e = .returned (.tuple #[.agg #[.int .i64 (kl), .int .i64 (kh)], .bool (l)]) ∧ ∃ p, w' = more w p) ∧ (∀ w, Calls Try.prog 12 #[.agg #[.int .i64 (el), .int .i64 (eh)], .int .i64 (p * s + r * q), .int .i64 (q * s)] w fun e w' => e = .returned (.bool true) ∧ ∃ p, w' = more w p) ∧ (∀ w, Calls Try.prog 12 #[.agg #[.int .i64 (gl), .int .i64 (gh)], .int .i64 (p * s - r * q), .int .i64 (q * s)] w fun e w' => e = .returned (.bool true) ∧ ∃ p, w' = more w p) ∧ (∀ w, Calls Try.prog 12 #[.agg #[.int .i64 (il), .int .i64 (ih)], .int .i64 (p * r), .int .i64 (q * s)] w fun e w' => e = .returned (.bool true) ∧ ∃ p, w' = more w p) ∧ (l = true → 0 < r ∧ (∀ w, Calls Try.prog 12 #[.agg #[.int .i64 (kl), .int .i64 (kh)], .int .i64 (p * s), .int .i64 (q * r)] w fun e w' => e = .returned (.bool true) ∧ ∃ p, w' = more w p)) := by
  obtain ⟨x0, _, _⟩ := ivB_parts hx
  obtain ⟨y0, _, _⟩ := ivB_parts hy
  obtain ⟨d1, d2⟩ := prod_bound p1 p2 (show 0 ≤ s by omega) s2
  obtain ⟨d3, d4⟩ := prod_bound r1 r2 (show 0 ≤ q by omega) q2
  obtain ⟨d5, d6⟩ := prod_bound (show -1000 ≤ q by omega) q2 (show 0 ≤ s by omega) s2
  have d7 : 1 ≤ q * s := by have := Int.mul_le_mul q1 s1 (by decide) (by omega); omega
  have d8 : -1000000 ≤ p * r ∧ p * r ≤ 1000000 := by
    have h1 := @bil_lo (-1000000) (-1000) 1000 (-1000) 1000 p r 1 1 (by omega) (by omega) (by omega) (by omega) (by omega) (by omega) (by decide) (by decide) (by decide) (by decide)
    have h2 := @bil_hi 1000000 (-1000) 1000 (-1000) 1000 p r 1 1 (by omega) (by omega) (by omega) (by omega) (by omega) (by omega) (by decide) (by decide) (by decide) (by decide)
    omega
  have va : ivB (xl + yl) (xh + yh) = true := decide_eq_true (by omega)
  have vs : ivB (xl - yh) (xh - yl) = true := decide_eq_true (by omega)
  obtain ⟨m1, m2⟩ := mul_ok hx hy (by omega) (by omega) (by omega) (by omega)
  have c1 := fun w => add_call xl xh yl yh w
  have c2 := fun w => sub_call xl xh yl yh w
  have c3 := fun w => ivMul_call xl xh yl yh w
  obtain ⟨g1, g2, g3⟩ := mk_good' (ok := true && true) rfl va
  obtain ⟨g4, g5, g6⟩ := mk_good' (ok := true && true) rfl vs
  obtain ⟨g7, g8, g9⟩ := mk_good' m1 m2
  rw [hx, hy, g1, g2, g3] at c1
  rw [hx, hy, g4, g5, g6] at c2
  rw [g7, g8, g9] at c3
  have nd := near_small (v := q * s) (by omega)
  have t1 : ctB (xl + yl) (xh + yh) (p * s + r * q) (q * s) = true := by
    refine ct_true va (near_small (by omega)) nd d7 ?_ ?_
    · have := sum_le (show 0 ≤ q by omega) (show 0 ≤ s by omega) a1 b1
      rw [unit_sum] at this; exact this
    · have := le_sum (show 0 ≤ q by omega) (show 0 ≤ s by omega) a2 b2
      rw [unit_sum] at this; exact this
  have t2 : ctB (xl - yh) (xh - yl) (p * s - r * q) (q * s) = true := by
    refine ct_true vs (near_small (by omega)) nd d7 ?_ ?_
    · have := @sum_le xl (-yh) q s (p * 1099511627776) (-(r * 1099511627776)) (by omega) (by omega) a1 (by rw [Int.mul_neg]; omega)
      have e : p * 1099511627776 * s + -(r * 1099511627776) * q = (p * s - r * q) * 1099511627776 := by
        rw [Int.neg_mul, Int.mul_right_comm p, Int.mul_right_comm r, Int.sub_mul]; omega
      rw [e] at this
      rw [Int.sub_eq_add_neg]; exact this
    · have := @le_sum xh (-yl) q s (p * 1099511627776) (-(r * 1099511627776)) (by omega) (by omega) a2 (by rw [Int.mul_neg]; omega)
      have e : p * 1099511627776 * s + -(r * 1099511627776) * q = (p * s - r * q) * 1099511627776 := by
        rw [Int.neg_mul, Int.mul_right_comm p, Int.mul_right_comm r, Int.sub_mul]; omega
      rw [e] at this
      have e2 : xh - yl = xh + -yl := Int.sub_eq_add_neg
      rw [e2]; exact this
  have t3 : ctB (mLo xl xh yl yh) (mHi xl xh yl yh) (p * r) (q * s) = true := by
    obtain ⟨u1, u2, u3, u4⟩ := mLo_le xl xh yl yh
    obtain ⟨w1, w2, w3, w4⟩ := le_mHi xl xh yl yh
    exact ct_true m2 (near_small (by omega)) nd d7 (prod_le (bil_lo (by omega) (by omega) a1 a2 b1 b2 u1 u2 u3 u4)) (le_prod (bil_hi (by omega) (by omega) a1 a2 b1 b2 w1 w2 w3 w4))
  have k1 := fun w => ct_call (xl + yl) (xh + yh) (p * s + r * q) (q * s) w
  have k2 := fun w => ct_call (xl - yh) (xh - yl) (p * s - r * q) (q * s) w
  have k3 := fun w => ct_call (mLo xl xh yl yh) (mHi xl xh yl yh) (p * r) (q * s) w
  rw [t1] at k1
  rw [t2] at k2
  rw [t3] at k3
  refine ⟨_, _, _, _, _, _, _, _, _, c1, c2, c3, fun w => ivDiv_call xl xh yl yh w, k1, k2, k3, ?_⟩
  intro hl
  have hl' := hl
  unfold mkB at hl'
  rw [Bool.and_eq_true] at hl'
  obtain ⟨o1, o2⟩ := hl'
  obtain ⟨g1, g2, _⟩ := mk_good' o1 o2
  rw [g1, g2]
  have o3 : 1 ≤ yl := by
    have h := o1
    unfold dOk at h
    simp only [Bool.and_eq_true, decide_eq_true_eq] at h
    omega
  have rp : 0 < r := by
    have h1 := Int.mul_le_mul s1 o3 (by decide) (by omega)
    omega
  have d9 : 1 ≤ q * r := by have := Int.mul_le_mul q1 (show 1 ≤ r by omega) (by decide) (by omega); omega
  obtain ⟨d10, d11⟩ := prod_bound (show -1000 ≤ q by omega) q2 (show 0 ≤ r by omega) r2
  have lo : ∀ P d : Int, 1 ≤ d → dLo xl xh yl yh ≤ P / d → dLo xl xh yl yh * d ≤ P := fun P d h1 h2 => (le_flo h1).1 h2
  have hi : ∀ P d : Int, 1 ≤ d → cei P d ≤ dHi xl xh yl yh → P ≤ dHi xl xh yl yh * d := fun P d h1 h2 => (cei_le h1).1 h2
  have t4 : ctB (dLo xl xh yl yh) (dHi xl xh yl yh) (p * s) (q * r) = true := by
    refine ct_true o2 (near_small (by omega)) (near_small (by omega)) d9 ?_ ?_
    · exact quo_lo (by omega) (by omega) a1 b1 b2 (lo _ _ o3 (by unfold dLo cLo min4; omega)) (lo _ _ (by omega) (by unfold dLo cLo min4; omega))
    · exact quo_hi (by omega) (by omega) a2 b1 b2 (hi _ _ o3 (by unfold dHi cHi max4; omega)) (hi _ _ (by omega) (by unfold dHi cHi max4; omega))
  refine ⟨rp, fun w => ?_⟩
  have k4 := ct_call (dLo xl xh yl yh) (dHi xl xh yl yh) (p * s) (q * r) w
  rw [t4] at k4
  exact k4

def gB (p q : Int) : Int := if 2 * q < p then 2 * q else if p < -2 * q then -2 * q else p
set_option maxHeartbeats 400000 in
theorem gcdBound_call (p q : Int) (w : World) (p1 : -1000 ≤ p) (p2 : p ≤ 999) (q1 : 1 ≤ q) (q2 : q ≤ 1000) : Calls Try.prog 34 #[.int .i64 p, .int .i64 q] w fun e w' => e = .returned (.int .i64 (gB p q)) ∧ w = w' := by
  unfold gB
  by_cases h1 : 2 * q < p
  · rw [if_pos h1]
    go_enter Try.func34, Try.ntmps34
    go_wp2
    go_ret
    exact ⟨rfl, rfl⟩
  · rw [if_neg h1]
    by_cases h2 : p < -2 * q
    · rw [if_pos h2]
      go_enter Try.func34, Try.ntmps34
      go_wp2
      go_ret
      exact ⟨rfl, rfl⟩
    · rw [if_neg h2]
      go_enter Try.func34, Try.ntmps34
      go_wp2
      go_ret
      exact ⟨rfl, rfl⟩

set_option maxHeartbeats 8000000 in
set_option maxRecDepth 100000 in
theorem intervalEnclosesResults_walk (a b c d n0 n1 m0 m1 : Int) (w : World) (aa : -9223372036854775808 ≤ a) (ab : a ≤ 9223372036854775807) (ba : -9223372036854775808 ≤ b) (bb : b ≤ 9223372036854775807) (ca : -9223372036854775808 ≤ c) (cb : c ≤ 9223372036854775807) (da : -9223372036854775808 ≤ d) (db : d ≤ 9223372036854775807) (n0a : -9223372036854775808 ≤ n0) (n0b : n0 ≤ 9223372036854775807) (n1a : -9223372036854775808 ≤ n1) (n1b : n1 ≤ 9223372036854775807) (m0a : -9223372036854775808 ≤ m0) (m0b : m0 ≤ 9223372036854775807) (m1a : -9223372036854775808 ≤ m1) (m1b : m1 ≤ 9223372036854775807) :
    Calls Try.prog 8 #[.int .i64 a, .int .i64 b, .int .i64 c, .int .i64 d, .agg #[.int .i64 n0, .int .i64 n1], .agg #[.int .i64 m0, .int .i64 m1]] w fun e w' => e = .returned (.bool true) ∧ Below w.heap.size w w' := by
  have ma := mod_call a 2000
  have mb := mod_call b 1000
  have mc := mod_call c 2000
  have md := mod_call d 1000
  have a0 : 0 ≤ a % 2000 := Int.emod_nonneg _ (by omega)
  have a1 : a % 2000 < 2000 := Int.emod_lt_of_pos _ (by omega)
  have b0 : 0 ≤ b % 1000 := Int.emod_nonneg _ (by omega)
  have b1 : b % 1000 < 1000 := Int.emod_lt_of_pos _ (by omega)
  have c0 : 0 ≤ c % 2000 := Int.emod_nonneg _ (by omega)
  have c1 : c % 2000 < 2000 := Int.emod_lt_of_pos _ (by omega)
  have d0 : 0 ≤ d % 1000 := Int.emod_nonneg _ (by omega)
  have d1 : d % 1000 < 1000 := Int.emod_lt_of_pos _ (by omega)
  generalize a % 2000 = ra at *
  generalize b % 1000 = rb at *
  generalize c % 2000 = rc at *
  generalize d % 1000 = rd at *
  obtain ⟨q, hq⟩ : ∃ q, 1 + rb = q := ⟨_, rfl⟩
  obtain ⟨s, hs⟩ : ∃ s, 1 + rd = s := ⟨_, rfl⟩
  have gp := fun w => gcdBound_call (ra - 1000) q w (by omega) (by omega) (by omega) (by omega)
  have gr := fun w => gcdBound_call (rc - 1000) s w (by omega) (by omega) (by omega) (by omega)
  have p5 : -1000 ≤ gB (ra - 1000) q ∧ gB (ra - 1000) q ≤ 1000 ∧ -2 * q ≤ gB (ra - 1000) q ∧ gB (ra - 1000) q ≤ 2 * q := by unfold gB; split <;> (try split) <;> omega
  have r5 : -1000 ≤ gB (rc - 1000) s ∧ gB (rc - 1000) s ≤ 1000 ∧ -2 * s ≤ gB (rc - 1000) s ∧ gB (rc - 1000) s ≤ 2 * s := by unfold gB; split <;> (try split) <;> omega
  generalize gB (ra - 1000) q = p at *
  generalize gB (rc - 1000) s = r at *
  obtain ⟨p1, p2, p3, p4⟩ := p5
  obtain ⟨r1, r2, r3, r4⟩ := r5
  obtain ⟨fl, fh, o1, f1, f2, f3, f4, f5⟩ := of_frac (p := p) (q := q) (by omega) (by omega) p1 p2 p3 p4
  obtain ⟨hl, hh, o2, h1, h2, h3, h4, h5⟩ := of_frac (p := r) (q := s) (by omega) (by omega) r1 r2 r3 r4
  have vx := g_valid n0 n1
  have vy := g_valid m0 m1
  have bx := g_bounds n0 n1
  have by' := g_bounds m0 m1
  have mx := fun w => make_call n0 n1 n1a n1b w
  have my := fun w => make_call m0 m1 m1a m1b w
  obtain ⟨xl, xh, u1, u2, u3, u4, u5, u6⟩ := hull_wide (P := p * 1099511627776) (q := q) (by omega) f1 vx f2 f3 (by omega) (by omega) f4 f5
  obtain ⟨yl, yh, v1, v2, v3, v4, v5, v6⟩ := hull_wide (P := r * 1099511627776) (q := s) (by omega) h1 vy h2 h3 (by omega) (by omega) h4 h5
  obtain ⟨el, eh, gl, gh, il, ih, kl, kh, l, k1, k2, k3, k4, k5, k6, k7, k8⟩ := enc_plain (p := p) (q := q) (r := r) (s := s) (by omega) (by omega) (by omega) (by omega) p1 p2 r1 r2 u2 v2 u3 u4 v3 v4 u5 u6 v5 v6
  obtain ⟨z1, z2⟩ := prod_bound p1 p2 (show 0 ≤ s by omega) (show s ≤ 1000 by omega)
  obtain ⟨z3, z4⟩ := prod_bound r1 r2 (show 0 ≤ q by omega) (show q ≤ 1000 by omega)
  obtain ⟨z5, z6⟩ := prod_bound (show -1000 ≤ q by omega) (show q ≤ 1000 by omega) (show 0 ≤ s by omega) (show s ≤ 1000 by omega)
  have z7 := @bil_lo (-1000000) (-1000) 1000 (-1000) 1000 p r 1 1 (by omega) (by omega) (by omega) (by omega) (by omega) (by omega) (by decide) (by decide) (by decide) (by decide)
  have z8 := @bil_hi 1000000 (-1000) 1000 (-1000) 1000 p r 1 1 (by omega) (by omega) (by omega) (by omega) (by omega) (by omega) (by decide) (by decide) (by decide) (by decide)
  have z9 : -1000000 ≤ q * r ∧ q * r ≤ 1000000 := by rw [Int.mul_comm]; exact ⟨z3, z4⟩
  obtain ⟨z9, z10⟩ := z9
  rw [Int.one_mul, Int.mul_one] at z7 z8
  generalize gA n0 n1 + gW n1 = nh at *
  generalize gA n0 n1 = nl at *
  generalize gA m0 m1 + gW m1 = mh at *
  generalize gA m0 m1 = ml at *
  rw [← hq] at gp o1 k5 k6 k7 k8 z3 z4 z5 z6 z9 z10
  rw [← hs] at gr o2 k5 k6 k7 k8 z1 z2 z5 z6
  clear f1 f2 f3 f4 f5 h1 h2 h3 h4 h5 vx vy bx by' u2 u3 u4 u5 u6 v2 v3 v4 v5 v6 p3 p4 r3 r4 hq hs
  have Hma := Lib.hid @ma
  have Hmb := Lib.hid @mb
  have Hmc := Lib.hid @mc
  have Hmd := Lib.hid @md
  have Hgp := Lib.hid @gp
  have Hgr := Lib.hid @gr
  have Ho1 := Lib.hid @o1
  have Ho2 := Lib.hid @o2
  have Hmx := Lib.hid @mx
  have Hmy := Lib.hid @my
  have Hu1 := Lib.hid @u1
  have Hv1 := Lib.hid @v1
  have Hk1 := Lib.hid @k1
  have Hk2 := Lib.hid @k2
  have Hk3 := Lib.hid @k3
  have Hk4 := Lib.hid @k4
  have Hk5 := Lib.hid @k5
  have Hk6 := Lib.hid @k6
  have Hk7 := Lib.hid @k7
  clear ma mb mc md gp gr o1 o2 mx my u1 v1 k1 k2 k3 k4 k5 k6 k7
  go_enter Try.func8, Try.ntmps8
  go_upto_region 1 with fail
  refine at_world (fun V => Ext w V ∧ V.heap[w.heap.size]? = some (prO n0 n1) ∧ V.heap[w.heap.size + 1]? = some (prO m0 m1)) ⟨⟨⟨[_, _], 0⟩, rfl⟩, at_old (at_new (by simp)), at_new (by simp)⟩ ?_
  rintro wc ⟨hE, en, em⟩
  go_upto_region 4 with (first | (go_at_call 10; first | ((with_reducible refine (Hma.out _ (by decide) (by decide)).mono ?_); rintro e w' ⟨rfl, rfl⟩) | ((with_reducible refine (Hmb.out _ (by decide) (by decide)).mono ?_); rintro e w' ⟨rfl, rfl⟩) | ((with_reducible refine (Hmc.out _ (by decide) (by decide)).mono ?_); rintro e w' ⟨rfl, rfl⟩) | ((with_reducible refine (Hmd.out _ (by decide) (by decide)).mono ?_); rintro e w' ⟨rfl, rfl⟩)) | (go_at_call 34; first | ((with_reducible refine (Hgp.out _).mono ?_); rintro e w' ⟨rfl, rfl⟩) | ((with_reducible refine (Hgr.out _).mono ?_); rintro e w' ⟨rfl, rfl⟩)))
  go_cut [17, 18] (fun s17 s18 Z => ∃ gx : Nat, Ext wc Z ∧ s17 = .pointer (some ⟨gx, 0, none⟩) ∧ s18 = .bool true ∧ Z.heap[gx]? = some (ivO fl fh) ∧ wc.heap.size ≤ gx)
  case first =>
    go_wp2_with (go_at_call 32; first | ((with_reducible refine (Ho1.out _).mono ?_); rintro e w' ⟨rfl, q, rfl⟩))
    go_meet
    refine ⟨_, ?_, rfl, rfl, ?_, ?_⟩
    all_goals repeat (first | exact Ext.refl _ | refine Ext.mored ?_ _ | refine Ext.drewN ?_ _ | refine Ext.alloc ?_ _ | (refine at_new ?_; first | rfl | (simp; done)) | refine at_more ?_ | refine at_drew ?_ | refine at_old ?_ | exact Nat.le_refl _ | (rw [more_size]; omega) | (simp [more_size]; omega) | (simp [more_size]; done))
  case rest =>
    obtain ⟨gx, hX, rfl, rfl, ex, lx⟩ := hcut
    have nnx : gx ≠ w.heap.size := by have := (pr_of en).1; omega
    have nmx : gx ≠ w.heap.size + 1 := by have := (pr_of em).1; omega
    replace lx := Nat.le_trans hE.size lx
    replace hE := hE.trans hX
    replace en := at_ext hX en
    replace em := at_ext hX em
    clear hX
    go_upto_region 5 with fail
    go_cut [19, 20] (fun s19 s20 Z => ∃ gy : Nat, Ext wc Z ∧ s19 = .pointer (some ⟨gy, 0, none⟩) ∧ s20 = .bool true ∧ Z.heap[gy]? = some (ivO hl hh) ∧ wc.heap.size ≤ gy)
    case first =>
      go_wp2_with (go_at_call 32; first | ((with_reducible refine (Ho2.out _).mono ?_); rintro e w' ⟨rfl, q, rfl⟩))
      go_meet
      refine ⟨_, ?_, rfl, rfl, ?_, ?_⟩
      all_goals repeat (first | exact Ext.refl _ | refine Ext.mored ?_ _ | refine Ext.drewN ?_ _ | refine Ext.alloc ?_ _ | (refine at_new ?_; first | rfl | (simp; done)) | refine at_more ?_ | refine at_drew ?_ | refine at_old ?_ | exact Nat.le_refl _ | (rw [more_size]; omega) | (simp [more_size]; omega) | (simp [more_size]; done))
    case rest =>
      obtain ⟨gy, hX, rfl, rfl, ey, ly⟩ := hcut
      have nny : gy ≠ w.heap.size := by have := (pr_of en).1; omega
      have nmy : gy ≠ w.heap.size + 1 := by have := (pr_of em).1; omega
      have nxy : gx ≠ gy := by have := (iv_of ex).1; omega
      replace ly := Nat.le_trans hE.size ly
      replace hE := hE.trans hX
      replace en := at_ext hX en
      replace em := at_ext hX em
      replace ex := at_ext hX ex
      clear hX
      go_upto_region 6 with fail
      go_cut [68] (fun s68 Z => Ext wc Z ∧ s68 = .bool false)
      case first =>
        go_wp2_with (go_at_call 11; first | ((with_reducible refine (awake_call _).mono ?_); rintro e w' ⟨rfl, q, rfl⟩))
        go_meet
        refine ⟨?_, rfl⟩
        all_goals repeat (first | exact Ext.refl _ | refine Ext.mored ?_ _ | refine Ext.drewN ?_ _ | refine Ext.alloc ?_ _ | (refine at_new ?_; first | rfl | (simp; done)) | refine at_more ?_ | refine at_drew ?_ | refine at_old ?_ | exact Nat.le_refl _ | (rw [more_size]; omega) | (simp [more_size]; omega) | (simp [more_size]; done))
      case rest =>
        obtain ⟨hX, rfl⟩ := hcut
        replace hE := hE.trans hX
        replace en := at_ext hX en
        replace em := at_ext hX em
        replace ex := at_ext hX ex
        replace ey := at_ext hX ey
        clear hX
        go_upto_region 8 with fail
        go_cut [17] (fun s17 Z => Ext w Z ∧ s17 = .pointer (some ⟨gx, 0, none⟩) ∧ Z.heap[gx]? = some (ivO xl xh) ∧ Z.heap[gy]? = wc.heap[gy]? ∧ Z.heap[w.heap.size]? = wc.heap[w.heap.size]? ∧ Z.heap[w.heap.size + 1]? = wc.heap[w.heap.size + 1]?)
        case first =>
          obtain ⟨cx0, cx1, cx2, cx3⟩ := iv_of ex
          obtain ⟨cn0, cn1, cn2, cn3⟩ := pr_of en
          have fz0 : wc.frozen? ⟨gx, 0, none⟩ = false := froz_of ex
          have fz1 : wc.frozen? ⟨gx, 1, none⟩ = false := froz_of ex
          have r1a : ∀ (p : Extra), (more wc.drew p).cell? ⟨gx, 0, none⟩ = some (.int .i64 fl) := fun _ => (iv_of (at_more (at_drew1 ex))).2.1
          have r1b : ∀ (p : Extra), (more wc.drew p).cell? ⟨gx, 1, none⟩ = some (.int .i64 fh) := fun _ => (iv_of (at_more (at_drew1 ex))).2.2.1
          have r1c : ∀ (p : Extra), (more wc.drew p).frozen? ⟨gx, 0, none⟩ = false := fun _ => froz_of (at_more (at_drew1 ex))
          have r1d : ∀ (p : Extra), (more wc.drew p).frozen? ⟨gx, 1, none⟩ = false := fun _ => froz_of (at_more (at_drew1 ex))
          have r1e : ∀ (p : Extra), (more wc.drew p).cell? ⟨w.heap.size, 0, none⟩ = some (.int .i64 n0) := fun _ => (pr_of (at_more (at_drew1 en))).2.1
          have r1f : ∀ (p : Extra), (more wc.drew p).cell? ⟨w.heap.size, 1, none⟩ = some (.int .i64 n1) := fun _ => (pr_of (at_more (at_drew1 en))).2.2.1
          have r2a : ∀ (p q : Extra), (more (more wc.drew p) q).cell? ⟨gx, 0, none⟩ = some (.int .i64 fl) := fun _ _ => (iv_of (at_more (at_more (at_drew1 ex)))).2.1
          have r2b : ∀ (p q : Extra), (more (more wc.drew p) q).cell? ⟨gx, 1, none⟩ = some (.int .i64 fh) := fun _ _ => (iv_of (at_more (at_more (at_drew1 ex)))).2.2.1
          have r2c : ∀ (p q : Extra), (more (more wc.drew p) q).frozen? ⟨gx, 0, none⟩ = false := fun _ _ => froz_of (at_more (at_more (at_drew1 ex)))
          have r2d : ∀ (p q : Extra), (more (more wc.drew p) q).frozen? ⟨gx, 1, none⟩ = false := fun _ _ => froz_of (at_more (at_more (at_drew1 ex)))
          have r2e : ∀ (p q : Extra), (more (more wc.drew p) q).cell? ⟨w.heap.size, 0, none⟩ = some (.int .i64 n0) := fun _ _ => (pr_of (at_more (at_more (at_drew1 en)))).2.1
          have r2f : ∀ (p q : Extra), (more (more wc.drew p) q).cell? ⟨w.heap.size, 1, none⟩ = some (.int .i64 n1) := fun _ _ => (pr_of (at_more (at_more (at_drew1 en)))).2.2.1
          go_region_with (first | (go_at_call 9; first | ((with_reducible refine (Hmx.out _).mono ?_); rintro e w' ⟨rfl, p, rfl⟩)) | (go_at_call 24; first | ((with_reducible refine (Hu1.out _).mono ?_); rintro e w' ⟨rfl, p, rfl⟩)))
          all_goals go_wp2_with fail
          all_goals
            go_meet
            refine ⟨?_, rfl, ?_, ?_, ?_, ?_⟩
            · repeat (first | exact hE | refine Ext.mored ?_ _ | refine ext_drewW ?_ | refine Ext.drewN ?_ _ | refine Ext.alloc ?_ _ | (refine Ext.setCell ?_ (by omega) _))
            · repeat (first | exact heap_set2 ex | exact heap_set2 (at_more (at_drew1 ex)) | exact heap_set2 (at_more (at_more (at_drew1 ex))) | refine at_more ?_ | refine at_drew1 ?_)
            · refine Eq.trans ?_ ey.symm
              repeat (first | exact ey | refine heap_set_other _ (by omega) ?_ | refine at_more ?_ | refine at_drew1 ?_)
            · refine Eq.trans ?_ en.symm
              repeat (first | exact en | refine heap_set_other _ (by omega) ?_ | refine at_more ?_ | refine at_drew1 ?_)
            · refine Eq.trans ?_ em.symm
              repeat (first | exact em | refine heap_set_other _ (by omega) ?_ | refine at_more ?_ | refine at_drew1 ?_)
        case rest =>
          obtain ⟨hX, rfl, ex, fy, fn, fm⟩ := hcut
          clear hE; have hE := hX; clear hX
          replace ey := fy.trans ey; clear fy
          replace en := fn.trans en; clear fn
          replace em := fm.trans em; clear fm
          go_upto_region 9 with fail
          go_cut [19] (fun s19 Z => Ext w Z ∧ s19 = .pointer (some ⟨gy, 0, none⟩) ∧ Z.heap[gy]? = some (ivO yl yh) ∧ Z.heap[gx]? = wc.heap[gx]? ∧ Z.heap[w.heap.size]? = wc.heap[w.heap.size]? ∧ Z.heap[w.heap.size + 1]? = wc.heap[w.heap.size + 1]?)
          case first =>
            obtain ⟨cy0, cy1, cy2, cy3⟩ := iv_of ey
            obtain ⟨cm0, cm1, cm2, cm3⟩ := pr_of em
            have fz0 : wc.frozen? ⟨gy, 0, none⟩ = false := froz_of ey
            have fz1 : wc.frozen? ⟨gy, 1, none⟩ = false := froz_of ey
            have r1a : ∀ (p : Extra), (more wc.drew p).cell? ⟨gy, 0, none⟩ = some (.int .i64 hl) := fun _ => (iv_of (at_more (at_drew1 ey))).2.1
            have r1b : ∀ (p : Extra), (more wc.drew p).cell? ⟨gy, 1, none⟩ = some (.int .i64 hh) := fun _ => (iv_of (at_more (at_drew1 ey))).2.2.1
            have r1c : ∀ (p : Extra), (more wc.drew p).frozen? ⟨gy, 0, none⟩ = false := fun _ => froz_of (at_more (at_drew1 ey))
            have r1d : ∀ (p : Extra), (more wc.drew p).frozen? ⟨gy, 1, none⟩ = false := fun _ => froz_of (at_more (at_drew1 ey))
            have r1e : ∀ (p : Extra), (more wc.drew p).cell? ⟨w.heap.size + 1, 0, none⟩ = some (.int .i64 m0) := fun _ => (pr_of (at_more (at_drew1 em))).2.1
            have r1f : ∀ (p : Extra), (more wc.drew p).cell? ⟨w.heap.size + 1, 1, none⟩ = some (.int .i64 m1) := fun _ => (pr_of (at_more (at_drew1 em))).2.2.1
            have r2a : ∀ (p q : Extra), (more (more wc.drew p) q).cell? ⟨gy, 0, none⟩ = some (.int .i64 hl) := fun _ _ => (iv_of (at_more (at_more (at_drew1 ey)))).2.1
            have r2b : ∀ (p q : Extra), (more (more wc.drew p) q).cell? ⟨gy, 1, none⟩ = some (.int .i64 hh) := fun _ _ => (iv_of (at_more (at_more (at_drew1 ey)))).2.2.1
            have r2c : ∀ (p q : Extra), (more (more wc.drew p) q).frozen? ⟨gy, 0, none⟩ = false := fun _ _ => froz_of (at_more (at_more (at_drew1 ey)))
            have r2d : ∀ (p q : Extra), (more (more wc.drew p) q).frozen? ⟨gy, 1, none⟩ = false := fun _ _ => froz_of (at_more (at_more (at_drew1 ey)))
            have r2e : ∀ (p q : Extra), (more (more wc.drew p) q).cell? ⟨w.heap.size + 1, 0, none⟩ = some (.int .i64 m0) := fun _ _ => (pr_of (at_more (at_more (at_drew1 em)))).2.1
            have r2f : ∀ (p q : Extra), (more (more wc.drew p) q).cell? ⟨w.heap.size + 1, 1, none⟩ = some (.int .i64 m1) := fun _ _ => (pr_of (at_more (at_more (at_drew1 em)))).2.2.1
            go_region_with (first | (go_at_call 9; first | ((with_reducible refine (Hmy.out _).mono ?_); rintro e w' ⟨rfl, p, rfl⟩)) | (go_at_call 24; first | ((with_reducible refine (Hv1.out _).mono ?_); rintro e w' ⟨rfl, p, rfl⟩)))
            all_goals go_wp2_with fail
            all_goals
              go_meet
              refine ⟨?_, rfl, ?_, ?_, ?_, ?_⟩
              · repeat (first | exact hE | refine Ext.mored ?_ _ | refine ext_drewW ?_ | refine Ext.drewN ?_ _ | refine Ext.alloc ?_ _ | (refine Ext.setCell ?_ (by omega) _))
              · repeat (first | exact heap_set2 ey | exact heap_set2 (at_more (at_drew1 ey)) | exact heap_set2 (at_more (at_more (at_drew1 ey))) | refine at_more ?_ | refine at_drew1 ?_)
              · refine Eq.trans ?_ ex.symm
                repeat (first | exact ex | refine heap_set_other _ (by omega) ?_ | refine at_more ?_ | refine at_drew1 ?_)
              · refine Eq.trans ?_ en.symm
                repeat (first | exact en | refine heap_set_other _ (by omega) ?_ | refine at_more ?_ | refine at_drew1 ?_)
              · refine Eq.trans ?_ em.symm
                repeat (first | exact em | refine heap_set_other _ (by omega) ?_ | refine at_more ?_ | refine at_drew1 ?_)
          case rest =>
            obtain ⟨hX, rfl, ey, fx, fn, fm⟩ := hcut
            clear hE; have hE := hX; clear hX
            replace ex := fx.trans ex; clear fx
            replace en := fn.trans en; clear fn
            replace em := fm.trans em; clear fm
            go_upto_region 10 with fail
            go_cut [21, 22] (fun s21 s22 Z => ∃ ge : Nat, Ext wc Z ∧ s21 = .pointer (some ⟨ge, 0, none⟩) ∧ s22 = .bool true ∧ Z.heap[ge]? = some (ivO el eh) ∧ wc.heap.size ≤ ge)
            case first =>
              obtain ⟨cx0, cx1, cx2, cx3⟩ := iv_of ex
              obtain ⟨cy0, cy1, cy2, cy3⟩ := iv_of ey
              go_wp2_with (go_at_call 14; first | ((with_reducible refine (Hk1.out _).mono ?_); rintro e w' ⟨rfl, q, rfl⟩))
              go_meet
              refine ⟨_, ?_, rfl, rfl, ?_, ?_⟩
              all_goals repeat (first | exact Ext.refl _ | refine Ext.mored ?_ _ | refine Ext.drewN ?_ _ | refine Ext.alloc ?_ _ | (refine at_new ?_; first | rfl | (simp; done)) | refine at_more ?_ | refine at_drew ?_ | refine at_old ?_ | exact Nat.le_refl _ | (rw [more_size]; omega) | (simp [more_size]; omega) | (simp [more_size]; done))
            case rest =>
              obtain ⟨ge, hX, rfl, rfl, ee, le⟩ := hcut
              have nne : ge ≠ w.heap.size := by have := (pr_of en).1; omega
              have nme : ge ≠ w.heap.size + 1 := by have := (pr_of em).1; omega
              have nxe : gx ≠ ge := by have := (iv_of ex).1; omega
              have nye : gy ≠ ge := by have := (iv_of ey).1; omega
              replace le := Nat.le_trans hE.size le
              replace hE := hE.trans hX
              replace en := at_ext hX en
              replace em := at_ext hX em
              replace ex := at_ext hX ex
              replace ey := at_ext hX ey
              clear hX
              go_upto_region 11 with fail
              go_cut [23, 24] (fun s23 s24 Z => ∃ gf : Nat, Ext wc Z ∧ s23 = .pointer (some ⟨gf, 0, none⟩) ∧ s24 = .bool true ∧ Z.heap[gf]? = some (ivO gl gh) ∧ wc.heap.size ≤ gf)
              case first =>
                obtain ⟨cx0, cx1, cx2, cx3⟩ := iv_of ex
                obtain ⟨cy0, cy1, cy2, cy3⟩ := iv_of ey
                go_wp2_with (go_at_call 16; first | ((with_reducible refine (Hk2.out _).mono ?_); rintro e w' ⟨rfl, q, rfl⟩))
                go_meet
                refine ⟨_, ?_, rfl, rfl, ?_, ?_⟩
                all_goals repeat (first | exact Ext.refl _ | refine Ext.mored ?_ _ | refine Ext.drewN ?_ _ | refine Ext.alloc ?_ _ | (refine at_new ?_; first | rfl | (simp; done)) | refine at_more ?_ | refine at_drew ?_ | refine at_old ?_ | exact Nat.le_refl _ | (rw [more_size]; omega) | (simp [more_size]; omega) | (simp [more_size]; done))
              case rest =>
                obtain ⟨gf, hX, rfl, rfl, ef, lf⟩ := hcut
                have nnf : gf ≠ w.heap.size := by have := (pr_of en).1; omega
                have nmf : gf ≠ w.heap.size + 1 := by have := (pr_of em).1; omega
                have nxf : gx ≠ gf := by have := (iv_of ex).1; omega
                have nyf : gy ≠ gf := by have := (iv_of ey).1; omega
                have nef : ge ≠ gf := by have := (iv_of ee).1; omega
                replace lf := Nat.le_trans hE.size lf
                replace hE := hE.trans hX
                replace en := at_ext hX en
                replace em := at_ext hX em
                replace ex := at_ext hX ex
                replace ey := at_ext hX ey
                replace ee := at_ext hX ee
                clear hX
                go_upto_region 12 with fail
                go_cut [25, 26] (fun s25 s26 Z => ∃ gi : Nat, Ext wc Z ∧ s25 = .pointer (some ⟨gi, 0, none⟩) ∧ s26 = .bool true ∧ Z.heap[gi]? = some (ivO il ih) ∧ wc.heap.size ≤ gi)
                case first =>
                  obtain ⟨cx0, cx1, cx2, cx3⟩ := iv_of ex
                  obtain ⟨cy0, cy1, cy2, cy3⟩ := iv_of ey
                  go_wp2_with (go_at_call 26; first | ((with_reducible refine (Hk3.out _).mono ?_); rintro e w' ⟨rfl, q, rfl⟩))
                  go_meet
                  refine ⟨_, ?_, rfl, rfl, ?_, ?_⟩
                  all_goals repeat (first | exact Ext.refl _ | refine Ext.mored ?_ _ | refine Ext.drewN ?_ _ | refine Ext.alloc ?_ _ | (refine at_new ?_; first | rfl | (simp; done)) | refine at_more ?_ | refine at_drew ?_ | refine at_old ?_ | exact Nat.le_refl _ | (rw [more_size]; omega) | (simp [more_size]; omega) | (simp [more_size]; done))
                case rest =>
                  obtain ⟨gi, hX, rfl, rfl, ei, li⟩ := hcut
                  have nni : gi ≠ w.heap.size := by have := (pr_of en).1; omega
                  have nmi : gi ≠ w.heap.size + 1 := by have := (pr_of em).1; omega
                  have nxi : gx ≠ gi := by have := (iv_of ex).1; omega
                  have nyi : gy ≠ gi := by have := (iv_of ey).1; omega
                  have nei : ge ≠ gi := by have := (iv_of ee).1; omega
                  have nfi : gf ≠ gi := by have := (iv_of ef).1; omega
                  replace li := Nat.le_trans hE.size li
                  replace hE := hE.trans hX
                  replace en := at_ext hX en
                  replace em := at_ext hX em
                  replace ex := at_ext hX ex
                  replace ey := at_ext hX ey
                  replace ee := at_ext hX ee
                  replace ef := at_ext hX ef
                  clear hX
                  go_upto_region 13 with fail
                  go_cut [148] (fun s148 Z => Ext wc Z ∧ s148 = .bool false)
                  case first =>
                    obtain ⟨ce0, ce1, ce2, ce3⟩ := iv_of ee
                    obtain ⟨cf0, cf1, cf2, cf3⟩ := iv_of ef
                    obtain ⟨ci0, ci1, ci2, ci3⟩ := iv_of ei
                    have hmc := more_cell
                    have hmh := more_heap
                    have hmf := more_frozen
                    refine at_world (fun W' => ∃ p, W' = more wc p) ⟨⟨[], 0⟩, rfl⟩ ?_
                    rintro _ ⟨p0, rfl⟩
                    go_wp2_with (go_at_call 12; first | ((with_reducible refine (calls_more (Hk5.out _)).mono ?_); rintro e w' ⟨rfl, q, rfl⟩) | ((with_reducible refine (calls_more (Hk6.out _)).mono ?_); rintro e w' ⟨rfl, q, rfl⟩) | ((with_reducible refine (calls_more (Hk7.out _)).mono ?_); rintro e w' ⟨rfl, q, rfl⟩))
                    go_meet
                    refine ⟨?_, rfl⟩
                    all_goals repeat (first | exact Ext.refl _ | refine Ext.mored ?_ _ | refine Ext.drewN ?_ _ | refine Ext.alloc ?_ _ | (refine at_new ?_; first | rfl | (simp; done)) | refine at_more ?_ | refine at_drew ?_ | refine at_old ?_ | exact Nat.le_refl _ | (rw [more_size]; omega) | (simp [more_size]; omega) | (simp [more_size]; done))
                  case rest =>
                    obtain ⟨hX, rfl⟩ := hcut
                    replace hE := hE.trans hX
                    replace en := at_ext hX en
                    replace em := at_ext hX em
                    replace ex := at_ext hX ex
                    replace ey := at_ext hX ey
                    replace ee := at_ext hX ee
                    replace ef := at_ext hX ef
                    replace ei := at_ext hX ei
                    clear hX
                    go_upto_region 15 with fail
                    go_cut [27, 28] (fun s27 s28 Z => ∃ gk : Nat, Ext wc Z ∧ s27 = .pointer (some ⟨gk, 0, none⟩) ∧ s28 = .bool l ∧ Z.heap[gk]? = some (ivO kl kh) ∧ wc.heap.size ≤ gk)
                    case first =>
                      obtain ⟨cx0, cx1, cx2, cx3⟩ := iv_of ex
                      obtain ⟨cy0, cy1, cy2, cy3⟩ := iv_of ey
                      go_wp2_with (go_at_call 29; first | ((with_reducible refine (Hk4.out _).mono ?_); rintro e w' ⟨rfl, q, rfl⟩))
                      go_meet
                      refine ⟨_, ?_, rfl, rfl, ?_, ?_⟩
                      all_goals repeat (first | exact Ext.refl _ | refine Ext.mored ?_ _ | refine Ext.drewN ?_ _ | refine Ext.alloc ?_ _ | (refine at_new ?_; first | rfl | (simp; done)) | refine at_more ?_ | refine at_drew ?_ | refine at_old ?_ | exact Nat.le_refl _ | (rw [more_size]; omega) | (simp [more_size]; omega) | (simp [more_size]; done))
                    case rest =>
                      obtain ⟨gk, hX, rfl, rfl, ek, lk⟩ := hcut
                      have nnk : gk ≠ w.heap.size := by have := (pr_of en).1; omega
                      have nmk : gk ≠ w.heap.size + 1 := by have := (pr_of em).1; omega
                      have nxk : gx ≠ gk := by have := (iv_of ex).1; omega
                      have nyk : gy ≠ gk := by have := (iv_of ey).1; omega
                      have nek : ge ≠ gk := by have := (iv_of ee).1; omega
                      have nfk : gf ≠ gk := by have := (iv_of ef).1; omega
                      have nik : gi ≠ gk := by have := (iv_of ei).1; omega
                      replace lk := Nat.le_trans hE.size lk
                      replace hE := hE.trans hX
                      replace en := at_ext hX en
                      replace em := at_ext hX em
                      replace ex := at_ext hX ex
                      replace ey := at_ext hX ey
                      replace ee := at_ext hX ee
                      replace ef := at_ext hX ef
                      replace ei := at_ext hX ei
                      clear hX
                      obtain ⟨ck0, ck1, ck2, ck3⟩ := iv_of ek
                      replace hE := Lib.hid hE
                      cases l with
                      | false =>
                        go_wp2_with fail
                        go_ret
                        exact ⟨rfl, hE.out.below'⟩
                      | true =>
                        obtain ⟨rp, k9⟩ := k8 rfl
                        have Hk9 := Lib.hid @k9
                        clear k8 k9
                        go_wp2_with (go_at_call 12; first | ((with_reducible refine (Hk9.out _).mono ?_); rintro e w' ⟨rfl, q, rfl⟩))
                        go_ret
                        exact ⟨rfl, (hE.out.mored _).below'⟩
end Go.Proofs.Ytdbemgjjahcabaa
