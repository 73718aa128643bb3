/- Plain laws of the operators' alphas and shapes. No program in sight. -/
import Derived.Test.YthhmdjpcgollbaaDoorOp
namespace Go.Proofs.YthhmdjpcgollbaaDoor
set_option linter.unusedVariables false
set_option linter.unusedSimpArgs false

theorem half_add_le (n q d : Int) (d0 : 1 ≤ d) (h : q * d ≤ n) : q ≤ halfI n d := by
  have := half_mono (q * d) n d h (by omega)
  rwa [half_mul q d d0] at this
theorem shI_1 {k f g m : Int} (h : opOk k f g m = true) (e : opSh k = 1) : shI k f g m = f := by unfold shI; rw [h, e]; simp
theorem shI_2 {k f g m : Int} (h : opOk k f g m = true) (e : opSh k = 2) : shI k f g m = g := by unfold shI; rw [h, e]; simp
theorem shI_3 {k f g m : Int} (h : opOk k f g m = true) (e : opSh k = 3) : shI k f g m = halfI (m * f + (m - f) * g) m := by unfold shI; rw [h, e]; simp
theorem shI_4 {k f g m : Int} (h : opOk k f g m = true) (e : opSh k = 4) : shI k f g m = halfI (f * g) m := by unfold shI; rw [h, e]; simp
theorem shI_0 {k f g m : Int} (e : opSh k = 0) : shI k f g m = 0 := by unfold shI; rw [e]; simp

/-- the union's numerator grows with both -/
theorem union_mono (a b p q m : Int) (a0 : 0 ≤ a) (b0 : 0 ≤ b) (ap : a ≤ p) (bq : b ≤ q) (pm : p ≤ m) (qm : q ≤ m) : m * a + (m - a) * b ≤ m * p + (m - p) * q := by
  have h1 : (m - p) * (m - q) ≤ (m - a) * (m - b) := Int.mul_le_mul (by omega) (by omega) (by omega) (by omega)
  have e : ∀ x y : Int, m * x + (m - x) * y = m * m - (m - x) * (m - y) := by
    intro x y
    rw [Int.sub_mul, Int.sub_mul, Int.mul_sub, Int.mul_sub, Int.mul_comm x m]
    omega
  rw [e, e]; omega

theorem alp_le_sh (k a b p q m : Int) (k0 : 1 ≤ k) (k1 : k ≤ 12) (a0 : 0 ≤ a) (b0 : 0 ≤ b) (ap : a ≤ p) (bq : b ≤ q) (pm : p ≤ m) (qm : q ≤ m) (m1 : 1 ≤ m) : alpI k a b m ≤ shI k p q m := by
  have h : opOk k a b m = true := decide_eq_true (by omega)
  have h' : opOk k p q m = true := decide_eq_true (by omega)
  obtain ⟨A, B, C, M, hA, hB, hC, hM, hC', e1, e2, c0, c1, c2, c3⟩ := prods a b m a0 b0 (by omega) (by omega)
  have hu := union_mono a b p q m a0 b0 ap bq pm qm
  rw [hA, e1] at hu
  have hpq : C ≤ p * q := by rw [← hC]; exact Int.mul_le_mul ap bq b0 (by omega)
  have hpa : A ≤ p * m := by rw [← hA, Int.mul_comm m a]; exact Int.mul_le_mul_of_nonneg_right ap (by omega)
  have hqb : B ≤ q * m := by rw [← hB, Int.mul_comm m b]; exact Int.mul_le_mul_of_nonneg_right bq (by omega)
  unfold alpI
  rcases alp_num k a b m A B C h hA hB hC hC' e1 e2 with ⟨rfl, e⟩ | ⟨rfl, e⟩ | ⟨rfl, e⟩ | ⟨rfl, e⟩ | ⟨rfl, e⟩ | ⟨rfl, e⟩ | ⟨rfl, e⟩ | ⟨rfl, e⟩ | ⟨rfl, e⟩ | ⟨rfl, e⟩ | ⟨rfl, e⟩ | ⟨rfl, e⟩
  · rw [e, shI_0 rfl]; exact half_mul_le _ _ _ m1 (by omega)
  · rw [e, shI_1 h' rfl]; exact half_mul_le _ _ _ m1 hpa
  · rw [e, shI_2 h' rfl]; exact half_mul_le _ _ _ m1 hqb
  · rw [e, shI_3 h' rfl]; exact half_mono _ _ _ (by omega) (by omega)
  · rw [e, shI_3 h' rfl]; exact half_mono _ _ _ (by omega) (by omega)
  · rw [e, shI_4 h' rfl]; exact half_mono _ _ _ (by omega) (by omega)
  · rw [e, shI_4 h' rfl]; exact half_mono _ _ _ (by omega) (by omega)
  · rw [e, shI_1 h' rfl]; exact half_mul_le _ _ _ m1 (by omega)
  · rw [e, shI_2 h' rfl]; exact half_mul_le _ _ _ m1 (by omega)
  · rw [e, shI_2 h' rfl]; exact half_mul_le _ _ _ m1 hqb
  · rw [e, shI_1 h' rfl]; exact half_mul_le _ _ _ m1 hpa
  · rw [e, shI_3 h' rfl]; exact half_mono _ _ _ (by omega) (by omega)

/-- the union of shapes -/
theorem union_law (f g m : Int) (f0 : 0 ≤ f) (g0 : 0 ≤ g) (f1 : f ≤ m) (g1 : g ≤ m) (m1 : 1 ≤ m) :
    shI 4 f g m = shI 12 g f m ∧ f ≤ shI 4 f g m ∧ g ≤ shI 4 f g m ∧ shI 4 f g m ≤ f + g ∧ shI 7 f g m = halfI (f * g) m := by
  obtain ⟨A, B, C, M, hA, hB, hC, hM, hC', e1, e2, c0, c1, c2, c3⟩ := prods f g m f0 g0 f1 g1
  rw [shI_3 (decide_eq_true (by omega)) rfl, shI_3 (decide_eq_true (by omega)) rfl, shI_4 (decide_eq_true (by omega)) rfl, hA, hB, e1, e2]
  refine ⟨by congr 1; omega, half_add_le _ _ _ m1 (by rw [Int.mul_comm]; omega), half_add_le _ _ _ m1 (by rw [Int.mul_comm]; omega), half_mul_le _ _ _ m1 (by rw [Int.add_mul, Int.mul_comm f, Int.mul_comm g]; omega), rfl⟩

theorem neutral_law (k a s m : Int) (h : neuB k = true) (a0 : 0 ≤ a) (a1 : a ≤ m) (s0 : 0 ≤ s) (s1 : s ≤ m) (m1 : 1 ≤ m) : alpI k 0 a m = a ∧ shI k 0 s m = s := by
  have hk : k = 3 ∨ k = 4 ∨ k = 5 ∨ k = 9 ∨ k = 10 ∨ k = 12 := of_decide_eq_true h
  have ok : opOk k 0 a m = true := decide_eq_true (by omega)
  have ok' : opOk k 0 s m = true := decide_eq_true (by omega)
  have eu : m * 0 + (m - 0) * s = s * m := by rw [Int.mul_zero, Int.sub_zero, Int.mul_comm]; omega
  constructor
  · unfold alpI
    rcases alp_num k 0 a m 0 (a * m) 0 ok (by simp) (Int.mul_comm _ _) (by simp) (by simp) (by rw [Int.sub_zero, Int.mul_comm]; omega) (by simp) with ⟨e, e'⟩ | ⟨e, e'⟩ | ⟨e, e'⟩ | ⟨e, e'⟩ | ⟨e, e'⟩ | ⟨e, e'⟩ | ⟨e, e'⟩ | ⟨e, e'⟩ | ⟨e, e'⟩ | ⟨e, e'⟩ | ⟨e, e'⟩ | ⟨e, e'⟩
    all_goals first
      | (exfalso; omega)
      | (rw [e']; first | exact half_mul _ _ m1 | (simp only [Int.zero_add, Int.sub_zero, Int.mul_zero]; exact half_mul _ _ m1))
  · rcases hk with rfl | rfl | rfl | rfl | rfl | rfl
    all_goals first
      | exact shI_2 ok' rfl
      | (rw [shI_3 ok' rfl, eu]; exact half_mul _ _ m1)
theorem fresh_law (k a s m : Int) (h : freB k = true) (a0 : 0 ≤ a) (a1 : a ≤ m) (s0 : 0 ≤ s) (s1 : s ≤ m) (m1 : 1 ≤ m) : alpI k a 0 m = a ∧ shI k s 0 m = s := by
  have hk : k = 2 ∨ k = 4 ∨ k = 5 ∨ k = 8 ∨ k = 11 ∨ k = 12 := of_decide_eq_true h
  have ok : opOk k a 0 m = true := decide_eq_true (by omega)
  have ok' : opOk k s 0 m = true := decide_eq_true (by omega)
  have eu : m * s + (m - s) * 0 = s * m := by rw [Int.mul_zero, Int.mul_comm]; omega
  constructor
  · unfold alpI
    rcases alp_num k a 0 m (a * m) 0 0 ok (Int.mul_comm _ _) (by simp) (by simp) (by simp) (by simp) (by rw [Int.sub_zero, Int.mul_comm]; omega) with ⟨e, e'⟩ | ⟨e, e'⟩ | ⟨e, e'⟩ | ⟨e, e'⟩ | ⟨e, e'⟩ | ⟨e, e'⟩ | ⟨e, e'⟩ | ⟨e, e'⟩ | ⟨e, e'⟩ | ⟨e, e'⟩ | ⟨e, e'⟩ | ⟨e, e'⟩
    all_goals first
      | (exfalso; omega)
      | (rw [e']; first | exact half_mul _ _ m1 | (simp only [Int.add_zero, Int.sub_zero, Int.mul_zero]; exact half_mul _ _ m1))
  · rcases hk with rfl | rfl | rfl | rfl | rfl | rfl
    all_goals first
      | exact shI_1 ok' rfl
      | (rw [shI_3 ok' rfl, eu]; exact half_mul _ _ m1)

/-- a pair of operators that are one another's mirror -/
structure Dual (k j : Int) : Prop where
  a : opFa k = opFb j
  b : opFb k = opFa j
  s : (opSh k = 0 ∧ opSh j = 0) ∨ (opSh k = 1 ∧ opSh j = 2) ∨ (opSh k = 3 ∧ opSh j = 3) ∨ (opSh k = 4 ∧ opSh j = 4) ∨ (opSh k = 2 ∧ opSh j = 1)
  k0 : 1 ≤ k
  k1 : k ≤ 12
  j0 : 1 ≤ j
  j1 : j ≤ 12
theorem dual_law (k j a b m : Int) (h : Dual k j) (a0 : 0 ≤ a) (b0 : 0 ≤ b) (a1 : a ≤ m) (b1 : b ≤ m) :
    opOk k a b m = true ∧ opOk j b a m = true ∧ faI k a b m = fbI j b a m ∧ fbI k a b m = faI j b a m ∧ alpI k a b m = alpI j b a m ∧ shI k a b m = shI j b a m := by
  obtain ⟨ha, hb, hs, k0, k1, j0, j1⟩ := h
  have ok : opOk k a b m = true := decide_eq_true (by omega)
  have ok' : opOk j b a m = true := decide_eq_true (by omega)
  have e1 : faI k a b m = fbI j b a m := by unfold faI fbI; rw [ok, ok', ha]
  have e2 : fbI k a b m = faI j b a m := by unfold faI fbI; rw [ok, ok', hb]
  refine ⟨ok, ok', e1, e2, ?_, ?_⟩
  · unfold alpI; rw [e1, e2]; congr 1; omega
  · rcases hs with ⟨x, y⟩ | ⟨x, y⟩ | ⟨x, y⟩ | ⟨x, y⟩ | ⟨x, y⟩
    · rw [shI_0 x, shI_0 y]
    · rw [shI_1 ok x, shI_2 ok' y]
    · rw [shI_3 ok x, shI_3 ok' y]
      congr 1
      rw [Int.sub_mul, Int.sub_mul, Int.mul_comm b a]; omega
    · rw [shI_4 ok x, shI_4 ok' y, Int.mul_comm]
    · rw [shI_2 ok x, shI_1 ok' y]
theorem dual1 : Dual 1 1 := ⟨rfl, rfl, by decide, by omega, by omega, by omega, by omega⟩
theorem dual2 : Dual 2 3 := ⟨rfl, rfl, by decide, by omega, by omega, by omega, by omega⟩
theorem dual4 : Dual 4 5 := ⟨rfl, rfl, by decide, by omega, by omega, by omega, by omega⟩
theorem dual6 : Dual 6 7 := ⟨rfl, rfl, by decide, by omega, by omega, by omega, by omega⟩
theorem dual8 : Dual 8 9 := ⟨rfl, rfl, by decide, by omega, by omega, by omega, by omega⟩
theorem dual10 : Dual 10 11 := ⟨rfl, rfl, by decide, by omega, by omega, by omega, by omega⟩
theorem dual12 : Dual 12 12 := ⟨rfl, rfl, by decide, by omega, by omega, by omega, by omega⟩

/-- the alphas of opaque pixels -/
theorem opq00 (k m : Int) (m1 : 1 ≤ m) : alpI k 0 0 m = 0 := by
  unfold alpI
  rw [Int.mul_zero, Int.mul_zero]
  have := half_mul 0 m m1
  rwa [Int.zero_mul] at this
theorem opq_at (k a b m v : Int) (k0 : 1 ≤ k ∧ k ≤ 12) (ha : 0 ≤ a ∧ a ≤ m) (hb : 0 ≤ b ∧ b ≤ m) (hv : v = 0 ∨ v = m) (m1 : 1 ≤ m) (h : facI (opFa k) b m * a + facI (opFb k) a m * b = v * m) : alpI k a b m = v := by
  have ok : opOk k a b m = true := decide_eq_true (by omega)
  unfold alpI faI fbI
  rw [ok, if_pos rfl, if_pos rfl, h]
  exact half_mul v m m1
theorem opq1_0 (m : Int) (m1 : 1 ≤ m) : alpI 1 m 0 m = 0 := opq_at 1 m 0 m 0 (by omega) (by omega) (by omega) (by omega) m1 (by
  rw [op1.1, op1.2.1]; simp [facI])
theorem opq1_1 (m : Int) (m1 : 1 ≤ m) : alpI 1 0 m m = 0 := opq_at 1 0 m m 0 (by omega) (by omega) (by omega) (by omega) m1 (by
  rw [op1.1, op1.2.1]; simp [facI])
theorem opq1_2 (m : Int) (m1 : 1 ≤ m) : alpI 1 m m m = 0 := opq_at 1 m m m 0 (by omega) (by omega) (by omega) (by omega) m1 (by
  rw [op1.1, op1.2.1]; simp [facI])
theorem opq2_0 (m : Int) (m1 : 1 ≤ m) : alpI 2 m 0 m = m := opq_at 2 m 0 m m (by omega) (by omega) (by omega) (by omega) m1 (by
  rw [op2.1, op2.2.1]; simp [facI])
theorem opq2_1 (m : Int) (m1 : 1 ≤ m) : alpI 2 0 m m = 0 := opq_at 2 0 m m 0 (by omega) (by omega) (by omega) (by omega) m1 (by
  rw [op2.1, op2.2.1]; simp [facI])
theorem opq2_2 (m : Int) (m1 : 1 ≤ m) : alpI 2 m m m = m := opq_at 2 m m m m (by omega) (by omega) (by omega) (by omega) m1 (by
  rw [op2.1, op2.2.1]; simp [facI])
theorem opq3_0 (m : Int) (m1 : 1 ≤ m) : alpI 3 m 0 m = 0 := opq_at 3 m 0 m 0 (by omega) (by omega) (by omega) (by omega) m1 (by
  rw [op3.1, op3.2.1]; simp [facI])
theorem opq3_1 (m : Int) (m1 : 1 ≤ m) : alpI 3 0 m m = m := opq_at 3 0 m m m (by omega) (by omega) (by omega) (by omega) m1 (by
  rw [op3.1, op3.2.1]; simp [facI])
theorem opq3_2 (m : Int) (m1 : 1 ≤ m) : alpI 3 m m m = m := opq_at 3 m m m m (by omega) (by omega) (by omega) (by omega) m1 (by
  rw [op3.1, op3.2.1]; simp [facI])
theorem opq4_0 (m : Int) (m1 : 1 ≤ m) : alpI 4 m 0 m = m := opq_at 4 m 0 m m (by omega) (by omega) (by omega) (by omega) m1 (by
  rw [op4.1, op4.2.1]; simp [facI])
theorem opq4_1 (m : Int) (m1 : 1 ≤ m) : alpI 4 0 m m = m := opq_at 4 0 m m m (by omega) (by omega) (by omega) (by omega) m1 (by
  rw [op4.1, op4.2.1]; simp [facI])
theorem opq4_2 (m : Int) (m1 : 1 ≤ m) : alpI 4 m m m = m := opq_at 4 m m m m (by omega) (by omega) (by omega) (by omega) m1 (by
  rw [op4.1, op4.2.1]; simp [facI])
theorem opq5_0 (m : Int) (m1 : 1 ≤ m) : alpI 5 m 0 m = m := opq_at 5 m 0 m m (by omega) (by omega) (by omega) (by omega) m1 (by
  rw [op5.1, op5.2.1]; simp [facI])
theorem opq5_1 (m : Int) (m1 : 1 ≤ m) : alpI 5 0 m m = m := opq_at 5 0 m m m (by omega) (by omega) (by omega) (by omega) m1 (by
  rw [op5.1, op5.2.1]; simp [facI])
theorem opq5_2 (m : Int) (m1 : 1 ≤ m) : alpI 5 m m m = m := opq_at 5 m m m m (by omega) (by omega) (by omega) (by omega) m1 (by
  rw [op5.1, op5.2.1]; simp [facI])
theorem opq6_0 (m : Int) (m1 : 1 ≤ m) : alpI 6 m 0 m = 0 := opq_at 6 m 0 m 0 (by omega) (by omega) (by omega) (by omega) m1 (by
  rw [op6.1, op6.2.1]; simp [facI])
theorem opq6_1 (m : Int) (m1 : 1 ≤ m) : alpI 6 0 m m = 0 := opq_at 6 0 m m 0 (by omega) (by omega) (by omega) (by omega) m1 (by
  rw [op6.1, op6.2.1]; simp [facI])
theorem opq6_2 (m : Int) (m1 : 1 ≤ m) : alpI 6 m m m = m := opq_at 6 m m m m (by omega) (by omega) (by omega) (by omega) m1 (by
  rw [op6.1, op6.2.1]; simp [facI])
theorem opq7_0 (m : Int) (m1 : 1 ≤ m) : alpI 7 m 0 m = 0 := opq_at 7 m 0 m 0 (by omega) (by omega) (by omega) (by omega) m1 (by
  rw [op7.1, op7.2.1]; simp [facI])
theorem opq7_1 (m : Int) (m1 : 1 ≤ m) : alpI 7 0 m m = 0 := opq_at 7 0 m m 0 (by omega) (by omega) (by omega) (by omega) m1 (by
  rw [op7.1, op7.2.1]; simp [facI])
theorem opq7_2 (m : Int) (m1 : 1 ≤ m) : alpI 7 m m m = m := opq_at 7 m m m m (by omega) (by omega) (by omega) (by omega) m1 (by
  rw [op7.1, op7.2.1]; simp [facI])
theorem opq8_0 (m : Int) (m1 : 1 ≤ m) : alpI 8 m 0 m = m := opq_at 8 m 0 m m (by omega) (by omega) (by omega) (by omega) m1 (by
  rw [op8.1, op8.2.1]; simp [facI])
theorem opq8_1 (m : Int) (m1 : 1 ≤ m) : alpI 8 0 m m = 0 := opq_at 8 0 m m 0 (by omega) (by omega) (by omega) (by omega) m1 (by
  rw [op8.1, op8.2.1]; simp [facI])
theorem opq8_2 (m : Int) (m1 : 1 ≤ m) : alpI 8 m m m = 0 := opq_at 8 m m m 0 (by omega) (by omega) (by omega) (by omega) m1 (by
  rw [op8.1, op8.2.1]; simp [facI])
theorem opq9_0 (m : Int) (m1 : 1 ≤ m) : alpI 9 m 0 m = 0 := opq_at 9 m 0 m 0 (by omega) (by omega) (by omega) (by omega) m1 (by
  rw [op9.1, op9.2.1]; simp [facI])
theorem opq9_1 (m : Int) (m1 : 1 ≤ m) : alpI 9 0 m m = m := opq_at 9 0 m m m (by omega) (by omega) (by omega) (by omega) m1 (by
  rw [op9.1, op9.2.1]; simp [facI])
theorem opq9_2 (m : Int) (m1 : 1 ≤ m) : alpI 9 m m m = 0 := opq_at 9 m m m 0 (by omega) (by omega) (by omega) (by omega) m1 (by
  rw [op9.1, op9.2.1]; simp [facI])
theorem opq10_0 (m : Int) (m1 : 1 ≤ m) : alpI 10 m 0 m = 0 := opq_at 10 m 0 m 0 (by omega) (by omega) (by omega) (by omega) m1 (by
  rw [op10.1, op10.2.1]; simp [facI])
theorem opq10_1 (m : Int) (m1 : 1 ≤ m) : alpI 10 0 m m = m := opq_at 10 0 m m m (by omega) (by omega) (by omega) (by omega) m1 (by
  rw [op10.1, op10.2.1]; simp [facI])
theorem opq10_2 (m : Int) (m1 : 1 ≤ m) : alpI 10 m m m = m := opq_at 10 m m m m (by omega) (by omega) (by omega) (by omega) m1 (by
  rw [op10.1, op10.2.1]; simp [facI])
theorem opq11_0 (m : Int) (m1 : 1 ≤ m) : alpI 11 m 0 m = m := opq_at 11 m 0 m m (by omega) (by omega) (by omega) (by omega) m1 (by
  rw [op11.1, op11.2.1]; simp [facI])
theorem opq11_1 (m : Int) (m1 : 1 ≤ m) : alpI 11 0 m m = 0 := opq_at 11 0 m m 0 (by omega) (by omega) (by omega) (by omega) m1 (by
  rw [op11.1, op11.2.1]; simp [facI])
theorem opq11_2 (m : Int) (m1 : 1 ≤ m) : alpI 11 m m m = m := opq_at 11 m m m m (by omega) (by omega) (by omega) (by omega) m1 (by
  rw [op11.1, op11.2.1]; simp [facI])
theorem opq12_0 (m : Int) (m1 : 1 ≤ m) : alpI 12 m 0 m = m := opq_at 12 m 0 m m (by omega) (by omega) (by omega) (by omega) m1 (by
  rw [op12.1, op12.2.1]; simp [facI])
theorem opq12_1 (m : Int) (m1 : 1 ≤ m) : alpI 12 0 m m = m := opq_at 12 0 m m m (by omega) (by omega) (by omega) (by omega) m1 (by
  rw [op12.1, op12.2.1]; simp [facI])
theorem opq12_2 (m : Int) (m1 : 1 ≤ m) : alpI 12 m m m = 0 := opq_at 12 m m m 0 (by omega) (by omega) (by omega) (by omega) m1 (by
  rw [op12.1, op12.2.1]; simp [facI])
end Go.Proofs.YthhmdjpcgollbaaDoor
