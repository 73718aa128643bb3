/- The operators' rules, and what the functions on operators compute. No program in sight. -/
import Derived.Test.YthhmdjpcgollbaaDoorNums
namespace Go.Proofs.YthhmdjpcgollbaaDoor
set_option linter.unusedSimpArgs false
set_option linter.unusedVariables false

def opFa (k : Int) : Int := if k = 2 then 1 else if k = 4 then 1 else if k = 5 then 3 else if k = 6 then 2 else if k = 8 then 3 else if k = 10 then 2 else if k = 11 then 3 else if k = 12 then 3 else 0
def opFb (k : Int) : Int := if k = 3 then 1 else if k = 4 then 3 else if k = 5 then 1 else if k = 7 then 2 else if k = 9 then 3 else if k = 10 then 3 else if k = 11 then 2 else if k = 12 then 3 else 0
def opSh (k : Int) : Int := if k = 2 then 1 else if k = 3 then 2 else if k = 4 then 3 else if k = 5 then 3 else if k = 6 then 4 else if k = 7 then 4 else if k = 8 then 1 else if k = 9 then 2 else if k = 10 then 2 else if k = 11 then 1 else if k = 12 then 3 else 0
def facI (f a m : Int) : Int := if f = 1 then m else if f = 2 then a else if f = 3 then m - a else 0
def opIs (k : Int) : Bool := decide (1 ≤ k ∧ k ≤ 12)
def opOk (k a b m : Int) : Bool := decide (1 ≤ k ∧ k ≤ 12 ∧ a ≤ m ∧ b ≤ m)
def faI (k a b m : Int) : Int := if opOk k a b m = true then facI (opFa k) b m else 0
def fbI (k a b m : Int) : Int := if opOk k a b m = true then facI (opFb k) a m else 0
def alpI (k a b m : Int) : Int := halfI (faI k a b m * a + fbI k a b m * b) m
def shI (k f g m : Int) : Int :=
  if opOk k f g m = true then (if opSh k = 1 then f else if opSh k = 2 then g else if opSh k = 3 then halfI (m * f + (m - f) * g) m else if opSh k = 4 then halfI (f * g) m else 0) else 0
def neuB (k : Int) : Bool := decide (k = 3 ∨ k = 4 ∨ k = 5 ∨ k = 9 ∨ k = 10 ∨ k = 12)
def freB (k : Int) : Bool := decide (k = 2 ∨ k = 4 ∨ k = 5 ∨ k = 8 ∨ k = 11 ∨ k = 12)

theorem op_cases {k : Int} (h0 : 1 ≤ k) (h1 : k ≤ 12) : k = 1 ∨ k = 2 ∨ k = 3 ∨ k = 4 ∨ k = 5 ∨ k = 6 ∨ k = 7 ∨ k = 8 ∨ k = 9 ∨ k = 10 ∨ k = 11 ∨ k = 12 := by omega

theorem facI_bounds (f a m : Int) (a0 : 0 ≤ a) (a1 : a ≤ m) : 0 ≤ facI f a m ∧ facI f a m ≤ m := by
  unfold facI; repeat' split
  all_goals omega
theorem opOk_parts {k a b m : Int} (h : opOk k a b m = true) : 1 ≤ k ∧ k ≤ 12 ∧ a ≤ m ∧ b ≤ m := of_decide_eq_true h
theorem faI_bounds (k a b m : Int) (b0 : 0 ≤ b) (m0 : 0 ≤ m) : 0 ≤ faI k a b m ∧ faI k a b m ≤ m := by
  unfold faI; split
  · rename_i h; exact facI_bounds _ _ _ b0 (opOk_parts h).2.2.2
  · omega
theorem fbI_bounds (k a b m : Int) (a0 : 0 ≤ a) (m0 : 0 ≤ m) : 0 ≤ fbI k a b m ∧ fbI k a b m ≤ m := by
  unfold fbI; split
  · rename_i h; exact facI_bounds _ _ _ a0 (opOk_parts h).2.2.1
  · omega

/-- the products of two numbers up to m, and of what is left of them -/
theorem prods (a b m : Int) (a0 : 0 ≤ a) (b0 : 0 ≤ b) (a1 : a ≤ m) (b1 : b ≤ m) :
    ∃ A B C M : Int, m * a = A ∧ m * b = B ∧ a * b = C ∧ m * m = M ∧ b * a = C ∧ (m - a) * b = B - C ∧ (m - b) * a = A - C ∧ 0 ≤ C ∧ C ≤ A ∧ C ≤ B ∧ A + B ≤ M + C := by
  refine ⟨m * a, m * b, a * b, m * m, rfl, rfl, rfl, rfl, Int.mul_comm _ _, by rw [Int.sub_mul], by rw [Int.sub_mul, Int.mul_comm b a], Int.mul_nonneg a0 b0, ?_, ?_, ?_⟩
  · have := Int.mul_le_mul_of_nonneg_right b1 a0
    rwa [Int.mul_comm b a] at this
  · exact Int.mul_le_mul_of_nonneg_right a1 b0
  · have h : 0 ≤ (m - a) * (m - b) := Int.mul_nonneg (by omega) (by omega)
    rw [Int.sub_mul, Int.mul_sub, Int.mul_sub, Int.mul_comm a m] at h
    omega
theorem op1 : opFa 1 = 0 ∧ opFb 1 = 0 ∧ opSh 1 = 0 := ⟨rfl, rfl, rfl⟩
theorem op2 : opFa 2 = 1 ∧ opFb 2 = 0 ∧ opSh 2 = 1 := ⟨rfl, rfl, rfl⟩
theorem op3 : opFa 3 = 0 ∧ opFb 3 = 1 ∧ opSh 3 = 2 := ⟨rfl, rfl, rfl⟩
theorem op4 : opFa 4 = 1 ∧ opFb 4 = 3 ∧ opSh 4 = 3 := ⟨rfl, rfl, rfl⟩
theorem op5 : opFa 5 = 3 ∧ opFb 5 = 1 ∧ opSh 5 = 3 := ⟨rfl, rfl, rfl⟩
theorem op6 : opFa 6 = 2 ∧ opFb 6 = 0 ∧ opSh 6 = 4 := ⟨rfl, rfl, rfl⟩
theorem op7 : opFa 7 = 0 ∧ opFb 7 = 2 ∧ opSh 7 = 4 := ⟨rfl, rfl, rfl⟩
theorem op8 : opFa 8 = 3 ∧ opFb 8 = 0 ∧ opSh 8 = 1 := ⟨rfl, rfl, rfl⟩
theorem op9 : opFa 9 = 0 ∧ opFb 9 = 3 ∧ opSh 9 = 2 := ⟨rfl, rfl, rfl⟩
theorem op10 : opFa 10 = 2 ∧ opFb 10 = 3 ∧ opSh 10 = 2 := ⟨rfl, rfl, rfl⟩
theorem op11 : opFa 11 = 3 ∧ opFb 11 = 2 ∧ opSh 11 = 1 := ⟨rfl, rfl, rfl⟩
theorem op12 : opFa 12 = 3 ∧ opFb 12 = 3 ∧ opSh 12 = 3 := ⟨rfl, rfl, rfl⟩

/-- what alpha is the nearest integer of -/
theorem alp_num (k a b m A B C : Int) (h : opOk k a b m = true) (hA : m * a = A) (hB : m * b = B) (hC : a * b = C) (hC' : b * a = C) (h1 : (m - a) * b = B - C) (h2 : (m - b) * a = A - C) :
    (k = 1 ∧ faI k a b m * a + fbI k a b m * b = 0) ∨ (k = 2 ∧ faI k a b m * a + fbI k a b m * b = A) ∨ (k = 3 ∧ faI k a b m * a + fbI k a b m * b = B) ∨ (k = 4 ∧ faI k a b m * a + fbI k a b m * b = A + B - C) ∨ (k = 5 ∧ faI k a b m * a + fbI k a b m * b = A + B - C) ∨ (k = 6 ∧ faI k a b m * a + fbI k a b m * b = C) ∨ (k = 7 ∧ faI k a b m * a + fbI k a b m * b = C) ∨ (k = 8 ∧ faI k a b m * a + fbI k a b m * b = A - C) ∨ (k = 9 ∧ faI k a b m * a + fbI k a b m * b = B - C) ∨ (k = 10 ∧ faI k a b m * a + fbI k a b m * b = B) ∨ (k = 11 ∧ faI k a b m * a + fbI k a b m * b = A) ∨ (k = 12 ∧ faI k a b m * a + fbI k a b m * b = A + B - 2 * C) := by
  obtain ⟨k0, k1, ha, hb⟩ := opOk_parts h
  unfold faI fbI
  rw [if_pos h, if_pos h]
  rcases op_cases k0 k1 with rfl | rfl | rfl | rfl | rfl | rfl | rfl | rfl | rfl | rfl | rfl | rfl
  · exact .inl ⟨rfl, by rw [op1.1, op1.2.1]; simp [facI, hA, hB, hC, hC', h1, h2]⟩
  · exact .inr (.inl ⟨rfl, by rw [op2.1, op2.2.1]; simp [facI, hA, hB, hC, hC', h1, h2]⟩)
  · exact .inr (.inr (.inl ⟨rfl, by rw [op3.1, op3.2.1]; simp [facI, hA, hB, hC, hC', h1, h2]⟩))
  · exact .inr (.inr (.inr (.inl ⟨rfl, by rw [op4.1, op4.2.1]; simp [facI, hA, hB, hC, hC', h1, h2]; try omega⟩)))
  · exact .inr (.inr (.inr (.inr (.inl ⟨rfl, by rw [op5.1, op5.2.1]; simp [facI, hA, hB, hC, hC', h1, h2]; try omega⟩))))
  · exact .inr (.inr (.inr (.inr (.inr (.inl ⟨rfl, by rw [op6.1, op6.2.1]; simp [facI, hA, hB, hC, hC', h1, h2]⟩)))))
  · exact .inr (.inr (.inr (.inr (.inr (.inr (.inl ⟨rfl, by rw [op7.1, op7.2.1]; simp [facI, hA, hB, hC, hC', h1, h2]⟩))))))
  · exact .inr (.inr (.inr (.inr (.inr (.inr (.inr (.inl ⟨rfl, by rw [op8.1, op8.2.1]; simp [facI, hA, hB, hC, hC', h1, h2]⟩)))))))
  · exact .inr (.inr (.inr (.inr (.inr (.inr (.inr (.inr (.inl ⟨rfl, by rw [op9.1, op9.2.1]; simp [facI, hA, hB, hC, hC', h1, h2]⟩))))))))
  · exact .inr (.inr (.inr (.inr (.inr (.inr (.inr (.inr (.inr (.inl ⟨rfl, by rw [op10.1, op10.2.1]; simp [facI, hA, hB, hC, hC', h1, h2]; try omega⟩)))))))))
  · exact .inr (.inr (.inr (.inr (.inr (.inr (.inr (.inr (.inr (.inr (.inl ⟨rfl, by rw [op11.1, op11.2.1]; simp [facI, hA, hB, hC, hC', h1, h2]; try omega⟩))))))))))
  · exact .inr (.inr (.inr (.inr (.inr (.inr (.inr (.inr (.inr (.inr (.inr (⟨rfl, by rw [op12.1, op12.2.1]; simp [facI, hA, hB, hC, hC', h1, h2]; try omega⟩)))))))))))

theorem alp_num_bounds (k a b m : Int) (a0 : 0 ≤ a) (b0 : 0 ≤ b) (m0 : 0 ≤ m) : 0 ≤ faI k a b m * a + fbI k a b m * b ∧ faI k a b m * a + fbI k a b m * b ≤ m * m := by
  by_cases h : opOk k a b m = true
  · obtain ⟨k0, k1, ha, hb⟩ := opOk_parts h
    obtain ⟨A, B, C, M, hA, hB, hC, hM, hC', h1, h2, c0, c1, c2, c3⟩ := prods a b m a0 b0 ha hb
    rw [hM]
    rcases alp_num k a b m A B C h hA hB hC hC' h1 h2 with h | h | h | h | h | h | h | h | h | h | h | h
    all_goals
      rw [h.2]
      omega
  · have e1 : faI k a b m = 0 := by unfold faI; rw [if_neg h]
    have e2 : fbI k a b m = 0 := by unfold fbI; rw [if_neg h]
    rw [e1, e2]
    have := Int.mul_nonneg m0 m0
    omega
theorem alp_bounds (k a b m : Int) (a0 : 0 ≤ a) (b0 : 0 ≤ b) (m0 : 0 ≤ m) : 0 ≤ alpI k a b m ∧ alpI k a b m ≤ m := by
  obtain ⟨p0, p1⟩ := alp_num_bounds k a b m a0 b0 m0
  unfold alpI
  refine ⟨half_nonneg _ _ p0 m0, ?_⟩
  by_cases e : m = 0
  · simp [halfI, e]
  · exact half_mul_le _ _ _ (by omega) p1
theorem union_bounds (f g m : Int) (f0 : 0 ≤ f) (g0 : 0 ≤ g) (f1 : f ≤ m) (g1 : g ≤ m) : 0 ≤ m * f + (m - f) * g ∧ m * f + (m - f) * g ≤ m * m := by
  obtain ⟨A, B, C, M, hA, hB, hC, hM, hC', h1, h2, c0, c1, c2, c3⟩ := prods f g m f0 g0 f1 g1
  rw [hA, h1, hM]; omega
theorem half_m (n m : Int) (m0 : 0 ≤ m) (h0 : 0 ≤ n) (h1 : n ≤ m * m) : 0 ≤ halfI n m ∧ halfI n m ≤ m := by
  refine ⟨half_nonneg _ _ h0 m0, ?_⟩
  by_cases e : m = 0
  · simp [halfI, e]
  · exact half_mul_le _ _ _ (by omega) h1
theorem shI_bounds (k f g m : Int) (f0 : 0 ≤ f) (g0 : 0 ≤ g) (m0 : 0 ≤ m) : 0 ≤ shI k f g m ∧ shI k f g m ≤ m := by
  unfold shI
  split
  · rename_i h
    obtain ⟨k0, k1, ha, hb⟩ := opOk_parts h
    obtain ⟨u0, u1⟩ := union_bounds f g m f0 g0 ha hb
    obtain ⟨v0, v1⟩ := mul_bound f g m m f0 g0 ha hb
    have hu := half_m _ m m0 u0 u1
    have hv := half_m _ m m0 v0 v1
    repeat' split
    all_goals omega
  · omega
/-- where the maximum is 0 -/
theorem shI_zero (k f g m : Int) (f0 : 0 ≤ f) (g0 : 0 ≤ g) (h : m < f ∨ m < g ∨ m = 0) : shI k f g m = 0 := by
  unfold shI
  split
  · rename_i hk
    obtain ⟨k0, k1, ha, hb⟩ := opOk_parts hk
    obtain rfl : m = 0 := by omega
    obtain rfl : f = 0 := by omega
    obtain rfl : g = 0 := by omega
    repeat' split
    all_goals rfl
  · rfl
end Go.Proofs.YthhmdjpcgollbaaDoor

