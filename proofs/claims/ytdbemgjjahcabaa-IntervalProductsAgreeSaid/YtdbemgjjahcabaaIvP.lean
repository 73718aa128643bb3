/- Plain arithmetic of intervals: floors, ceilings, corners, roots. -/
import Derived.Test.YtdbemgjjahcabaaIv
namespace Go.Proofs.Ytdbemgjjahcabaa
set_option linter.unusedVariables false

/-- n / d rounded up -/
def cei (n d : Int) : Int := -((-n) / d)
/-- whether P / d, cut towards zero, is at most 16 units in size -/
def rok (P d : Int) : Bool := decide (-(17592186044417 * d) < P ∧ P < 17592186044417 * d)

theorem neg_div (N d : Int) (d1 : 1 ≤ d) : (-N) / d = -(N / d + if 0 < N % d then 1 else 0) := by
  have e := Int.mul_ediv_add_emod N d
  have r0 := Int.emod_nonneg N (b := d) (by omega)
  have r1 := Int.emod_lt_of_pos N (b := d) (by omega)
  split
  · refine ((Int.ediv_emod_unique (r := d - N % d) (by omega)).2 ⟨?_, by omega, by omega⟩).1
    rw [Int.mul_neg, Int.mul_add]; omega
  · refine ((Int.ediv_emod_unique (r := 0) (by omega)).2 ⟨?_, by omega, by omega⟩).1
    rw [Int.mul_neg, Int.mul_add]; omega
theorem cei_eq (N d : Int) (d1 : 1 ≤ d) : cei N d = N / d + if 0 < N % d then 1 else 0 := by
  unfold cei; rw [neg_div N d d1]; omega
theorem cei_neg (N d : Int) : cei (-N) d = -(N / d) := by unfold cei; rw [Int.neg_neg]
theorem le_flo {x n d : Int} (d1 : 1 ≤ d) : x ≤ n / d ↔ x * d ≤ n := Int.le_ediv_iff_mul_le (show 0 < d by omega)
theorem cei_le {x n d : Int} (d1 : 1 ≤ d) : cei n d ≤ x ↔ n ≤ x * d := by
  have h := le_flo (x := -x) (n := -n) d1
  rw [Int.neg_mul] at h
  unfold cei
  omega
theorem flo_mul_le (n d : Int) (d1 : 1 ≤ d) : n / d * d ≤ n := Int.ediv_mul_le _ (by omega)
theorem le_cei_mul (n d : Int) (d1 : 1 ≤ d) : n ≤ cei n d * d := (cei_le d1).1 (Int.le_refl _)
theorem flo_le_cei (n d : Int) (d1 : 1 ≤ d) : n / d ≤ cei n d := by rw [cei_eq n d d1]; split <;> omega
theorem cei_le_flo (n d : Int) (d1 : 1 ≤ d) : cei n d ≤ n / d + 1 := by rw [cei_eq n d d1]; split <;> omega
theorem flo_mono {a b d : Int} (d1 : 1 ≤ d) (h : a ≤ b) : a / d ≤ b / d := Int.ediv_le_ediv (by omega) h
theorem cei_mono {a b d : Int} (d1 : 1 ≤ d) (h : a ≤ b) : cei a d ≤ cei b d := (cei_le d1).2 (Int.le_trans h (le_cei_mul b d d1))
theorem flo_exact (x d : Int) (d1 : 1 ≤ d) : x * d / d = x := Int.mul_ediv_cancel _ (by omega)
theorem cei_exact (x d : Int) (d1 : 1 ≤ d) : cei (x * d) d = x := by
  unfold cei; rw [← Int.neg_mul, Int.mul_ediv_cancel _ (by omega)]; omega

theorem rok_parts {P d : Int} (d1 : 1 ≤ d) (h : rok P d = true) : -17592186044417 ≤ P / d ∧ cei P d ≤ 17592186044417 ∧ P / d ≤ 17592186044416 ∧ -17592186044416 ≤ cei P d := by
  have h := of_decide_eq_true h
  refine ⟨(le_flo d1).2 (by rw [Int.neg_mul]; omega), (cei_le d1).2 (by omega), ?_, ?_⟩
  · have := (Int.ediv_lt_iff_lt_mul (a := P) (b := 17592186044417) (c := d) (by omega)).2 h.2; omega
  · have := (Int.ediv_lt_iff_lt_mul (a := -P) (b := 17592186044417) (c := d) (by omega)).2 (by omega); unfold cei; omega
theorem rok_of {P d : Int} (d1 : 1 ≤ d) (h1 : -17592186044416 ≤ P / d) (h2 : cei P d ≤ 17592186044416) : rok P d = true := by
  refine decide_eq_true ⟨?_, ?_⟩
  · have := (le_flo d1).1 h1; omega
  · have := (cei_le d1).1 h2; omega
theorem rok_false {P d : Int} (h : rok P d = false) : P ≤ -(17592186044417 * d) ∨ 17592186044417 * d ≤ P := by
  have := of_decide_eq_false h
  omega

/-- The reference's quotient. -/
def qd (P d : Int) (up : Bool) : Int :=
  if -(35184372088832 * d) < P ∧ P < 35184372088832 * d then (if up = true then cei P d else P / d) else if P < 0 then -35184372088832 else 35184372088832
theorem qd_ok {P d : Int} (d1 : 1 ≤ d) (h : rok P d = true) : qd P d false = P / d ∧ qd P d true = cei P d := by
  have h := of_decide_eq_true h
  have h2 : -(35184372088832 * d) < P ∧ P < 35184372088832 * d := by omega
  unfold qd
  rw [if_pos h2, if_pos h2]
  exact ⟨rfl, rfl⟩
theorem qd_bad {P d : Int} (d1 : 1 ≤ d) (h : rok P d = false) : 17592186044417 ≤ qd P d true ∨ qd P d false ≤ -17592186044417 := by
  unfold qd
  by_cases h2 : -(35184372088832 * d) < P ∧ P < 35184372088832 * d
  · rw [if_pos h2, if_pos h2, if_pos rfl]
    rcases rok_false h with h | h
    · refine .inr ?_
      rw [if_neg (by decide)]
      have := flo_mono (d := d) d1 h
      rw [← Int.neg_mul, flo_exact _ d d1] at this
      exact this
    · refine .inl ?_
      have := cei_mono (d := d) d1 h
      rw [cei_exact _ d d1] at this
      exact this
  · rw [if_neg h2, if_neg h2]
    rcases rok_false h with h | h
    · rw [if_pos (by omega)]; omega
    · rw [if_neg (by omega)]; omega
theorem qd_order {P d : Int} (d1 : 1 ≤ d) : qd P d false ≤ qd P d true := by
  unfold qd
  by_cases h2 : -(35184372088832 * d) < P ∧ P < 35184372088832 * d
  · rw [if_pos h2, if_pos h2, if_pos rfl, if_neg (by decide)]; exact flo_le_cei P d d1
  · rw [if_neg h2, if_neg h2]; omega

abbrev min4 (a b c d : Int) : Int := min a (min b (min c d))
abbrev max4 (a b c d : Int) : Int := max a (max b (max c d))
/-- What four corners give: the values are P / d. -/
def cokB (P1 d1 P2 d2 P3 d3 P4 d4 : Int) : Bool := rok P1 d1 && rok P2 d2 && rok P3 d3 && rok P4 d4
def cLo (P1 d1 P2 d2 P3 d3 P4 d4 : Int) : Int := min4 (P1 / d1) (P2 / d2) (P3 / d3) (P4 / d4)
def cHi (P1 d1 P2 d2 P3 d3 P4 d4 : Int) : Int := max4 (cei P1 d1) (cei P2 d2) (cei P3 d3) (cei P4 d4)

theorem mk_eq {lo hi lo' hi' : Int} {ok ok' : Bool} (h : mkB lo hi ok = mkB lo' hi' ok') (h1 : mkB lo hi ok = true → lo = lo' ∧ hi = hi') :
    mkL lo hi ok = mkL lo' hi' ok' ∧ mkH lo hi ok = mkH lo' hi' ok' ∧ mkB lo hi ok = mkB lo' hi' ok' := by
  unfold mkL mkH
  rw [← h]
  refine ⟨?_, ?_, rfl⟩
  · split
    · rename_i e; exact (h1 e).1
    · rfl
  · split
    · rename_i e; exact (h1 e).2
    · rfl
theorem four_agree (P1 d1 P2 d2 P3 d3 P4 d4 : Int) (g1 : 1 ≤ d1) (g2 : 1 ≤ d2) (g3 : 1 ≤ d3) (g4 : 1 ≤ d4) :
    let lo := min4 (qd P1 d1 false) (qd P2 d2 false) (qd P3 d3 false) (qd P4 d4 false)
    let hi := max4 (qd P1 d1 true) (qd P2 d2 true) (qd P3 d3 true) (qd P4 d4 true)
    mkL (cLo P1 d1 P2 d2 P3 d3 P4 d4) (cHi P1 d1 P2 d2 P3 d3 P4 d4) (cokB P1 d1 P2 d2 P3 d3 P4 d4) = mkL lo hi true ∧
    mkH (cLo P1 d1 P2 d2 P3 d3 P4 d4) (cHi P1 d1 P2 d2 P3 d3 P4 d4) (cokB P1 d1 P2 d2 P3 d3 P4 d4) = mkH lo hi true ∧
    mkB (cLo P1 d1 P2 d2 P3 d3 P4 d4) (cHi P1 d1 P2 d2 P3 d3 P4 d4) (cokB P1 d1 P2 d2 P3 d3 P4 d4) = mkB lo hi true := by
  intro lo hi
  by_cases h : cokB P1 d1 P2 d2 P3 d3 P4 d4 = true
  · have h' := h
    unfold cokB at h'
    simp only [Bool.and_eq_true] at h'
    obtain ⟨⟨⟨k1, k2⟩, k3⟩, k4⟩ := h'
    rw [h]
    have e1 : cLo P1 d1 P2 d2 P3 d3 P4 d4 = lo := by
      show _ = min4 _ _ _ _
      rw [(qd_ok g1 k1).1, (qd_ok g2 k2).1, (qd_ok g3 k3).1, (qd_ok g4 k4).1]; rfl
    have e2 : cHi P1 d1 P2 d2 P3 d3 P4 d4 = hi := by
      show _ = max4 _ _ _ _
      rw [(qd_ok g1 k1).2, (qd_ok g2 k2).2, (qd_ok g3 k3).2, (qd_ok g4 k4).2]; rfl
    rw [e1, e2]
    exact ⟨rfl, rfl, rfl⟩
  · have h : cokB P1 d1 P2 d2 P3 d3 P4 d4 = false := by simpa using h
    rw [h]
    have bad : ivB lo hi = false := by
      refine decide_eq_false ?_
      have key : 17592186044417 ≤ hi ∨ lo ≤ -17592186044417 := by
        show 17592186044417 ≤ max _ (max _ (max _ _)) ∨ min _ (min _ (min _ _)) ≤ -17592186044417
        by_cases k1 : rok P1 d1 = true
        · by_cases k2 : rok P2 d2 = true
          · by_cases k3 : rok P3 d3 = true
            · by_cases k4 : rok P4 d4 = true
              · unfold cokB at h; rw [k1, k2, k3, k4] at h; cases h
              · have := qd_bad g4 (by simpa using k4); omega
            · have := qd_bad g3 (by simpa using k3); omega
          · have := qd_bad g2 (by simpa using k2); omega
        · have := qd_bad g1 (by simpa using k1); omega
      omega
    obtain ⟨a1, a2, a3⟩ := mk_bad bad true
    rw [a1, a2, a3]
    exact mk_false _ _

/-- A product of two numbers that lie between bounds lies between the corners: A / q between xl and xh, B / s between yl and yh. -/
theorem bil_lo {m xl xh yl yh A B q s : Int} (q0 : 0 ≤ q) (s0 : 0 ≤ s) (a1 : q * xl ≤ A) (a2 : A ≤ q * xh) (b1 : s * yl ≤ B) (b2 : B ≤ s * yh)
    (m1 : m ≤ xl * yl) (m2 : m ≤ xl * yh) (m3 : m ≤ xh * yl) (m4 : m ≤ xh * yh) : m * (q * s) ≤ A * B := by
  have row : ∀ x : Int, m ≤ x * yl → m ≤ x * yh → s * m ≤ x * B := by
    intro x h1 h2
    by_cases hx : 0 ≤ x
    · have k1 := Int.mul_le_mul_of_nonneg_left b1 hx
      have k2 := Int.mul_le_mul_of_nonneg_left h1 s0
      rw [Int.mul_left_comm] at k1
      omega
    · have k1 := Int.mul_le_mul_of_nonpos_left (show x ≤ 0 by omega) b2
      have k2 := Int.mul_le_mul_of_nonneg_left h2 s0
      rw [Int.mul_left_comm] at k1
      omega
  have e : m * (q * s) = q * (s * m) := by rw [Int.mul_comm, Int.mul_assoc]
  rw [e]
  by_cases hB : 0 ≤ B
  · have k1 := Int.mul_le_mul_of_nonneg_right a1 hB
    have k2 := Int.mul_le_mul_of_nonneg_left (row xl m1 m2) q0
    rw [Int.mul_assoc] at k1
    omega
  · have k1 := Int.mul_le_mul_of_nonpos_right a2 (show B ≤ 0 by omega)
    have k2 := Int.mul_le_mul_of_nonneg_left (row xh m3 m4) q0
    rw [Int.mul_assoc] at k1
    omega
theorem bil_hi {m xl xh yl yh A B q s : Int} (q0 : 0 ≤ q) (s0 : 0 ≤ s) (a1 : q * xl ≤ A) (a2 : A ≤ q * xh) (b1 : s * yl ≤ B) (b2 : B ≤ s * yh)
    (m1 : xl * yl ≤ m) (m2 : xl * yh ≤ m) (m3 : xh * yl ≤ m) (m4 : xh * yh ≤ m) : A * B ≤ m * (q * s) := by
  have h := @bil_lo (-m) (-xh) (-xl) yl yh (-A) B q s q0 s0 (by rw [Int.mul_neg]; omega) (by rw [Int.mul_neg]; omega) b1 b2
    (by rw [Int.neg_mul]; omega) (by rw [Int.neg_mul]; omega) (by rw [Int.neg_mul]; omega) (by rw [Int.neg_mul]; omega)
  rw [Int.neg_mul, Int.neg_mul] at h
  omega
end Go.Proofs.Ytdbemgjjahcabaa
