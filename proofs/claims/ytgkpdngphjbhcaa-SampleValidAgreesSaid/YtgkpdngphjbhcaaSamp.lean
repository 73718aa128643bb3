/- Contracts of the number functions of package sample, and of the reference's. -/
import Derived.Test.YtgkpdngphjbhcaaGen
namespace Go.Proofs.Ytgkpdngphjbhcaa
open Go.RowKit

def to16I (v : Int) : Int := min v 255 * 257
def to8I (v : Int) : Int := halfI (v * 255) 65535
def premI (c a m : Int) : Int := halfI (min c m * min a m) m
def strI (c a m : Int) : Int := halfI (min c a * m) a

theorem half_range (n d m : Int) (n0 : 0 ≤ n) (d0 : 0 ≤ d) (m0 : 0 ≤ m) (h : n ≤ m * d) : 0 ≤ halfI n d ∧ halfI n d ≤ m := by
  refine ⟨half_nonneg _ _ n0 d0, ?_⟩
  by_cases e : d = 0
  · simp [halfI, e, m0]
  · exact half_mul_le _ _ _ (by omega) h
theorem to8_bounds (v : Int) (h0 : 0 ≤ v) (h1 : v ≤ 65535) : 0 ≤ halfI (v * 255) 65535 ∧ halfI (v * 255) 65535 ≤ 255 :=
  half_range _ _ _ (by omega) (by omega) (by omega) (by omega)
theorem to16_bounds (v : Int) (h0 : 0 ≤ v) : 0 ≤ to16I v ∧ to16I v ≤ 65535 := by unfold to16I; omega
theorem prem_bounds (c a m : Int) (c0 : 0 ≤ c) (a0 : 0 ≤ a) (m0 : 0 ≤ m) : 0 ≤ premI c a m ∧ premI c a m ≤ m := by
  obtain ⟨p0, p1⟩ := mul_bound (min c m) (min a m) m m (by omega) (by omega) (by omega) (by omega)
  exact half_range _ _ _ p0 m0 m0 p1
theorem str_bounds (c a m : Int) (c0 : 0 ≤ c) (a0 : 0 ≤ a) (m0 : 0 ≤ m) : 0 ≤ strI c a m ∧ strI c a m ≤ m := by
  obtain ⟨p0, p1⟩ := mul_bound (min c a) m a m (by omega) (by omega) (by omega) (by omega)
  exact half_range _ _ _ p0 a0 m0 (by rw [Int.mul_comm m a]; exact p1)

set_option maxHeartbeats 400000 in
theorem to16_call (v : Int) (w : World) (h0 : 0 ≤ v) (h1 : v ≤ 65535) :
    Calls Try.prog 13 #[.int .u16 v] w fun e w' => e = .returned (.int .u16 (to16I v)) ∧ w = w' := by
  go_enter Try.func13, Try.ntmps13
  go_wp2
  all_goals
    go_ret
    refine ⟨ret_int ?_, rfl⟩
    unfold to16I
    omega

set_option maxHeartbeats 400000 in
theorem refTo16_call (v : Int) (w : World) (h0 : 0 ≤ v) (h1 : v ≤ 65535) :
    Calls Try.prog 28 #[.int .u16 v] w fun e w' => e = .returned (.int .u16 (to16I v)) ∧ w = w' := by
  go_enter Try.func28, Try.ntmps28
  go_wp2
  all_goals
    go_ret
    refine ⟨ret_int ?_, rfl⟩
    unfold to16I
    omega

set_option maxHeartbeats 400000 in
theorem to8_call (v : Int) (w : World) (h0 : 0 ≤ v) (h1 : v ≤ 65535) :
    Calls Try.prog 14 #[.int .u16 v] w fun e w' => e = .returned (.int .u16 (to8I v)) ∧ ∃ k, w' = w.drewN k := by
  obtain ⟨b0, b1⟩ := to8_bounds v h0 h1
  go_enter Try.func14, Try.ntmps14
  go_wp2_with (go_at_call 40; refine (by65535_call _ _ (by omega) (by omega)).mono ?_; rintro e w' ⟨rfl, rfl⟩)
  go_ret
  exact ⟨rfl, 0, rfl⟩

set_option maxHeartbeats 400000 in
theorem refTo8_call (v : Int) (w : World) (h0 : 0 ≤ v) (h1 : v ≤ 65535) :
    Calls Try.prog 29 #[.int .u16 v] w fun e w' => e = .returned (.int .u16 (to8I v)) ∧ ∃ k, w' = w.drewN k := by
  obtain ⟨b0, b1⟩ := to8_bounds v h0 h1
  go_enter Try.func29, Try.ntmps29
  go_wp2_with (go_at_call 42; refine (refHalf_call _ _ _ (by omega) (by omega) (by omega) (by omega)).mono ?_; rintro e w' ⟨rfl, k, rfl⟩)
  go_ret
  exact ⟨rfl, _, rfl⟩

set_option maxHeartbeats 400000 in
theorem prem_call (c a m : Int) (w : World) (c0 : 0 ≤ c) (c1 : c ≤ 65535) (a0 : 0 ≤ a) (a1 : a ≤ 65535) (m0 : 0 ≤ m) (m1 : m ≤ 65535) :
    Calls Try.prog 17 #[.int .u16 c, .int .u16 a, .int .u16 m] w fun e w' => e = .returned (.int .u16 (premI c a m)) ∧ ∃ k, w' = w.drewN k := by
  obtain ⟨q0, q1⟩ := prem_bounds c a m c0 a0 m0
  unfold premI at q0 q1
  have keyTT : m < c → m < a → Calls Try.prog 17 #[.int .u16 c, .int .u16 a, .int .u16 m] w fun e w' => e = .returned (.int .u16 (premI c a m)) ∧ ∃ k, w' = w.drewN k := by
    intro hc ha
    have ehc : min c m = m := by omega
    have eha : min a m = m := by omega
    have es : premI c a m = halfI (m * m) m := by unfold premI; rw [ehc, eha]
    rw [ehc, eha] at q0 q1
    obtain ⟨p0, p1⟩ := mul_bound (m) (m) 65535 65535 (by omega) (by omega) (by omega) (by omega)
    rw [es]
    clear es ehc eha
    go_enter Try.func17, Try.ntmps17
    go_wp2_with (go_at_call 41; refine (half_call _ _ _ (by omega) (by omega) (by omega) (by omega)).mono ?_; rintro e w' ⟨rfl, k, rfl⟩)
    go_ret
    exact ⟨rfl, _, rfl⟩
  have keyTF : m < c → ¬ m < a → Calls Try.prog 17 #[.int .u16 c, .int .u16 a, .int .u16 m] w fun e w' => e = .returned (.int .u16 (premI c a m)) ∧ ∃ k, w' = w.drewN k := by
    intro hc ha
    have ehc : min c m = m := by omega
    have eha : min a m = a := by omega
    have es : premI c a m = halfI (m * a) m := by unfold premI; rw [ehc, eha]
    rw [ehc, eha] at q0 q1
    obtain ⟨p0, p1⟩ := mul_bound (m) (a) 65535 65535 (by omega) (by omega) (by omega) (by omega)
    rw [es]
    clear es ehc eha
    go_enter Try.func17, Try.ntmps17
    go_wp2_with (go_at_call 41; refine (half_call _ _ _ (by omega) (by omega) (by omega) (by omega)).mono ?_; rintro e w' ⟨rfl, k, rfl⟩)
    go_ret
    exact ⟨rfl, _, rfl⟩
  have keyFT : ¬ m < c → m < a → Calls Try.prog 17 #[.int .u16 c, .int .u16 a, .int .u16 m] w fun e w' => e = .returned (.int .u16 (premI c a m)) ∧ ∃ k, w' = w.drewN k := by
    intro hc ha
    have ehc : min c m = c := by omega
    have eha : min a m = m := by omega
    have es : premI c a m = halfI (c * m) m := by unfold premI; rw [ehc, eha]
    rw [ehc, eha] at q0 q1
    obtain ⟨p0, p1⟩ := mul_bound (c) (m) 65535 65535 (by omega) (by omega) (by omega) (by omega)
    rw [es]
    clear es ehc eha
    go_enter Try.func17, Try.ntmps17
    go_wp2_with (go_at_call 41; refine (half_call _ _ _ (by omega) (by omega) (by omega) (by omega)).mono ?_; rintro e w' ⟨rfl, k, rfl⟩)
    go_ret
    exact ⟨rfl, _, rfl⟩
  have keyFF : ¬ m < c → ¬ m < a → Calls Try.prog 17 #[.int .u16 c, .int .u16 a, .int .u16 m] w fun e w' => e = .returned (.int .u16 (premI c a m)) ∧ ∃ k, w' = w.drewN k := by
    intro hc ha
    have ehc : min c m = c := by omega
    have eha : min a m = a := by omega
    have es : premI c a m = halfI (c * a) m := by unfold premI; rw [ehc, eha]
    rw [ehc, eha] at q0 q1
    obtain ⟨p0, p1⟩ := mul_bound (c) (a) 65535 65535 (by omega) (by omega) (by omega) (by omega)
    rw [es]
    clear es ehc eha
    go_enter Try.func17, Try.ntmps17
    go_wp2_with (go_at_call 41; refine (half_call _ _ _ (by omega) (by omega) (by omega) (by omega)).mono ?_; rintro e w' ⟨rfl, k, rfl⟩)
    go_ret
    exact ⟨rfl, _, rfl⟩
  by_cases hc : m < c
  · by_cases ha : m < a
    · exact keyTT hc ha
    · exact keyTF hc ha
  · by_cases ha : m < a
    · exact keyFT hc ha
    · exact keyFF hc ha

set_option maxHeartbeats 400000 in
theorem refPrem_call (c a m : Int) (w : World) (c0 : 0 ≤ c) (c1 : c ≤ 65535) (a0 : 0 ≤ a) (a1 : a ≤ 65535) (m0 : 0 ≤ m) (m1 : m ≤ 65535) :
    Calls Try.prog 18 #[.int .u16 c, .int .u16 a, .int .u16 m] w fun e w' => e = .returned (.int .u16 (premI c a m)) ∧ ∃ k, w' = w.drewN k := by
  obtain ⟨q0, q1⟩ := prem_bounds c a m c0 a0 m0
  unfold premI at q0 q1
  have keyTT : m < c → m < a → Calls Try.prog 18 #[.int .u16 c, .int .u16 a, .int .u16 m] w fun e w' => e = .returned (.int .u16 (premI c a m)) ∧ ∃ k, w' = w.drewN k := by
    intro hc ha
    have ehc : min c m = m := by omega
    have eha : min a m = m := by omega
    have es : premI c a m = halfI (m * m) m := by unfold premI; rw [ehc, eha]
    rw [ehc, eha] at q0 q1
    obtain ⟨p0, p1⟩ := mul_bound (m) (m) 65535 65535 (by omega) (by omega) (by omega) (by omega)
    rw [es]
    clear es ehc eha
    go_enter Try.func18, Try.ntmps18
    go_wp2_with (go_at_call 42; refine (refHalf_call _ _ _ (by omega) (by omega) (by omega) (by omega)).mono ?_; rintro e w' ⟨rfl, k, rfl⟩)
    go_ret
    exact ⟨rfl, _, rfl⟩
  have keyTF : m < c → ¬ m < a → Calls Try.prog 18 #[.int .u16 c, .int .u16 a, .int .u16 m] w fun e w' => e = .returned (.int .u16 (premI c a m)) ∧ ∃ k, w' = w.drewN k := by
    intro hc ha
    have ehc : min c m = m := by omega
    have eha : min a m = a := by omega
    have es : premI c a m = halfI (m * a) m := by unfold premI; rw [ehc, eha]
    rw [ehc, eha] at q0 q1
    obtain ⟨p0, p1⟩ := mul_bound (m) (a) 65535 65535 (by omega) (by omega) (by omega) (by omega)
    rw [es]
    clear es ehc eha
    go_enter Try.func18, Try.ntmps18
    go_wp2_with (go_at_call 42; refine (refHalf_call _ _ _ (by omega) (by omega) (by omega) (by omega)).mono ?_; rintro e w' ⟨rfl, k, rfl⟩)
    go_ret
    exact ⟨rfl, _, rfl⟩
  have keyFT : ¬ m < c → m < a → Calls Try.prog 18 #[.int .u16 c, .int .u16 a, .int .u16 m] w fun e w' => e = .returned (.int .u16 (premI c a m)) ∧ ∃ k, w' = w.drewN k := by
    intro hc ha
    have ehc : min c m = c := by omega
    have eha : min a m = m := by omega
    have es : premI c a m = halfI (c * m) m := by unfold premI; rw [ehc, eha]
    rw [ehc, eha] at q0 q1
    obtain ⟨p0, p1⟩ := mul_bound (c) (m) 65535 65535 (by omega) (by omega) (by omega) (by omega)
    rw [es]
    clear es ehc eha
    go_enter Try.func18, Try.ntmps18
    go_wp2_with (go_at_call 42; refine (refHalf_call _ _ _ (by omega) (by omega) (by omega) (by omega)).mono ?_; rintro e w' ⟨rfl, k, rfl⟩)
    go_ret
    exact ⟨rfl, _, rfl⟩
  have keyFF : ¬ m < c → ¬ m < a → Calls Try.prog 18 #[.int .u16 c, .int .u16 a, .int .u16 m] w fun e w' => e = .returned (.int .u16 (premI c a m)) ∧ ∃ k, w' = w.drewN k := by
    intro hc ha
    have ehc : min c m = c := by omega
    have eha : min a m = a := by omega
    have es : premI c a m = halfI (c * a) m := by unfold premI; rw [ehc, eha]
    rw [ehc, eha] at q0 q1
    obtain ⟨p0, p1⟩ := mul_bound (c) (a) 65535 65535 (by omega) (by omega) (by omega) (by omega)
    rw [es]
    clear es ehc eha
    go_enter Try.func18, Try.ntmps18
    go_wp2_with (go_at_call 42; refine (refHalf_call _ _ _ (by omega) (by omega) (by omega) (by omega)).mono ?_; rintro e w' ⟨rfl, k, rfl⟩)
    go_ret
    exact ⟨rfl, _, rfl⟩
  by_cases hc : m < c
  · by_cases ha : m < a
    · exact keyTT hc ha
    · exact keyTF hc ha
  · by_cases ha : m < a
    · exact keyFT hc ha
    · exact keyFF hc ha

set_option maxHeartbeats 400000 in
theorem str_call (c a m : Int) (w : World) (c0 : 0 ≤ c) (c1 : c ≤ 65535) (a0 : 0 ≤ a) (a1 : a ≤ 65535) (m0 : 0 ≤ m) (m1 : m ≤ 65535) :
    Calls Try.prog 19 #[.int .u16 c, .int .u16 a, .int .u16 m] w fun e w' => e = .returned (.int .u16 (strI c a m)) ∧ ∃ k, w' = w.drewN k := by
  obtain ⟨q0, q1⟩ := str_bounds c a m c0 a0 m0
  unfold strI at q0 q1
  have keyT : a < c → Calls Try.prog 19 #[.int .u16 c, .int .u16 a, .int .u16 m] w fun e w' => e = .returned (.int .u16 (strI c a m)) ∧ ∃ k, w' = w.drewN k := by
    intro hc
    have ehc : min c a = a := by omega
    have es : strI c a m = halfI (a * m) a := by unfold strI; rw [ehc]
    rw [ehc] at q0 q1
    obtain ⟨p0, p1⟩ := mul_bound (a) (m) 65535 65535 (by omega) (by omega) (by omega) (by omega)
    rw [es]
    clear es ehc
    go_enter Try.func19, Try.ntmps19
    go_wp2_with (go_at_call 41; refine (half_call _ _ _ (by omega) (by omega) (by omega) (by omega)).mono ?_; rintro e w' ⟨rfl, k, rfl⟩)
    go_ret
    exact ⟨rfl, _, rfl⟩
  have keyF : ¬ a < c → Calls Try.prog 19 #[.int .u16 c, .int .u16 a, .int .u16 m] w fun e w' => e = .returned (.int .u16 (strI c a m)) ∧ ∃ k, w' = w.drewN k := by
    intro hc
    have ehc : min c a = c := by omega
    have es : strI c a m = halfI (c * m) a := by unfold strI; rw [ehc]
    rw [ehc] at q0 q1
    obtain ⟨p0, p1⟩ := mul_bound (c) (m) 65535 65535 (by omega) (by omega) (by omega) (by omega)
    rw [es]
    clear es ehc
    go_enter Try.func19, Try.ntmps19
    go_wp2_with (go_at_call 41; refine (half_call _ _ _ (by omega) (by omega) (by omega) (by omega)).mono ?_; rintro e w' ⟨rfl, k, rfl⟩)
    go_ret
    exact ⟨rfl, _, rfl⟩
  by_cases hc : a < c
  · exact keyT hc
  · exact keyF hc

set_option maxHeartbeats 400000 in
theorem refStr_call (c a m : Int) (w : World) (c0 : 0 ≤ c) (c1 : c ≤ 65535) (a0 : 0 ≤ a) (a1 : a ≤ 65535) (m0 : 0 ≤ m) (m1 : m ≤ 65535) :
    Calls Try.prog 20 #[.int .u16 c, .int .u16 a, .int .u16 m] w fun e w' => e = .returned (.int .u16 (strI c a m)) ∧ ∃ k, w' = w.drewN k := by
  obtain ⟨q0, q1⟩ := str_bounds c a m c0 a0 m0
  unfold strI at q0 q1
  have keyT : a < c → Calls Try.prog 20 #[.int .u16 c, .int .u16 a, .int .u16 m] w fun e w' => e = .returned (.int .u16 (strI c a m)) ∧ ∃ k, w' = w.drewN k := by
    intro hc
    have ehc : min c a = a := by omega
    have es : strI c a m = halfI (a * m) a := by unfold strI; rw [ehc]
    rw [ehc] at q0 q1
    obtain ⟨p0, p1⟩ := mul_bound (a) (m) 65535 65535 (by omega) (by omega) (by omega) (by omega)
    rw [es]
    clear es ehc
    go_enter Try.func20, Try.ntmps20
    go_wp2_with (go_at_call 42; refine (refHalf_call _ _ _ (by omega) (by omega) (by omega) (by omega)).mono ?_; rintro e w' ⟨rfl, k, rfl⟩)
    go_ret
    exact ⟨rfl, _, rfl⟩
  have keyF : ¬ a < c → Calls Try.prog 20 #[.int .u16 c, .int .u16 a, .int .u16 m] w fun e w' => e = .returned (.int .u16 (strI c a m)) ∧ ∃ k, w' = w.drewN k := by
    intro hc
    have ehc : min c a = c := by omega
    have es : strI c a m = halfI (c * m) a := by unfold strI; rw [ehc]
    rw [ehc] at q0 q1
    obtain ⟨p0, p1⟩ := mul_bound (c) (m) 65535 65535 (by omega) (by omega) (by omega) (by omega)
    rw [es]
    clear es ehc
    go_enter Try.func20, Try.ntmps20
    go_wp2_with (go_at_call 42; refine (refHalf_call _ _ _ (by omega) (by omega) (by omega) (by omega)).mono ?_; rintro e w' ⟨rfl, k, rfl⟩)
    go_ret
    exact ⟨rfl, _, rfl⟩
  by_cases hc : a < c
  · exact keyT hc
  · exact keyF hc

/-- The maximum of a depth, and whether there is one. -/
def maxI (b : Int) : Int := if b = 8 then 255 else if b = 16 then 65535 else 0
def maxB (b : Int) : Bool := if b = 8 then true else if b = 16 then true else false

set_option maxHeartbeats 400000 in
theorem smax_call (b : Int) (w : World) :
    Calls Try.prog 23 #[.int .i64 b] w fun e w' => e = .returned (.tuple #[.int .u16 (maxI b), .bool (maxB b)]) ∧ w = w' := by
  by_cases h8 : b = 8
  · have e1 : maxI b = 255 := by simp [maxI, h8]
    have e2 : maxB b = true := by simp [maxB, h8]
    rw [e1, e2]
    have hb : (b == 8) = true := by simpa using h8
    clear e1 e2 h8
    go_enter Try.func23, Try.ntmps23
    go_wp2
    go_ret2
    exact ⟨rfl, rfl⟩
  · by_cases h16 : b = 16
    · have e1 : maxI b = 65535 := by simp [maxI, h16]
      have e2 : maxB b = true := by simp [maxB, h16]
      rw [e1, e2]
      have hb : (b == 8) = false := by simpa using h8
      have hb' : (b == 16) = true := by simpa using h16
      clear e1 e2 h8 h16
      go_enter Try.func23, Try.ntmps23
      go_wp2
      go_ret2
      exact ⟨rfl, rfl⟩
    · have e1 : maxI b = 0 := by simp [maxI, h8, h16]
      have e2 : maxB b = false := by simp [maxB, h8, h16]
      rw [e1, e2]
      have hb : (b == 8) = false := by simpa using h8
      have hb' : (b == 16) = false := by simpa using h16
      clear e1 e2 h8 h16
      go_enter Try.func23, Try.ntmps23
      go_wp2
      go_ret2
      exact ⟨rfl, rfl⟩

set_option maxHeartbeats 400000 in
theorem refMax_call (b : Int) (w : World) :
    Calls Try.prog 24 #[.int .i64 b] w fun e w' => e = .returned (.tuple #[.int .u16 (maxI b), .bool (maxB b)]) ∧ w = w' := by
  by_cases h8 : b = 8
  · have e1 : maxI b = 255 := by simp [maxI, h8]
    have e2 : maxB b = true := by simp [maxB, h8]
    rw [e1, e2]
    have hb : (b == 8) = true := by simpa using h8
    clear e1 e2 h8
    go_enter Try.func24, Try.ntmps24
    go_wp2
    go_ret2
    exact ⟨rfl, rfl⟩
  · by_cases h16 : b = 16
    · have e1 : maxI b = 65535 := by simp [maxI, h16]
      have e2 : maxB b = true := by simp [maxB, h16]
      rw [e1, e2]
      have hb : (b == 8) = false := by simpa using h8
      have hb' : (b == 16) = true := by simpa using h16
      clear e1 e2 h8 h16
      go_enter Try.func24, Try.ntmps24
      go_wp2
      go_ret2
      exact ⟨rfl, rfl⟩
    · have e1 : maxI b = 0 := by simp [maxI, h8, h16]
      have e2 : maxB b = false := by simp [maxB, h8, h16]
      rw [e1, e2]
      have hb : (b == 8) = false := by simpa using h8
      have hb' : (b == 16) = false := by simpa using h16
      clear e1 e2 h8 h16
      go_enter Try.func24, Try.ntmps24
      go_wp2
      go_ret2
      exact ⟨rfl, rfl⟩

end Go.Proofs.Ytgkpdngphjbhcaa
