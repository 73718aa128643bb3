/- Contracts of ToFloat, Inf, Copysign, NaN and of the sanity check of layer 4. -/
import Derived.Test.YtgjlmkombpgdgaaUnit4
namespace Go.Proofs.Ytgjlmkombpgdgaa
open Go.RowKit FL
set_option linter.unusedVariables false

theorem isn_word (s : Bool) {r : Nat} (h : r ≤ 0x7FF0000000000000) : isn (Ieee.double.word s r) = false := by
  unfold isn Ieee.Format.word
  rw [signWeight_double]
  exact decide_eq_false (by cases s <;> simp <;> omega)
theorem isn_nearest (s : Bool) (m : Nat) (p : Int) : isn (Ieee.double.nearest s m p) = false := by
  unfold Ieee.Format.nearest
  dsimp only
  split
  · exact isn_word s (by omega)
  · exact isn_word s (by rw [infRung_double]; exact Nat.min_le_right _ _)
/-- a sample as a float is a number -/
theorem read_of {v : Nat} (h : v ≤ 65535) : ∃ (m : Nat) (p : Int), Ieee.double.read (floatOfInt .f64 (v : Int)) = .number false m p ∧ (1 ≤ v → m ≠ 0) := by
  by_cases h0 : v = 0
  · subst h0
    refine ⟨0, -1074, ?_, fun h => absurd h (by omega)⟩
    show Ieee.double.read (floatOfInt .f64 0) = _
    rw [of_zero]
    decide +kernel
  · obtain ⟨m, em, hm, m1, m2⟩ := of_nat (by omega : 1 ≤ v) h
    have hl : v.log2 < 16 := (Nat.log2_lt (by omega)).2 (by omega)
    have r := read_rung (e := v.log2 + 1022) m1 m2 (by omega)
    rw [em]
    exact ⟨_, _, r, fun _ => by omega⟩
theorem add_half {v : Nat} (h : v ≤ 65535) : ∃ r, floatBits .add .f64 (floatOfInt .f64 (v : Int)) 4602678819172646912 = some r ∧ isn r = false := by
  obtain ⟨m, p, e, _⟩ := read_of h
  have e2 : Ieee.double.read 4602678819172646912 = .number false 4503599627370496 (-53) := by decide +kernel
  have k : ∃ s m' p', (Ieee.Datum.number false m p).sum (.number false 4503599627370496 (-53)) = some (.number s m' p') := by
    simp only [Ieee.Datum.sum]
    exact ⟨_, _, _, rfl⟩
  obtain ⟨s, m', p', k⟩ := k
  refine ⟨Ieee.double.nearest s m' p', ?_, isn_nearest _ _ _⟩
  show ((Ieee.double.read (floatOfInt .f64 (v : Int))).sum (Ieee.double.read 4602678819172646912)).map Ieee.double.write = some _
  rw [e, e2, k]
  rfl
theorem quo_some {r u : Nat} (hr : isn r = false) (h : u ≤ 65535) (h1 : 1 ≤ u) : ∃ s, floatBits .quo .f64 r (floatOfInt .f64 (u : Int)) = some s := by
  obtain ⟨m, p, e, hm⟩ := read_of h
  have R := reads r
  show ∃ s, ((Ieee.double.read r).quotient 54 (Ieee.double.read (floatOfInt .f64 (u : Int)))).map Ieee.double.write = some s
  rw [e]
  generalize Ieee.double.read r = d at R
  cases R with
  | nan s f h => rw [h] at hr; cases hr
  | inf s h e => exact ⟨_, rfl⟩
  | num s m p h e lt =>
    simp only [Ieee.Datum.quotient]
    rw [if_neg (hm h1)]
    exact ⟨_, rfl⟩

theorem ret_f {a b : Nat} {x : Bool} (h : a = b) : Ending.returned (.tuple #[.float .f64 a, .bool x]) = .returned (.tuple #[.float .f64 b, .bool x]) := by rw [h]
def tfOk (v u : Int) : Bool := !(u == 0 || decide (u < v))
set_option maxHeartbeats 400000 in
theorem toFloat_call (v u x : Nat) (w : World) (hv : v ≤ 65535) (hu : u ≤ 65535) (hx : tfOk v u = true → floatBits .quo .f64 (floatOfInt .f64 (v : Int)) (floatOfInt .f64 (u : Int)) = some x) (h0 : tfOk v u = false → x = 0) :
    Calls Try.prog 15 #[.int .u16 v, .int .u16 u] w fun e w' => e = .returned (.tuple #[.float .f64 x, .bool (tfOk v u)]) ∧ w = w' := by
  cases hk : tfOk v u
  · rw [h0 hk]
    unfold tfOk at hk
    have hk' : ((u : Int) == 0 || decide ((u : Int) < v)) = true := by rw [← Bool.not_not ((u : Int) == 0 || decide ((u : Int) < v)), hk]; rfl
    clear hx h0 hk
    by_cases hz : u = 0
    · subst hz
      go_enter Try.func15, Try.ntmps15
      go_wp2
      go_ret2
      exact ⟨rfl, rfl⟩
    · have hz' : ((u : Int) == 0) = false := beq_eq_false_iff_ne.2 (by omega)
      have hlt : (u : Int) < v := by rw [hz', Bool.false_or] at hk'; exact of_decide_eq_true hk'
      clear hk' hz
      go_enter Try.func15, Try.ntmps15
      go_wp2
      go_ret2
      exact ⟨rfl, rfl⟩
  · have hx' := hx hk
    have hop : ∀ t w, (binOp .quo t (.float .f64 (floatOfInt .f64 (v : Int))) (.float .f64 (floatOfInt .f64 (u : Int)))).run Try.prog w = .ok (.float .f64 x) w := fun t w => run_float_arith w .quo t .f64 _ _ x hx'
    unfold tfOk at hk
    have hz' : ((u : Int) == 0) = false := by cases h : ((u : Int) == 0) <;> simp_all
    have hlt : ¬ (u : Int) < v := by intro h; rw [decide_eq_true h] at hk; simp at hk
    clear hx h0 hk hx'
    go_enter Try.func15, Try.ntmps15
    go_wp2_with (simp only [hop])
    go_ret2
    exact ⟨rfl, rfl⟩

set_option maxHeartbeats 400000 in
theorem refToFloat_call (v u x : Nat) (w : World) (hv : v ≤ 65535) (hu : u ≤ 65535) (hx : tfOk v u = true → floatBits .quo .f64 (floatOfInt .f64 (v : Int)) (floatOfInt .f64 (u : Int)) = some x) (h0 : tfOk v u = false → x = 0) :
    Calls Try.prog 16 #[.int .u16 v, .int .u16 u] w fun e w' => e = .returned (.tuple #[.float .f64 x, .bool (tfOk v u)]) ∧ w = w' := by
  cases hk : tfOk v u
  · rw [h0 hk]
    unfold tfOk at hk
    have hk' : ((u : Int) == 0 || decide ((u : Int) < v)) = true := by rw [← Bool.not_not ((u : Int) == 0 || decide ((u : Int) < v)), hk]; rfl
    clear hx h0 hk
    by_cases hz : u = 0
    · subst hz
      go_enter Try.func16, Try.ntmps16
      go_wp2
      go_ret2
      exact ⟨rfl, rfl⟩
    · have hz' : ((u : Int) == 0) = false := beq_eq_false_iff_ne.2 (by omega)
      have hlt : (u : Int) < v := by rw [hz', Bool.false_or] at hk'; exact of_decide_eq_true hk'
      clear hk' hz
      go_enter Try.func16, Try.ntmps16
      go_wp2
      go_ret2
      exact ⟨rfl, rfl⟩
  · have hx' := hx hk
    have hop : ∀ t w, (binOp .quo t (.float .f64 (floatOfInt .f64 (v : Int))) (.float .f64 (floatOfInt .f64 (u : Int)))).run Try.prog w = .ok (.float .f64 x) w := fun t w => run_float_arith w .quo t .f64 _ _ x hx'
    unfold tfOk at hk
    have hz' : ((u : Int) == 0) = false := by cases h : ((u : Int) == 0) <;> simp_all
    have hlt : ¬ (u : Int) < v := by intro h; rw [decide_eq_true h] at hk; simp at hk
    clear hx h0 hk hx'
    go_enter Try.func16, Try.ntmps16
    go_wp2_with (simp only [hop])
    go_ret2
    exact ⟨rfl, rfl⟩

theorem tf_ok {v u : Nat} (h1 : v ≤ u) (h2 : 1 ≤ u) : tfOk v u = true := by
  unfold tfOk
  rw [show ((u : Int) == 0) = false from beq_eq_false_iff_ne.2 (by omega), decide_eq_false (by omega)]; rfl
theorem tf_no {v u : Nat} (h : tfOk v u = true) : v ≤ u ∧ 1 ≤ u := by
  unfold tfOk at h
  simp at h
  omega

set_option maxHeartbeats 400000 in
theorem nan_call (w : World) : Calls Try.prog 24 #[] w fun e w' => e = .returned (.float .f64 9221120237041090561) ∧ w = w' := by
  have hr := frombits_run 9221120237041090561
  go_enter Try.func24, Try.ntmps24
  go_wp2_with (simp only [hr])
  go_ret
  exact ⟨rfl, rfl⟩
set_option maxHeartbeats 400000 in
theorem inf_call (w : World) : Calls Try.prog 17 #[.int .i64 1] w fun e w' => e = .returned (.float .f64 9218868437227405312) ∧ w = w' := by
  have hr := frombits_run 9218868437227405312
  go_enter Try.func17, Try.ntmps17
  go_wp2_with (simp only [hr])
  go_ret
  exact ⟨rfl, rfl⟩
set_option maxHeartbeats 400000 in
theorem ninf_call (w : World) : Calls Try.prog 17 #[.int .i64 (-1)] w fun e w' => e = .returned (.float .f64 18442240474082181120) ∧ w = w' := by
  have hr := frombits_run 18442240474082181120
  go_enter Try.func17, Try.ntmps17
  go_wp2_with (simp only [hr])
  go_ret
  exact ⟨rfl, rfl⟩
set_option maxHeartbeats 400000 in
theorem copysign_call (w : World) : Calls Try.prog 18 #[.float .f64 0, .float .f64 13830554455654793216] w fun e w' => e = .returned (.float .f64 9223372036854775808) ∧ w = w' := by
  have hr := frombits_run 9223372036854775808
  have h1 : ∀ w, (callFunc 11 #[.float .f64 0]).run Try.prog w = .ok (.value (.int .u64 0)) w := bits_run 0
  have h2 : ∀ w, (callFunc 11 #[.float .f64 13830554455654793216]).run Try.prog w = .ok (.value (.int .u64 13830554455654793216)) w := bits_run 13830554455654793216
  have b1 : bits .andNot .u64 0 9223372036854775808 = 0 := by decide +kernel
  have b2 : bits .and .u64 13830554455654793216 9223372036854775808 = 9223372036854775808 := by decide +kernel
  have b3 : bits .or .u64 0 9223372036854775808 = 9223372036854775808 := by decide +kernel
  go_enter Try.func18, Try.ntmps18
  go_wp2_with (simp only [hr, h1, h2])
  go_ret
  exact ⟨rfl, rfl⟩
set_option maxHeartbeats 400000 in
theorem awake04_call (w : World) : Calls Try.prog 14 #[] w fun e w' => e = .returned (.bool true) ∧ ∃ p, w' = more w p := by
  have e1 : ff 4602678819172646912 255 = 128 := by decide +kernel
  have e2 : isn 4602678819172646912 = false := by decide +kernel
  have e3 : ff 9221120237041090561 255 = 0 := by decide +kernel
  have e4 : isn 9221120237041090561 = true := by decide +kernel
  have e5 : floatBits .quo .f64 (floatOfInt .f64 ((255 : Nat) : Int)) (floatOfInt .f64 ((255 : Nat) : Int)) = some 4607182418800017408 := by decide +kernel
  have e6 : tfOk ((255 : Nat) : Int) ((255 : Nat) : Int) = true := by decide +kernel
  have h1 : ∀ w, Calls Try.prog 12 #[.float .f64 4602678819172646912, .int .u16 255] w fun e w' => e = .returned (.tuple #[.int .u16 128, .bool true]) ∧ ∃ p, w' = more w p := fun w => by
    have h := ff_call 4602678819172646912 255 w (by omega) (by omega)
    rw [e1, e2] at h
    exact h
  have h2 : ∀ w, Calls Try.prog 12 #[.float .f64 9221120237041090561, .int .u16 255] w fun e w' => e = .returned (.tuple #[.int .u16 0, .bool false]) ∧ ∃ p, w' = more w p := fun w => by
    have h := ff_call 9221120237041090561 255 w (by omega) (by omega)
    rw [e3, e4] at h
    exact h
  have h3 : ∀ w, Calls Try.prog 15 #[.int .u16 255, .int .u16 255] w fun e w' => e = .returned (.tuple #[.float .f64 4607182418800017408, .bool true]) ∧ w = w' := fun w => by
    have h := toFloat_call 255 255 4607182418800017408 w (by omega) (by omega) (fun _ => e5) (fun h => by rw [e6] at h; cases h)
    rw [e6] at h
    exact h
  have o : (FloatKind.f64.format.order 4607182418800017408 4607182418800017408 == some .eq) = true := by decide +kernel
  have H1 := Lib.hid @h1
  have H2 := Lib.hid @h2
  have H3 := Lib.hid @h3
  clear h1 h2 h3 e1 e2 e3 e4 e5 e6
  go_enter Try.func14, Try.ntmps14
  go_wp2_with (first
    | (go_at_call 12; first | ((with_reducible refine (H1.out _).mono ?_); rintro e w' ⟨rfl, p, rfl⟩) | ((with_reducible refine (H2.out _).mono ?_); rintro e w' ⟨rfl, p, rfl⟩))
    | (go_at_call 24; (with_reducible refine (nan_call _).mono ?_); rintro e w' ⟨rfl, rfl⟩)
    | (go_at_call 15; (with_reducible refine (H3.out _).mono ?_); rintro e w' ⟨rfl, rfl⟩))
  go_ret
  exact ⟨rfl, ((Ext.refl w).mored _).mored _⟩
end Go.Proofs.Ytgjlmkombpgdgaa
