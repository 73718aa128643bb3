/- Intervals: what the functions compute, and the contracts of Valid and made. -/
import Derived.Test.YtdbemgjjahcabaaMod
import Derived.Test.YtdbemgjjahcabaaMore
import Derived.Handy
namespace Go.Proofs.Ytdbemgjjahcabaa
open Go.RowKit
set_option linter.unusedVariables false

theorem ret_bool {a b : Bool} (h : a = b) : Ending.returned (.bool a) = .returned (.bool b) := by rw [h]
/-- Whether an interval is valid. -/
def ivB (lo hi : Int) : Bool := decide (lo ≤ hi ∧ -17592186044416 ≤ lo ∧ hi ≤ 17592186044416)
def mkB (lo hi : Int) (ok : Bool) : Bool := ok && ivB lo hi
def mkL (lo hi : Int) (ok : Bool) : Int := if mkB lo hi ok = true then lo else 0
def mkH (lo hi : Int) (ok : Bool) : Int := if mkB lo hi ok = true then hi else 0
theorem ivB_parts {lo hi : Int} (h : ivB lo hi = true) : lo ≤ hi ∧ -17592186044416 ≤ lo ∧ hi ≤ 17592186044416 := of_decide_eq_true h
theorem mk_false (lo hi : Int) : mkL lo hi false = 0 ∧ mkH lo hi false = 0 ∧ mkB lo hi false = false := ⟨rfl, rfl, rfl⟩
theorem mk_bad {lo hi : Int} (h : ivB lo hi = false) (ok : Bool) : mkL lo hi ok = 0 ∧ mkH lo hi ok = 0 ∧ mkB lo hi ok = false := by
  have e : mkB lo hi ok = false := by unfold mkB; rw [h]; cases ok <;> rfl
  exact ⟨by unfold mkL; rw [e]; rfl, by unfold mkH; rw [e]; rfl, e⟩
theorem mk_good {lo hi : Int} (h : ivB lo hi = true) : mkL lo hi true = lo ∧ mkH lo hi true = hi ∧ mkB lo hi true = true := by
  have e : mkB lo hi true = true := by unfold mkB; rw [h]; rfl
  exact ⟨by unfold mkL; rw [e]; rfl, by unfold mkH; rw [e]; rfl, e⟩
/-- the block of an interval -/
abbrev ivO (lo hi : Int) : Obj := .cells #[.int .i64 lo, .int .i64 hi] 24

set_option maxHeartbeats 400000 in
theorem valid_call (lo hi : Int) (w : World) :
    Calls Try.prog 18 #[.agg #[.int .i64 lo, .int .i64 hi]] w fun e w' => e = .returned (.bool (ivB lo hi)) ∧ w.alloc (ivO lo hi) = w' := by
  go_enter Try.func18, Try.ntmps18
  go_wp2
  all_goals
    go_ret
    refine ⟨ret_bool ?_, rfl⟩
    unfold ivB
    first | exact (decide_eq_false (by omega)).symm | exact decide_eq_decide.2 (by omega)

set_option maxHeartbeats 400000 in
theorem refValid_call (lo hi : Int) (w : World) :
    Calls Try.prog 19 #[.agg #[.int .i64 lo, .int .i64 hi]] w fun e w' => e = .returned (.bool (ivB lo hi)) ∧ w.alloc (ivO lo hi) = w' := by
  go_enter Try.func19, Try.ntmps19
  go_wp2
  all_goals
    go_ret
    refine ⟨ret_bool ?_, rfl⟩
    unfold ivB
    first | exact (decide_eq_false (by omega)).symm | exact decide_eq_decide.2 (by omega)

set_option maxHeartbeats 400000 in
theorem made_yes (lo hi : Int) (h : ivB lo hi = true) (w : World) :
    Calls Try.prog 37 #[.int .i64 lo, .int .i64 hi, .bool true] w fun e w' => e = .returned (.tuple #[.agg #[.int .i64 (lo), .int .i64 (hi)], .bool (true)]) ∧ (((w.alloc (ivO (lo) (hi))).alloc (ivO lo hi)).alloc (ivO lo hi)) = w' := by
  have hv := fun w => valid_call lo hi w
  rw [h] at hv
  have HV := Lib.hid @hv
  clear hv h
  go_enter Try.func37, Try.ntmps37
  go_wp2_with (go_at_call 18; (with_reducible refine (HV.out _).mono ?_); rintro e w' ⟨rfl, rfl⟩)
  exact bodyPost_ret (v := .tuple #[.agg #[.int .i64 (lo), .int .i64 (hi)], .bool true]) (by simp [results, Try.results37, go_sem]) rfl ⟨rfl, rfl⟩

set_option maxHeartbeats 400000 in
theorem made_bad (lo hi : Int) (h : ivB lo hi = false) (w : World) :
    Calls Try.prog 37 #[.int .i64 lo, .int .i64 hi, .bool true] w fun e w' => e = .returned (.tuple #[.agg #[.int .i64 (0), .int .i64 (0)], .bool (false)]) ∧ (((w.alloc (ivO (0) (0))).alloc (ivO lo hi)).alloc (ivO lo hi)) = w' := by
  have hv := fun w => valid_call lo hi w
  rw [h] at hv
  have HV := Lib.hid @hv
  clear hv h
  go_enter Try.func37, Try.ntmps37
  go_wp2_with (go_at_call 18; (with_reducible refine (HV.out _).mono ?_); rintro e w' ⟨rfl, rfl⟩)
  exact bodyPost_ret (v := .tuple #[.agg #[.int .i64 (0), .int .i64 (0)], .bool false]) (by simp [results, Try.results37, go_sem]) rfl ⟨rfl, rfl⟩

set_option maxHeartbeats 400000 in
theorem made_no (lo hi : Int)  (w : World) :
    Calls Try.prog 37 #[.int .i64 lo, .int .i64 hi, .bool false] w fun e w' => e = .returned (.tuple #[.agg #[.int .i64 (0), .int .i64 (0)], .bool (false)]) ∧ ((w.alloc (ivO (0) (0))).alloc (ivO lo hi)) = w' := by
  have hv := fun w => valid_call lo hi w
  have HV := Lib.hid @hv
  clear hv
  go_enter Try.func37, Try.ntmps37
  go_wp2_with (go_at_call 18; (with_reducible refine (HV.out _).mono ?_); rintro e w' ⟨rfl, rfl⟩)
  exact bodyPost_ret (v := .tuple #[.agg #[.int .i64 (0), .int .i64 (0)], .bool false]) (by simp [results, Try.results37, go_sem]) rfl ⟨rfl, rfl⟩

set_option maxHeartbeats 400000 in
theorem refMade_yes (lo hi : Int) (h : ivB lo hi = true) (w : World) :
    Calls Try.prog 38 #[.int .i64 lo, .int .i64 hi] w fun e w' => e = .returned (.tuple #[.agg #[.int .i64 (lo), .int .i64 (hi)], .bool (true)]) ∧ (((w.alloc (ivO (lo) (hi))).alloc (ivO lo hi)).alloc (ivO lo hi)) = w' := by
  have hv := fun w => refValid_call lo hi w
  rw [h] at hv
  have HV := Lib.hid @hv
  clear hv h
  go_enter Try.func38, Try.ntmps38
  go_wp2_with (go_at_call 19; (with_reducible refine (HV.out _).mono ?_); rintro e w' ⟨rfl, rfl⟩)
  exact bodyPost_ret (v := .tuple #[.agg #[.int .i64 (lo), .int .i64 (hi)], .bool true]) (by simp [results, Try.results38, go_sem]) rfl ⟨rfl, rfl⟩

set_option maxHeartbeats 400000 in
theorem refMade_bad (lo hi : Int) (h : ivB lo hi = false) (w : World) :
    Calls Try.prog 38 #[.int .i64 lo, .int .i64 hi] w fun e w' => e = .returned (.tuple #[.agg #[.int .i64 (0), .int .i64 (0)], .bool (false)]) ∧ (((w.alloc (ivO (0) (0))).alloc (ivO lo hi)).alloc (ivO lo hi)) = w' := by
  have hv := fun w => refValid_call lo hi w
  rw [h] at hv
  have HV := Lib.hid @hv
  clear hv h
  go_enter Try.func38, Try.ntmps38
  go_wp2_with (go_at_call 19; (with_reducible refine (HV.out _).mono ?_); rintro e w' ⟨rfl, rfl⟩)
  exact bodyPost_ret (v := .tuple #[.agg #[.int .i64 (0), .int .i64 (0)], .bool false]) (by simp [results, Try.results38, go_sem]) rfl ⟨rfl, rfl⟩

/-- made, whichever way it goes -/
theorem made_ex (lo hi : Int) (ok : Bool) : ∃ n, ∀ w : World, Calls Try.prog 37 #[.int .i64 lo, .int .i64 hi, .bool ok] w fun e w' => e = .returned (.tuple #[.agg #[.int .i64 (mkL lo hi ok), .int .i64 (mkH lo hi ok)], .bool (mkB lo hi ok)]) ∧ w' = more w ⟨n, 0⟩ := by
  cases ok with
  | false => exact ⟨[_, _], fun w => (made_no lo hi w).mono fun _ _ ⟨h1, h2⟩ => ⟨h1, h2.symm⟩⟩
  | true =>
    by_cases h : ivB lo hi = true
    · obtain ⟨e1, e2, e3⟩ := mk_good h
      rw [e1, e2, e3]
      exact ⟨[_, _, _], fun w => (made_yes lo hi h w).mono fun _ _ ⟨h1, h2⟩ => ⟨h1, h2.symm⟩⟩
    · have h : ivB lo hi = false := by simpa using h
      obtain ⟨e1, e2, e3⟩ := mk_bad h true
      rw [e1, e2, e3]
      exact ⟨[_, _, _], fun w => (made_bad lo hi h w).mono fun _ _ ⟨h1, h2⟩ => ⟨h1, h2.symm⟩⟩
theorem made_call (lo hi : Int) (ok : Bool) (w : World) : Calls Try.prog 37 #[.int .i64 lo, .int .i64 hi, .bool ok] w fun e w' => e = .returned (.tuple #[.agg #[.int .i64 (mkL lo hi ok), .int .i64 (mkH lo hi ok)], .bool (mkB lo hi ok)]) ∧ ∃ p, w' = more w p := by
  obtain ⟨n, h⟩ := made_ex lo hi ok
  exact (h w).mono fun _ _ ⟨h1, h2⟩ => ⟨h1, _, h2⟩
theorem refMade_call (lo hi : Int) (w : World) : Calls Try.prog 38 #[.int .i64 lo, .int .i64 hi] w fun e w' => e = .returned (.tuple #[.agg #[.int .i64 (mkL lo hi true), .int .i64 (mkH lo hi true)], .bool (mkB lo hi true)]) ∧ ∃ p, w' = more w p := by
  by_cases h : ivB lo hi = true
  · obtain ⟨e1, e2, e3⟩ := mk_good h
    rw [e1, e2, e3]
    exact (refMade_yes lo hi h w).mono fun _ _ ⟨h1, h2⟩ => ⟨h1, ⟨[_, _, _], 0⟩, h2.symm⟩
  · have h : ivB lo hi = false := by simpa using h
    obtain ⟨e1, e2, e3⟩ := mk_bad h true
    rw [e1, e2, e3]
    exact (refMade_bad lo hi h w).mono fun _ _ ⟨h1, h2⟩ => ⟨h1, ⟨[_, _, _], 0⟩, h2.symm⟩
end Go.Proofs.Ytdbemgjjahcabaa
