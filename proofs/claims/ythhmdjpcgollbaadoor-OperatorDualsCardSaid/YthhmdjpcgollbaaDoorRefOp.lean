/- Contracts of the reference's functions on operators, and of operator.Neutral, Fresh and Name. -/
import Derived.Test.YthhmdjpcgollbaaDoorFac
namespace Go.Proofs.YthhmdjpcgollbaaDoor
open Go.RowKit
set_option linter.unusedVariables false

set_option maxHeartbeats 400000 in
theorem refName_1 (w : World) : Calls Tryd.prog 24 #[.int .i64 1] w fun e w' => e = .returned (.string ⟨#[99, 108, 101, 97, 114]⟩) ∧ ∃ p, w' = more w p := by
  go_enter Tryd.func24, Tryd.ntmps24
  go_wp2
  go_ret
  exact ⟨rfl, ⟨[_], 0⟩, rfl⟩

set_option maxHeartbeats 400000 in
theorem refName_2 (w : World) : Calls Tryd.prog 24 #[.int .i64 2] w fun e w' => e = .returned (.string ⟨#[115, 114, 99]⟩) ∧ ∃ p, w' = more w p := by
  go_enter Tryd.func24, Tryd.ntmps24
  go_wp2
  go_ret
  exact ⟨rfl, ⟨[_], 0⟩, rfl⟩

set_option maxHeartbeats 400000 in
theorem refName_3 (w : World) : Calls Tryd.prog 24 #[.int .i64 3] w fun e w' => e = .returned (.string ⟨#[100, 115, 116]⟩) ∧ ∃ p, w' = more w p := by
  go_enter Tryd.func24, Tryd.ntmps24
  go_wp2
  go_ret
  exact ⟨rfl, ⟨[_], 0⟩, rfl⟩

set_option maxHeartbeats 400000 in
theorem refName_4 (w : World) : Calls Tryd.prog 24 #[.int .i64 4] w fun e w' => e = .returned (.string ⟨#[115, 114, 99, 45, 111, 118, 101, 114]⟩) ∧ ∃ p, w' = more w p := by
  go_enter Tryd.func24, Tryd.ntmps24
  go_wp2
  go_ret
  exact ⟨rfl, ⟨[_], 0⟩, rfl⟩

set_option maxHeartbeats 400000 in
theorem refName_5 (w : World) : Calls Tryd.prog 24 #[.int .i64 5] w fun e w' => e = .returned (.string ⟨#[100, 115, 116, 45, 111, 118, 101, 114]⟩) ∧ ∃ p, w' = more w p := by
  go_enter Tryd.func24, Tryd.ntmps24
  go_wp2
  go_ret
  exact ⟨rfl, ⟨[_], 0⟩, rfl⟩

set_option maxHeartbeats 400000 in
theorem refName_6 (w : World) : Calls Tryd.prog 24 #[.int .i64 6] w fun e w' => e = .returned (.string ⟨#[115, 114, 99, 45, 105, 110]⟩) ∧ ∃ p, w' = more w p := by
  go_enter Tryd.func24, Tryd.ntmps24
  go_wp2
  go_ret
  exact ⟨rfl, ⟨[_], 0⟩, rfl⟩

set_option maxHeartbeats 400000 in
theorem refName_7 (w : World) : Calls Tryd.prog 24 #[.int .i64 7] w fun e w' => e = .returned (.string ⟨#[100, 115, 116, 45, 105, 110]⟩) ∧ ∃ p, w' = more w p := by
  go_enter Tryd.func24, Tryd.ntmps24
  go_wp2
  go_ret
  exact ⟨rfl, ⟨[_], 0⟩, rfl⟩

set_option maxHeartbeats 400000 in
theorem refName_8 (w : World) : Calls Tryd.prog 24 #[.int .i64 8] w fun e w' => e = .returned (.string ⟨#[115, 114, 99, 45, 111, 117, 116]⟩) ∧ ∃ p, w' = more w p := by
  go_enter Tryd.func24, Tryd.ntmps24
  go_wp2
  go_ret
  exact ⟨rfl, ⟨[_], 0⟩, rfl⟩

set_option maxHeartbeats 400000 in
theorem refName_9 (w : World) : Calls Tryd.prog 24 #[.int .i64 9] w fun e w' => e = .returned (.string ⟨#[100, 115, 116, 45, 111, 117, 116]⟩) ∧ ∃ p, w' = more w p := by
  go_enter Tryd.func24, Tryd.ntmps24
  go_wp2
  go_ret
  exact ⟨rfl, ⟨[_], 0⟩, rfl⟩

set_option maxHeartbeats 400000 in
theorem refName_10 (w : World) : Calls Tryd.prog 24 #[.int .i64 10] w fun e w' => e = .returned (.string ⟨#[115, 114, 99, 45, 97, 116, 111, 112]⟩) ∧ ∃ p, w' = more w p := by
  go_enter Tryd.func24, Tryd.ntmps24
  go_wp2
  go_ret
  exact ⟨rfl, ⟨[_], 0⟩, rfl⟩

set_option maxHeartbeats 400000 in
theorem refName_11 (w : World) : Calls Tryd.prog 24 #[.int .i64 11] w fun e w' => e = .returned (.string ⟨#[100, 115, 116, 45, 97, 116, 111, 112]⟩) ∧ ∃ p, w' = more w p := by
  go_enter Tryd.func24, Tryd.ntmps24
  go_wp2
  go_ret
  exact ⟨rfl, ⟨[_], 0⟩, rfl⟩

set_option maxHeartbeats 400000 in
theorem refName_12 (w : World) : Calls Tryd.prog 24 #[.int .i64 12] w fun e w' => e = .returned (.string ⟨#[120, 111, 114]⟩) ∧ ∃ p, w' = more w p := by
  go_enter Tryd.func24, Tryd.ntmps24
  go_wp2
  go_ret
  exact ⟨rfl, ⟨[_], 0⟩, rfl⟩

set_option maxHeartbeats 400000 in
theorem refName_no (k : Int) (w : World) (h : k < 1 ∨ 12 < k) : Calls Tryd.prog 24 #[.int .i64 k] w fun e w' => e = .returned (.string ⟨#[]⟩) ∧ ∃ p, w' = more w p := by
  rcases h with h | h
  all_goals
    go_enter Tryd.func24, Tryd.ntmps24
    go_wp2
    go_ret
    exact ⟨rfl, ⟨[_], 0⟩, rfl⟩
theorem refName_call (k : Int) (w : World) : Calls Tryd.prog 24 #[.int .i64 k] w fun e w' => e = .returned (.string (opName k)) ∧ ∃ p, w' = more w p := by
  by_cases hk : 1 ≤ k ∧ k ≤ 12
  · rcases op_cases hk.1 hk.2 with rfl | rfl | rfl | rfl | rfl | rfl | rfl | rfl | rfl | rfl | rfl | rfl
    · exact refName_1 w
    · exact refName_2 w
    · exact refName_3 w
    · exact refName_4 w
    · exact refName_5 w
    · exact refName_6 w
    · exact refName_7 w
    · exact refName_8 w
    · exact refName_9 w
    · exact refName_10 w
    · exact refName_11 w
    · exact refName_12 w
  · have hn : k < 1 ∨ 12 < k := by omega
    rw [(op_none hn).1]
    exact refName_no k w hn
theorem name_full {k : Int} (h : opIs k = true) : (opName k).data.toList.isEmpty = false := by
  have := of_decide_eq_true h
  rcases op_cases this.1 this.2 with rfl | rfl | rfl | rfl | rfl | rfl | rfl | rfl | rfl | rfl | rfl | rfl
  all_goals rfl
set_option maxHeartbeats 400000 in
theorem isOp_call (k : Int) (w : World) : Calls Tryd.prog 32 #[.int .i64 k] w fun e w' => e = .returned (.bool (opIs k)) ∧ ∃ p, w' = more w p := by
  have hf := refName_call k w
  by_cases hk : opIs k = true
  · have hn := name_full hk
    rw [hk]
    obtain ⟨nm, hnm⟩ : ∃ nm, nm = opName k := ⟨_, rfl⟩
    rw [← hnm] at hf hn
    have hn2 : ¬ nm.toList = [] := by
      obtain ⟨⟨l⟩⟩ := nm
      rw [show (ByteArray.mk { toList := l }) = ByteArray.mk l.toArray from rfl, ByteArray.toList_mk]
      intro e
      subst e
      simp at hn
    have HF := Lib.hid hf
    clear hf hk hnm
    go_enter Tryd.func32, Tryd.ntmps32
    go_wp2_with (go_at_call 24; (with_reducible refine (HF.out).mono ?_); rintro e w' ⟨rfl, p, rfl⟩)
    go_ret
    refine ⟨?_, p, rfl⟩
    simp [hn2]
  · have hk' : opIs k = false := by simpa using hk
    rw [(op_none (by have := of_decide_eq_false hk'; omega)).1] at hf
    rw [hk']
    have HF := Lib.hid hf
    clear hf hk hk'
    go_enter Tryd.func32, Tryd.ntmps32
    go_wp2_with (go_at_call 24; (with_reducible refine (HF.out).mono ?_); rintro e w' ⟨rfl, p, rfl⟩)
    go_ret
    exact ⟨rfl, p, rfl⟩

set_option maxHeartbeats 400000 in
theorem refFactors_1 (a b m : Int) (w : World) (a0 : 0 ≤ a) (a1 : a ≤ 65535) (b0 : 0 ≤ b) (b1 : b ≤ 65535) (m0 : 0 ≤ m) (m1 : m ≤ 65535) (ha : a ≤ m) (hb : b ≤ m) : Calls Tryd.prog 14 #[.int .i64 1, .int .u16 a, .int .u16 b, .int .u16 m] w fun e w' => e = .returned (.tuple #[.int .u16 (0), .int .u16 (0), .bool true]) ∧ ∃ p, w' = more w p := by
  have HF := Lib.hid (isOp_call 1 w)
  go_enter Tryd.func14, Tryd.ntmps14
  go_wp2_with (go_at_call 32; (with_reducible refine (HF.out).mono ?_); rintro e w' ⟨rfl, p, rfl⟩)
  go_ret3
  exact ⟨rfl, p, rfl⟩
set_option maxHeartbeats 400000 in
theorem refFactors_2 (a b m : Int) (w : World) (a0 : 0 ≤ a) (a1 : a ≤ 65535) (b0 : 0 ≤ b) (b1 : b ≤ 65535) (m0 : 0 ≤ m) (m1 : m ≤ 65535) (ha : a ≤ m) (hb : b ≤ m) : Calls Tryd.prog 14 #[.int .i64 2, .int .u16 a, .int .u16 b, .int .u16 m] w fun e w' => e = .returned (.tuple #[.int .u16 (m), .int .u16 (0), .bool true]) ∧ ∃ p, w' = more w p := by
  have HF := Lib.hid (isOp_call 2 w)
  go_enter Tryd.func14, Tryd.ntmps14
  go_wp2_with (go_at_call 32; (with_reducible refine (HF.out).mono ?_); rintro e w' ⟨rfl, p, rfl⟩)
  go_ret3
  exact ⟨rfl, p, rfl⟩
set_option maxHeartbeats 400000 in
theorem refFactors_3 (a b m : Int) (w : World) (a0 : 0 ≤ a) (a1 : a ≤ 65535) (b0 : 0 ≤ b) (b1 : b ≤ 65535) (m0 : 0 ≤ m) (m1 : m ≤ 65535) (ha : a ≤ m) (hb : b ≤ m) : Calls Tryd.prog 14 #[.int .i64 3, .int .u16 a, .int .u16 b, .int .u16 m] w fun e w' => e = .returned (.tuple #[.int .u16 (0), .int .u16 (m), .bool true]) ∧ ∃ p, w' = more w p := by
  have HF := Lib.hid (isOp_call 3 w)
  go_enter Tryd.func14, Tryd.ntmps14
  go_wp2_with (go_at_call 32; (with_reducible refine (HF.out).mono ?_); rintro e w' ⟨rfl, p, rfl⟩)
  go_ret3
  exact ⟨rfl, p, rfl⟩
set_option maxHeartbeats 400000 in
theorem refFactors_4 (a b m : Int) (w : World) (a0 : 0 ≤ a) (a1 : a ≤ 65535) (b0 : 0 ≤ b) (b1 : b ≤ 65535) (m0 : 0 ≤ m) (m1 : m ≤ 65535) (ha : a ≤ m) (hb : b ≤ m) : Calls Tryd.prog 14 #[.int .i64 4, .int .u16 a, .int .u16 b, .int .u16 m] w fun e w' => e = .returned (.tuple #[.int .u16 (m), .int .u16 (m - a), .bool true]) ∧ ∃ p, w' = more w p := by
  have HF := Lib.hid (isOp_call 4 w)
  go_enter Tryd.func14, Tryd.ntmps14
  go_wp2_with (go_at_call 32; (with_reducible refine (HF.out).mono ?_); rintro e w' ⟨rfl, p, rfl⟩)
  go_ret3
  exact ⟨rfl, p, rfl⟩
set_option maxHeartbeats 400000 in
theorem refFactors_5 (a b m : Int) (w : World) (a0 : 0 ≤ a) (a1 : a ≤ 65535) (b0 : 0 ≤ b) (b1 : b ≤ 65535) (m0 : 0 ≤ m) (m1 : m ≤ 65535) (ha : a ≤ m) (hb : b ≤ m) : Calls Tryd.prog 14 #[.int .i64 5, .int .u16 a, .int .u16 b, .int .u16 m] w fun e w' => e = .returned (.tuple #[.int .u16 (m - b), .int .u16 (m), .bool true]) ∧ ∃ p, w' = more w p := by
  have HF := Lib.hid (isOp_call 5 w)
  go_enter Tryd.func14, Tryd.ntmps14
  go_wp2_with (go_at_call 32; (with_reducible refine (HF.out).mono ?_); rintro e w' ⟨rfl, p, rfl⟩)
  go_ret3
  exact ⟨rfl, p, rfl⟩
set_option maxHeartbeats 400000 in
theorem refFactors_6 (a b m : Int) (w : World) (a0 : 0 ≤ a) (a1 : a ≤ 65535) (b0 : 0 ≤ b) (b1 : b ≤ 65535) (m0 : 0 ≤ m) (m1 : m ≤ 65535) (ha : a ≤ m) (hb : b ≤ m) : Calls Tryd.prog 14 #[.int .i64 6, .int .u16 a, .int .u16 b, .int .u16 m] w fun e w' => e = .returned (.tuple #[.int .u16 (b), .int .u16 (0), .bool true]) ∧ ∃ p, w' = more w p := by
  have HF := Lib.hid (isOp_call 6 w)
  go_enter Tryd.func14, Tryd.ntmps14
  go_wp2_with (go_at_call 32; (with_reducible refine (HF.out).mono ?_); rintro e w' ⟨rfl, p, rfl⟩)
  go_ret3
  exact ⟨rfl, p, rfl⟩
set_option maxHeartbeats 400000 in
theorem refFactors_7 (a b m : Int) (w : World) (a0 : 0 ≤ a) (a1 : a ≤ 65535) (b0 : 0 ≤ b) (b1 : b ≤ 65535) (m0 : 0 ≤ m) (m1 : m ≤ 65535) (ha : a ≤ m) (hb : b ≤ m) : Calls Tryd.prog 14 #[.int .i64 7, .int .u16 a, .int .u16 b, .int .u16 m] w fun e w' => e = .returned (.tuple #[.int .u16 (0), .int .u16 (a), .bool true]) ∧ ∃ p, w' = more w p := by
  have HF := Lib.hid (isOp_call 7 w)
  go_enter Tryd.func14, Tryd.ntmps14
  go_wp2_with (go_at_call 32; (with_reducible refine (HF.out).mono ?_); rintro e w' ⟨rfl, p, rfl⟩)
  go_ret3
  exact ⟨rfl, p, rfl⟩
set_option maxHeartbeats 400000 in
theorem refFactors_8 (a b m : Int) (w : World) (a0 : 0 ≤ a) (a1 : a ≤ 65535) (b0 : 0 ≤ b) (b1 : b ≤ 65535) (m0 : 0 ≤ m) (m1 : m ≤ 65535) (ha : a ≤ m) (hb : b ≤ m) : Calls Tryd.prog 14 #[.int .i64 8, .int .u16 a, .int .u16 b, .int .u16 m] w fun e w' => e = .returned (.tuple #[.int .u16 (m - b), .int .u16 (0), .bool true]) ∧ ∃ p, w' = more w p := by
  have HF := Lib.hid (isOp_call 8 w)
  go_enter Tryd.func14, Tryd.ntmps14
  go_wp2_with (go_at_call 32; (with_reducible refine (HF.out).mono ?_); rintro e w' ⟨rfl, p, rfl⟩)
  go_ret3
  exact ⟨rfl, p, rfl⟩
set_option maxHeartbeats 400000 in
theorem refFactors_9 (a b m : Int) (w : World) (a0 : 0 ≤ a) (a1 : a ≤ 65535) (b0 : 0 ≤ b) (b1 : b ≤ 65535) (m0 : 0 ≤ m) (m1 : m ≤ 65535) (ha : a ≤ m) (hb : b ≤ m) : Calls Tryd.prog 14 #[.int .i64 9, .int .u16 a, .int .u16 b, .int .u16 m] w fun e w' => e = .returned (.tuple #[.int .u16 (0), .int .u16 (m - a), .bool true]) ∧ ∃ p, w' = more w p := by
  have HF := Lib.hid (isOp_call 9 w)
  go_enter Tryd.func14, Tryd.ntmps14
  go_wp2_with (go_at_call 32; (with_reducible refine (HF.out).mono ?_); rintro e w' ⟨rfl, p, rfl⟩)
  go_ret3
  exact ⟨rfl, p, rfl⟩
set_option maxHeartbeats 400000 in
theorem refFactors_10 (a b m : Int) (w : World) (a0 : 0 ≤ a) (a1 : a ≤ 65535) (b0 : 0 ≤ b) (b1 : b ≤ 65535) (m0 : 0 ≤ m) (m1 : m ≤ 65535) (ha : a ≤ m) (hb : b ≤ m) : Calls Tryd.prog 14 #[.int .i64 10, .int .u16 a, .int .u16 b, .int .u16 m] w fun e w' => e = .returned (.tuple #[.int .u16 (b), .int .u16 (m - a), .bool true]) ∧ ∃ p, w' = more w p := by
  have HF := Lib.hid (isOp_call 10 w)
  go_enter Tryd.func14, Tryd.ntmps14
  go_wp2_with (go_at_call 32; (with_reducible refine (HF.out).mono ?_); rintro e w' ⟨rfl, p, rfl⟩)
  go_ret3
  exact ⟨rfl, p, rfl⟩
set_option maxHeartbeats 400000 in
theorem refFactors_11 (a b m : Int) (w : World) (a0 : 0 ≤ a) (a1 : a ≤ 65535) (b0 : 0 ≤ b) (b1 : b ≤ 65535) (m0 : 0 ≤ m) (m1 : m ≤ 65535) (ha : a ≤ m) (hb : b ≤ m) : Calls Tryd.prog 14 #[.int .i64 11, .int .u16 a, .int .u16 b, .int .u16 m] w fun e w' => e = .returned (.tuple #[.int .u16 (m - b), .int .u16 (a), .bool true]) ∧ ∃ p, w' = more w p := by
  have HF := Lib.hid (isOp_call 11 w)
  go_enter Tryd.func14, Tryd.ntmps14
  go_wp2_with (go_at_call 32; (with_reducible refine (HF.out).mono ?_); rintro e w' ⟨rfl, p, rfl⟩)
  go_ret3
  exact ⟨rfl, p, rfl⟩
set_option maxHeartbeats 400000 in
theorem refFactors_12 (a b m : Int) (w : World) (a0 : 0 ≤ a) (a1 : a ≤ 65535) (b0 : 0 ≤ b) (b1 : b ≤ 65535) (m0 : 0 ≤ m) (m1 : m ≤ 65535) (ha : a ≤ m) (hb : b ≤ m) : Calls Tryd.prog 14 #[.int .i64 12, .int .u16 a, .int .u16 b, .int .u16 m] w fun e w' => e = .returned (.tuple #[.int .u16 (m - b), .int .u16 (m - a), .bool true]) ∧ ∃ p, w' = more w p := by
  have HF := Lib.hid (isOp_call 12 w)
  go_enter Tryd.func14, Tryd.ntmps14
  go_wp2_with (go_at_call 32; (with_reducible refine (HF.out).mono ?_); rintro e w' ⟨rfl, p, rfl⟩)
  go_ret3
  exact ⟨rfl, p, rfl⟩
set_option maxHeartbeats 400000 in
theorem refFactors_no (k a b m : Int) (w : World) (a0 : 0 ≤ a) (a1 : a ≤ 65535) (b0 : 0 ≤ b) (b1 : b ≤ 65535) (m0 : 0 ≤ m) (m1 : m ≤ 65535) (h : opIs k = false ∨ m < a ∨ m < b) : Calls Tryd.prog 14 #[.int .i64 k, .int .u16 a, .int .u16 b, .int .u16 m] w fun e w' => e = .returned (.tuple #[.int .u16 0, .int .u16 0, .bool false]) ∧ ∃ p, w' = more w p := by
  have hf := isOp_call k w
  by_cases hk : opIs k = true
  · rw [hk] at hf h
    have HF := Lib.hid hf
    clear hf hk
    by_cases ha : m < a
    · clear h
      go_enter Tryd.func14, Tryd.ntmps14
      go_wp2_with (go_at_call 32; (with_reducible refine (HF.out).mono ?_); rintro e w' ⟨rfl, p, rfl⟩)
      go_ret3
      exact ⟨rfl, p, rfl⟩
    · have hb : m < b := by
        rcases h with h | h | h
        · cases h
        · exact absurd h ha
        · exact h
      clear h
      go_enter Tryd.func14, Tryd.ntmps14
      go_wp2_with (go_at_call 32; (with_reducible refine (HF.out).mono ?_); rintro e w' ⟨rfl, p, rfl⟩)
      go_ret3
      exact ⟨rfl, p, rfl⟩
  · have hk' : opIs k = false := by simpa using hk
    rw [hk'] at hf
    have HF := Lib.hid hf
    clear hf hk hk' h
    go_enter Tryd.func14, Tryd.ntmps14
    go_wp2_with (go_at_call 32; (with_reducible refine (HF.out).mono ?_); rintro e w' ⟨rfl, p, rfl⟩)
    go_ret3
    exact ⟨rfl, p, rfl⟩
theorem refFactors_call (k a b m : Int) (w : World) (a0 : 0 ≤ a) (a1 : a ≤ 65535) (b0 : 0 ≤ b) (b1 : b ≤ 65535) (m0 : 0 ≤ m) (m1 : m ≤ 65535) : Calls Tryd.prog 14 #[.int .i64 k, .int .u16 a, .int .u16 b, .int .u16 m] w fun e w' => e = .returned (.tuple #[.int .u16 (faI k a b m), .int .u16 (fbI k a b m), .bool (opOk k a b m)]) ∧ ∃ p, w' = more w p := by
  by_cases h : opOk k a b m = true
  · obtain ⟨k0, k1, ha, hb⟩ := opOk_parts h
    obtain ⟨e1, e2⟩ := factors_yes k a b m h
    rw [h, e1, e2]
    rcases op_cases k0 k1 with rfl | rfl | rfl | rfl | rfl | rfl | rfl | rfl | rfl | rfl | rfl | rfl
    · exact refFactors_1 a b m w a0 a1 b0 b1 m0 m1 ha hb
    · exact refFactors_2 a b m w a0 a1 b0 b1 m0 m1 ha hb
    · exact refFactors_3 a b m w a0 a1 b0 b1 m0 m1 ha hb
    · exact refFactors_4 a b m w a0 a1 b0 b1 m0 m1 ha hb
    · exact refFactors_5 a b m w a0 a1 b0 b1 m0 m1 ha hb
    · exact refFactors_6 a b m w a0 a1 b0 b1 m0 m1 ha hb
    · exact refFactors_7 a b m w a0 a1 b0 b1 m0 m1 ha hb
    · exact refFactors_8 a b m w a0 a1 b0 b1 m0 m1 ha hb
    · exact refFactors_9 a b m w a0 a1 b0 b1 m0 m1 ha hb
    · exact refFactors_10 a b m w a0 a1 b0 b1 m0 m1 ha hb
    · exact refFactors_11 a b m w a0 a1 b0 b1 m0 m1 ha hb
    · exact refFactors_12 a b m w a0 a1 b0 b1 m0 m1 ha hb
  · have h' : opOk k a b m = false := by simpa using h
    obtain ⟨e1, e2⟩ := factors_no k a b m h'
    rw [h', e1, e2]
    refine refFactors_no k a b m w a0 a1 b0 b1 m0 m1 ?_
    by_cases hk : opIs k = true
    · have := of_decide_eq_true hk
      have := of_decide_eq_false h'
      right; omega
    · left; simpa using hk

set_option maxHeartbeats 400000 in
theorem refAlpha_op (k a b m : Int) (w : World) (a0 : 0 ≤ a) (a1 : a ≤ 65535) (b0 : 0 ≤ b) (b1 : b ≤ 65535) (m0 : 0 ≤ m) (m1 : m ≤ 65535) :
    Calls Tryd.prog 17 #[.int .i64 k, .int .u16 a, .int .u16 b, .int .u16 m] w fun e w' => e = .returned (.int .u16 (alpI k a b m)) ∧ ∃ p, w' = more w p := by
  obtain ⟨u0, u1⟩ := faI_bounds k a b m b0 m0
  obtain ⟨v0, v1⟩ := fbI_bounds k a b m a0 m0
  obtain ⟨h0, h1⟩ := alp_bounds k a b m a0 b0 m0
  obtain ⟨p0, p1⟩ := mul_bound (faI k a b m) a 65535 65535 (by omega) (by omega) (by omega) (by omega)
  obtain ⟨q0, q1⟩ := mul_bound (fbI k a b m) b 65535 65535 (by omega) (by omega) (by omega) (by omega)
  unfold alpI at *
  have HF := Lib.hid (refFactors_call k a b m w a0 a1 b0 b1 m0 m1)
  go_enter Tryd.func17, Tryd.ntmps17
  go_wp2_with (first
    | (go_at_call 14; (with_reducible refine (HF.out).mono ?_); rintro e w' ⟨rfl, p, rfl⟩)
    | (go_at_call 21; (with_reducible refine (refHalf_call _ _ _ (by omega) (by omega) (by omega) (by omega)).mono ?_); rintro e w' ⟨rfl, n, rfl⟩))
  go_ret
  exact ⟨rfl, _, more_drewN _ _ _⟩

set_option maxHeartbeats 400000 in
theorem refShape_1 (f g m : Int) (w : World) (f0 : 0 ≤ f) (f1 : f ≤ 65535) (g0 : 0 ≤ g) (g1 : g ≤ 65535) (m0 : 0 ≤ m) (m1 : m ≤ 65535) (h1 : f ≤ m) (h2 : g ≤ m) : Calls Tryd.prog 19 #[.int .i64 1, .int .u16 f, .int .u16 g, .int .u16 m] w fun e w' => e = .returned (.int .u16 (0)) ∧ ∃ p, w' = more w p := by
  have HF := Lib.hid (isOp_call 1 w)
  go_enter Tryd.func19, Tryd.ntmps19
  go_wp2_with (first
    | (go_at_call 32; (with_reducible refine (HF.out).mono ?_); rintro e w' ⟨rfl, p, rfl⟩)
    | (go_at_call 21; (with_reducible refine (refHalf_call _ _ _ (by omega) (by omega) (by omega) (by omega)).mono ?_); rintro e w' ⟨rfl, n, rfl⟩))
  go_ret
  exact ⟨rfl, _, rfl⟩
set_option maxHeartbeats 400000 in
theorem refShape_2 (f g m : Int) (w : World) (f0 : 0 ≤ f) (f1 : f ≤ 65535) (g0 : 0 ≤ g) (g1 : g ≤ 65535) (m0 : 0 ≤ m) (m1 : m ≤ 65535) (h1 : f ≤ m) (h2 : g ≤ m) : Calls Tryd.prog 19 #[.int .i64 2, .int .u16 f, .int .u16 g, .int .u16 m] w fun e w' => e = .returned (.int .u16 (f)) ∧ ∃ p, w' = more w p := by
  have HF := Lib.hid (isOp_call 2 w)
  go_enter Tryd.func19, Tryd.ntmps19
  go_wp2_with (first
    | (go_at_call 32; (with_reducible refine (HF.out).mono ?_); rintro e w' ⟨rfl, p, rfl⟩)
    | (go_at_call 21; (with_reducible refine (refHalf_call _ _ _ (by omega) (by omega) (by omega) (by omega)).mono ?_); rintro e w' ⟨rfl, n, rfl⟩))
  go_ret
  exact ⟨rfl, _, rfl⟩
set_option maxHeartbeats 400000 in
theorem refShape_3 (f g m : Int) (w : World) (f0 : 0 ≤ f) (f1 : f ≤ 65535) (g0 : 0 ≤ g) (g1 : g ≤ 65535) (m0 : 0 ≤ m) (m1 : m ≤ 65535) (h1 : f ≤ m) (h2 : g ≤ m) : Calls Tryd.prog 19 #[.int .i64 3, .int .u16 f, .int .u16 g, .int .u16 m] w fun e w' => e = .returned (.int .u16 (g)) ∧ ∃ p, w' = more w p := by
  have HF := Lib.hid (isOp_call 3 w)
  go_enter Tryd.func19, Tryd.ntmps19
  go_wp2_with (first
    | (go_at_call 32; (with_reducible refine (HF.out).mono ?_); rintro e w' ⟨rfl, p, rfl⟩)
    | (go_at_call 21; (with_reducible refine (refHalf_call _ _ _ (by omega) (by omega) (by omega) (by omega)).mono ?_); rintro e w' ⟨rfl, n, rfl⟩))
  go_ret
  exact ⟨rfl, _, rfl⟩
set_option maxHeartbeats 400000 in
theorem refShape_4 (f g m : Int) (w : World) (f0 : 0 ≤ f) (f1 : f ≤ 65535) (g0 : 0 ≤ g) (g1 : g ≤ 65535) (m0 : 0 ≤ m) (m1 : m ≤ 65535) (h1 : f ≤ m) (h2 : g ≤ m) : Calls Tryd.prog 19 #[.int .i64 4, .int .u16 f, .int .u16 g, .int .u16 m] w fun e w' => e = .returned (.int .u16 (halfI (m * f + (m - f) * g) m)) ∧ ∃ p, w' = more w p := by
  have HF := Lib.hid (isOp_call 4 w)
  obtain ⟨u0, u1⟩ := union_bounds f g m f0 g0 h1 h2
  obtain ⟨v0, v1⟩ := half_m _ m m0 u0 u1
  obtain ⟨p0, p1⟩ := mul_bound m f 65535 65535 (by omega) (by omega) (by omega) (by omega)
  obtain ⟨q0, q1⟩ := mul_bound (m - f) g 65535 65535 (by omega) (by omega) (by omega) (by omega)
  obtain ⟨r0, r1⟩ := mul_bound m m 65535 65535 (by omega) (by omega) (by omega) (by omega)
  go_enter Tryd.func19, Tryd.ntmps19
  go_wp2_with (first
    | (go_at_call 32; (with_reducible refine (HF.out).mono ?_); rintro e w' ⟨rfl, p, rfl⟩)
    | (go_at_call 21; (with_reducible refine (refHalf_call _ _ _ (by omega) (by omega) (by omega) (by omega)).mono ?_); rintro e w' ⟨rfl, n, rfl⟩))
  go_ret
  exact ⟨rfl, _, more_drewN _ _ _⟩
set_option maxHeartbeats 400000 in
theorem refShape_5 (f g m : Int) (w : World) (f0 : 0 ≤ f) (f1 : f ≤ 65535) (g0 : 0 ≤ g) (g1 : g ≤ 65535) (m0 : 0 ≤ m) (m1 : m ≤ 65535) (h1 : f ≤ m) (h2 : g ≤ m) : Calls Tryd.prog 19 #[.int .i64 5, .int .u16 f, .int .u16 g, .int .u16 m] w fun e w' => e = .returned (.int .u16 (halfI (m * f + (m - f) * g) m)) ∧ ∃ p, w' = more w p := by
  have HF := Lib.hid (isOp_call 5 w)
  obtain ⟨u0, u1⟩ := union_bounds f g m f0 g0 h1 h2
  obtain ⟨v0, v1⟩ := half_m _ m m0 u0 u1
  obtain ⟨p0, p1⟩ := mul_bound m f 65535 65535 (by omega) (by omega) (by omega) (by omega)
  obtain ⟨q0, q1⟩ := mul_bound (m - f) g 65535 65535 (by omega) (by omega) (by omega) (by omega)
  obtain ⟨r0, r1⟩ := mul_bound m m 65535 65535 (by omega) (by omega) (by omega) (by omega)
  go_enter Tryd.func19, Tryd.ntmps19
  go_wp2_with (first
    | (go_at_call 32; (with_reducible refine (HF.out).mono ?_); rintro e w' ⟨rfl, p, rfl⟩)
    | (go_at_call 21; (with_reducible refine (refHalf_call _ _ _ (by omega) (by omega) (by omega) (by omega)).mono ?_); rintro e w' ⟨rfl, n, rfl⟩))
  go_ret
  exact ⟨rfl, _, more_drewN _ _ _⟩
set_option maxHeartbeats 400000 in
theorem refShape_6 (f g m : Int) (w : World) (f0 : 0 ≤ f) (f1 : f ≤ 65535) (g0 : 0 ≤ g) (g1 : g ≤ 65535) (m0 : 0 ≤ m) (m1 : m ≤ 65535) (h1 : f ≤ m) (h2 : g ≤ m) : Calls Tryd.prog 19 #[.int .i64 6, .int .u16 f, .int .u16 g, .int .u16 m] w fun e w' => e = .returned (.int .u16 (halfI (f * g) m)) ∧ ∃ p, w' = more w p := by
  have HF := Lib.hid (isOp_call 6 w)
  obtain ⟨u0, u1⟩ := mul_bound f g m m f0 g0 h1 h2
  obtain ⟨v0, v1⟩ := half_m (f * g) m m0 (by omega) (by omega)
  obtain ⟨r0, r1⟩ := mul_bound m m 65535 65535 (by omega) (by omega) (by omega) (by omega)
  go_enter Tryd.func19, Tryd.ntmps19
  go_wp2_with (first
    | (go_at_call 32; (with_reducible refine (HF.out).mono ?_); rintro e w' ⟨rfl, p, rfl⟩)
    | (go_at_call 21; (with_reducible refine (refHalf_call _ _ _ (by omega) (by omega) (by omega) (by omega)).mono ?_); rintro e w' ⟨rfl, n, rfl⟩))
  go_ret
  exact ⟨rfl, _, more_drewN _ _ _⟩
set_option maxHeartbeats 400000 in
theorem refShape_7 (f g m : Int) (w : World) (f0 : 0 ≤ f) (f1 : f ≤ 65535) (g0 : 0 ≤ g) (g1 : g ≤ 65535) (m0 : 0 ≤ m) (m1 : m ≤ 65535) (h1 : f ≤ m) (h2 : g ≤ m) : Calls Tryd.prog 19 #[.int .i64 7, .int .u16 f, .int .u16 g, .int .u16 m] w fun e w' => e = .returned (.int .u16 (halfI (f * g) m)) ∧ ∃ p, w' = more w p := by
  have HF := Lib.hid (isOp_call 7 w)
  obtain ⟨u0, u1⟩ := mul_bound f g m m f0 g0 h1 h2
  obtain ⟨v0, v1⟩ := half_m (f * g) m m0 (by omega) (by omega)
  obtain ⟨r0, r1⟩ := mul_bound m m 65535 65535 (by omega) (by omega) (by omega) (by omega)
  go_enter Tryd.func19, Tryd.ntmps19
  go_wp2_with (first
    | (go_at_call 32; (with_reducible refine (HF.out).mono ?_); rintro e w' ⟨rfl, p, rfl⟩)
    | (go_at_call 21; (with_reducible refine (refHalf_call _ _ _ (by omega) (by omega) (by omega) (by omega)).mono ?_); rintro e w' ⟨rfl, n, rfl⟩))
  go_ret
  exact ⟨rfl, _, more_drewN _ _ _⟩
set_option maxHeartbeats 400000 in
theorem refShape_8 (f g m : Int) (w : World) (f0 : 0 ≤ f) (f1 : f ≤ 65535) (g0 : 0 ≤ g) (g1 : g ≤ 65535) (m0 : 0 ≤ m) (m1 : m ≤ 65535) (h1 : f ≤ m) (h2 : g ≤ m) : Calls Tryd.prog 19 #[.int .i64 8, .int .u16 f, .int .u16 g, .int .u16 m] w fun e w' => e = .returned (.int .u16 (f)) ∧ ∃ p, w' = more w p := by
  have HF := Lib.hid (isOp_call 8 w)
  go_enter Tryd.func19, Tryd.ntmps19
  go_wp2_with (first
    | (go_at_call 32; (with_reducible refine (HF.out).mono ?_); rintro e w' ⟨rfl, p, rfl⟩)
    | (go_at_call 21; (with_reducible refine (refHalf_call _ _ _ (by omega) (by omega) (by omega) (by omega)).mono ?_); rintro e w' ⟨rfl, n, rfl⟩))
  go_ret
  exact ⟨rfl, _, rfl⟩
set_option maxHeartbeats 400000 in
theorem refShape_9 (f g m : Int) (w : World) (f0 : 0 ≤ f) (f1 : f ≤ 65535) (g0 : 0 ≤ g) (g1 : g ≤ 65535) (m0 : 0 ≤ m) (m1 : m ≤ 65535) (h1 : f ≤ m) (h2 : g ≤ m) : Calls Tryd.prog 19 #[.int .i64 9, .int .u16 f, .int .u16 g, .int .u16 m] w fun e w' => e = .returned (.int .u16 (g)) ∧ ∃ p, w' = more w p := by
  have HF := Lib.hid (isOp_call 9 w)
  go_enter Tryd.func19, Tryd.ntmps19
  go_wp2_with (first
    | (go_at_call 32; (with_reducible refine (HF.out).mono ?_); rintro e w' ⟨rfl, p, rfl⟩)
    | (go_at_call 21; (with_reducible refine (refHalf_call _ _ _ (by omega) (by omega) (by omega) (by omega)).mono ?_); rintro e w' ⟨rfl, n, rfl⟩))
  go_ret
  exact ⟨rfl, _, rfl⟩
set_option maxHeartbeats 400000 in
theorem refShape_10 (f g m : Int) (w : World) (f0 : 0 ≤ f) (f1 : f ≤ 65535) (g0 : 0 ≤ g) (g1 : g ≤ 65535) (m0 : 0 ≤ m) (m1 : m ≤ 65535) (h1 : f ≤ m) (h2 : g ≤ m) : Calls Tryd.prog 19 #[.int .i64 10, .int .u16 f, .int .u16 g, .int .u16 m] w fun e w' => e = .returned (.int .u16 (g)) ∧ ∃ p, w' = more w p := by
  have HF := Lib.hid (isOp_call 10 w)
  go_enter Tryd.func19, Tryd.ntmps19
  go_wp2_with (first
    | (go_at_call 32; (with_reducible refine (HF.out).mono ?_); rintro e w' ⟨rfl, p, rfl⟩)
    | (go_at_call 21; (with_reducible refine (refHalf_call _ _ _ (by omega) (by omega) (by omega) (by omega)).mono ?_); rintro e w' ⟨rfl, n, rfl⟩))
  go_ret
  exact ⟨rfl, _, rfl⟩
set_option maxHeartbeats 400000 in
theorem refShape_11 (f g m : Int) (w : World) (f0 : 0 ≤ f) (f1 : f ≤ 65535) (g0 : 0 ≤ g) (g1 : g ≤ 65535) (m0 : 0 ≤ m) (m1 : m ≤ 65535) (h1 : f ≤ m) (h2 : g ≤ m) : Calls Tryd.prog 19 #[.int .i64 11, .int .u16 f, .int .u16 g, .int .u16 m] w fun e w' => e = .returned (.int .u16 (f)) ∧ ∃ p, w' = more w p := by
  have HF := Lib.hid (isOp_call 11 w)
  go_enter Tryd.func19, Tryd.ntmps19
  go_wp2_with (first
    | (go_at_call 32; (with_reducible refine (HF.out).mono ?_); rintro e w' ⟨rfl, p, rfl⟩)
    | (go_at_call 21; (with_reducible refine (refHalf_call _ _ _ (by omega) (by omega) (by omega) (by omega)).mono ?_); rintro e w' ⟨rfl, n, rfl⟩))
  go_ret
  exact ⟨rfl, _, rfl⟩
set_option maxHeartbeats 400000 in
theorem refShape_12 (f g m : Int) (w : World) (f0 : 0 ≤ f) (f1 : f ≤ 65535) (g0 : 0 ≤ g) (g1 : g ≤ 65535) (m0 : 0 ≤ m) (m1 : m ≤ 65535) (h1 : f ≤ m) (h2 : g ≤ m) : Calls Tryd.prog 19 #[.int .i64 12, .int .u16 f, .int .u16 g, .int .u16 m] w fun e w' => e = .returned (.int .u16 (halfI (m * f + (m - f) * g) m)) ∧ ∃ p, w' = more w p := by
  have HF := Lib.hid (isOp_call 12 w)
  obtain ⟨u0, u1⟩ := union_bounds f g m f0 g0 h1 h2
  obtain ⟨v0, v1⟩ := half_m _ m m0 u0 u1
  obtain ⟨p0, p1⟩ := mul_bound m f 65535 65535 (by omega) (by omega) (by omega) (by omega)
  obtain ⟨q0, q1⟩ := mul_bound (m - f) g 65535 65535 (by omega) (by omega) (by omega) (by omega)
  obtain ⟨r0, r1⟩ := mul_bound m m 65535 65535 (by omega) (by omega) (by omega) (by omega)
  go_enter Tryd.func19, Tryd.ntmps19
  go_wp2_with (first
    | (go_at_call 32; (with_reducible refine (HF.out).mono ?_); rintro e w' ⟨rfl, p, rfl⟩)
    | (go_at_call 21; (with_reducible refine (refHalf_call _ _ _ (by omega) (by omega) (by omega) (by omega)).mono ?_); rintro e w' ⟨rfl, n, rfl⟩))
  go_ret
  exact ⟨rfl, _, more_drewN _ _ _⟩
set_option maxHeartbeats 400000 in
theorem refShape_no (k f g m : Int) (w : World) (f0 : 0 ≤ f) (f1 : f ≤ 65535) (g0 : 0 ≤ g) (g1 : g ≤ 65535) (m0 : 0 ≤ m) (m1 : m ≤ 65535) (h : opIs k = false ∨ m < f ∨ m < g) : Calls Tryd.prog 19 #[.int .i64 k, .int .u16 f, .int .u16 g, .int .u16 m] w fun e w' => e = .returned (.int .u16 (0)) ∧ ∃ p, w' = more w p := by
  have hf := isOp_call k w
  by_cases hk : opIs k = true
  · rw [hk] at hf h
    have HF := Lib.hid hf
    clear hf hk
    by_cases ha : m < f
    · clear h
      go_enter Tryd.func19, Tryd.ntmps19
      go_wp2_with (go_at_call 32; (with_reducible refine (HF.out).mono ?_); rintro e w' ⟨rfl, p, rfl⟩)
      go_ret
      exact ⟨rfl, p, rfl⟩
    · have hb : m < g := by
        rcases h with h | h | h
        · cases h
        · exact absurd h ha
        · exact h
      clear h
      go_enter Tryd.func19, Tryd.ntmps19
      go_wp2_with (go_at_call 32; (with_reducible refine (HF.out).mono ?_); rintro e w' ⟨rfl, p, rfl⟩)
      go_ret
      exact ⟨rfl, p, rfl⟩
  · have hk' : opIs k = false := by simpa using hk
    rw [hk'] at hf
    have HF := Lib.hid hf
    clear hf hk hk' h
    go_enter Tryd.func19, Tryd.ntmps19
    go_wp2_with (go_at_call 32; (with_reducible refine (HF.out).mono ?_); rintro e w' ⟨rfl, p, rfl⟩)
    go_ret
    exact ⟨rfl, p, rfl⟩
theorem refShape_op (k f g m : Int) (w : World) (f0 : 0 ≤ f) (f1 : f ≤ 65535) (g0 : 0 ≤ g) (g1 : g ≤ 65535) (m0 : 0 ≤ m) (m1 : m ≤ 65535) : Calls Tryd.prog 19 #[.int .i64 k, .int .u16 f, .int .u16 g, .int .u16 m] w fun e w' => e = .returned (.int .u16 (shI k f g m)) ∧ ∃ p, w' = more w p := by
  by_cases h : opOk k f g m = true
  · obtain ⟨k0, k1, ha, hb⟩ := opOk_parts h
    obtain ⟨s0, s1, s2, s3, s4⟩ := shI_at h
    rcases op_cases k0 k1 with rfl | rfl | rfl | rfl | rfl | rfl | rfl | rfl | rfl | rfl | rfl | rfl
    · rw [s0 rfl]; exact refShape_1 f g m w f0 f1 g0 g1 m0 m1 ha hb
    · rw [s1 rfl]; exact refShape_2 f g m w f0 f1 g0 g1 m0 m1 ha hb
    · rw [s2 rfl]; exact refShape_3 f g m w f0 f1 g0 g1 m0 m1 ha hb
    · rw [s3 rfl]; exact refShape_4 f g m w f0 f1 g0 g1 m0 m1 ha hb
    · rw [s3 rfl]; exact refShape_5 f g m w f0 f1 g0 g1 m0 m1 ha hb
    · rw [s4 rfl]; exact refShape_6 f g m w f0 f1 g0 g1 m0 m1 ha hb
    · rw [s4 rfl]; exact refShape_7 f g m w f0 f1 g0 g1 m0 m1 ha hb
    · rw [s1 rfl]; exact refShape_8 f g m w f0 f1 g0 g1 m0 m1 ha hb
    · rw [s2 rfl]; exact refShape_9 f g m w f0 f1 g0 g1 m0 m1 ha hb
    · rw [s2 rfl]; exact refShape_10 f g m w f0 f1 g0 g1 m0 m1 ha hb
    · rw [s1 rfl]; exact refShape_11 f g m w f0 f1 g0 g1 m0 m1 ha hb
    · rw [s3 rfl]; exact refShape_12 f g m w f0 f1 g0 g1 m0 m1 ha hb
  · have h' : opOk k f g m = false := by simpa using h
    rw [shI_not h']
    refine refShape_no k f g m w f0 f1 g0 g1 m0 m1 ?_
    by_cases hk : opIs k = true
    · have := of_decide_eq_true hk
      have := of_decide_eq_false h'
      right; omega
    · left; simpa using hk

set_option maxHeartbeats 400000 in
theorem neutral_1 (w : World) (hR : Ruled w) : Calls Tryd.prog 26 #[.int .i64 1] w fun e w' => e = .returned (.bool false) ∧ ∃ p, w' = more w p := by
  have HF := Lib.hid (find_1 w hR)
  clear hR
  go_enter Tryd.func26, Tryd.ntmps26
  go_wp2_with (go_at_call 30; (with_reducible refine (HF.out).mono ?_); rintro e w' ⟨rfl, rfl⟩)
  go_ret
  exact ⟨rfl, ⟨[_, _], 0⟩, rfl⟩
set_option maxHeartbeats 400000 in
theorem neutral_2 (w : World) (hR : Ruled w) : Calls Tryd.prog 26 #[.int .i64 2] w fun e w' => e = .returned (.bool false) ∧ ∃ p, w' = more w p := by
  have HF := Lib.hid (find_2 w hR)
  clear hR
  go_enter Tryd.func26, Tryd.ntmps26
  go_wp2_with (go_at_call 30; (with_reducible refine (HF.out).mono ?_); rintro e w' ⟨rfl, rfl⟩)
  go_ret
  exact ⟨rfl, ⟨[_, _], 0⟩, rfl⟩
set_option maxHeartbeats 400000 in
theorem neutral_3 (w : World) (hR : Ruled w) : Calls Tryd.prog 26 #[.int .i64 3] w fun e w' => e = .returned (.bool true) ∧ ∃ p, w' = more w p := by
  have HF := Lib.hid (find_3 w hR)
  clear hR
  go_enter Tryd.func26, Tryd.ntmps26
  go_wp2_with (go_at_call 30; (with_reducible refine (HF.out).mono ?_); rintro e w' ⟨rfl, rfl⟩)
  go_ret
  exact ⟨rfl, ⟨[_, _], 0⟩, rfl⟩
set_option maxHeartbeats 400000 in
theorem neutral_4 (w : World) (hR : Ruled w) : Calls Tryd.prog 26 #[.int .i64 4] w fun e w' => e = .returned (.bool true) ∧ ∃ p, w' = more w p := by
  have HF := Lib.hid (find_4 w hR)
  clear hR
  go_enter Tryd.func26, Tryd.ntmps26
  go_wp2_with (go_at_call 30; (with_reducible refine (HF.out).mono ?_); rintro e w' ⟨rfl, rfl⟩)
  go_ret
  exact ⟨rfl, ⟨[_, _], 0⟩, rfl⟩
set_option maxHeartbeats 400000 in
theorem neutral_5 (w : World) (hR : Ruled w) : Calls Tryd.prog 26 #[.int .i64 5] w fun e w' => e = .returned (.bool true) ∧ ∃ p, w' = more w p := by
  have HF := Lib.hid (find_5 w hR)
  clear hR
  go_enter Tryd.func26, Tryd.ntmps26
  go_wp2_with (go_at_call 30; (with_reducible refine (HF.out).mono ?_); rintro e w' ⟨rfl, rfl⟩)
  go_ret
  exact ⟨rfl, ⟨[_, _], 0⟩, rfl⟩
set_option maxHeartbeats 400000 in
theorem neutral_6 (w : World) (hR : Ruled w) : Calls Tryd.prog 26 #[.int .i64 6] w fun e w' => e = .returned (.bool false) ∧ ∃ p, w' = more w p := by
  have HF := Lib.hid (find_6 w hR)
  clear hR
  go_enter Tryd.func26, Tryd.ntmps26
  go_wp2_with (go_at_call 30; (with_reducible refine (HF.out).mono ?_); rintro e w' ⟨rfl, rfl⟩)
  go_ret
  exact ⟨rfl, ⟨[_, _], 0⟩, rfl⟩
set_option maxHeartbeats 400000 in
theorem neutral_7 (w : World) (hR : Ruled w) : Calls Tryd.prog 26 #[.int .i64 7] w fun e w' => e = .returned (.bool false) ∧ ∃ p, w' = more w p := by
  have HF := Lib.hid (find_7 w hR)
  clear hR
  go_enter Tryd.func26, Tryd.ntmps26
  go_wp2_with (go_at_call 30; (with_reducible refine (HF.out).mono ?_); rintro e w' ⟨rfl, rfl⟩)
  go_ret
  exact ⟨rfl, ⟨[_, _], 0⟩, rfl⟩
set_option maxHeartbeats 400000 in
theorem neutral_8 (w : World) (hR : Ruled w) : Calls Tryd.prog 26 #[.int .i64 8] w fun e w' => e = .returned (.bool false) ∧ ∃ p, w' = more w p := by
  have HF := Lib.hid (find_8 w hR)
  clear hR
  go_enter Tryd.func26, Tryd.ntmps26
  go_wp2_with (go_at_call 30; (with_reducible refine (HF.out).mono ?_); rintro e w' ⟨rfl, rfl⟩)
  go_ret
  exact ⟨rfl, ⟨[_, _], 0⟩, rfl⟩
set_option maxHeartbeats 400000 in
theorem neutral_9 (w : World) (hR : Ruled w) : Calls Tryd.prog 26 #[.int .i64 9] w fun e w' => e = .returned (.bool true) ∧ ∃ p, w' = more w p := by
  have HF := Lib.hid (find_9 w hR)
  clear hR
  go_enter Tryd.func26, Tryd.ntmps26
  go_wp2_with (go_at_call 30; (with_reducible refine (HF.out).mono ?_); rintro e w' ⟨rfl, rfl⟩)
  go_ret
  exact ⟨rfl, ⟨[_, _], 0⟩, rfl⟩
set_option maxHeartbeats 400000 in
theorem neutral_10 (w : World) (hR : Ruled w) : Calls Tryd.prog 26 #[.int .i64 10] w fun e w' => e = .returned (.bool true) ∧ ∃ p, w' = more w p := by
  have HF := Lib.hid (find_10 w hR)
  clear hR
  go_enter Tryd.func26, Tryd.ntmps26
  go_wp2_with (go_at_call 30; (with_reducible refine (HF.out).mono ?_); rintro e w' ⟨rfl, rfl⟩)
  go_ret
  exact ⟨rfl, ⟨[_, _], 0⟩, rfl⟩
set_option maxHeartbeats 400000 in
theorem neutral_11 (w : World) (hR : Ruled w) : Calls Tryd.prog 26 #[.int .i64 11] w fun e w' => e = .returned (.bool false) ∧ ∃ p, w' = more w p := by
  have HF := Lib.hid (find_11 w hR)
  clear hR
  go_enter Tryd.func26, Tryd.ntmps26
  go_wp2_with (go_at_call 30; (with_reducible refine (HF.out).mono ?_); rintro e w' ⟨rfl, rfl⟩)
  go_ret
  exact ⟨rfl, ⟨[_, _], 0⟩, rfl⟩
set_option maxHeartbeats 400000 in
theorem neutral_12 (w : World) (hR : Ruled w) : Calls Tryd.prog 26 #[.int .i64 12] w fun e w' => e = .returned (.bool true) ∧ ∃ p, w' = more w p := by
  have HF := Lib.hid (find_12 w hR)
  clear hR
  go_enter Tryd.func26, Tryd.ntmps26
  go_wp2_with (go_at_call 30; (with_reducible refine (HF.out).mono ?_); rintro e w' ⟨rfl, rfl⟩)
  go_ret
  exact ⟨rfl, ⟨[_, _], 0⟩, rfl⟩
set_option maxHeartbeats 400000 in
theorem neutral_no (k : Int) (w : World) (h : k < 1 ∨ 12 < k) : Calls Tryd.prog 26 #[.int .i64 k] w fun e w' => e = .returned (.bool false) ∧ ∃ p, w' = more w p := by
  have HF := Lib.hid (find_no k w h)
  clear h
  go_enter Tryd.func26, Tryd.ntmps26
  go_wp2_with (go_at_call 30; (with_reducible refine (HF.out).mono ?_); rintro e w' ⟨rfl, rfl⟩)
  go_ret
  exact ⟨rfl, ⟨[_, _], 0⟩, rfl⟩
theorem neutral_call (k : Int) (w : World) (hR : Ruled w) : Calls Tryd.prog 26 #[.int .i64 k] w fun e w' => e = .returned (.bool (neuB k)) ∧ ∃ p, w' = more w p := by
  by_cases hk : 1 ≤ k ∧ k ≤ 12
  · rcases op_cases hk.1 hk.2 with rfl | rfl | rfl | rfl | rfl | rfl | rfl | rfl | rfl | rfl | rfl | rfl
    · exact neutral_1 w hR
    · exact neutral_2 w hR
    · exact neutral_3 w hR
    · exact neutral_4 w hR
    · exact neutral_5 w hR
    · exact neutral_6 w hR
    · exact neutral_7 w hR
    · exact neutral_8 w hR
    · exact neutral_9 w hR
    · exact neutral_10 w hR
    · exact neutral_11 w hR
    · exact neutral_12 w hR
  · rw [show neuB k = false from decide_eq_false (by omega)]
    exact neutral_no k w (by omega)
set_option maxHeartbeats 400000 in
theorem refNeutral_1 (w : World) : Calls Tryd.prog 27 #[.int .i64 1] w fun e w' => e = .returned (.bool false) ∧ ∃ p, w' = more w p := by
  go_enter Tryd.func27, Tryd.ntmps27
  go_wp2
  go_ret
  exact ⟨rfl, ⟨[], 0⟩, rfl⟩
set_option maxHeartbeats 400000 in
theorem refNeutral_2 (w : World) : Calls Tryd.prog 27 #[.int .i64 2] w fun e w' => e = .returned (.bool false) ∧ ∃ p, w' = more w p := by
  go_enter Tryd.func27, Tryd.ntmps27
  go_wp2
  go_ret
  exact ⟨rfl, ⟨[], 0⟩, rfl⟩
set_option maxHeartbeats 400000 in
theorem refNeutral_3 (w : World) : Calls Tryd.prog 27 #[.int .i64 3] w fun e w' => e = .returned (.bool true) ∧ ∃ p, w' = more w p := by
  go_enter Tryd.func27, Tryd.ntmps27
  go_wp2
  go_ret
  exact ⟨rfl, ⟨[], 0⟩, rfl⟩
set_option maxHeartbeats 400000 in
theorem refNeutral_4 (w : World) : Calls Tryd.prog 27 #[.int .i64 4] w fun e w' => e = .returned (.bool true) ∧ ∃ p, w' = more w p := by
  go_enter Tryd.func27, Tryd.ntmps27
  go_wp2
  go_ret
  exact ⟨rfl, ⟨[], 0⟩, rfl⟩
set_option maxHeartbeats 400000 in
theorem refNeutral_5 (w : World) : Calls Tryd.prog 27 #[.int .i64 5] w fun e w' => e = .returned (.bool true) ∧ ∃ p, w' = more w p := by
  go_enter Tryd.func27, Tryd.ntmps27
  go_wp2
  go_ret
  exact ⟨rfl, ⟨[], 0⟩, rfl⟩
set_option maxHeartbeats 400000 in
theorem refNeutral_6 (w : World) : Calls Tryd.prog 27 #[.int .i64 6] w fun e w' => e = .returned (.bool false) ∧ ∃ p, w' = more w p := by
  go_enter Tryd.func27, Tryd.ntmps27
  go_wp2
  go_ret
  exact ⟨rfl, ⟨[], 0⟩, rfl⟩
set_option maxHeartbeats 400000 in
theorem refNeutral_7 (w : World) : Calls Tryd.prog 27 #[.int .i64 7] w fun e w' => e = .returned (.bool false) ∧ ∃ p, w' = more w p := by
  go_enter Tryd.func27, Tryd.ntmps27
  go_wp2
  go_ret
  exact ⟨rfl, ⟨[], 0⟩, rfl⟩
set_option maxHeartbeats 400000 in
theorem refNeutral_8 (w : World) : Calls Tryd.prog 27 #[.int .i64 8] w fun e w' => e = .returned (.bool false) ∧ ∃ p, w' = more w p := by
  go_enter Tryd.func27, Tryd.ntmps27
  go_wp2
  go_ret
  exact ⟨rfl, ⟨[], 0⟩, rfl⟩
set_option maxHeartbeats 400000 in
theorem refNeutral_9 (w : World) : Calls Tryd.prog 27 #[.int .i64 9] w fun e w' => e = .returned (.bool true) ∧ ∃ p, w' = more w p := by
  go_enter Tryd.func27, Tryd.ntmps27
  go_wp2
  go_ret
  exact ⟨rfl, ⟨[], 0⟩, rfl⟩
set_option maxHeartbeats 400000 in
theorem refNeutral_10 (w : World) : Calls Tryd.prog 27 #[.int .i64 10] w fun e w' => e = .returned (.bool true) ∧ ∃ p, w' = more w p := by
  go_enter Tryd.func27, Tryd.ntmps27
  go_wp2
  go_ret
  exact ⟨rfl, ⟨[], 0⟩, rfl⟩
set_option maxHeartbeats 400000 in
theorem refNeutral_11 (w : World) : Calls Tryd.prog 27 #[.int .i64 11] w fun e w' => e = .returned (.bool false) ∧ ∃ p, w' = more w p := by
  go_enter Tryd.func27, Tryd.ntmps27
  go_wp2
  go_ret
  exact ⟨rfl, ⟨[], 0⟩, rfl⟩
set_option maxHeartbeats 400000 in
theorem refNeutral_12 (w : World) : Calls Tryd.prog 27 #[.int .i64 12] w fun e w' => e = .returned (.bool true) ∧ ∃ p, w' = more w p := by
  go_enter Tryd.func27, Tryd.ntmps27
  go_wp2
  go_ret
  exact ⟨rfl, ⟨[], 0⟩, rfl⟩
set_option maxHeartbeats 400000 in
theorem refNeutral_no (k : Int) (w : World) (h : k < 1 ∨ 12 < k) : Calls Tryd.prog 27 #[.int .i64 k] w fun e w' => e = .returned (.bool false) ∧ ∃ p, w' = more w p := by
  have b3 : (k == 3) = false := beq_eq_false_iff_ne.2 (by omega)
  have b4 : (k == 4) = false := beq_eq_false_iff_ne.2 (by omega)
  have b5 : (k == 5) = false := beq_eq_false_iff_ne.2 (by omega)
  have b9 : (k == 9) = false := beq_eq_false_iff_ne.2 (by omega)
  have b10 : (k == 10) = false := beq_eq_false_iff_ne.2 (by omega)
  have b12 : (k == 12) = false := beq_eq_false_iff_ne.2 (by omega)
  clear h
  go_enter Tryd.func27, Tryd.ntmps27
  go_wp2
  go_ret
  exact ⟨rfl, ⟨[], 0⟩, rfl⟩
theorem refNeutral_call (k : Int) (w : World) : Calls Tryd.prog 27 #[.int .i64 k] w fun e w' => e = .returned (.bool (neuB k)) ∧ ∃ p, w' = more w p := by
  by_cases hk : 1 ≤ k ∧ k ≤ 12
  · rcases op_cases hk.1 hk.2 with rfl | rfl | rfl | rfl | rfl | rfl | rfl | rfl | rfl | rfl | rfl | rfl
    · exact refNeutral_1 w
    · exact refNeutral_2 w
    · exact refNeutral_3 w
    · exact refNeutral_4 w
    · exact refNeutral_5 w
    · exact refNeutral_6 w
    · exact refNeutral_7 w
    · exact refNeutral_8 w
    · exact refNeutral_9 w
    · exact refNeutral_10 w
    · exact refNeutral_11 w
    · exact refNeutral_12 w
  · rw [show neuB k = false from decide_eq_false (by omega)]
    exact refNeutral_no k w (by omega)
set_option maxHeartbeats 400000 in
theorem fresh_1 (w : World) (hR : Ruled w) : Calls Tryd.prog 28 #[.int .i64 1] w fun e w' => e = .returned (.bool false) ∧ ∃ p, w' = more w p := by
  have HF := Lib.hid (find_1 w hR)
  clear hR
  go_enter Tryd.func28, Tryd.ntmps28
  go_wp2_with (go_at_call 30; (with_reducible refine (HF.out).mono ?_); rintro e w' ⟨rfl, rfl⟩)
  go_ret
  exact ⟨rfl, ⟨[_, _], 0⟩, rfl⟩
set_option maxHeartbeats 400000 in
theorem fresh_2 (w : World) (hR : Ruled w) : Calls Tryd.prog 28 #[.int .i64 2] w fun e w' => e = .returned (.bool true) ∧ ∃ p, w' = more w p := by
  have HF := Lib.hid (find_2 w hR)
  clear hR
  go_enter Tryd.func28, Tryd.ntmps28
  go_wp2_with (go_at_call 30; (with_reducible refine (HF.out).mono ?_); rintro e w' ⟨rfl, rfl⟩)
  go_ret
  exact ⟨rfl, ⟨[_, _], 0⟩, rfl⟩
set_option maxHeartbeats 400000 in
theorem fresh_3 (w : World) (hR : Ruled w) : Calls Tryd.prog 28 #[.int .i64 3] w fun e w' => e = .returned (.bool false) ∧ ∃ p, w' = more w p := by
  have HF := Lib.hid (find_3 w hR)
  clear hR
  go_enter Tryd.func28, Tryd.ntmps28
  go_wp2_with (go_at_call 30; (with_reducible refine (HF.out).mono ?_); rintro e w' ⟨rfl, rfl⟩)
  go_ret
  exact ⟨rfl, ⟨[_, _], 0⟩, rfl⟩
set_option maxHeartbeats 400000 in
theorem fresh_4 (w : World) (hR : Ruled w) : Calls Tryd.prog 28 #[.int .i64 4] w fun e w' => e = .returned (.bool true) ∧ ∃ p, w' = more w p := by
  have HF := Lib.hid (find_4 w hR)
  clear hR
  go_enter Tryd.func28, Tryd.ntmps28
  go_wp2_with (go_at_call 30; (with_reducible refine (HF.out).mono ?_); rintro e w' ⟨rfl, rfl⟩)
  go_ret
  exact ⟨rfl, ⟨[_, _], 0⟩, rfl⟩
set_option maxHeartbeats 400000 in
theorem fresh_5 (w : World) (hR : Ruled w) : Calls Tryd.prog 28 #[.int .i64 5] w fun e w' => e = .returned (.bool true) ∧ ∃ p, w' = more w p := by
  have HF := Lib.hid (find_5 w hR)
  clear hR
  go_enter Tryd.func28, Tryd.ntmps28
  go_wp2_with (go_at_call 30; (with_reducible refine (HF.out).mono ?_); rintro e w' ⟨rfl, rfl⟩)
  go_ret
  exact ⟨rfl, ⟨[_, _], 0⟩, rfl⟩
set_option maxHeartbeats 400000 in
theorem fresh_6 (w : World) (hR : Ruled w) : Calls Tryd.prog 28 #[.int .i64 6] w fun e w' => e = .returned (.bool false) ∧ ∃ p, w' = more w p := by
  have HF := Lib.hid (find_6 w hR)
  clear hR
  go_enter Tryd.func28, Tryd.ntmps28
  go_wp2_with (go_at_call 30; (with_reducible refine (HF.out).mono ?_); rintro e w' ⟨rfl, rfl⟩)
  go_ret
  exact ⟨rfl, ⟨[_, _], 0⟩, rfl⟩
set_option maxHeartbeats 400000 in
theorem fresh_7 (w : World) (hR : Ruled w) : Calls Tryd.prog 28 #[.int .i64 7] w fun e w' => e = .returned (.bool false) ∧ ∃ p, w' = more w p := by
  have HF := Lib.hid (find_7 w hR)
  clear hR
  go_enter Tryd.func28, Tryd.ntmps28
  go_wp2_with (go_at_call 30; (with_reducible refine (HF.out).mono ?_); rintro e w' ⟨rfl, rfl⟩)
  go_ret
  exact ⟨rfl, ⟨[_, _], 0⟩, rfl⟩
set_option maxHeartbeats 400000 in
theorem fresh_8 (w : World) (hR : Ruled w) : Calls Tryd.prog 28 #[.int .i64 8] w fun e w' => e = .returned (.bool true) ∧ ∃ p, w' = more w p := by
  have HF := Lib.hid (find_8 w hR)
  clear hR
  go_enter Tryd.func28, Tryd.ntmps28
  go_wp2_with (go_at_call 30; (with_reducible refine (HF.out).mono ?_); rintro e w' ⟨rfl, rfl⟩)
  go_ret
  exact ⟨rfl, ⟨[_, _], 0⟩, rfl⟩
set_option maxHeartbeats 400000 in
theorem fresh_9 (w : World) (hR : Ruled w) : Calls Tryd.prog 28 #[.int .i64 9] w fun e w' => e = .returned (.bool false) ∧ ∃ p, w' = more w p := by
  have HF := Lib.hid (find_9 w hR)
  clear hR
  go_enter Tryd.func28, Tryd.ntmps28
  go_wp2_with (go_at_call 30; (with_reducible refine (HF.out).mono ?_); rintro e w' ⟨rfl, rfl⟩)
  go_ret
  exact ⟨rfl, ⟨[_, _], 0⟩, rfl⟩
set_option maxHeartbeats 400000 in
theorem fresh_10 (w : World) (hR : Ruled w) : Calls Tryd.prog 28 #[.int .i64 10] w fun e w' => e = .returned (.bool false) ∧ ∃ p, w' = more w p := by
  have HF := Lib.hid (find_10 w hR)
  clear hR
  go_enter Tryd.func28, Tryd.ntmps28
  go_wp2_with (go_at_call 30; (with_reducible refine (HF.out).mono ?_); rintro e w' ⟨rfl, rfl⟩)
  go_ret
  exact ⟨rfl, ⟨[_, _], 0⟩, rfl⟩
set_option maxHeartbeats 400000 in
theorem fresh_11 (w : World) (hR : Ruled w) : Calls Tryd.prog 28 #[.int .i64 11] w fun e w' => e = .returned (.bool true) ∧ ∃ p, w' = more w p := by
  have HF := Lib.hid (find_11 w hR)
  clear hR
  go_enter Tryd.func28, Tryd.ntmps28
  go_wp2_with (go_at_call 30; (with_reducible refine (HF.out).mono ?_); rintro e w' ⟨rfl, rfl⟩)
  go_ret
  exact ⟨rfl, ⟨[_, _], 0⟩, rfl⟩
set_option maxHeartbeats 400000 in
theorem fresh_12 (w : World) (hR : Ruled w) : Calls Tryd.prog 28 #[.int .i64 12] w fun e w' => e = .returned (.bool true) ∧ ∃ p, w' = more w p := by
  have HF := Lib.hid (find_12 w hR)
  clear hR
  go_enter Tryd.func28, Tryd.ntmps28
  go_wp2_with (go_at_call 30; (with_reducible refine (HF.out).mono ?_); rintro e w' ⟨rfl, rfl⟩)
  go_ret
  exact ⟨rfl, ⟨[_, _], 0⟩, rfl⟩
set_option maxHeartbeats 400000 in
theorem fresh_no (k : Int) (w : World) (h : k < 1 ∨ 12 < k) : Calls Tryd.prog 28 #[.int .i64 k] w fun e w' => e = .returned (.bool false) ∧ ∃ p, w' = more w p := by
  have HF := Lib.hid (find_no k w h)
  clear h
  go_enter Tryd.func28, Tryd.ntmps28
  go_wp2_with (go_at_call 30; (with_reducible refine (HF.out).mono ?_); rintro e w' ⟨rfl, rfl⟩)
  go_ret
  exact ⟨rfl, ⟨[_, _], 0⟩, rfl⟩
theorem fresh_call (k : Int) (w : World) (hR : Ruled w) : Calls Tryd.prog 28 #[.int .i64 k] w fun e w' => e = .returned (.bool (freB k)) ∧ ∃ p, w' = more w p := by
  by_cases hk : 1 ≤ k ∧ k ≤ 12
  · rcases op_cases hk.1 hk.2 with rfl | rfl | rfl | rfl | rfl | rfl | rfl | rfl | rfl | rfl | rfl | rfl
    · exact fresh_1 w hR
    · exact fresh_2 w hR
    · exact fresh_3 w hR
    · exact fresh_4 w hR
    · exact fresh_5 w hR
    · exact fresh_6 w hR
    · exact fresh_7 w hR
    · exact fresh_8 w hR
    · exact fresh_9 w hR
    · exact fresh_10 w hR
    · exact fresh_11 w hR
    · exact fresh_12 w hR
  · rw [show freB k = false from decide_eq_false (by omega)]
    exact fresh_no k w (by omega)
set_option maxHeartbeats 400000 in
theorem refFresh_1 (w : World) : Calls Tryd.prog 29 #[.int .i64 1] w fun e w' => e = .returned (.bool false) ∧ ∃ p, w' = more w p := by
  go_enter Tryd.func29, Tryd.ntmps29
  go_wp2
  go_ret
  exact ⟨rfl, ⟨[], 0⟩, rfl⟩
set_option maxHeartbeats 400000 in
theorem refFresh_2 (w : World) : Calls Tryd.prog 29 #[.int .i64 2] w fun e w' => e = .returned (.bool true) ∧ ∃ p, w' = more w p := by
  go_enter Tryd.func29, Tryd.ntmps29
  go_wp2
  go_ret
  exact ⟨rfl, ⟨[], 0⟩, rfl⟩
set_option maxHeartbeats 400000 in
theorem refFresh_3 (w : World) : Calls Tryd.prog 29 #[.int .i64 3] w fun e w' => e = .returned (.bool false) ∧ ∃ p, w' = more w p := by
  go_enter Tryd.func29, Tryd.ntmps29
  go_wp2
  go_ret
  exact ⟨rfl, ⟨[], 0⟩, rfl⟩
set_option maxHeartbeats 400000 in
theorem refFresh_4 (w : World) : Calls Tryd.prog 29 #[.int .i64 4] w fun e w' => e = .returned (.bool true) ∧ ∃ p, w' = more w p := by
  go_enter Tryd.func29, Tryd.ntmps29
  go_wp2
  go_ret
  exact ⟨rfl, ⟨[], 0⟩, rfl⟩
set_option maxHeartbeats 400000 in
theorem refFresh_5 (w : World) : Calls Tryd.prog 29 #[.int .i64 5] w fun e w' => e = .returned (.bool true) ∧ ∃ p, w' = more w p := by
  go_enter Tryd.func29, Tryd.ntmps29
  go_wp2
  go_ret
  exact ⟨rfl, ⟨[], 0⟩, rfl⟩
set_option maxHeartbeats 400000 in
theorem refFresh_6 (w : World) : Calls Tryd.prog 29 #[.int .i64 6] w fun e w' => e = .returned (.bool false) ∧ ∃ p, w' = more w p := by
  go_enter Tryd.func29, Tryd.ntmps29
  go_wp2
  go_ret
  exact ⟨rfl, ⟨[], 0⟩, rfl⟩
set_option maxHeartbeats 400000 in
theorem refFresh_7 (w : World) : Calls Tryd.prog 29 #[.int .i64 7] w fun e w' => e = .returned (.bool false) ∧ ∃ p, w' = more w p := by
  go_enter Tryd.func29, Tryd.ntmps29
  go_wp2
  go_ret
  exact ⟨rfl, ⟨[], 0⟩, rfl⟩
set_option maxHeartbeats 400000 in
theorem refFresh_8 (w : World) : Calls Tryd.prog 29 #[.int .i64 8] w fun e w' => e = .returned (.bool true) ∧ ∃ p, w' = more w p := by
  go_enter Tryd.func29, Tryd.ntmps29
  go_wp2
  go_ret
  exact ⟨rfl, ⟨[], 0⟩, rfl⟩
set_option maxHeartbeats 400000 in
theorem refFresh_9 (w : World) : Calls Tryd.prog 29 #[.int .i64 9] w fun e w' => e = .returned (.bool false) ∧ ∃ p, w' = more w p := by
  go_enter Tryd.func29, Tryd.ntmps29
  go_wp2
  go_ret
  exact ⟨rfl, ⟨[], 0⟩, rfl⟩
set_option maxHeartbeats 400000 in
theorem refFresh_10 (w : World) : Calls Tryd.prog 29 #[.int .i64 10] w fun e w' => e = .returned (.bool false) ∧ ∃ p, w' = more w p := by
  go_enter Tryd.func29, Tryd.ntmps29
  go_wp2
  go_ret
  exact ⟨rfl, ⟨[], 0⟩, rfl⟩
set_option maxHeartbeats 400000 in
theorem refFresh_11 (w : World) : Calls Tryd.prog 29 #[.int .i64 11] w fun e w' => e = .returned (.bool true) ∧ ∃ p, w' = more w p := by
  go_enter Tryd.func29, Tryd.ntmps29
  go_wp2
  go_ret
  exact ⟨rfl, ⟨[], 0⟩, rfl⟩
set_option maxHeartbeats 400000 in
theorem refFresh_12 (w : World) : Calls Tryd.prog 29 #[.int .i64 12] w fun e w' => e = .returned (.bool true) ∧ ∃ p, w' = more w p := by
  go_enter Tryd.func29, Tryd.ntmps29
  go_wp2
  go_ret
  exact ⟨rfl, ⟨[], 0⟩, rfl⟩
set_option maxHeartbeats 400000 in
theorem refFresh_no (k : Int) (w : World) (h : k < 1 ∨ 12 < k) : Calls Tryd.prog 29 #[.int .i64 k] w fun e w' => e = .returned (.bool false) ∧ ∃ p, w' = more w p := by
  have b2 : (k == 2) = false := beq_eq_false_iff_ne.2 (by omega)
  have b4 : (k == 4) = false := beq_eq_false_iff_ne.2 (by omega)
  have b5 : (k == 5) = false := beq_eq_false_iff_ne.2 (by omega)
  have b8 : (k == 8) = false := beq_eq_false_iff_ne.2 (by omega)
  have b11 : (k == 11) = false := beq_eq_false_iff_ne.2 (by omega)
  have b12 : (k == 12) = false := beq_eq_false_iff_ne.2 (by omega)
  clear h
  go_enter Tryd.func29, Tryd.ntmps29
  go_wp2
  go_ret
  exact ⟨rfl, ⟨[], 0⟩, rfl⟩
theorem refFresh_call (k : Int) (w : World) : Calls Tryd.prog 29 #[.int .i64 k] w fun e w' => e = .returned (.bool (freB k)) ∧ ∃ p, w' = more w p := by
  by_cases hk : 1 ≤ k ∧ k ≤ 12
  · rcases op_cases hk.1 hk.2 with rfl | rfl | rfl | rfl | rfl | rfl | rfl | rfl | rfl | rfl | rfl | rfl
    · exact refFresh_1 w
    · exact refFresh_2 w
    · exact refFresh_3 w
    · exact refFresh_4 w
    · exact refFresh_5 w
    · exact refFresh_6 w
    · exact refFresh_7 w
    · exact refFresh_8 w
    · exact refFresh_9 w
    · exact refFresh_10 w
    · exact refFresh_11 w
    · exact refFresh_12 w
  · rw [show freB k = false from decide_eq_false (by omega)]
    exact refFresh_no k w (by omega)

set_option maxHeartbeats 400000 in
theorem name_call (k : Int) (w : World) (hR : Ruled w) : Calls Tryd.prog 25 #[.int .i64 k] w fun e w' => e = .returned (.string (opName k)) ∧ ∃ p, w' = more w p := by
  have HF := Lib.hid (find_call k w hR)
  clear hR
  go_enter Tryd.func25, Tryd.ntmps25
  go_wp2_with (go_at_call 30; (with_reducible refine (HF.out).mono ?_); rintro e w' ⟨rfl, rfl⟩; unfold ruleBlock)
  go_ret
  exact ⟨rfl, ⟨[_, _], 0⟩, rfl⟩
end Go.Proofs.YthhmdjpcgollbaaDoor

