/- The walk of OperatorOfOpaquePixels. -/
import Derived.Test.YthhmdjpcgollbaaDoorLaw07a
import Derived.Test.YthhmdjpcgollbaaDoorOpLaws
namespace Go.Proofs.YthhmdjpcgollbaaDoor
open Go.RowKit BigFrame
set_option linter.unusedVariables false

set_option maxHeartbeats 4000000 in
set_option maxRecDepth 100000 in
theorem opqw_1 (op max : Int) (src dst : Bool) (w : World) (hR : Ruled w) (opl : -9223372036854775808 ≤ op) (oph : op ≤ 9223372036854775807) (maxl : -9223372036854775808 ≤ max) (maxh : max ≤ 9223372036854775807) (hop : op % 12 = 0) :
    Calls Tryd.prog 6 #[.int .i64 op, .bool src, .bool dst, .int .i64 max] w fun e w' => e = .returned (.bool true) ∧ Below w.heap.size w w' := by
  have hm : 1 ≤ gmax max ∧ gmax max ≤ 65535 := by rcases gmax_cases max with h | h <;> omega
  obtain ⟨hm0, hm1⟩ := hm
  have CM : ∀ W : World, Calls Tryd.prog 11 #[.int .i64 op, .int .i64 12] W fun e w' => e = .returned (.int .i64 0) ∧ W = w' := fun W => by have h := mod_call op 12 W (by omega) (by omega); rw [hop] at h; exact h
  have O0 := fun W hW => alpha_op 1 0 0 (gmax max) W hW (by omega) (by omega) (by omega) (by omega) (by omega) (by omega)
  have O1 := fun W hW => alpha_op 1 (gmax max) 0 (gmax max) W hW (by omega) (by omega) (by omega) (by omega) (by omega) (by omega)
  have O2 := fun W hW => alpha_op 1 0 (gmax max) (gmax max) W hW (by omega) (by omega) (by omega) (by omega) (by omega) (by omega)
  have O3 := fun W hW => alpha_op 1 (gmax max) (gmax max) (gmax max) W hW (by omega) (by omega) (by omega) (by omega) (by omega) (by omega)
  have CX : ∀ W : World, Calls Tryd.prog 10 #[.int .i64 max] W fun e w' => e = .returned (.int .u16 (gmax max)) ∧ W = w' := fun W => max_call max W
  rw [opq00 1 (gmax max) hm0] at O0
  rw [opq1_0 (gmax max) hm0] at O1
  rw [opq1_1 (gmax max) hm0] at O2
  rw [opq1_2 (gmax max) hm0] at O3
  generalize gmax max = m at *
  replace CM := Lib.hid @CM
  replace CX := Lib.hid @CX
  replace O0 := Lib.hid @O0
  replace O1 := Lib.hid @O1
  replace O2 := Lib.hid @O2
  replace O3 := Lib.hid @O3
  clear hop
  cases src <;> cases dst
  all_goals
    go_enter Tryd.func6, Tryd.ntmps6
    go_wp2_with (first
      | (go_at_call 10; (with_reducible refine (CX.out _).mono ?_); rintro e w' ⟨rfl, rfl⟩)
      | (go_at_call 11; (with_reducible refine (CM.out _).mono ?_); rintro e w' ⟨rfl, rfl⟩)
      | (go_at_call 15; (with_reducible refine (awake07 _ (ruled_alloc hR _)).mono ?_); rintro e w' ⟨rfl, p, rfl⟩)
      | (go_at_call 16; first
        | ((with_reducible refine (calls_more (O0.out _ (ruled_more (ruled_alloc hR _) _))).mono ?_); rintro e w1 ⟨rfl, p, rfl⟩)
        | ((with_reducible refine (calls_more (O1.out _ (ruled_more (ruled_alloc hR _) _))).mono ?_); rintro e w1 ⟨rfl, p, rfl⟩)
        | ((with_reducible refine (calls_more (O2.out _ (ruled_more (ruled_alloc hR _) _))).mono ?_); rintro e w1 ⟨rfl, p, rfl⟩)
        | ((with_reducible refine (calls_more (O3.out _ (ruled_more (ruled_alloc hR _) _))).mono ?_); rintro e w1 ⟨rfl, p, rfl⟩)))
    go_ret
    exact ⟨rfl, below_more (more_below w ⟨[_], 0⟩) (by simp [more]) _⟩

set_option maxHeartbeats 4000000 in
set_option maxRecDepth 100000 in
theorem opqw_2 (op max : Int) (src dst : Bool) (w : World) (hR : Ruled w) (opl : -9223372036854775808 ≤ op) (oph : op ≤ 9223372036854775807) (maxl : -9223372036854775808 ≤ max) (maxh : max ≤ 9223372036854775807) (hop : op % 12 = 1) :
    Calls Tryd.prog 6 #[.int .i64 op, .bool src, .bool dst, .int .i64 max] w fun e w' => e = .returned (.bool true) ∧ Below w.heap.size w w' := by
  have hm : 1 ≤ gmax max ∧ gmax max ≤ 65535 := by rcases gmax_cases max with h | h <;> omega
  obtain ⟨hm0, hm1⟩ := hm
  have CM : ∀ W : World, Calls Tryd.prog 11 #[.int .i64 op, .int .i64 12] W fun e w' => e = .returned (.int .i64 1) ∧ W = w' := fun W => by have h := mod_call op 12 W (by omega) (by omega); rw [hop] at h; exact h
  have O0 := fun W hW => alpha_op 2 0 0 (gmax max) W hW (by omega) (by omega) (by omega) (by omega) (by omega) (by omega)
  have O1 := fun W hW => alpha_op 2 (gmax max) 0 (gmax max) W hW (by omega) (by omega) (by omega) (by omega) (by omega) (by omega)
  have O2 := fun W hW => alpha_op 2 0 (gmax max) (gmax max) W hW (by omega) (by omega) (by omega) (by omega) (by omega) (by omega)
  have O3 := fun W hW => alpha_op 2 (gmax max) (gmax max) (gmax max) W hW (by omega) (by omega) (by omega) (by omega) (by omega) (by omega)
  have CX : ∀ W : World, Calls Tryd.prog 10 #[.int .i64 max] W fun e w' => e = .returned (.int .u16 (gmax max)) ∧ W = w' := fun W => max_call max W
  rw [opq00 2 (gmax max) hm0] at O0
  rw [opq2_0 (gmax max) hm0] at O1
  rw [opq2_1 (gmax max) hm0] at O2
  rw [opq2_2 (gmax max) hm0] at O3
  generalize gmax max = m at *
  replace CM := Lib.hid @CM
  replace CX := Lib.hid @CX
  replace O0 := Lib.hid @O0
  replace O1 := Lib.hid @O1
  replace O2 := Lib.hid @O2
  replace O3 := Lib.hid @O3
  clear hop
  cases src <;> cases dst
  all_goals
    go_enter Tryd.func6, Tryd.ntmps6
    go_wp2_with (first
      | (go_at_call 10; (with_reducible refine (CX.out _).mono ?_); rintro e w' ⟨rfl, rfl⟩)
      | (go_at_call 11; (with_reducible refine (CM.out _).mono ?_); rintro e w' ⟨rfl, rfl⟩)
      | (go_at_call 15; (with_reducible refine (awake07 _ (ruled_alloc hR _)).mono ?_); rintro e w' ⟨rfl, p, rfl⟩)
      | (go_at_call 16; first
        | ((with_reducible refine (calls_more (O0.out _ (ruled_more (ruled_alloc hR _) _))).mono ?_); rintro e w1 ⟨rfl, p, rfl⟩)
        | ((with_reducible refine (calls_more (O1.out _ (ruled_more (ruled_alloc hR _) _))).mono ?_); rintro e w1 ⟨rfl, p, rfl⟩)
        | ((with_reducible refine (calls_more (O2.out _ (ruled_more (ruled_alloc hR _) _))).mono ?_); rintro e w1 ⟨rfl, p, rfl⟩)
        | ((with_reducible refine (calls_more (O3.out _ (ruled_more (ruled_alloc hR _) _))).mono ?_); rintro e w1 ⟨rfl, p, rfl⟩)))
    go_ret
    exact ⟨rfl, below_more (more_below w ⟨[_], 0⟩) (by simp [more]) _⟩

set_option maxHeartbeats 4000000 in
set_option maxRecDepth 100000 in
theorem opqw_3 (op max : Int) (src dst : Bool) (w : World) (hR : Ruled w) (opl : -9223372036854775808 ≤ op) (oph : op ≤ 9223372036854775807) (maxl : -9223372036854775808 ≤ max) (maxh : max ≤ 9223372036854775807) (hop : op % 12 = 2) :
    Calls Tryd.prog 6 #[.int .i64 op, .bool src, .bool dst, .int .i64 max] w fun e w' => e = .returned (.bool true) ∧ Below w.heap.size w w' := by
  have hm : 1 ≤ gmax max ∧ gmax max ≤ 65535 := by rcases gmax_cases max with h | h <;> omega
  obtain ⟨hm0, hm1⟩ := hm
  have CM : ∀ W : World, Calls Tryd.prog 11 #[.int .i64 op, .int .i64 12] W fun e w' => e = .returned (.int .i64 2) ∧ W = w' := fun W => by have h := mod_call op 12 W (by omega) (by omega); rw [hop] at h; exact h
  have O0 := fun W hW => alpha_op 3 0 0 (gmax max) W hW (by omega) (by omega) (by omega) (by omega) (by omega) (by omega)
  have O1 := fun W hW => alpha_op 3 (gmax max) 0 (gmax max) W hW (by omega) (by omega) (by omega) (by omega) (by omega) (by omega)
  have O2 := fun W hW => alpha_op 3 0 (gmax max) (gmax max) W hW (by omega) (by omega) (by omega) (by omega) (by omega) (by omega)
  have O3 := fun W hW => alpha_op 3 (gmax max) (gmax max) (gmax max) W hW (by omega) (by omega) (by omega) (by omega) (by omega) (by omega)
  have CX : ∀ W : World, Calls Tryd.prog 10 #[.int .i64 max] W fun e w' => e = .returned (.int .u16 (gmax max)) ∧ W = w' := fun W => max_call max W
  rw [opq00 3 (gmax max) hm0] at O0
  rw [opq3_0 (gmax max) hm0] at O1
  rw [opq3_1 (gmax max) hm0] at O2
  rw [opq3_2 (gmax max) hm0] at O3
  generalize gmax max = m at *
  replace CM := Lib.hid @CM
  replace CX := Lib.hid @CX
  replace O0 := Lib.hid @O0
  replace O1 := Lib.hid @O1
  replace O2 := Lib.hid @O2
  replace O3 := Lib.hid @O3
  clear hop
  cases src <;> cases dst
  all_goals
    go_enter Tryd.func6, Tryd.ntmps6
    go_wp2_with (first
      | (go_at_call 10; (with_reducible refine (CX.out _).mono ?_); rintro e w' ⟨rfl, rfl⟩)
      | (go_at_call 11; (with_reducible refine (CM.out _).mono ?_); rintro e w' ⟨rfl, rfl⟩)
      | (go_at_call 15; (with_reducible refine (awake07 _ (ruled_alloc hR _)).mono ?_); rintro e w' ⟨rfl, p, rfl⟩)
      | (go_at_call 16; first
        | ((with_reducible refine (calls_more (O0.out _ (ruled_more (ruled_alloc hR _) _))).mono ?_); rintro e w1 ⟨rfl, p, rfl⟩)
        | ((with_reducible refine (calls_more (O1.out _ (ruled_more (ruled_alloc hR _) _))).mono ?_); rintro e w1 ⟨rfl, p, rfl⟩)
        | ((with_reducible refine (calls_more (O2.out _ (ruled_more (ruled_alloc hR _) _))).mono ?_); rintro e w1 ⟨rfl, p, rfl⟩)
        | ((with_reducible refine (calls_more (O3.out _ (ruled_more (ruled_alloc hR _) _))).mono ?_); rintro e w1 ⟨rfl, p, rfl⟩)))
    go_ret
    exact ⟨rfl, below_more (more_below w ⟨[_], 0⟩) (by simp [more]) _⟩

set_option maxHeartbeats 4000000 in
set_option maxRecDepth 100000 in
theorem opqw_4 (op max : Int) (src dst : Bool) (w : World) (hR : Ruled w) (opl : -9223372036854775808 ≤ op) (oph : op ≤ 9223372036854775807) (maxl : -9223372036854775808 ≤ max) (maxh : max ≤ 9223372036854775807) (hop : op % 12 = 3) :
    Calls Tryd.prog 6 #[.int .i64 op, .bool src, .bool dst, .int .i64 max] w fun e w' => e = .returned (.bool true) ∧ Below w.heap.size w w' := by
  have hm : 1 ≤ gmax max ∧ gmax max ≤ 65535 := by rcases gmax_cases max with h | h <;> omega
  obtain ⟨hm0, hm1⟩ := hm
  have CM : ∀ W : World, Calls Tryd.prog 11 #[.int .i64 op, .int .i64 12] W fun e w' => e = .returned (.int .i64 3) ∧ W = w' := fun W => by have h := mod_call op 12 W (by omega) (by omega); rw [hop] at h; exact h
  have O0 := fun W hW => alpha_op 4 0 0 (gmax max) W hW (by omega) (by omega) (by omega) (by omega) (by omega) (by omega)
  have O1 := fun W hW => alpha_op 4 (gmax max) 0 (gmax max) W hW (by omega) (by omega) (by omega) (by omega) (by omega) (by omega)
  have O2 := fun W hW => alpha_op 4 0 (gmax max) (gmax max) W hW (by omega) (by omega) (by omega) (by omega) (by omega) (by omega)
  have O3 := fun W hW => alpha_op 4 (gmax max) (gmax max) (gmax max) W hW (by omega) (by omega) (by omega) (by omega) (by omega) (by omega)
  have CX : ∀ W : World, Calls Tryd.prog 10 #[.int .i64 max] W fun e w' => e = .returned (.int .u16 (gmax max)) ∧ W = w' := fun W => max_call max W
  rw [opq00 4 (gmax max) hm0] at O0
  rw [opq4_0 (gmax max) hm0] at O1
  rw [opq4_1 (gmax max) hm0] at O2
  rw [opq4_2 (gmax max) hm0] at O3
  generalize gmax max = m at *
  replace CM := Lib.hid @CM
  replace CX := Lib.hid @CX
  replace O0 := Lib.hid @O0
  replace O1 := Lib.hid @O1
  replace O2 := Lib.hid @O2
  replace O3 := Lib.hid @O3
  clear hop
  cases src <;> cases dst
  all_goals
    go_enter Tryd.func6, Tryd.ntmps6
    go_wp2_with (first
      | (go_at_call 10; (with_reducible refine (CX.out _).mono ?_); rintro e w' ⟨rfl, rfl⟩)
      | (go_at_call 11; (with_reducible refine (CM.out _).mono ?_); rintro e w' ⟨rfl, rfl⟩)
      | (go_at_call 15; (with_reducible refine (awake07 _ (ruled_alloc hR _)).mono ?_); rintro e w' ⟨rfl, p, rfl⟩)
      | (go_at_call 16; first
        | ((with_reducible refine (calls_more (O0.out _ (ruled_more (ruled_alloc hR _) _))).mono ?_); rintro e w1 ⟨rfl, p, rfl⟩)
        | ((with_reducible refine (calls_more (O1.out _ (ruled_more (ruled_alloc hR _) _))).mono ?_); rintro e w1 ⟨rfl, p, rfl⟩)
        | ((with_reducible refine (calls_more (O2.out _ (ruled_more (ruled_alloc hR _) _))).mono ?_); rintro e w1 ⟨rfl, p, rfl⟩)
        | ((with_reducible refine (calls_more (O3.out _ (ruled_more (ruled_alloc hR _) _))).mono ?_); rintro e w1 ⟨rfl, p, rfl⟩)))
    go_ret
    exact ⟨rfl, below_more (more_below w ⟨[_], 0⟩) (by simp [more]) _⟩

set_option maxHeartbeats 4000000 in
set_option maxRecDepth 100000 in
theorem opqw_5 (op max : Int) (src dst : Bool) (w : World) (hR : Ruled w) (opl : -9223372036854775808 ≤ op) (oph : op ≤ 9223372036854775807) (maxl : -9223372036854775808 ≤ max) (maxh : max ≤ 9223372036854775807) (hop : op % 12 = 4) :
    Calls Tryd.prog 6 #[.int .i64 op, .bool src, .bool dst, .int .i64 max] w fun e w' => e = .returned (.bool true) ∧ Below w.heap.size w w' := by
  have hm : 1 ≤ gmax max ∧ gmax max ≤ 65535 := by rcases gmax_cases max with h | h <;> omega
  obtain ⟨hm0, hm1⟩ := hm
  have CM : ∀ W : World, Calls Tryd.prog 11 #[.int .i64 op, .int .i64 12] W fun e w' => e = .returned (.int .i64 4) ∧ W = w' := fun W => by have h := mod_call op 12 W (by omega) (by omega); rw [hop] at h; exact h
  have O0 := fun W hW => alpha_op 5 0 0 (gmax max) W hW (by omega) (by omega) (by omega) (by omega) (by omega) (by omega)
  have O1 := fun W hW => alpha_op 5 (gmax max) 0 (gmax max) W hW (by omega) (by omega) (by omega) (by omega) (by omega) (by omega)
  have O2 := fun W hW => alpha_op 5 0 (gmax max) (gmax max) W hW (by omega) (by omega) (by omega) (by omega) (by omega) (by omega)
  have O3 := fun W hW => alpha_op 5 (gmax max) (gmax max) (gmax max) W hW (by omega) (by omega) (by omega) (by omega) (by omega) (by omega)
  have CX : ∀ W : World, Calls Tryd.prog 10 #[.int .i64 max] W fun e w' => e = .returned (.int .u16 (gmax max)) ∧ W = w' := fun W => max_call max W
  rw [opq00 5 (gmax max) hm0] at O0
  rw [opq5_0 (gmax max) hm0] at O1
  rw [opq5_1 (gmax max) hm0] at O2
  rw [opq5_2 (gmax max) hm0] at O3
  generalize gmax max = m at *
  replace CM := Lib.hid @CM
  replace CX := Lib.hid @CX
  replace O0 := Lib.hid @O0
  replace O1 := Lib.hid @O1
  replace O2 := Lib.hid @O2
  replace O3 := Lib.hid @O3
  clear hop
  cases src <;> cases dst
  all_goals
    go_enter Tryd.func6, Tryd.ntmps6
    go_wp2_with (first
      | (go_at_call 10; (with_reducible refine (CX.out _).mono ?_); rintro e w' ⟨rfl, rfl⟩)
      | (go_at_call 11; (with_reducible refine (CM.out _).mono ?_); rintro e w' ⟨rfl, rfl⟩)
      | (go_at_call 15; (with_reducible refine (awake07 _ (ruled_alloc hR _)).mono ?_); rintro e w' ⟨rfl, p, rfl⟩)
      | (go_at_call 16; first
        | ((with_reducible refine (calls_more (O0.out _ (ruled_more (ruled_alloc hR _) _))).mono ?_); rintro e w1 ⟨rfl, p, rfl⟩)
        | ((with_reducible refine (calls_more (O1.out _ (ruled_more (ruled_alloc hR _) _))).mono ?_); rintro e w1 ⟨rfl, p, rfl⟩)
        | ((with_reducible refine (calls_more (O2.out _ (ruled_more (ruled_alloc hR _) _))).mono ?_); rintro e w1 ⟨rfl, p, rfl⟩)
        | ((with_reducible refine (calls_more (O3.out _ (ruled_more (ruled_alloc hR _) _))).mono ?_); rintro e w1 ⟨rfl, p, rfl⟩)))
    go_ret
    exact ⟨rfl, below_more (more_below w ⟨[_], 0⟩) (by simp [more]) _⟩

set_option maxHeartbeats 4000000 in
set_option maxRecDepth 100000 in
theorem opqw_6 (op max : Int) (src dst : Bool) (w : World) (hR : Ruled w) (opl : -9223372036854775808 ≤ op) (oph : op ≤ 9223372036854775807) (maxl : -9223372036854775808 ≤ max) (maxh : max ≤ 9223372036854775807) (hop : op % 12 = 5) :
    Calls Tryd.prog 6 #[.int .i64 op, .bool src, .bool dst, .int .i64 max] w fun e w' => e = .returned (.bool true) ∧ Below w.heap.size w w' := by
  have hm : 1 ≤ gmax max ∧ gmax max ≤ 65535 := by rcases gmax_cases max with h | h <;> omega
  obtain ⟨hm0, hm1⟩ := hm
  have CM : ∀ W : World, Calls Tryd.prog 11 #[.int .i64 op, .int .i64 12] W fun e w' => e = .returned (.int .i64 5) ∧ W = w' := fun W => by have h := mod_call op 12 W (by omega) (by omega); rw [hop] at h; exact h
  have O0 := fun W hW => alpha_op 6 0 0 (gmax max) W hW (by omega) (by omega) (by omega) (by omega) (by omega) (by omega)
  have O1 := fun W hW => alpha_op 6 (gmax max) 0 (gmax max) W hW (by omega) (by omega) (by omega) (by omega) (by omega) (by omega)
  have O2 := fun W hW => alpha_op 6 0 (gmax max) (gmax max) W hW (by omega) (by omega) (by omega) (by omega) (by omega) (by omega)
  have O3 := fun W hW => alpha_op 6 (gmax max) (gmax max) (gmax max) W hW (by omega) (by omega) (by omega) (by omega) (by omega) (by omega)
  have CX : ∀ W : World, Calls Tryd.prog 10 #[.int .i64 max] W fun e w' => e = .returned (.int .u16 (gmax max)) ∧ W = w' := fun W => max_call max W
  rw [opq00 6 (gmax max) hm0] at O0
  rw [opq6_0 (gmax max) hm0] at O1
  rw [opq6_1 (gmax max) hm0] at O2
  rw [opq6_2 (gmax max) hm0] at O3
  generalize gmax max = m at *
  replace CM := Lib.hid @CM
  replace CX := Lib.hid @CX
  replace O0 := Lib.hid @O0
  replace O1 := Lib.hid @O1
  replace O2 := Lib.hid @O2
  replace O3 := Lib.hid @O3
  clear hop
  cases src <;> cases dst
  all_goals
    go_enter Tryd.func6, Tryd.ntmps6
    go_wp2_with (first
      | (go_at_call 10; (with_reducible refine (CX.out _).mono ?_); rintro e w' ⟨rfl, rfl⟩)
      | (go_at_call 11; (with_reducible refine (CM.out _).mono ?_); rintro e w' ⟨rfl, rfl⟩)
      | (go_at_call 15; (with_reducible refine (awake07 _ (ruled_alloc hR _)).mono ?_); rintro e w' ⟨rfl, p, rfl⟩)
      | (go_at_call 16; first
        | ((with_reducible refine (calls_more (O0.out _ (ruled_more (ruled_alloc hR _) _))).mono ?_); rintro e w1 ⟨rfl, p, rfl⟩)
        | ((with_reducible refine (calls_more (O1.out _ (ruled_more (ruled_alloc hR _) _))).mono ?_); rintro e w1 ⟨rfl, p, rfl⟩)
        | ((with_reducible refine (calls_more (O2.out _ (ruled_more (ruled_alloc hR _) _))).mono ?_); rintro e w1 ⟨rfl, p, rfl⟩)
        | ((with_reducible refine (calls_more (O3.out _ (ruled_more (ruled_alloc hR _) _))).mono ?_); rintro e w1 ⟨rfl, p, rfl⟩)))
    go_ret
    exact ⟨rfl, below_more (more_below w ⟨[_], 0⟩) (by simp [more]) _⟩

set_option maxHeartbeats 4000000 in
set_option maxRecDepth 100000 in
theorem opqw_7 (op max : Int) (src dst : Bool) (w : World) (hR : Ruled w) (opl : -9223372036854775808 ≤ op) (oph : op ≤ 9223372036854775807) (maxl : -9223372036854775808 ≤ max) (maxh : max ≤ 9223372036854775807) (hop : op % 12 = 6) :
    Calls Tryd.prog 6 #[.int .i64 op, .bool src, .bool dst, .int .i64 max] w fun e w' => e = .returned (.bool true) ∧ Below w.heap.size w w' := by
  have hm : 1 ≤ gmax max ∧ gmax max ≤ 65535 := by rcases gmax_cases max with h | h <;> omega
  obtain ⟨hm0, hm1⟩ := hm
  have CM : ∀ W : World, Calls Tryd.prog 11 #[.int .i64 op, .int .i64 12] W fun e w' => e = .returned (.int .i64 6) ∧ W = w' := fun W => by have h := mod_call op 12 W (by omega) (by omega); rw [hop] at h; exact h
  have O0 := fun W hW => alpha_op 7 0 0 (gmax max) W hW (by omega) (by omega) (by omega) (by omega) (by omega) (by omega)
  have O1 := fun W hW => alpha_op 7 (gmax max) 0 (gmax max) W hW (by omega) (by omega) (by omega) (by omega) (by omega) (by omega)
  have O2 := fun W hW => alpha_op 7 0 (gmax max) (gmax max) W hW (by omega) (by omega) (by omega) (by omega) (by omega) (by omega)
  have O3 := fun W hW => alpha_op 7 (gmax max) (gmax max) (gmax max) W hW (by omega) (by omega) (by omega) (by omega) (by omega) (by omega)
  have CX : ∀ W : World, Calls Tryd.prog 10 #[.int .i64 max] W fun e w' => e = .returned (.int .u16 (gmax max)) ∧ W = w' := fun W => max_call max W
  rw [opq00 7 (gmax max) hm0] at O0
  rw [opq7_0 (gmax max) hm0] at O1
  rw [opq7_1 (gmax max) hm0] at O2
  rw [opq7_2 (gmax max) hm0] at O3
  generalize gmax max = m at *
  replace CM := Lib.hid @CM
  replace CX := Lib.hid @CX
  replace O0 := Lib.hid @O0
  replace O1 := Lib.hid @O1
  replace O2 := Lib.hid @O2
  replace O3 := Lib.hid @O3
  clear hop
  cases src <;> cases dst
  all_goals
    go_enter Tryd.func6, Tryd.ntmps6
    go_wp2_with (first
      | (go_at_call 10; (with_reducible refine (CX.out _).mono ?_); rintro e w' ⟨rfl, rfl⟩)
      | (go_at_call 11; (with_reducible refine (CM.out _).mono ?_); rintro e w' ⟨rfl, rfl⟩)
      | (go_at_call 15; (with_reducible refine (awake07 _ (ruled_alloc hR _)).mono ?_); rintro e w' ⟨rfl, p, rfl⟩)
      | (go_at_call 16; first
        | ((with_reducible refine (calls_more (O0.out _ (ruled_more (ruled_alloc hR _) _))).mono ?_); rintro e w1 ⟨rfl, p, rfl⟩)
        | ((with_reducible refine (calls_more (O1.out _ (ruled_more (ruled_alloc hR _) _))).mono ?_); rintro e w1 ⟨rfl, p, rfl⟩)
        | ((with_reducible refine (calls_more (O2.out _ (ruled_more (ruled_alloc hR _) _))).mono ?_); rintro e w1 ⟨rfl, p, rfl⟩)
        | ((with_reducible refine (calls_more (O3.out _ (ruled_more (ruled_alloc hR _) _))).mono ?_); rintro e w1 ⟨rfl, p, rfl⟩)))
    go_ret
    exact ⟨rfl, below_more (more_below w ⟨[_], 0⟩) (by simp [more]) _⟩

set_option maxHeartbeats 4000000 in
set_option maxRecDepth 100000 in
theorem opqw_8 (op max : Int) (src dst : Bool) (w : World) (hR : Ruled w) (opl : -9223372036854775808 ≤ op) (oph : op ≤ 9223372036854775807) (maxl : -9223372036854775808 ≤ max) (maxh : max ≤ 9223372036854775807) (hop : op % 12 = 7) :
    Calls Tryd.prog 6 #[.int .i64 op, .bool src, .bool dst, .int .i64 max] w fun e w' => e = .returned (.bool true) ∧ Below w.heap.size w w' := by
  have hm : 1 ≤ gmax max ∧ gmax max ≤ 65535 := by rcases gmax_cases max with h | h <;> omega
  obtain ⟨hm0, hm1⟩ := hm
  have CM : ∀ W : World, Calls Tryd.prog 11 #[.int .i64 op, .int .i64 12] W fun e w' => e = .returned (.int .i64 7) ∧ W = w' := fun W => by have h := mod_call op 12 W (by omega) (by omega); rw [hop] at h; exact h
  have O0 := fun W hW => alpha_op 8 0 0 (gmax max) W hW (by omega) (by omega) (by omega) (by omega) (by omega) (by omega)
  have O1 := fun W hW => alpha_op 8 (gmax max) 0 (gmax max) W hW (by omega) (by omega) (by omega) (by omega) (by omega) (by omega)
  have O2 := fun W hW => alpha_op 8 0 (gmax max) (gmax max) W hW (by omega) (by omega) (by omega) (by omega) (by omega) (by omega)
  have O3 := fun W hW => alpha_op 8 (gmax max) (gmax max) (gmax max) W hW (by omega) (by omega) (by omega) (by omega) (by omega) (by omega)
  have CX : ∀ W : World, Calls Tryd.prog 10 #[.int .i64 max] W fun e w' => e = .returned (.int .u16 (gmax max)) ∧ W = w' := fun W => max_call max W
  rw [opq00 8 (gmax max) hm0] at O0
  rw [opq8_0 (gmax max) hm0] at O1
  rw [opq8_1 (gmax max) hm0] at O2
  rw [opq8_2 (gmax max) hm0] at O3
  generalize gmax max = m at *
  replace CM := Lib.hid @CM
  replace CX := Lib.hid @CX
  replace O0 := Lib.hid @O0
  replace O1 := Lib.hid @O1
  replace O2 := Lib.hid @O2
  replace O3 := Lib.hid @O3
  clear hop
  cases src <;> cases dst
  all_goals
    go_enter Tryd.func6, Tryd.ntmps6
    go_wp2_with (first
      | (go_at_call 10; (with_reducible refine (CX.out _).mono ?_); rintro e w' ⟨rfl, rfl⟩)
      | (go_at_call 11; (with_reducible refine (CM.out _).mono ?_); rintro e w' ⟨rfl, rfl⟩)
      | (go_at_call 15; (with_reducible refine (awake07 _ (ruled_alloc hR _)).mono ?_); rintro e w' ⟨rfl, p, rfl⟩)
      | (go_at_call 16; first
        | ((with_reducible refine (calls_more (O0.out _ (ruled_more (ruled_alloc hR _) _))).mono ?_); rintro e w1 ⟨rfl, p, rfl⟩)
        | ((with_reducible refine (calls_more (O1.out _ (ruled_more (ruled_alloc hR _) _))).mono ?_); rintro e w1 ⟨rfl, p, rfl⟩)
        | ((with_reducible refine (calls_more (O2.out _ (ruled_more (ruled_alloc hR _) _))).mono ?_); rintro e w1 ⟨rfl, p, rfl⟩)
        | ((with_reducible refine (calls_more (O3.out _ (ruled_more (ruled_alloc hR _) _))).mono ?_); rintro e w1 ⟨rfl, p, rfl⟩)))
    go_ret
    exact ⟨rfl, below_more (more_below w ⟨[_], 0⟩) (by simp [more]) _⟩

set_option maxHeartbeats 4000000 in
set_option maxRecDepth 100000 in
theorem opqw_9 (op max : Int) (src dst : Bool) (w : World) (hR : Ruled w) (opl : -9223372036854775808 ≤ op) (oph : op ≤ 9223372036854775807) (maxl : -9223372036854775808 ≤ max) (maxh : max ≤ 9223372036854775807) (hop : op % 12 = 8) :
    Calls Tryd.prog 6 #[.int .i64 op, .bool src, .bool dst, .int .i64 max] w fun e w' => e = .returned (.bool true) ∧ Below w.heap.size w w' := by
  have hm : 1 ≤ gmax max ∧ gmax max ≤ 65535 := by rcases gmax_cases max with h | h <;> omega
  obtain ⟨hm0, hm1⟩ := hm
  have CM : ∀ W : World, Calls Tryd.prog 11 #[.int .i64 op, .int .i64 12] W fun e w' => e = .returned (.int .i64 8) ∧ W = w' := fun W => by have h := mod_call op 12 W (by omega) (by omega); rw [hop] at h; exact h
  have O0 := fun W hW => alpha_op 9 0 0 (gmax max) W hW (by omega) (by omega) (by omega) (by omega) (by omega) (by omega)
  have O1 := fun W hW => alpha_op 9 (gmax max) 0 (gmax max) W hW (by omega) (by omega) (by omega) (by omega) (by omega) (by omega)
  have O2 := fun W hW => alpha_op 9 0 (gmax max) (gmax max) W hW (by omega) (by omega) (by omega) (by omega) (by omega) (by omega)
  have O3 := fun W hW => alpha_op 9 (gmax max) (gmax max) (gmax max) W hW (by omega) (by omega) (by omega) (by omega) (by omega) (by omega)
  have CX : ∀ W : World, Calls Tryd.prog 10 #[.int .i64 max] W fun e w' => e = .returned (.int .u16 (gmax max)) ∧ W = w' := fun W => max_call max W
  rw [opq00 9 (gmax max) hm0] at O0
  rw [opq9_0 (gmax max) hm0] at O1
  rw [opq9_1 (gmax max) hm0] at O2
  rw [opq9_2 (gmax max) hm0] at O3
  generalize gmax max = m at *
  replace CM := Lib.hid @CM
  replace CX := Lib.hid @CX
  replace O0 := Lib.hid @O0
  replace O1 := Lib.hid @O1
  replace O2 := Lib.hid @O2
  replace O3 := Lib.hid @O3
  clear hop
  cases src <;> cases dst
  all_goals
    go_enter Tryd.func6, Tryd.ntmps6
    go_wp2_with (first
      | (go_at_call 10; (with_reducible refine (CX.out _).mono ?_); rintro e w' ⟨rfl, rfl⟩)
      | (go_at_call 11; (with_reducible refine (CM.out _).mono ?_); rintro e w' ⟨rfl, rfl⟩)
      | (go_at_call 15; (with_reducible refine (awake07 _ (ruled_alloc hR _)).mono ?_); rintro e w' ⟨rfl, p, rfl⟩)
      | (go_at_call 16; first
        | ((with_reducible refine (calls_more (O0.out _ (ruled_more (ruled_alloc hR _) _))).mono ?_); rintro e w1 ⟨rfl, p, rfl⟩)
        | ((with_reducible refine (calls_more (O1.out _ (ruled_more (ruled_alloc hR _) _))).mono ?_); rintro e w1 ⟨rfl, p, rfl⟩)
        | ((with_reducible refine (calls_more (O2.out _ (ruled_more (ruled_alloc hR _) _))).mono ?_); rintro e w1 ⟨rfl, p, rfl⟩)
        | ((with_reducible refine (calls_more (O3.out _ (ruled_more (ruled_alloc hR _) _))).mono ?_); rintro e w1 ⟨rfl, p, rfl⟩)))
    go_ret
    exact ⟨rfl, below_more (more_below w ⟨[_], 0⟩) (by simp [more]) _⟩

set_option maxHeartbeats 4000000 in
set_option maxRecDepth 100000 in
theorem opqw_10 (op max : Int) (src dst : Bool) (w : World) (hR : Ruled w) (opl : -9223372036854775808 ≤ op) (oph : op ≤ 9223372036854775807) (maxl : -9223372036854775808 ≤ max) (maxh : max ≤ 9223372036854775807) (hop : op % 12 = 9) :
    Calls Tryd.prog 6 #[.int .i64 op, .bool src, .bool dst, .int .i64 max] w fun e w' => e = .returned (.bool true) ∧ Below w.heap.size w w' := by
  have hm : 1 ≤ gmax max ∧ gmax max ≤ 65535 := by rcases gmax_cases max with h | h <;> omega
  obtain ⟨hm0, hm1⟩ := hm
  have CM : ∀ W : World, Calls Tryd.prog 11 #[.int .i64 op, .int .i64 12] W fun e w' => e = .returned (.int .i64 9) ∧ W = w' := fun W => by have h := mod_call op 12 W (by omega) (by omega); rw [hop] at h; exact h
  have O0 := fun W hW => alpha_op 10 0 0 (gmax max) W hW (by omega) (by omega) (by omega) (by omega) (by omega) (by omega)
  have O1 := fun W hW => alpha_op 10 (gmax max) 0 (gmax max) W hW (by omega) (by omega) (by omega) (by omega) (by omega) (by omega)
  have O2 := fun W hW => alpha_op 10 0 (gmax max) (gmax max) W hW (by omega) (by omega) (by omega) (by omega) (by omega) (by omega)
  have O3 := fun W hW => alpha_op 10 (gmax max) (gmax max) (gmax max) W hW (by omega) (by omega) (by omega) (by omega) (by omega) (by omega)
  have CX : ∀ W : World, Calls Tryd.prog 10 #[.int .i64 max] W fun e w' => e = .returned (.int .u16 (gmax max)) ∧ W = w' := fun W => max_call max W
  rw [opq00 10 (gmax max) hm0] at O0
  rw [opq10_0 (gmax max) hm0] at O1
  rw [opq10_1 (gmax max) hm0] at O2
  rw [opq10_2 (gmax max) hm0] at O3
  generalize gmax max = m at *
  replace CM := Lib.hid @CM
  replace CX := Lib.hid @CX
  replace O0 := Lib.hid @O0
  replace O1 := Lib.hid @O1
  replace O2 := Lib.hid @O2
  replace O3 := Lib.hid @O3
  clear hop
  cases src <;> cases dst
  all_goals
    go_enter Tryd.func6, Tryd.ntmps6
    go_wp2_with (first
      | (go_at_call 10; (with_reducible refine (CX.out _).mono ?_); rintro e w' ⟨rfl, rfl⟩)
      | (go_at_call 11; (with_reducible refine (CM.out _).mono ?_); rintro e w' ⟨rfl, rfl⟩)
      | (go_at_call 15; (with_reducible refine (awake07 _ (ruled_alloc hR _)).mono ?_); rintro e w' ⟨rfl, p, rfl⟩)
      | (go_at_call 16; first
        | ((with_reducible refine (calls_more (O0.out _ (ruled_more (ruled_alloc hR _) _))).mono ?_); rintro e w1 ⟨rfl, p, rfl⟩)
        | ((with_reducible refine (calls_more (O1.out _ (ruled_more (ruled_alloc hR _) _))).mono ?_); rintro e w1 ⟨rfl, p, rfl⟩)
        | ((with_reducible refine (calls_more (O2.out _ (ruled_more (ruled_alloc hR _) _))).mono ?_); rintro e w1 ⟨rfl, p, rfl⟩)
        | ((with_reducible refine (calls_more (O3.out _ (ruled_more (ruled_alloc hR _) _))).mono ?_); rintro e w1 ⟨rfl, p, rfl⟩)))
    go_ret
    exact ⟨rfl, below_more (more_below w ⟨[_], 0⟩) (by simp [more]) _⟩

set_option maxHeartbeats 4000000 in
set_option maxRecDepth 100000 in
theorem opqw_11 (op max : Int) (src dst : Bool) (w : World) (hR : Ruled w) (opl : -9223372036854775808 ≤ op) (oph : op ≤ 9223372036854775807) (maxl : -9223372036854775808 ≤ max) (maxh : max ≤ 9223372036854775807) (hop : op % 12 = 10) :
    Calls Tryd.prog 6 #[.int .i64 op, .bool src, .bool dst, .int .i64 max] w fun e w' => e = .returned (.bool true) ∧ Below w.heap.size w w' := by
  have hm : 1 ≤ gmax max ∧ gmax max ≤ 65535 := by rcases gmax_cases max with h | h <;> omega
  obtain ⟨hm0, hm1⟩ := hm
  have CM : ∀ W : World, Calls Tryd.prog 11 #[.int .i64 op, .int .i64 12] W fun e w' => e = .returned (.int .i64 10) ∧ W = w' := fun W => by have h := mod_call op 12 W (by omega) (by omega); rw [hop] at h; exact h
  have O0 := fun W hW => alpha_op 11 0 0 (gmax max) W hW (by omega) (by omega) (by omega) (by omega) (by omega) (by omega)
  have O1 := fun W hW => alpha_op 11 (gmax max) 0 (gmax max) W hW (by omega) (by omega) (by omega) (by omega) (by omega) (by omega)
  have O2 := fun W hW => alpha_op 11 0 (gmax max) (gmax max) W hW (by omega) (by omega) (by omega) (by omega) (by omega) (by omega)
  have O3 := fun W hW => alpha_op 11 (gmax max) (gmax max) (gmax max) W hW (by omega) (by omega) (by omega) (by omega) (by omega) (by omega)
  have CX : ∀ W : World, Calls Tryd.prog 10 #[.int .i64 max] W fun e w' => e = .returned (.int .u16 (gmax max)) ∧ W = w' := fun W => max_call max W
  rw [opq00 11 (gmax max) hm0] at O0
  rw [opq11_0 (gmax max) hm0] at O1
  rw [opq11_1 (gmax max) hm0] at O2
  rw [opq11_2 (gmax max) hm0] at O3
  generalize gmax max = m at *
  replace CM := Lib.hid @CM
  replace CX := Lib.hid @CX
  replace O0 := Lib.hid @O0
  replace O1 := Lib.hid @O1
  replace O2 := Lib.hid @O2
  replace O3 := Lib.hid @O3
  clear hop
  cases src <;> cases dst
  all_goals
    go_enter Tryd.func6, Tryd.ntmps6
    go_wp2_with (first
      | (go_at_call 10; (with_reducible refine (CX.out _).mono ?_); rintro e w' ⟨rfl, rfl⟩)
      | (go_at_call 11; (with_reducible refine (CM.out _).mono ?_); rintro e w' ⟨rfl, rfl⟩)
      | (go_at_call 15; (with_reducible refine (awake07 _ (ruled_alloc hR _)).mono ?_); rintro e w' ⟨rfl, p, rfl⟩)
      | (go_at_call 16; first
        | ((with_reducible refine (calls_more (O0.out _ (ruled_more (ruled_alloc hR _) _))).mono ?_); rintro e w1 ⟨rfl, p, rfl⟩)
        | ((with_reducible refine (calls_more (O1.out _ (ruled_more (ruled_alloc hR _) _))).mono ?_); rintro e w1 ⟨rfl, p, rfl⟩)
        | ((with_reducible refine (calls_more (O2.out _ (ruled_more (ruled_alloc hR _) _))).mono ?_); rintro e w1 ⟨rfl, p, rfl⟩)
        | ((with_reducible refine (calls_more (O3.out _ (ruled_more (ruled_alloc hR _) _))).mono ?_); rintro e w1 ⟨rfl, p, rfl⟩)))
    go_ret
    exact ⟨rfl, below_more (more_below w ⟨[_], 0⟩) (by simp [more]) _⟩

set_option maxHeartbeats 4000000 in
set_option maxRecDepth 100000 in
theorem opqw_12 (op max : Int) (src dst : Bool) (w : World) (hR : Ruled w) (opl : -9223372036854775808 ≤ op) (oph : op ≤ 9223372036854775807) (maxl : -9223372036854775808 ≤ max) (maxh : max ≤ 9223372036854775807) (hop : op % 12 = 11) :
    Calls Tryd.prog 6 #[.int .i64 op, .bool src, .bool dst, .int .i64 max] w fun e w' => e = .returned (.bool true) ∧ Below w.heap.size w w' := by
  have hm : 1 ≤ gmax max ∧ gmax max ≤ 65535 := by rcases gmax_cases max with h | h <;> omega
  obtain ⟨hm0, hm1⟩ := hm
  have CM : ∀ W : World, Calls Tryd.prog 11 #[.int .i64 op, .int .i64 12] W fun e w' => e = .returned (.int .i64 11) ∧ W = w' := fun W => by have h := mod_call op 12 W (by omega) (by omega); rw [hop] at h; exact h
  have O0 := fun W hW => alpha_op 12 0 0 (gmax max) W hW (by omega) (by omega) (by omega) (by omega) (by omega) (by omega)
  have O1 := fun W hW => alpha_op 12 (gmax max) 0 (gmax max) W hW (by omega) (by omega) (by omega) (by omega) (by omega) (by omega)
  have O2 := fun W hW => alpha_op 12 0 (gmax max) (gmax max) W hW (by omega) (by omega) (by omega) (by omega) (by omega) (by omega)
  have O3 := fun W hW => alpha_op 12 (gmax max) (gmax max) (gmax max) W hW (by omega) (by omega) (by omega) (by omega) (by omega) (by omega)
  have CX : ∀ W : World, Calls Tryd.prog 10 #[.int .i64 max] W fun e w' => e = .returned (.int .u16 (gmax max)) ∧ W = w' := fun W => max_call max W
  rw [opq00 12 (gmax max) hm0] at O0
  rw [opq12_0 (gmax max) hm0] at O1
  rw [opq12_1 (gmax max) hm0] at O2
  rw [opq12_2 (gmax max) hm0] at O3
  generalize gmax max = m at *
  replace CM := Lib.hid @CM
  replace CX := Lib.hid @CX
  replace O0 := Lib.hid @O0
  replace O1 := Lib.hid @O1
  replace O2 := Lib.hid @O2
  replace O3 := Lib.hid @O3
  clear hop
  cases src <;> cases dst
  all_goals
    go_enter Tryd.func6, Tryd.ntmps6
    go_wp2_with (first
      | (go_at_call 10; (with_reducible refine (CX.out _).mono ?_); rintro e w' ⟨rfl, rfl⟩)
      | (go_at_call 11; (with_reducible refine (CM.out _).mono ?_); rintro e w' ⟨rfl, rfl⟩)
      | (go_at_call 15; (with_reducible refine (awake07 _ (ruled_alloc hR _)).mono ?_); rintro e w' ⟨rfl, p, rfl⟩)
      | (go_at_call 16; first
        | ((with_reducible refine (calls_more (O0.out _ (ruled_more (ruled_alloc hR _) _))).mono ?_); rintro e w1 ⟨rfl, p, rfl⟩)
        | ((with_reducible refine (calls_more (O1.out _ (ruled_more (ruled_alloc hR _) _))).mono ?_); rintro e w1 ⟨rfl, p, rfl⟩)
        | ((with_reducible refine (calls_more (O2.out _ (ruled_more (ruled_alloc hR _) _))).mono ?_); rintro e w1 ⟨rfl, p, rfl⟩)
        | ((with_reducible refine (calls_more (O3.out _ (ruled_more (ruled_alloc hR _) _))).mono ?_); rintro e w1 ⟨rfl, p, rfl⟩)))
    go_ret
    exact ⟨rfl, below_more (more_below w ⟨[_], 0⟩) (by simp [more]) _⟩

theorem operatorOfOpaquePixels_walk (op : Int) (src dst : Bool) (max : Int) (w : World) (hR : Ruled w) (opl : -9223372036854775808 ≤ op) (oph : op ≤ 9223372036854775807) (maxl : -9223372036854775808 ≤ max) (maxh : max ≤ 9223372036854775807) :
    Calls Tryd.prog 6 #[.int .i64 op, .bool src, .bool dst, .int .i64 max] w fun e w' => e = .returned (.bool true) ∧ Below w.heap.size w w' := by
  have h : op % 12 = 0 ∨ op % 12 = 1 ∨ op % 12 = 2 ∨ op % 12 = 3 ∨ op % 12 = 4 ∨ op % 12 = 5 ∨ op % 12 = 6 ∨ op % 12 = 7 ∨ op % 12 = 8 ∨ op % 12 = 9 ∨ op % 12 = 10 ∨ op % 12 = 11 := by omega
  rcases h with h | h | h | h | h | h | h | h | h | h | h | h
  · exact opqw_1 op max src dst w hR opl oph maxl maxh h
  · exact opqw_2 op max src dst w hR opl oph maxl maxh h
  · exact opqw_3 op max src dst w hR opl oph maxl maxh h
  · exact opqw_4 op max src dst w hR opl oph maxl maxh h
  · exact opqw_5 op max src dst w hR opl oph maxl maxh h
  · exact opqw_6 op max src dst w hR opl oph maxl maxh h
  · exact opqw_7 op max src dst w hR opl oph maxl maxh h
  · exact opqw_8 op max src dst w hR opl oph maxl maxh h
  · exact opqw_9 op max src dst w hR opl oph maxl maxh h
  · exact opqw_10 op max src dst w hR opl oph maxl maxh h
  · exact opqw_11 op max src dst w hR opl oph maxl maxh h
  · exact opqw_12 op max src dst w hR opl oph maxl maxh h
end Go.Proofs.YthhmdjpcgollbaaDoor
