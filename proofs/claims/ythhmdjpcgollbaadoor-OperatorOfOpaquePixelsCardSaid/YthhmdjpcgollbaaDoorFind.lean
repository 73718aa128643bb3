/- Contracts of the functions of package operator that find a rule. -/
import Derived.Test.YthhmdjpcgollbaaDoorLaid
import Derived.Test.YthhmdjpcgollbaaDoorOp
import Derived.Test.YthhmdjpcgollbaaDoorGen
import Derived.Test.YthhmdjpcgollbaaDoorMore
namespace Go.Proofs.YthhmdjpcgollbaaDoor
open Go.RowKit

/-- The name of an operator; empty if there is none. -/
def opName (k : Int) : ByteArray := if k = 1 then ⟨#[99, 108, 101, 97, 114]⟩ else if k = 2 then ⟨#[115, 114, 99]⟩ else if k = 3 then ⟨#[100, 115, 116]⟩ else if k = 4 then ⟨#[115, 114, 99, 45, 111, 118, 101, 114]⟩ else if k = 5 then ⟨#[100, 115, 116, 45, 111, 118, 101, 114]⟩ else if k = 6 then ⟨#[115, 114, 99, 45, 105, 110]⟩ else if k = 7 then ⟨#[100, 115, 116, 45, 105, 110]⟩ else if k = 8 then ⟨#[115, 114, 99, 45, 111, 117, 116]⟩ else if k = 9 then ⟨#[100, 115, 116, 45, 111, 117, 116]⟩ else if k = 10 then ⟨#[115, 114, 99, 45, 97, 116, 111, 112]⟩ else if k = 11 then ⟨#[100, 115, 116, 45, 97, 116, 111, 112]⟩ else if k = 12 then ⟨#[120, 111, 114]⟩ else ⟨#[]⟩
/-- the block that holds a rule -/
def ruleBlock (k : Int) : Obj := .cells #[.string (opName k), .int .i64 (opFa k), .int .i64 (opFb k), .int .i64 (opSh k)] 48

theorem ruled_size {w : World} (h : Ruled w) : 0 < w.heap.size := by
  obtain ⟨T, fr, h⟩ := h
  rcases Nat.lt_or_ge 0 w.heap.size with h1 | h1
  · exact h1
  · simp [h1] at h
theorem ruled_cell {w : World} (h : Ruled w) (i : Nat) : w.cell? ⟨0, i, none⟩ = ruleCells[i]? := by
  obtain ⟨T, fr, h⟩ := h
  simp only [World.cell?, h]
  simp
theorem ruled_more {w : World} (h : Ruled w) (p : Extra) : Ruled (more w p) := by
  have hs := ruled_size h
  obtain ⟨T, fr, h⟩ := h
  exact ⟨T, fr, (more_heap w p _ hs).trans h⟩
theorem ruled_alloc {w : World} (h : Ruled w) (o : Obj) : Ruled (w.alloc o) := ruled_more h ⟨[o], 0⟩

set_option maxHeartbeats 400000 in
theorem find_1 (w : World) (h : Ruled w) :
    Calls Tryd.prog 30 #[.int .i64 1] w fun e w' => e = .returned (.tuple #[.agg #[.string ⟨#[99, 108, 101, 97, 114]⟩, .int .i64 0, .int .i64 0, .int .i64 0], .bool true]) ∧ w.alloc (.cells #[.string ⟨#[99, 108, 101, 97, 114]⟩, .int .i64 0, .int .i64 0, .int .i64 0] 48) = w' := by
  have hs := ruled_size h
  have c0 : w.cell? ⟨0, 4, none⟩ = some (.string ⟨#[99, 108, 101, 97, 114]⟩) := ruled_cell h 4
  have c1 : w.cell? ⟨0, 5, none⟩ = some (.int .i64 0) := ruled_cell h 5
  have c2 : w.cell? ⟨0, 6, none⟩ = some (.int .i64 0) := ruled_cell h 6
  have c3 : w.cell? ⟨0, 7, none⟩ = some (.int .i64 0) := ruled_cell h 7
  clear h
  go_enter Tryd.func30, Tryd.ntmps30
  go_wp2
  exact bodyPost_ret (v := .tuple #[.agg #[.string ⟨#[99, 108, 101, 97, 114]⟩, .int .i64 0, .int .i64 0, .int .i64 0], .bool true]) (by simp [results, Tryd.results30, go_sem]) rfl ⟨rfl, rfl⟩

set_option maxHeartbeats 400000 in
theorem find_2 (w : World) (h : Ruled w) :
    Calls Tryd.prog 30 #[.int .i64 2] w fun e w' => e = .returned (.tuple #[.agg #[.string ⟨#[115, 114, 99]⟩, .int .i64 1, .int .i64 0, .int .i64 1], .bool true]) ∧ w.alloc (.cells #[.string ⟨#[115, 114, 99]⟩, .int .i64 1, .int .i64 0, .int .i64 1] 48) = w' := by
  have hs := ruled_size h
  have c0 : w.cell? ⟨0, 8, none⟩ = some (.string ⟨#[115, 114, 99]⟩) := ruled_cell h 8
  have c1 : w.cell? ⟨0, 9, none⟩ = some (.int .i64 1) := ruled_cell h 9
  have c2 : w.cell? ⟨0, 10, none⟩ = some (.int .i64 0) := ruled_cell h 10
  have c3 : w.cell? ⟨0, 11, none⟩ = some (.int .i64 1) := ruled_cell h 11
  clear h
  go_enter Tryd.func30, Tryd.ntmps30
  go_wp2
  exact bodyPost_ret (v := .tuple #[.agg #[.string ⟨#[115, 114, 99]⟩, .int .i64 1, .int .i64 0, .int .i64 1], .bool true]) (by simp [results, Tryd.results30, go_sem]) rfl ⟨rfl, rfl⟩

set_option maxHeartbeats 400000 in
theorem find_3 (w : World) (h : Ruled w) :
    Calls Tryd.prog 30 #[.int .i64 3] w fun e w' => e = .returned (.tuple #[.agg #[.string ⟨#[100, 115, 116]⟩, .int .i64 0, .int .i64 1, .int .i64 2], .bool true]) ∧ w.alloc (.cells #[.string ⟨#[100, 115, 116]⟩, .int .i64 0, .int .i64 1, .int .i64 2] 48) = w' := by
  have hs := ruled_size h
  have c0 : w.cell? ⟨0, 12, none⟩ = some (.string ⟨#[100, 115, 116]⟩) := ruled_cell h 12
  have c1 : w.cell? ⟨0, 13, none⟩ = some (.int .i64 0) := ruled_cell h 13
  have c2 : w.cell? ⟨0, 14, none⟩ = some (.int .i64 1) := ruled_cell h 14
  have c3 : w.cell? ⟨0, 15, none⟩ = some (.int .i64 2) := ruled_cell h 15
  clear h
  go_enter Tryd.func30, Tryd.ntmps30
  go_wp2
  exact bodyPost_ret (v := .tuple #[.agg #[.string ⟨#[100, 115, 116]⟩, .int .i64 0, .int .i64 1, .int .i64 2], .bool true]) (by simp [results, Tryd.results30, go_sem]) rfl ⟨rfl, rfl⟩

set_option maxHeartbeats 400000 in
theorem find_4 (w : World) (h : Ruled w) :
    Calls Tryd.prog 30 #[.int .i64 4] w fun e w' => e = .returned (.tuple #[.agg #[.string ⟨#[115, 114, 99, 45, 111, 118, 101, 114]⟩, .int .i64 1, .int .i64 3, .int .i64 3], .bool true]) ∧ w.alloc (.cells #[.string ⟨#[115, 114, 99, 45, 111, 118, 101, 114]⟩, .int .i64 1, .int .i64 3, .int .i64 3] 48) = w' := by
  have hs := ruled_size h
  have c0 : w.cell? ⟨0, 16, none⟩ = some (.string ⟨#[115, 114, 99, 45, 111, 118, 101, 114]⟩) := ruled_cell h 16
  have c1 : w.cell? ⟨0, 17, none⟩ = some (.int .i64 1) := ruled_cell h 17
  have c2 : w.cell? ⟨0, 18, none⟩ = some (.int .i64 3) := ruled_cell h 18
  have c3 : w.cell? ⟨0, 19, none⟩ = some (.int .i64 3) := ruled_cell h 19
  clear h
  go_enter Tryd.func30, Tryd.ntmps30
  go_wp2
  exact bodyPost_ret (v := .tuple #[.agg #[.string ⟨#[115, 114, 99, 45, 111, 118, 101, 114]⟩, .int .i64 1, .int .i64 3, .int .i64 3], .bool true]) (by simp [results, Tryd.results30, go_sem]) rfl ⟨rfl, rfl⟩

set_option maxHeartbeats 400000 in
theorem find_5 (w : World) (h : Ruled w) :
    Calls Tryd.prog 30 #[.int .i64 5] w fun e w' => e = .returned (.tuple #[.agg #[.string ⟨#[100, 115, 116, 45, 111, 118, 101, 114]⟩, .int .i64 3, .int .i64 1, .int .i64 3], .bool true]) ∧ w.alloc (.cells #[.string ⟨#[100, 115, 116, 45, 111, 118, 101, 114]⟩, .int .i64 3, .int .i64 1, .int .i64 3] 48) = w' := by
  have hs := ruled_size h
  have c0 : w.cell? ⟨0, 20, none⟩ = some (.string ⟨#[100, 115, 116, 45, 111, 118, 101, 114]⟩) := ruled_cell h 20
  have c1 : w.cell? ⟨0, 21, none⟩ = some (.int .i64 3) := ruled_cell h 21
  have c2 : w.cell? ⟨0, 22, none⟩ = some (.int .i64 1) := ruled_cell h 22
  have c3 : w.cell? ⟨0, 23, none⟩ = some (.int .i64 3) := ruled_cell h 23
  clear h
  go_enter Tryd.func30, Tryd.ntmps30
  go_wp2
  exact bodyPost_ret (v := .tuple #[.agg #[.string ⟨#[100, 115, 116, 45, 111, 118, 101, 114]⟩, .int .i64 3, .int .i64 1, .int .i64 3], .bool true]) (by simp [results, Tryd.results30, go_sem]) rfl ⟨rfl, rfl⟩

set_option maxHeartbeats 400000 in
theorem find_6 (w : World) (h : Ruled w) :
    Calls Tryd.prog 30 #[.int .i64 6] w fun e w' => e = .returned (.tuple #[.agg #[.string ⟨#[115, 114, 99, 45, 105, 110]⟩, .int .i64 2, .int .i64 0, .int .i64 4], .bool true]) ∧ w.alloc (.cells #[.string ⟨#[115, 114, 99, 45, 105, 110]⟩, .int .i64 2, .int .i64 0, .int .i64 4] 48) = w' := by
  have hs := ruled_size h
  have c0 : w.cell? ⟨0, 24, none⟩ = some (.string ⟨#[115, 114, 99, 45, 105, 110]⟩) := ruled_cell h 24
  have c1 : w.cell? ⟨0, 25, none⟩ = some (.int .i64 2) := ruled_cell h 25
  have c2 : w.cell? ⟨0, 26, none⟩ = some (.int .i64 0) := ruled_cell h 26
  have c3 : w.cell? ⟨0, 27, none⟩ = some (.int .i64 4) := ruled_cell h 27
  clear h
  go_enter Tryd.func30, Tryd.ntmps30
  go_wp2
  exact bodyPost_ret (v := .tuple #[.agg #[.string ⟨#[115, 114, 99, 45, 105, 110]⟩, .int .i64 2, .int .i64 0, .int .i64 4], .bool true]) (by simp [results, Tryd.results30, go_sem]) rfl ⟨rfl, rfl⟩

set_option maxHeartbeats 400000 in
theorem find_7 (w : World) (h : Ruled w) :
    Calls Tryd.prog 30 #[.int .i64 7] w fun e w' => e = .returned (.tuple #[.agg #[.string ⟨#[100, 115, 116, 45, 105, 110]⟩, .int .i64 0, .int .i64 2, .int .i64 4], .bool true]) ∧ w.alloc (.cells #[.string ⟨#[100, 115, 116, 45, 105, 110]⟩, .int .i64 0, .int .i64 2, .int .i64 4] 48) = w' := by
  have hs := ruled_size h
  have c0 : w.cell? ⟨0, 28, none⟩ = some (.string ⟨#[100, 115, 116, 45, 105, 110]⟩) := ruled_cell h 28
  have c1 : w.cell? ⟨0, 29, none⟩ = some (.int .i64 0) := ruled_cell h 29
  have c2 : w.cell? ⟨0, 30, none⟩ = some (.int .i64 2) := ruled_cell h 30
  have c3 : w.cell? ⟨0, 31, none⟩ = some (.int .i64 4) := ruled_cell h 31
  clear h
  go_enter Tryd.func30, Tryd.ntmps30
  go_wp2
  exact bodyPost_ret (v := .tuple #[.agg #[.string ⟨#[100, 115, 116, 45, 105, 110]⟩, .int .i64 0, .int .i64 2, .int .i64 4], .bool true]) (by simp [results, Tryd.results30, go_sem]) rfl ⟨rfl, rfl⟩

set_option maxHeartbeats 400000 in
theorem find_8 (w : World) (h : Ruled w) :
    Calls Tryd.prog 30 #[.int .i64 8] w fun e w' => e = .returned (.tuple #[.agg #[.string ⟨#[115, 114, 99, 45, 111, 117, 116]⟩, .int .i64 3, .int .i64 0, .int .i64 1], .bool true]) ∧ w.alloc (.cells #[.string ⟨#[115, 114, 99, 45, 111, 117, 116]⟩, .int .i64 3, .int .i64 0, .int .i64 1] 48) = w' := by
  have hs := ruled_size h
  have c0 : w.cell? ⟨0, 32, none⟩ = some (.string ⟨#[115, 114, 99, 45, 111, 117, 116]⟩) := ruled_cell h 32
  have c1 : w.cell? ⟨0, 33, none⟩ = some (.int .i64 3) := ruled_cell h 33
  have c2 : w.cell? ⟨0, 34, none⟩ = some (.int .i64 0) := ruled_cell h 34
  have c3 : w.cell? ⟨0, 35, none⟩ = some (.int .i64 1) := ruled_cell h 35
  clear h
  go_enter Tryd.func30, Tryd.ntmps30
  go_wp2
  exact bodyPost_ret (v := .tuple #[.agg #[.string ⟨#[115, 114, 99, 45, 111, 117, 116]⟩, .int .i64 3, .int .i64 0, .int .i64 1], .bool true]) (by simp [results, Tryd.results30, go_sem]) rfl ⟨rfl, rfl⟩

set_option maxHeartbeats 400000 in
theorem find_9 (w : World) (h : Ruled w) :
    Calls Tryd.prog 30 #[.int .i64 9] w fun e w' => e = .returned (.tuple #[.agg #[.string ⟨#[100, 115, 116, 45, 111, 117, 116]⟩, .int .i64 0, .int .i64 3, .int .i64 2], .bool true]) ∧ w.alloc (.cells #[.string ⟨#[100, 115, 116, 45, 111, 117, 116]⟩, .int .i64 0, .int .i64 3, .int .i64 2] 48) = w' := by
  have hs := ruled_size h
  have c0 : w.cell? ⟨0, 36, none⟩ = some (.string ⟨#[100, 115, 116, 45, 111, 117, 116]⟩) := ruled_cell h 36
  have c1 : w.cell? ⟨0, 37, none⟩ = some (.int .i64 0) := ruled_cell h 37
  have c2 : w.cell? ⟨0, 38, none⟩ = some (.int .i64 3) := ruled_cell h 38
  have c3 : w.cell? ⟨0, 39, none⟩ = some (.int .i64 2) := ruled_cell h 39
  clear h
  go_enter Tryd.func30, Tryd.ntmps30
  go_wp2
  exact bodyPost_ret (v := .tuple #[.agg #[.string ⟨#[100, 115, 116, 45, 111, 117, 116]⟩, .int .i64 0, .int .i64 3, .int .i64 2], .bool true]) (by simp [results, Tryd.results30, go_sem]) rfl ⟨rfl, rfl⟩

set_option maxHeartbeats 400000 in
theorem find_10 (w : World) (h : Ruled w) :
    Calls Tryd.prog 30 #[.int .i64 10] w fun e w' => e = .returned (.tuple #[.agg #[.string ⟨#[115, 114, 99, 45, 97, 116, 111, 112]⟩, .int .i64 2, .int .i64 3, .int .i64 2], .bool true]) ∧ w.alloc (.cells #[.string ⟨#[115, 114, 99, 45, 97, 116, 111, 112]⟩, .int .i64 2, .int .i64 3, .int .i64 2] 48) = w' := by
  have hs := ruled_size h
  have c0 : w.cell? ⟨0, 40, none⟩ = some (.string ⟨#[115, 114, 99, 45, 97, 116, 111, 112]⟩) := ruled_cell h 40
  have c1 : w.cell? ⟨0, 41, none⟩ = some (.int .i64 2) := ruled_cell h 41
  have c2 : w.cell? ⟨0, 42, none⟩ = some (.int .i64 3) := ruled_cell h 42
  have c3 : w.cell? ⟨0, 43, none⟩ = some (.int .i64 2) := ruled_cell h 43
  clear h
  go_enter Tryd.func30, Tryd.ntmps30
  go_wp2
  exact bodyPost_ret (v := .tuple #[.agg #[.string ⟨#[115, 114, 99, 45, 97, 116, 111, 112]⟩, .int .i64 2, .int .i64 3, .int .i64 2], .bool true]) (by simp [results, Tryd.results30, go_sem]) rfl ⟨rfl, rfl⟩

set_option maxHeartbeats 400000 in
theorem find_11 (w : World) (h : Ruled w) :
    Calls Tryd.prog 30 #[.int .i64 11] w fun e w' => e = .returned (.tuple #[.agg #[.string ⟨#[100, 115, 116, 45, 97, 116, 111, 112]⟩, .int .i64 3, .int .i64 2, .int .i64 1], .bool true]) ∧ w.alloc (.cells #[.string ⟨#[100, 115, 116, 45, 97, 116, 111, 112]⟩, .int .i64 3, .int .i64 2, .int .i64 1] 48) = w' := by
  have hs := ruled_size h
  have c0 : w.cell? ⟨0, 44, none⟩ = some (.string ⟨#[100, 115, 116, 45, 97, 116, 111, 112]⟩) := ruled_cell h 44
  have c1 : w.cell? ⟨0, 45, none⟩ = some (.int .i64 3) := ruled_cell h 45
  have c2 : w.cell? ⟨0, 46, none⟩ = some (.int .i64 2) := ruled_cell h 46
  have c3 : w.cell? ⟨0, 47, none⟩ = some (.int .i64 1) := ruled_cell h 47
  clear h
  go_enter Tryd.func30, Tryd.ntmps30
  go_wp2
  exact bodyPost_ret (v := .tuple #[.agg #[.string ⟨#[100, 115, 116, 45, 97, 116, 111, 112]⟩, .int .i64 3, .int .i64 2, .int .i64 1], .bool true]) (by simp [results, Tryd.results30, go_sem]) rfl ⟨rfl, rfl⟩

set_option maxHeartbeats 400000 in
theorem find_12 (w : World) (h : Ruled w) :
    Calls Tryd.prog 30 #[.int .i64 12] w fun e w' => e = .returned (.tuple #[.agg #[.string ⟨#[120, 111, 114]⟩, .int .i64 3, .int .i64 3, .int .i64 3], .bool true]) ∧ w.alloc (.cells #[.string ⟨#[120, 111, 114]⟩, .int .i64 3, .int .i64 3, .int .i64 3] 48) = w' := by
  have hs := ruled_size h
  have c0 : w.cell? ⟨0, 48, none⟩ = some (.string ⟨#[120, 111, 114]⟩) := ruled_cell h 48
  have c1 : w.cell? ⟨0, 49, none⟩ = some (.int .i64 3) := ruled_cell h 49
  have c2 : w.cell? ⟨0, 50, none⟩ = some (.int .i64 3) := ruled_cell h 50
  have c3 : w.cell? ⟨0, 51, none⟩ = some (.int .i64 3) := ruled_cell h 51
  clear h
  go_enter Tryd.func30, Tryd.ntmps30
  go_wp2
  exact bodyPost_ret (v := .tuple #[.agg #[.string ⟨#[120, 111, 114]⟩, .int .i64 3, .int .i64 3, .int .i64 3], .bool true]) (by simp [results, Tryd.results30, go_sem]) rfl ⟨rfl, rfl⟩

set_option maxHeartbeats 400000 in
theorem find_no (k : Int) (w : World) (h : k < 1 ∨ 12 < k) :
    Calls Tryd.prog 30 #[.int .i64 k] w fun e w' => e = .returned (.tuple #[.agg #[.string ⟨#[]⟩, .int .i64 0, .int .i64 0, .int .i64 0], .bool false]) ∧ w.alloc (.cells #[.string ⟨#[]⟩, .int .i64 0, .int .i64 0, .int .i64 0] 48) = w' := by
  rcases h with h | h
  all_goals
    go_enter Tryd.func30, Tryd.ntmps30
    go_wp2
    exact bodyPost_ret (v := .tuple #[.agg #[.string ⟨#[]⟩, .int .i64 0, .int .i64 0, .int .i64 0], .bool false]) (by simp [results, Tryd.results30, go_sem]) rfl ⟨rfl, rfl⟩

theorem opIs_yes {k : Int} (h0 : 1 ≤ k) (h1 : k ≤ 12) : opIs k = true := decide_eq_true ⟨h0, h1⟩
theorem opIs_no {k : Int} (h : k < 1 ∨ 12 < k) : opIs k = false := decide_eq_false (by omega)
theorem op_none {k : Int} (h : k < 1 ∨ 12 < k) : opName k = ⟨#[]⟩ ∧ opFa k = 0 ∧ opFb k = 0 ∧ opSh k = 0 := by
  unfold opName opFa opFb opSh
  refine ⟨?_, ?_, ?_, ?_⟩
  all_goals
    repeat (rw [if_neg (by omega)])

/-- find, at whatever number -/
theorem find_call (k : Int) (w : World) (h : Ruled w) :
    Calls Tryd.prog 30 #[.int .i64 k] w fun e w' => e = .returned (.tuple #[.agg #[.string (opName k), .int .i64 (opFa k), .int .i64 (opFb k), .int .i64 (opSh k)], .bool (opIs k)]) ∧ w.alloc (ruleBlock k) = w' := by
  by_cases hk : 1 ≤ k ∧ k ≤ 12
  · rw [opIs_yes hk.1 hk.2]
    rcases op_cases hk.1 hk.2 with rfl | rfl | rfl | rfl | rfl | rfl | rfl | rfl | rfl | rfl | rfl | rfl
    · exact find_1 w h
    · exact find_2 w h
    · exact find_3 w h
    · exact find_4 w h
    · exact find_5 w h
    · exact find_6 w h
    · exact find_7 w h
    · exact find_8 w h
    · exact find_9 w h
    · exact find_10 w h
    · exact find_11 w h
    · exact find_12 w h
  · have hn : k < 1 ∨ 12 < k := by omega
    obtain ⟨e0, e1, e2, e3⟩ := op_none hn
    unfold ruleBlock
    rw [opIs_no hn, e0, e1, e2, e3]
    exact find_no k w hn
end Go.Proofs.YthhmdjpcgollbaaDoor

