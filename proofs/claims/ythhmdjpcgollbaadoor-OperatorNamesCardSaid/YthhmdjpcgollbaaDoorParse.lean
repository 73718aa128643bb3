/- Contracts of operator.Parse and the reference's ParseOp. -/
import Derived.Test.YthhmdjpcgollbaaDoorLaw07a
import Derived.Laws.Rows
namespace Go.Proofs.YthhmdjpcgollbaaDoor
open Go.RowKit
set_option linter.unusedVariables false

/-- The operator with a name; 0 if there is none. -/
def parseL (l : List UInt8) : Int := if [99, 108, 101, 97, 114] = l then 1 else if [115, 114, 99] = l then 2 else if [100, 115, 116] = l then 3 else if [115, 114, 99, 45, 111, 118, 101, 114] = l then 4 else if [100, 115, 116, 45, 111, 118, 101, 114] = l then 5 else if [115, 114, 99, 45, 105, 110] = l then 6 else if [100, 115, 116, 45, 105, 110] = l then 7 else if [115, 114, 99, 45, 111, 117, 116] = l then 8 else if [100, 115, 116, 45, 111, 117, 116] = l then 9 else if [115, 114, 99, 45, 97, 116, 111, 112] = l then 10 else if [100, 115, 116, 45, 97, 116, 111, 112] = l then 11 else if [120, 111, 114] = l then 12 else 0
def parseB (l : List UInt8) : Bool := decide (parseL l ≠ 0)
theorem parse_1 (l : List UInt8)  (h : [99, 108, 101, 97, 114] = l) : parseL l = 1 ∧ parseB l = true := by
  have e : parseL l = 1 := by unfold parseL; rw [if_pos h]
  exact ⟨e, decide_eq_true (by rw [e]; decide)⟩
theorem parse_2 (l : List UInt8) (h1 : ¬ [99, 108, 101, 97, 114] = l) (h : [115, 114, 99] = l) : parseL l = 2 ∧ parseB l = true := by
  have e : parseL l = 2 := by unfold parseL; rw [if_neg h1, if_pos h]
  exact ⟨e, decide_eq_true (by rw [e]; decide)⟩
theorem parse_3 (l : List UInt8) (h1 : ¬ [99, 108, 101, 97, 114] = l) (h2 : ¬ [115, 114, 99] = l) (h : [100, 115, 116] = l) : parseL l = 3 ∧ parseB l = true := by
  have e : parseL l = 3 := by unfold parseL; rw [if_neg h1, if_neg h2, if_pos h]
  exact ⟨e, decide_eq_true (by rw [e]; decide)⟩
theorem parse_4 (l : List UInt8) (h1 : ¬ [99, 108, 101, 97, 114] = l) (h2 : ¬ [115, 114, 99] = l) (h3 : ¬ [100, 115, 116] = l) (h : [115, 114, 99, 45, 111, 118, 101, 114] = l) : parseL l = 4 ∧ parseB l = true := by
  have e : parseL l = 4 := by unfold parseL; rw [if_neg h1, if_neg h2, if_neg h3, if_pos h]
  exact ⟨e, decide_eq_true (by rw [e]; decide)⟩
theorem parse_5 (l : List UInt8) (h1 : ¬ [99, 108, 101, 97, 114] = l) (h2 : ¬ [115, 114, 99] = l) (h3 : ¬ [100, 115, 116] = l) (h4 : ¬ [115, 114, 99, 45, 111, 118, 101, 114] = l) (h : [100, 115, 116, 45, 111, 118, 101, 114] = l) : parseL l = 5 ∧ parseB l = true := by
  have e : parseL l = 5 := by unfold parseL; rw [if_neg h1, if_neg h2, if_neg h3, if_neg h4, if_pos h]
  exact ⟨e, decide_eq_true (by rw [e]; decide)⟩
theorem parse_6 (l : List UInt8) (h1 : ¬ [99, 108, 101, 97, 114] = l) (h2 : ¬ [115, 114, 99] = l) (h3 : ¬ [100, 115, 116] = l) (h4 : ¬ [115, 114, 99, 45, 111, 118, 101, 114] = l) (h5 : ¬ [100, 115, 116, 45, 111, 118, 101, 114] = l) (h : [115, 114, 99, 45, 105, 110] = l) : parseL l = 6 ∧ parseB l = true := by
  have e : parseL l = 6 := by unfold parseL; rw [if_neg h1, if_neg h2, if_neg h3, if_neg h4, if_neg h5, if_pos h]
  exact ⟨e, decide_eq_true (by rw [e]; decide)⟩
theorem parse_7 (l : List UInt8) (h1 : ¬ [99, 108, 101, 97, 114] = l) (h2 : ¬ [115, 114, 99] = l) (h3 : ¬ [100, 115, 116] = l) (h4 : ¬ [115, 114, 99, 45, 111, 118, 101, 114] = l) (h5 : ¬ [100, 115, 116, 45, 111, 118, 101, 114] = l) (h6 : ¬ [115, 114, 99, 45, 105, 110] = l) (h : [100, 115, 116, 45, 105, 110] = l) : parseL l = 7 ∧ parseB l = true := by
  have e : parseL l = 7 := by unfold parseL; rw [if_neg h1, if_neg h2, if_neg h3, if_neg h4, if_neg h5, if_neg h6, if_pos h]
  exact ⟨e, decide_eq_true (by rw [e]; decide)⟩
theorem parse_8 (l : List UInt8) (h1 : ¬ [99, 108, 101, 97, 114] = l) (h2 : ¬ [115, 114, 99] = l) (h3 : ¬ [100, 115, 116] = l) (h4 : ¬ [115, 114, 99, 45, 111, 118, 101, 114] = l) (h5 : ¬ [100, 115, 116, 45, 111, 118, 101, 114] = l) (h6 : ¬ [115, 114, 99, 45, 105, 110] = l) (h7 : ¬ [100, 115, 116, 45, 105, 110] = l) (h : [115, 114, 99, 45, 111, 117, 116] = l) : parseL l = 8 ∧ parseB l = true := by
  have e : parseL l = 8 := by unfold parseL; rw [if_neg h1, if_neg h2, if_neg h3, if_neg h4, if_neg h5, if_neg h6, if_neg h7, if_pos h]
  exact ⟨e, decide_eq_true (by rw [e]; decide)⟩
theorem parse_9 (l : List UInt8) (h1 : ¬ [99, 108, 101, 97, 114] = l) (h2 : ¬ [115, 114, 99] = l) (h3 : ¬ [100, 115, 116] = l) (h4 : ¬ [115, 114, 99, 45, 111, 118, 101, 114] = l) (h5 : ¬ [100, 115, 116, 45, 111, 118, 101, 114] = l) (h6 : ¬ [115, 114, 99, 45, 105, 110] = l) (h7 : ¬ [100, 115, 116, 45, 105, 110] = l) (h8 : ¬ [115, 114, 99, 45, 111, 117, 116] = l) (h : [100, 115, 116, 45, 111, 117, 116] = l) : parseL l = 9 ∧ parseB l = true := by
  have e : parseL l = 9 := by unfold parseL; rw [if_neg h1, if_neg h2, if_neg h3, if_neg h4, if_neg h5, if_neg h6, if_neg h7, if_neg h8, if_pos h]
  exact ⟨e, decide_eq_true (by rw [e]; decide)⟩
theorem parse_10 (l : List UInt8) (h1 : ¬ [99, 108, 101, 97, 114] = l) (h2 : ¬ [115, 114, 99] = l) (h3 : ¬ [100, 115, 116] = l) (h4 : ¬ [115, 114, 99, 45, 111, 118, 101, 114] = l) (h5 : ¬ [100, 115, 116, 45, 111, 118, 101, 114] = l) (h6 : ¬ [115, 114, 99, 45, 105, 110] = l) (h7 : ¬ [100, 115, 116, 45, 105, 110] = l) (h8 : ¬ [115, 114, 99, 45, 111, 117, 116] = l) (h9 : ¬ [100, 115, 116, 45, 111, 117, 116] = l) (h : [115, 114, 99, 45, 97, 116, 111, 112] = l) : parseL l = 10 ∧ parseB l = true := by
  have e : parseL l = 10 := by unfold parseL; rw [if_neg h1, if_neg h2, if_neg h3, if_neg h4, if_neg h5, if_neg h6, if_neg h7, if_neg h8, if_neg h9, if_pos h]
  exact ⟨e, decide_eq_true (by rw [e]; decide)⟩
theorem parse_11 (l : List UInt8) (h1 : ¬ [99, 108, 101, 97, 114] = l) (h2 : ¬ [115, 114, 99] = l) (h3 : ¬ [100, 115, 116] = l) (h4 : ¬ [115, 114, 99, 45, 111, 118, 101, 114] = l) (h5 : ¬ [100, 115, 116, 45, 111, 118, 101, 114] = l) (h6 : ¬ [115, 114, 99, 45, 105, 110] = l) (h7 : ¬ [100, 115, 116, 45, 105, 110] = l) (h8 : ¬ [115, 114, 99, 45, 111, 117, 116] = l) (h9 : ¬ [100, 115, 116, 45, 111, 117, 116] = l) (h10 : ¬ [115, 114, 99, 45, 97, 116, 111, 112] = l) (h : [100, 115, 116, 45, 97, 116, 111, 112] = l) : parseL l = 11 ∧ parseB l = true := by
  have e : parseL l = 11 := by unfold parseL; rw [if_neg h1, if_neg h2, if_neg h3, if_neg h4, if_neg h5, if_neg h6, if_neg h7, if_neg h8, if_neg h9, if_neg h10, if_pos h]
  exact ⟨e, decide_eq_true (by rw [e]; decide)⟩
theorem parse_12 (l : List UInt8) (h1 : ¬ [99, 108, 101, 97, 114] = l) (h2 : ¬ [115, 114, 99] = l) (h3 : ¬ [100, 115, 116] = l) (h4 : ¬ [115, 114, 99, 45, 111, 118, 101, 114] = l) (h5 : ¬ [100, 115, 116, 45, 111, 118, 101, 114] = l) (h6 : ¬ [115, 114, 99, 45, 105, 110] = l) (h7 : ¬ [100, 115, 116, 45, 105, 110] = l) (h8 : ¬ [115, 114, 99, 45, 111, 117, 116] = l) (h9 : ¬ [100, 115, 116, 45, 111, 117, 116] = l) (h10 : ¬ [115, 114, 99, 45, 97, 116, 111, 112] = l) (h11 : ¬ [100, 115, 116, 45, 97, 116, 111, 112] = l) (h : [120, 111, 114] = l) : parseL l = 12 ∧ parseB l = true := by
  have e : parseL l = 12 := by unfold parseL; rw [if_neg h1, if_neg h2, if_neg h3, if_neg h4, if_neg h5, if_neg h6, if_neg h7, if_neg h8, if_neg h9, if_neg h10, if_neg h11, if_pos h]
  exact ⟨e, decide_eq_true (by rw [e]; decide)⟩
theorem parse_no (l : List UInt8) (h1 : ¬ [99, 108, 101, 97, 114] = l) (h2 : ¬ [115, 114, 99] = l) (h3 : ¬ [100, 115, 116] = l) (h4 : ¬ [115, 114, 99, 45, 111, 118, 101, 114] = l) (h5 : ¬ [100, 115, 116, 45, 111, 118, 101, 114] = l) (h6 : ¬ [115, 114, 99, 45, 105, 110] = l) (h7 : ¬ [100, 115, 116, 45, 105, 110] = l) (h8 : ¬ [115, 114, 99, 45, 111, 117, 116] = l) (h9 : ¬ [100, 115, 116, 45, 111, 117, 116] = l) (h10 : ¬ [115, 114, 99, 45, 97, 116, 111, 112] = l) (h11 : ¬ [100, 115, 116, 45, 97, 116, 111, 112] = l) (h12 : ¬ [120, 111, 114] = l) : parseL l = 0 ∧ parseB l = false := by
  have e : parseL l = 0 := by unfold parseL; rw [if_neg h1, if_neg h2, if_neg h3, if_neg h4, if_neg h5, if_neg h6, if_neg h7, if_neg h8, if_neg h9, if_neg h10, if_neg h11, if_neg h12]
  exact ⟨e, decide_eq_false (by rw [e]; decide)⟩
theorem parse_nil (l : List UInt8) (h : l = []) : parseL l = 0 ∧ parseB l = false := by subst h; exact parse_no [] (by simp) (by simp) (by simp) (by simp) (by simp) (by simp) (by simp) (by simp) (by simp) (by simp) (by simp) (by simp)
theorem ret_parse {l : List UInt8} {n : Int} {b : Bool} (h : parseL l = n ∧ parseB l = b) : Ending.returned (.tuple #[.int .i64 n, .bool b]) = .returned (.tuple #[.int .i64 (parseL l), .bool (parseB l)]) := by rw [h.1, h.2]

set_option maxHeartbeats 4000000 in
set_option maxRecDepth 100000 in
theorem parse_call (s : ByteArray) (w : World) (hR : Ruled w) :
    Calls Tryd.prog 22 #[.string s] w fun e w' => e = .returned (.tuple #[.int .i64 (parseL s.toList), .bool (parseB s.toList)]) ∧ ∃ p, w' = more w p := by
  obtain ⟨T, fr, hh⟩ := hR
  have i0 : ∀ w : World, (Instr.index 53 (.agg ruleCells.toArray) (.int .i64 0)).run Tryd.prog w = .ok (.agg #[.string ⟨#[]⟩, .int .i64 0, .int .i64 0, .int .i64 0]) w := fun _ => by kernel_rfl
  have i1 : ∀ w : World, (Instr.index 53 (.agg ruleCells.toArray) (.int .i64 1)).run Tryd.prog w = .ok (.agg #[.string ⟨#[99, 108, 101, 97, 114]⟩, .int .i64 0, .int .i64 0, .int .i64 0]) w := fun _ => by kernel_rfl
  have i2 : ∀ w : World, (Instr.index 53 (.agg ruleCells.toArray) (.int .i64 2)).run Tryd.prog w = .ok (.agg #[.string ⟨#[115, 114, 99]⟩, .int .i64 1, .int .i64 0, .int .i64 1]) w := fun _ => by kernel_rfl
  have i3 : ∀ w : World, (Instr.index 53 (.agg ruleCells.toArray) (.int .i64 3)).run Tryd.prog w = .ok (.agg #[.string ⟨#[100, 115, 116]⟩, .int .i64 0, .int .i64 1, .int .i64 2]) w := fun _ => by kernel_rfl
  have i4 : ∀ w : World, (Instr.index 53 (.agg ruleCells.toArray) (.int .i64 4)).run Tryd.prog w = .ok (.agg #[.string ⟨#[115, 114, 99, 45, 111, 118, 101, 114]⟩, .int .i64 1, .int .i64 3, .int .i64 3]) w := fun _ => by kernel_rfl
  have i5 : ∀ w : World, (Instr.index 53 (.agg ruleCells.toArray) (.int .i64 5)).run Tryd.prog w = .ok (.agg #[.string ⟨#[100, 115, 116, 45, 111, 118, 101, 114]⟩, .int .i64 3, .int .i64 1, .int .i64 3]) w := fun _ => by kernel_rfl
  have i6 : ∀ w : World, (Instr.index 53 (.agg ruleCells.toArray) (.int .i64 6)).run Tryd.prog w = .ok (.agg #[.string ⟨#[115, 114, 99, 45, 105, 110]⟩, .int .i64 2, .int .i64 0, .int .i64 4]) w := fun _ => by kernel_rfl
  have i7 : ∀ w : World, (Instr.index 53 (.agg ruleCells.toArray) (.int .i64 7)).run Tryd.prog w = .ok (.agg #[.string ⟨#[100, 115, 116, 45, 105, 110]⟩, .int .i64 0, .int .i64 2, .int .i64 4]) w := fun _ => by kernel_rfl
  have i8 : ∀ w : World, (Instr.index 53 (.agg ruleCells.toArray) (.int .i64 8)).run Tryd.prog w = .ok (.agg #[.string ⟨#[115, 114, 99, 45, 111, 117, 116]⟩, .int .i64 3, .int .i64 0, .int .i64 1]) w := fun _ => by kernel_rfl
  have i9 : ∀ w : World, (Instr.index 53 (.agg ruleCells.toArray) (.int .i64 9)).run Tryd.prog w = .ok (.agg #[.string ⟨#[100, 115, 116, 45, 111, 117, 116]⟩, .int .i64 0, .int .i64 3, .int .i64 2]) w := fun _ => by kernel_rfl
  have i10 : ∀ w : World, (Instr.index 53 (.agg ruleCells.toArray) (.int .i64 10)).run Tryd.prog w = .ok (.agg #[.string ⟨#[115, 114, 99, 45, 97, 116, 111, 112]⟩, .int .i64 2, .int .i64 3, .int .i64 2]) w := fun _ => by kernel_rfl
  have i11 : ∀ w : World, (Instr.index 53 (.agg ruleCells.toArray) (.int .i64 11)).run Tryd.prog w = .ok (.agg #[.string ⟨#[100, 115, 116, 45, 97, 116, 111, 112]⟩, .int .i64 3, .int .i64 2, .int .i64 1]) w := fun _ => by kernel_rfl
  have i12 : ∀ w : World, (Instr.index 53 (.agg ruleCells.toArray) (.int .i64 12)).run Tryd.prog w = .ok (.agg #[.string ⟨#[120, 111, 114]⟩, .int .i64 3, .int .i64 3, .int .i64 3]) w := fun _ => by kernel_rfl
  by_cases h0 : s.toList = []
  · obtain ⟨e1, e2⟩ := parse_nil s.toList h0
    rw [e1, e2]
    clear e1 e2
    go_enter Tryd.func22, Tryd.ntmps22
    go_wp2_with (refine wpList_load_row rfl 53 (.global 0) rfl 0 rfl T ruleCells.toArray fr _ hh Tryd.underlying53 rfl (by kernel_rfl) ?_)
    refine wp_loop_rounds 14 ?_
    iterate 14 all_goals (first | (rw [rounds_succ]; go_wp2) | skip)
    go_ret2
    exact ⟨rfl, ⟨[_, _, _, _, _, _, _, _, _, _, _, _, _], 0⟩, rfl⟩
  · go_enter Tryd.func22, Tryd.ntmps22
    go_wp2_with (refine wpList_load_row rfl 53 (.global 0) rfl 0 rfl T ruleCells.toArray fr _ hh Tryd.underlying53 rfl (by kernel_rfl) ?_)
    refine wp_loop_rounds 14 ?_
    iterate 14 all_goals (first | (rw [rounds_succ]; go_wp2) | skip)
    all_goals (go_ret2; first
      | (refine ⟨ret_parse (parse_1 s.toList ?_), ⟨[_, _], 0⟩, rfl⟩ <;> assumption)
      | (refine ⟨ret_parse (parse_2 s.toList ?_ ?_), ⟨[_, _, _], 0⟩, rfl⟩ <;> assumption)
      | (refine ⟨ret_parse (parse_3 s.toList ?_ ?_ ?_), ⟨[_, _, _, _], 0⟩, rfl⟩ <;> assumption)
      | (refine ⟨ret_parse (parse_4 s.toList ?_ ?_ ?_ ?_), ⟨[_, _, _, _, _], 0⟩, rfl⟩ <;> assumption)
      | (refine ⟨ret_parse (parse_5 s.toList ?_ ?_ ?_ ?_ ?_), ⟨[_, _, _, _, _, _], 0⟩, rfl⟩ <;> assumption)
      | (refine ⟨ret_parse (parse_6 s.toList ?_ ?_ ?_ ?_ ?_ ?_), ⟨[_, _, _, _, _, _, _], 0⟩, rfl⟩ <;> assumption)
      | (refine ⟨ret_parse (parse_7 s.toList ?_ ?_ ?_ ?_ ?_ ?_ ?_), ⟨[_, _, _, _, _, _, _, _], 0⟩, rfl⟩ <;> assumption)
      | (refine ⟨ret_parse (parse_8 s.toList ?_ ?_ ?_ ?_ ?_ ?_ ?_ ?_), ⟨[_, _, _, _, _, _, _, _, _], 0⟩, rfl⟩ <;> assumption)
      | (refine ⟨ret_parse (parse_9 s.toList ?_ ?_ ?_ ?_ ?_ ?_ ?_ ?_ ?_), ⟨[_, _, _, _, _, _, _, _, _, _], 0⟩, rfl⟩ <;> assumption)
      | (refine ⟨ret_parse (parse_10 s.toList ?_ ?_ ?_ ?_ ?_ ?_ ?_ ?_ ?_ ?_), ⟨[_, _, _, _, _, _, _, _, _, _, _], 0⟩, rfl⟩ <;> assumption)
      | (refine ⟨ret_parse (parse_11 s.toList ?_ ?_ ?_ ?_ ?_ ?_ ?_ ?_ ?_ ?_ ?_), ⟨[_, _, _, _, _, _, _, _, _, _, _, _], 0⟩, rfl⟩ <;> assumption)
      | (refine ⟨ret_parse (parse_12 s.toList ?_ ?_ ?_ ?_ ?_ ?_ ?_ ?_ ?_ ?_ ?_ ?_), ⟨[_, _, _, _, _, _, _, _, _, _, _, _, _], 0⟩, rfl⟩ <;> assumption)
      | (refine ⟨ret_parse (parse_no s.toList ?_ ?_ ?_ ?_ ?_ ?_ ?_ ?_ ?_ ?_ ?_ ?_), ⟨[_, _, _, _, _, _, _, _, _, _, _, _, _], 0⟩, rfl⟩ <;> assumption))

set_option maxHeartbeats 4000000 in
set_option maxRecDepth 100000 in
theorem refParse_call (s : ByteArray) (w : World) :
    Calls Tryd.prog 23 #[.string s] w fun e w' => e = .returned (.tuple #[.int .i64 (parseL s.toList), .bool (parseB s.toList)]) ∧ ∃ p, w' = more w p := by
  go_enter Tryd.func23, Tryd.ntmps23
  go_wp2_with fail
  refine wp_loop_rounds 13 ?_
  iterate 13 all_goals (first | (rw [rounds_succ]; go_wp2_with (first
      | (go_at_call 24; first | ((with_reducible refine (calls_more (refName_1 _)).mono ?_); rintro e w1 ⟨rfl, p, rfl⟩) | ((with_reducible refine (refName_1 _).mono ?_); rintro e w1 ⟨rfl, p, rfl⟩))
      | (go_at_call 24; first | ((with_reducible refine (calls_more (refName_2 _)).mono ?_); rintro e w1 ⟨rfl, p, rfl⟩) | ((with_reducible refine (refName_2 _).mono ?_); rintro e w1 ⟨rfl, p, rfl⟩))
      | (go_at_call 24; first | ((with_reducible refine (calls_more (refName_3 _)).mono ?_); rintro e w1 ⟨rfl, p, rfl⟩) | ((with_reducible refine (refName_3 _).mono ?_); rintro e w1 ⟨rfl, p, rfl⟩))
      | (go_at_call 24; first | ((with_reducible refine (calls_more (refName_4 _)).mono ?_); rintro e w1 ⟨rfl, p, rfl⟩) | ((with_reducible refine (refName_4 _).mono ?_); rintro e w1 ⟨rfl, p, rfl⟩))
      | (go_at_call 24; first | ((with_reducible refine (calls_more (refName_5 _)).mono ?_); rintro e w1 ⟨rfl, p, rfl⟩) | ((with_reducible refine (refName_5 _).mono ?_); rintro e w1 ⟨rfl, p, rfl⟩))
      | (go_at_call 24; first | ((with_reducible refine (calls_more (refName_6 _)).mono ?_); rintro e w1 ⟨rfl, p, rfl⟩) | ((with_reducible refine (refName_6 _).mono ?_); rintro e w1 ⟨rfl, p, rfl⟩))
      | (go_at_call 24; first | ((with_reducible refine (calls_more (refName_7 _)).mono ?_); rintro e w1 ⟨rfl, p, rfl⟩) | ((with_reducible refine (refName_7 _).mono ?_); rintro e w1 ⟨rfl, p, rfl⟩))
      | (go_at_call 24; first | ((with_reducible refine (calls_more (refName_8 _)).mono ?_); rintro e w1 ⟨rfl, p, rfl⟩) | ((with_reducible refine (refName_8 _).mono ?_); rintro e w1 ⟨rfl, p, rfl⟩))
      | (go_at_call 24; first | ((with_reducible refine (calls_more (refName_9 _)).mono ?_); rintro e w1 ⟨rfl, p, rfl⟩) | ((with_reducible refine (refName_9 _).mono ?_); rintro e w1 ⟨rfl, p, rfl⟩))
      | (go_at_call 24; first | ((with_reducible refine (calls_more (refName_10 _)).mono ?_); rintro e w1 ⟨rfl, p, rfl⟩) | ((with_reducible refine (refName_10 _).mono ?_); rintro e w1 ⟨rfl, p, rfl⟩))
      | (go_at_call 24; first | ((with_reducible refine (calls_more (refName_11 _)).mono ?_); rintro e w1 ⟨rfl, p, rfl⟩) | ((with_reducible refine (refName_11 _).mono ?_); rintro e w1 ⟨rfl, p, rfl⟩))
      | (go_at_call 24; first | ((with_reducible refine (calls_more (refName_12 _)).mono ?_); rintro e w1 ⟨rfl, p, rfl⟩) | ((with_reducible refine (refName_12 _).mono ?_); rintro e w1 ⟨rfl, p, rfl⟩)))) | skip)
  all_goals (go_ret2; first
    | (refine ⟨ret_parse (parse_1 s.toList (eq_of_beq ?_)), _, rfl⟩ <;> assumption)
    | (refine ⟨ret_parse (parse_2 s.toList (ne_of_beq_false ?_) (eq_of_beq ?_)), _, rfl⟩ <;> assumption)
    | (refine ⟨ret_parse (parse_3 s.toList (ne_of_beq_false ?_) (ne_of_beq_false ?_) (eq_of_beq ?_)), _, rfl⟩ <;> assumption)
    | (refine ⟨ret_parse (parse_4 s.toList (ne_of_beq_false ?_) (ne_of_beq_false ?_) (ne_of_beq_false ?_) (eq_of_beq ?_)), _, rfl⟩ <;> assumption)
    | (refine ⟨ret_parse (parse_5 s.toList (ne_of_beq_false ?_) (ne_of_beq_false ?_) (ne_of_beq_false ?_) (ne_of_beq_false ?_) (eq_of_beq ?_)), _, rfl⟩ <;> assumption)
    | (refine ⟨ret_parse (parse_6 s.toList (ne_of_beq_false ?_) (ne_of_beq_false ?_) (ne_of_beq_false ?_) (ne_of_beq_false ?_) (ne_of_beq_false ?_) (eq_of_beq ?_)), _, rfl⟩ <;> assumption)
    | (refine ⟨ret_parse (parse_7 s.toList (ne_of_beq_false ?_) (ne_of_beq_false ?_) (ne_of_beq_false ?_) (ne_of_beq_false ?_) (ne_of_beq_false ?_) (ne_of_beq_false ?_) (eq_of_beq ?_)), _, rfl⟩ <;> assumption)
    | (refine ⟨ret_parse (parse_8 s.toList (ne_of_beq_false ?_) (ne_of_beq_false ?_) (ne_of_beq_false ?_) (ne_of_beq_false ?_) (ne_of_beq_false ?_) (ne_of_beq_false ?_) (ne_of_beq_false ?_) (eq_of_beq ?_)), _, rfl⟩ <;> assumption)
    | (refine ⟨ret_parse (parse_9 s.toList (ne_of_beq_false ?_) (ne_of_beq_false ?_) (ne_of_beq_false ?_) (ne_of_beq_false ?_) (ne_of_beq_false ?_) (ne_of_beq_false ?_) (ne_of_beq_false ?_) (ne_of_beq_false ?_) (eq_of_beq ?_)), _, rfl⟩ <;> assumption)
    | (refine ⟨ret_parse (parse_10 s.toList (ne_of_beq_false ?_) (ne_of_beq_false ?_) (ne_of_beq_false ?_) (ne_of_beq_false ?_) (ne_of_beq_false ?_) (ne_of_beq_false ?_) (ne_of_beq_false ?_) (ne_of_beq_false ?_) (ne_of_beq_false ?_) (eq_of_beq ?_)), _, rfl⟩ <;> assumption)
    | (refine ⟨ret_parse (parse_11 s.toList (ne_of_beq_false ?_) (ne_of_beq_false ?_) (ne_of_beq_false ?_) (ne_of_beq_false ?_) (ne_of_beq_false ?_) (ne_of_beq_false ?_) (ne_of_beq_false ?_) (ne_of_beq_false ?_) (ne_of_beq_false ?_) (ne_of_beq_false ?_) (eq_of_beq ?_)), _, rfl⟩ <;> assumption)
    | (refine ⟨ret_parse (parse_12 s.toList (ne_of_beq_false ?_) (ne_of_beq_false ?_) (ne_of_beq_false ?_) (ne_of_beq_false ?_) (ne_of_beq_false ?_) (ne_of_beq_false ?_) (ne_of_beq_false ?_) (ne_of_beq_false ?_) (ne_of_beq_false ?_) (ne_of_beq_false ?_) (ne_of_beq_false ?_) (eq_of_beq ?_)), _, rfl⟩ <;> assumption)
    | (refine ⟨ret_parse (parse_no s.toList (ne_of_beq_false ?_) (ne_of_beq_false ?_) (ne_of_beq_false ?_) (ne_of_beq_false ?_) (ne_of_beq_false ?_) (ne_of_beq_false ?_) (ne_of_beq_false ?_) (ne_of_beq_false ?_) (ne_of_beq_false ?_) (ne_of_beq_false ?_) (ne_of_beq_false ?_) (ne_of_beq_false ?_)), _, rfl⟩ <;> assumption))

set_option maxHeartbeats 4000000 in
set_option maxRecDepth 100000 in
theorem operatorNames_walk (op : Int) (s : ByteArray) (w : World) (hR : Ruled w) (opl : -9223372036854775808 ≤ op) (oph : op ≤ 9223372036854775807) (hs : s.size ≤ maxLen) :
    Calls Tryd.prog 8 #[.int .i64 op, .string s] w fun e w' => e = .returned (.bool true) ∧ Below w.heap.size w w' := by
  have hR' := ruled_more hR
  have k0 : 0 ≤ op % 15 := by omega
  have k1 : op % 15 ≤ 14 := by omega
  clear hs
  go_enter Tryd.func8, Tryd.ntmps8
  go_wp2_with (first
    | (go_at_call 11; (with_reducible refine (mod_call _ _ _ (by omega) (by omega)).mono ?_); rintro e w' ⟨rfl, rfl⟩)
    | (go_at_call 22; first | ((with_reducible refine (calls_more (parse_call _ _ (hR' _))).mono ?_); rintro e w1 ⟨rfl, p, rfl⟩) | ((with_reducible refine (parse_call _ _ hR).mono ?_); rintro e w1 ⟨rfl, p, rfl⟩))
    | (go_at_call 23; first | ((with_reducible refine (calls_more (refParse_call _ _)).mono ?_); rintro e w1 ⟨rfl, p, rfl⟩) | ((with_reducible refine (refParse_call _ _).mono ?_); rintro e w1 ⟨rfl, p, rfl⟩))
    | (go_at_call 24; first | ((with_reducible refine (calls_more (refName_call _ _)).mono ?_); rintro e w1 ⟨rfl, p, rfl⟩) | ((with_reducible refine (refName_call _ _).mono ?_); rintro e w1 ⟨rfl, p, rfl⟩))
    | (go_at_call 25; first | ((with_reducible refine (calls_more (name_call _ _ (hR' _))).mono ?_); rintro e w1 ⟨rfl, p, rfl⟩) | ((with_reducible refine (name_call _ _ hR).mono ?_); rintro e w1 ⟨rfl, p, rfl⟩))
    | (go_at_call 15; first | ((with_reducible refine (calls_more (awake07 _ (hR' _))).mono ?_); rintro e w1 ⟨rfl, p, rfl⟩) | ((with_reducible refine (awake07 _ hR).mono ?_); rintro e w1 ⟨rfl, p, rfl⟩)))
  go_ret
  exact ⟨rfl, more_below _ _⟩
end Go.Proofs.YthhmdjpcgollbaaDoor
