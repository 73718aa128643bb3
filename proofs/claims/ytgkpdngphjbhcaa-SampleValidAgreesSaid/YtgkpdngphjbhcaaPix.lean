/- Contracts of the functions on pixels: sample.Valid, ref01.ValidPixel, scale.Pixel, ref06.Scale. -/
import Derived.Test.YtgkpdngphjbhcaaSamp
import Derived.Handy
namespace Go.Proofs.Ytgkpdngphjbhcaa
open Go.RowKit

theorem ret_bool {a b : Bool} (h : a = b) : Ending.returned (.bool a) = .returned (.bool b) := by rw [h]
theorem bcell {W w1 : World} (hb : Below W.heap.size W w1) : (∀ b o, b < W.heap.size → w1.cell? ⟨b, o, none⟩ = W.cell? ⟨b, o, none⟩) ∧ (∀ b o, b < W.heap.size → w1.frozen? ⟨b, o, none⟩ = W.frozen? ⟨b, o, none⟩) :=
  ⟨fun b o h => hb.cell (p := ⟨b, o, none⟩) h, fun b o h => hb.frozen (p := ⟨b, o, none⟩) h⟩
theorem below_drewN {B : Nat} {a w : World} (h : Below B a w) (n : Nat) : Below B a (w.drewN n) := ⟨h.os, h.tape, h.output, h.size, h.block⟩

/-- Whether a pixel is valid for a maximum. -/
def validB (x y z a f m : Int) : Bool := decide (x ≤ a ∧ y ≤ a ∧ z ≤ a ∧ a ≤ f ∧ f ≤ m)

set_option maxHeartbeats 400000 in
theorem valid_call (x y z a f m : Int) (w : World) :
    Calls Try.prog 26 #[.agg #[.int .u16 x, .int .u16 y, .int .u16 z, .int .u16 a, .int .u16 f], .int .u16 m] w fun e w' => e = .returned (.bool (validB x y z a f m)) ∧ w.alloc (.cells #[.int .u16 x, .int .u16 y, .int .u16 z, .int .u16 a, .int .u16 f] 34) = w' := by
  have i0 : ∀ (b0 b1 b2 : Value) (w : World), (Instr.index 32 (.agg #[b0, b1, b2]) (.int .i64 0)).run Try.prog w = .ok b0 w := fun _ _ _  _ => by kernel_rfl
  have i1 : ∀ (b0 b1 b2 : Value) (w : World), (Instr.index 32 (.agg #[b0, b1, b2]) (.int .i64 1)).run Try.prog w = .ok b1 w := fun _ _ _  _ => by kernel_rfl
  have i2 : ∀ (b0 b1 b2 : Value) (w : World), (Instr.index 32 (.agg #[b0, b1, b2]) (.int .i64 2)).run Try.prog w = .ok b2 w := fun _ _ _  _ => by kernel_rfl
  go_enter Try.func26, Try.ntmps26
  go_wp2
  go_rounds 4
  all_goals
    go_ret
    refine ⟨ret_bool ?_, rfl⟩
    unfold validB
    first | exact (decide_eq_false (by omega)).symm | exact decide_eq_decide.2 (by omega)

set_option maxHeartbeats 400000 in
theorem refValid_call (x y z a f m : Int) (w : World) :
    Calls Try.prog 27 #[.agg #[.int .u16 x, .int .u16 y, .int .u16 z, .int .u16 a, .int .u16 f], .int .u16 m] w fun e w' => e = .returned (.bool (validB x y z a f m)) ∧ w.alloc (.cells #[.int .u16 x, .int .u16 y, .int .u16 z, .int .u16 a, .int .u16 f] 34) = w' := by
  go_enter Try.func27, Try.ntmps27
  go_wp2
  all_goals
    go_ret
    refine ⟨ret_bool ?_, rfl⟩
    unfold validB
    first | exact (decide_eq_false (by omega)).symm | exact decide_eq_decide.2 (by omega)

set_option maxHeartbeats 1000000 in
theorem scale255 (x y z a f k : Int) (w : World) (hv : validB x y z a f 255 = true) (x0 : 0 ≤ x) (y0 : 0 ≤ y) (z0 : 0 ≤ z) (k0 : 0 ≤ k) (k1 : k ≤ 255) :
    Calls Try.prog 35 #[.agg #[.int .u16 x, .int .u16 y, .int .u16 z, .int .u16 a, .int .u16 f], .int .u16 k, .int .u16 255] w fun e w' =>
      e = .returned (.tuple #[.agg #[.int .u16 (halfI (x * k) 255), .int .u16 (halfI (y * k) 255), .int .u16 (halfI (z * k) 255), .int .u16 (halfI (a * k) 255), .int .u16 (halfI (f * k) 255)], .bool true]) ∧ ∃ o1 o2 o3 : Obj, w' = (((w.alloc o1).alloc o2).alloc o3) := by
  have i0 : ∀ (b0 b1 b2 b3 b4 : Value) (w : World), (Instr.index 56 (.agg #[b0, b1, b2, b3, b4]) (.int .i64 0)).run Try.prog w = .ok b0 w := fun _ _ _ _ _  _ => by kernel_rfl
  have i1 : ∀ (b0 b1 b2 b3 b4 : Value) (w : World), (Instr.index 56 (.agg #[b0, b1, b2, b3, b4]) (.int .i64 1)).run Try.prog w = .ok b1 w := fun _ _ _ _ _  _ => by kernel_rfl
  have i2 : ∀ (b0 b1 b2 b3 b4 : Value) (w : World), (Instr.index 56 (.agg #[b0, b1, b2, b3, b4]) (.int .i64 2)).run Try.prog w = .ok b2 w := fun _ _ _ _ _  _ => by kernel_rfl
  have i3 : ∀ (b0 b1 b2 b3 b4 : Value) (w : World), (Instr.index 56 (.agg #[b0, b1, b2, b3, b4]) (.int .i64 3)).run Try.prog w = .ok b3 w := fun _ _ _ _ _  _ => by kernel_rfl
  have i4 : ∀ (b0 b1 b2 b3 b4 : Value) (w : World), (Instr.index 56 (.agg #[b0, b1, b2, b3, b4]) (.int .i64 4)).run Try.prog w = .ok b4 w := fun _ _ _ _ _  _ => by kernel_rfl
  obtain ⟨v0, v1, v2, v3, v4⟩ : x ≤ a ∧ y ≤ a ∧ z ≤ a ∧ a ≤ f ∧ f ≤ 255 := by simpa [validB] using hv
  obtain ⟨p0, p1⟩ := mul_bound x k 255 255 (by omega) (by omega) (by omega) (by omega)
  obtain ⟨p2, p3⟩ := mul_bound y k 255 255 (by omega) (by omega) (by omega) (by omega)
  obtain ⟨p4, p5⟩ := mul_bound z k 255 255 (by omega) (by omega) (by omega) (by omega)
  obtain ⟨p6, p7⟩ := mul_bound a k 255 255 (by omega) (by omega) (by omega) (by omega)
  obtain ⟨p8, p9⟩ := mul_bound f k 255 255 (by omega) (by omega) (by omega) (by omega)
  obtain ⟨q0, q1⟩ := half_range (x * k) 255 255 p0 (by omega) (by omega) (by omega)
  obtain ⟨q2, q3⟩ := half_range (y * k) 255 255 p2 (by omega) (by omega) (by omega)
  obtain ⟨q4, q5⟩ := half_range (z * k) 255 255 p4 (by omega) (by omega) (by omega)
  obtain ⟨q6, q7⟩ := half_range (a * k) 255 255 p6 (by omega) (by omega) (by omega)
  obtain ⟨q8, q9⟩ := half_range (f * k) 255 255 p8 (by omega) (by omega) (by omega)
  go_enter Try.func35, Try.ntmps35
  go_wp2_with (go_at_call 26; refine (valid_call _ _ _ _ _ _ _).mono ?_; rintro e w1 ⟨rfl, rfl⟩)
  refine wp_loop_rounds 6 ?_
  iterate 5
    rw [rounds_succ]
    go_wp2_with fail
    refine (by255_call _ _ (by omega) (by omega)).mono ?_
    rintro e w' ⟨rfl, rfl⟩
    go_wp2_with fail
  rw [rounds_succ]
  go_wp2_with fail
  go_returns
  exact ⟨rfl, _, _, _, rfl⟩

set_option maxHeartbeats 1000000 in
theorem scale65535 (x y z a f k : Int) (w : World) (hv : validB x y z a f 65535 = true) (x0 : 0 ≤ x) (y0 : 0 ≤ y) (z0 : 0 ≤ z) (k0 : 0 ≤ k) (k1 : k ≤ 65535) :
    Calls Try.prog 35 #[.agg #[.int .u16 x, .int .u16 y, .int .u16 z, .int .u16 a, .int .u16 f], .int .u16 k, .int .u16 65535] w fun e w' =>
      e = .returned (.tuple #[.agg #[.int .u16 (halfI (x * k) 65535), .int .u16 (halfI (y * k) 65535), .int .u16 (halfI (z * k) 65535), .int .u16 (halfI (a * k) 65535), .int .u16 (halfI (f * k) 65535)], .bool true]) ∧ ∃ o1 o2 o3 : Obj, w' = (((w.alloc o1).alloc o2).alloc o3) := by
  have i0 : ∀ (b0 b1 b2 b3 b4 : Value) (w : World), (Instr.index 56 (.agg #[b0, b1, b2, b3, b4]) (.int .i64 0)).run Try.prog w = .ok b0 w := fun _ _ _ _ _  _ => by kernel_rfl
  have i1 : ∀ (b0 b1 b2 b3 b4 : Value) (w : World), (Instr.index 56 (.agg #[b0, b1, b2, b3, b4]) (.int .i64 1)).run Try.prog w = .ok b1 w := fun _ _ _ _ _  _ => by kernel_rfl
  have i2 : ∀ (b0 b1 b2 b3 b4 : Value) (w : World), (Instr.index 56 (.agg #[b0, b1, b2, b3, b4]) (.int .i64 2)).run Try.prog w = .ok b2 w := fun _ _ _ _ _  _ => by kernel_rfl
  have i3 : ∀ (b0 b1 b2 b3 b4 : Value) (w : World), (Instr.index 56 (.agg #[b0, b1, b2, b3, b4]) (.int .i64 3)).run Try.prog w = .ok b3 w := fun _ _ _ _ _  _ => by kernel_rfl
  have i4 : ∀ (b0 b1 b2 b3 b4 : Value) (w : World), (Instr.index 56 (.agg #[b0, b1, b2, b3, b4]) (.int .i64 4)).run Try.prog w = .ok b4 w := fun _ _ _ _ _  _ => by kernel_rfl
  obtain ⟨v0, v1, v2, v3, v4⟩ : x ≤ a ∧ y ≤ a ∧ z ≤ a ∧ a ≤ f ∧ f ≤ 65535 := by simpa [validB] using hv
  obtain ⟨p0, p1⟩ := mul_bound x k 65535 65535 (by omega) (by omega) (by omega) (by omega)
  obtain ⟨p2, p3⟩ := mul_bound y k 65535 65535 (by omega) (by omega) (by omega) (by omega)
  obtain ⟨p4, p5⟩ := mul_bound z k 65535 65535 (by omega) (by omega) (by omega) (by omega)
  obtain ⟨p6, p7⟩ := mul_bound a k 65535 65535 (by omega) (by omega) (by omega) (by omega)
  obtain ⟨p8, p9⟩ := mul_bound f k 65535 65535 (by omega) (by omega) (by omega) (by omega)
  obtain ⟨q0, q1⟩ := half_range (x * k) 65535 65535 p0 (by omega) (by omega) (by omega)
  obtain ⟨q2, q3⟩ := half_range (y * k) 65535 65535 p2 (by omega) (by omega) (by omega)
  obtain ⟨q4, q5⟩ := half_range (z * k) 65535 65535 p4 (by omega) (by omega) (by omega)
  obtain ⟨q6, q7⟩ := half_range (a * k) 65535 65535 p6 (by omega) (by omega) (by omega)
  obtain ⟨q8, q9⟩ := half_range (f * k) 65535 65535 p8 (by omega) (by omega) (by omega)
  go_enter Try.func35, Try.ntmps35
  go_wp2_with (go_at_call 26; refine (valid_call _ _ _ _ _ _ _).mono ?_; rintro e w1 ⟨rfl, rfl⟩)
  refine wp_loop_rounds 6 ?_
  iterate 5
    rw [rounds_succ]
    go_wp2_with fail
    refine (by65535_call _ _ (by omega) (by omega)).mono ?_
    rintro e w' ⟨rfl, rfl⟩
    go_wp2_with fail
  rw [rounds_succ]
  go_wp2_with fail
  go_returns
  exact ⟨rfl, _, _, _, rfl⟩

set_option maxHeartbeats 1000000 in
theorem refScale255 (x y z a f k : Int) (w : World) (hv : validB x y z a f 255 = true) (x0 : 0 ≤ x) (y0 : 0 ≤ y) (z0 : 0 ≤ z) (k0 : 0 ≤ k) (k1 : k ≤ 255) :
    Calls Try.prog 37 #[.agg #[.int .u16 x, .int .u16 y, .int .u16 z, .int .u16 a, .int .u16 f], .int .u16 k, .int .u16 255] w fun e w' =>
      e = .returned (.tuple #[.agg #[.int .u16 (halfI (x * k) 255), .int .u16 (halfI (y * k) 255), .int .u16 (halfI (z * k) 255), .int .u16 (halfI (a * k) 255), .int .u16 (halfI (f * k) 255)], .bool true]) ∧ ∃ o1 o2 o3 o4 : Obj, ∃ n : Nat, w' = (((((w.alloc o1).alloc o2).alloc o3).alloc o4).drewN n) := by
  obtain ⟨v0, v1, v2, v3, v4⟩ : x ≤ a ∧ y ≤ a ∧ z ≤ a ∧ a ≤ f ∧ f ≤ 255 := by simpa [validB] using hv
  obtain ⟨p0, p1⟩ := mul_bound x k 255 255 (by omega) (by omega) (by omega) (by omega)
  obtain ⟨p2, p3⟩ := mul_bound y k 255 255 (by omega) (by omega) (by omega) (by omega)
  obtain ⟨p4, p5⟩ := mul_bound z k 255 255 (by omega) (by omega) (by omega) (by omega)
  obtain ⟨p6, p7⟩ := mul_bound a k 255 255 (by omega) (by omega) (by omega) (by omega)
  obtain ⟨p8, p9⟩ := mul_bound f k 255 255 (by omega) (by omega) (by omega) (by omega)
  obtain ⟨q0, q1⟩ := half_range (x * k) 255 255 p0 (by omega) (by omega) (by omega)
  obtain ⟨q2, q3⟩ := half_range (y * k) 255 255 p2 (by omega) (by omega) (by omega)
  obtain ⟨q4, q5⟩ := half_range (z * k) 255 255 p4 (by omega) (by omega) (by omega)
  obtain ⟨q6, q7⟩ := half_range (a * k) 255 255 p6 (by omega) (by omega) (by omega)
  obtain ⟨q8, q9⟩ := half_range (f * k) 255 255 p8 (by omega) (by omega) (by omega)
  have hsd : ∀ (w : World) (n : Nat) (a : Addr) (v : Value), (w.drewN n).setCell a v = (w.setCell a v).drewN n := fun _ _ _ _ => rfl
  have had : ∀ (w : World) (n : Nat) (o : Obj), (w.drewN n).alloc o = (w.alloc o).drewN n := fun _ _ _ => rfl
  go_enter Try.func37, Try.ntmps37
  go_wp2_with (first
    | (go_at_call 27; refine (refValid_call _ _ _ _ _ _ _).mono ?_; rintro e w1 ⟨rfl, rfl⟩)
    | (go_at_call 45; go_in))
  refine wp_loop_rounds 4 ?_
  iterate 3
    rw [rounds_succ]
    go_wp2_with fail
    refine (refHalf_call _ _ _ (by omega) (by omega) (by omega) (by omega)).mono ?_
    rintro e w' ⟨rfl, n, rfl⟩
    go_wp2_with fail
  rw [rounds_succ]
  go_wp2_with (go_at_call 42; refine (refHalf_call _ _ _ (by omega) (by omega) (by omega) (by omega)).mono ?_; rintro e w' ⟨rfl, n, rfl⟩)
  go_returns
  exact ⟨rfl, _, _, _, _, _, rfl⟩

set_option maxHeartbeats 1000000 in
theorem refScale65535 (x y z a f k : Int) (w : World) (hv : validB x y z a f 65535 = true) (x0 : 0 ≤ x) (y0 : 0 ≤ y) (z0 : 0 ≤ z) (k0 : 0 ≤ k) (k1 : k ≤ 65535) :
    Calls Try.prog 37 #[.agg #[.int .u16 x, .int .u16 y, .int .u16 z, .int .u16 a, .int .u16 f], .int .u16 k, .int .u16 65535] w fun e w' =>
      e = .returned (.tuple #[.agg #[.int .u16 (halfI (x * k) 65535), .int .u16 (halfI (y * k) 65535), .int .u16 (halfI (z * k) 65535), .int .u16 (halfI (a * k) 65535), .int .u16 (halfI (f * k) 65535)], .bool true]) ∧ ∃ o1 o2 o3 o4 : Obj, ∃ n : Nat, w' = (((((w.alloc o1).alloc o2).alloc o3).alloc o4).drewN n) := by
  obtain ⟨v0, v1, v2, v3, v4⟩ : x ≤ a ∧ y ≤ a ∧ z ≤ a ∧ a ≤ f ∧ f ≤ 65535 := by simpa [validB] using hv
  obtain ⟨p0, p1⟩ := mul_bound x k 65535 65535 (by omega) (by omega) (by omega) (by omega)
  obtain ⟨p2, p3⟩ := mul_bound y k 65535 65535 (by omega) (by omega) (by omega) (by omega)
  obtain ⟨p4, p5⟩ := mul_bound z k 65535 65535 (by omega) (by omega) (by omega) (by omega)
  obtain ⟨p6, p7⟩ := mul_bound a k 65535 65535 (by omega) (by omega) (by omega) (by omega)
  obtain ⟨p8, p9⟩ := mul_bound f k 65535 65535 (by omega) (by omega) (by omega) (by omega)
  obtain ⟨q0, q1⟩ := half_range (x * k) 65535 65535 p0 (by omega) (by omega) (by omega)
  obtain ⟨q2, q3⟩ := half_range (y * k) 65535 65535 p2 (by omega) (by omega) (by omega)
  obtain ⟨q4, q5⟩ := half_range (z * k) 65535 65535 p4 (by omega) (by omega) (by omega)
  obtain ⟨q6, q7⟩ := half_range (a * k) 65535 65535 p6 (by omega) (by omega) (by omega)
  obtain ⟨q8, q9⟩ := half_range (f * k) 65535 65535 p8 (by omega) (by omega) (by omega)
  have hsd : ∀ (w : World) (n : Nat) (a : Addr) (v : Value), (w.drewN n).setCell a v = (w.setCell a v).drewN n := fun _ _ _ _ => rfl
  have had : ∀ (w : World) (n : Nat) (o : Obj), (w.drewN n).alloc o = (w.alloc o).drewN n := fun _ _ _ => rfl
  go_enter Try.func37, Try.ntmps37
  go_wp2_with (first
    | (go_at_call 27; refine (refValid_call _ _ _ _ _ _ _).mono ?_; rintro e w1 ⟨rfl, rfl⟩)
    | (go_at_call 45; go_in))
  refine wp_loop_rounds 4 ?_
  iterate 3
    rw [rounds_succ]
    go_wp2_with fail
    refine (refHalf_call _ _ _ (by omega) (by omega) (by omega) (by omega)).mono ?_
    rintro e w' ⟨rfl, n, rfl⟩
    go_wp2_with fail
  rw [rounds_succ]
  go_wp2_with (go_at_call 42; refine (refHalf_call _ _ _ (by omega) (by omega) (by omega) (by omega)).mono ?_; rintro e w' ⟨rfl, n, rfl⟩)
  go_returns
  exact ⟨rfl, _, _, _, _, _, rfl⟩

/-- Whether the arguments of scale.Pixel are permitted. -/
def okB (x y z a f k m : Int) : Bool := decide ((m = 255 ∨ m = 65535) ∧ (x ≤ a ∧ y ≤ a ∧ z ≤ a ∧ a ≤ f ∧ f ≤ m) ∧ k ≤ m)

set_option maxHeartbeats 1000000 in
theorem scale_no3 (x y z a f k m : Int) (w : World) (hm : m = 255 ∨ m = 65535) (h : okB x y z a f k m = false) :
    Calls Try.prog 35 #[.agg #[.int .u16 x, .int .u16 y, .int .u16 z, .int .u16 a, .int .u16 f], .int .u16 k, .int .u16 m] w fun e w' =>
      e = .returned (.tuple #[.agg #[.int .u16 0, .int .u16 0, .int .u16 0, .int .u16 0, .int .u16 0], .bool false]) ∧ ∃ o1 o2 o3 : Obj, w' = (((w.alloc o1).alloc o2).alloc o3) := by
  have ho : ¬ ((m = 255 ∨ m = 65535) ∧ (x ≤ a ∧ y ≤ a ∧ z ≤ a ∧ a ≤ f ∧ f ≤ m) ∧ k ≤ m) := by simpa only [okB, decide_eq_false_iff_not] using h
  have HO := Lib.hid ho
  clear ho h
  rcases hm with h1 | h1
  · subst h1
    by_cases hv : validB x y z a f 255 = true
    · have hk : 255 < k := by
        have h1 := HO.out
        have h2 : x ≤ a ∧ y ≤ a ∧ z ≤ a ∧ a ≤ f ∧ f ≤ 255 := by simpa [validB] using hv
        omega
      go_enter Try.func35, Try.ntmps35
      go_wp2_with (first
    | (go_at_call 26; refine (valid_call _ _ _ _ _ _ _).mono ?_; rintro e w1 ⟨rfl, rfl⟩))
      go_returns
      exact ⟨rfl, _, _, _, rfl⟩
    · have hv' : validB x y z a f 255 = false := by simpa using hv
      clear hv
      go_enter Try.func35, Try.ntmps35
      go_wp2_with (first
    | (go_at_call 26; refine (valid_call _ _ _ _ _ _ _).mono ?_; rintro e w1 ⟨rfl, rfl⟩))
      go_returns
      exact ⟨rfl, _, _, _, rfl⟩
  · subst h1
    by_cases hv : validB x y z a f 65535 = true
    · have hk : 65535 < k := by
        have h1 := HO.out
        have h2 : x ≤ a ∧ y ≤ a ∧ z ≤ a ∧ a ≤ f ∧ f ≤ 65535 := by simpa [validB] using hv
        omega
      go_enter Try.func35, Try.ntmps35
      go_wp2_with (first
    | (go_at_call 26; refine (valid_call _ _ _ _ _ _ _).mono ?_; rintro e w1 ⟨rfl, rfl⟩))
      go_returns
      exact ⟨rfl, _, _, _, rfl⟩
    · have hv' : validB x y z a f 65535 = false := by simpa using hv
      clear hv
      go_enter Try.func35, Try.ntmps35
      go_wp2_with (first
    | (go_at_call 26; refine (valid_call _ _ _ _ _ _ _).mono ?_; rintro e w1 ⟨rfl, rfl⟩))
      go_returns
      exact ⟨rfl, _, _, _, rfl⟩

set_option maxHeartbeats 1000000 in
theorem scale_no2 (x y z a f k m : Int) (w : World) (hm : ¬ (m = 255 ∨ m = 65535)) :
    Calls Try.prog 35 #[.agg #[.int .u16 x, .int .u16 y, .int .u16 z, .int .u16 a, .int .u16 f], .int .u16 k, .int .u16 m] w fun e w' =>
      e = .returned (.tuple #[.agg #[.int .u16 0, .int .u16 0, .int .u16 0, .int .u16 0, .int .u16 0], .bool false]) ∧ ∃ o1 o2 : Obj, w' = ((w.alloc o1).alloc o2) := by
  have e1 : (m == 255) = false := by simp; omega
  have e2 : (m == 65535) = false := by simp; omega
  have e3 : (m != 255) = true := by simp; omega
  have e4 : (m != 65535) = true := by simp; omega
  clear hm
  go_enter Try.func35, Try.ntmps35
  go_wp2_with (first
    | (go_at_call 26; refine (valid_call _ _ _ _ _ _ _).mono ?_; rintro e w1 ⟨rfl, rfl⟩))
  go_returns
  exact ⟨rfl, _, _, rfl⟩

set_option maxHeartbeats 1000000 in
theorem refScale_no3 (x y z a f k m : Int) (w : World) (hm : m = 255 ∨ m = 65535) (h : okB x y z a f k m = false) :
    Calls Try.prog 37 #[.agg #[.int .u16 x, .int .u16 y, .int .u16 z, .int .u16 a, .int .u16 f], .int .u16 k, .int .u16 m] w fun e w' =>
      e = .returned (.tuple #[.agg #[.int .u16 0, .int .u16 0, .int .u16 0, .int .u16 0, .int .u16 0], .bool false]) ∧ ∃ o1 o2 o3 : Obj, w' = (((w.alloc o1).alloc o2).alloc o3) := by
  have ho : ¬ ((m = 255 ∨ m = 65535) ∧ (x ≤ a ∧ y ≤ a ∧ z ≤ a ∧ a ≤ f ∧ f ≤ m) ∧ k ≤ m) := by simpa only [okB, decide_eq_false_iff_not] using h
  have HO := Lib.hid ho
  clear ho h
  rcases hm with h1 | h1
  · subst h1
    by_cases hv : validB x y z a f 255 = true
    · have hk : 255 < k := by
        have h1 := HO.out
        have h2 : x ≤ a ∧ y ≤ a ∧ z ≤ a ∧ a ≤ f ∧ f ≤ 255 := by simpa [validB] using hv
        omega
      go_enter Try.func37, Try.ntmps37
      go_wp2_with (first
    | (go_at_call 27; refine (refValid_call _ _ _ _ _ _ _).mono ?_; rintro e w1 ⟨rfl, rfl⟩)
    | (go_at_call 45; go_in))
      go_returns
      exact ⟨rfl, _, _, _, rfl⟩
    · have hv' : validB x y z a f 255 = false := by simpa using hv
      clear hv
      go_enter Try.func37, Try.ntmps37
      go_wp2_with (first
    | (go_at_call 27; refine (refValid_call _ _ _ _ _ _ _).mono ?_; rintro e w1 ⟨rfl, rfl⟩)
    | (go_at_call 45; go_in))
      go_returns
      exact ⟨rfl, _, _, _, rfl⟩
  · subst h1
    by_cases hv : validB x y z a f 65535 = true
    · have hk : 65535 < k := by
        have h1 := HO.out
        have h2 : x ≤ a ∧ y ≤ a ∧ z ≤ a ∧ a ≤ f ∧ f ≤ 65535 := by simpa [validB] using hv
        omega
      go_enter Try.func37, Try.ntmps37
      go_wp2_with (first
    | (go_at_call 27; refine (refValid_call _ _ _ _ _ _ _).mono ?_; rintro e w1 ⟨rfl, rfl⟩)
    | (go_at_call 45; go_in))
      go_returns
      exact ⟨rfl, _, _, _, rfl⟩
    · have hv' : validB x y z a f 65535 = false := by simpa using hv
      clear hv
      go_enter Try.func37, Try.ntmps37
      go_wp2_with (first
    | (go_at_call 27; refine (refValid_call _ _ _ _ _ _ _).mono ?_; rintro e w1 ⟨rfl, rfl⟩)
    | (go_at_call 45; go_in))
      go_returns
      exact ⟨rfl, _, _, _, rfl⟩

set_option maxHeartbeats 1000000 in
theorem refScale_no2 (x y z a f k m : Int) (w : World) (hm : ¬ (m = 255 ∨ m = 65535)) :
    Calls Try.prog 37 #[.agg #[.int .u16 x, .int .u16 y, .int .u16 z, .int .u16 a, .int .u16 f], .int .u16 k, .int .u16 m] w fun e w' =>
      e = .returned (.tuple #[.agg #[.int .u16 0, .int .u16 0, .int .u16 0, .int .u16 0, .int .u16 0], .bool false]) ∧ ∃ o1 o2 : Obj, w' = ((w.alloc o1).alloc o2) := by
  have e1 : (m == 255) = false := by simp; omega
  have e2 : (m == 65535) = false := by simp; omega
  have e3 : (m != 255) = true := by simp; omega
  have e4 : (m != 65535) = true := by simp; omega
  clear hm
  go_enter Try.func37, Try.ntmps37
  go_wp2_with (first
    | (go_at_call 27; refine (refValid_call _ _ _ _ _ _ _).mono ?_; rintro e w1 ⟨rfl, rfl⟩)
    | (go_at_call 45; go_in))
  go_returns
  exact ⟨rfl, _, _, rfl⟩

end Go.Proofs.Ytgkpdngphjbhcaa
