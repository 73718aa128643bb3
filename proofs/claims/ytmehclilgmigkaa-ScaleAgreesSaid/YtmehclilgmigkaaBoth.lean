/- scale.Pixel and scale.Both beside the document's own: the same answer for all arguments. -/
import Derived.Test.YtmehclilgmigkaaStay
namespace Go.Proofs.Ytmehclilgmigkaa
open Go.RowKit
set_option linter.unusedVariables false

theorem refScale_at (x y z a f k m : Int) (hm : m = 255 ∨ m = 65535) (hv : validB x y z a f m = true) (x0 : 0 ≤ x) (y0 : 0 ≤ y) (z0 : 0 ≤ z) (k0 : 0 ≤ k) (k1 : k ≤ m) (W : World) :
    Calls Try.prog 37 #[.agg #[.int .u16 x, .int .u16 y, .int .u16 z, .int .u16 a, .int .u16 f], .int .u16 k, .int .u16 m] W fun e w' => e = .returned (.tuple #[.agg #[.int .u16 (halfI (x * k) m), .int .u16 (halfI (y * k) m), .int .u16 (halfI (z * k) m), .int .u16 (halfI (a * k) m), .int .u16 (halfI (f * k) m)], .bool true]) ∧ ∃ o1 o2 o3 o4 : Obj, ∃ n : Nat, w' = ((((W.alloc o1).alloc o2).alloc o3).alloc o4).drewN n := by
  rcases hm with rfl | rfl
  · exact refScale255 _ _ _ _ _ _ W hv x0 y0 z0 k0 k1
  · exact refScale65535 _ _ _ _ _ _ W hv x0 y0 z0 k0 k1
theorem okB_no (x y z a f k m : Int) (h : m < k) : okB x y z a f k m = false := decide_eq_false (by omega)

/-- scale.Pixel and the document's Scale give one answer -/
theorem pair_scale (x y z a f k m : Int) (x0 : 0 ≤ x) (y0 : 0 ≤ y) (z0 : 0 ≤ z) (k0 : 0 ≤ k) : ∃ x' y' z' a' f' : Int, ∃ b : Bool,
    (∀ W : World, Calls Try.prog 24 #[.agg #[.int .u16 x, .int .u16 y, .int .u16 z, .int .u16 a, .int .u16 f], .int .u16 k, .int .u16 m] W fun e w' => e = .returned (.tuple #[.agg #[.int .u16 x', .int .u16 y', .int .u16 z', .int .u16 a', .int .u16 f'], .bool b]) ∧ ∃ q, w' = more W q) ∧
    (∀ W : World, Calls Try.prog 37 #[.agg #[.int .u16 x, .int .u16 y, .int .u16 z, .int .u16 a, .int .u16 f], .int .u16 k, .int .u16 m] W fun e w' => e = .returned (.tuple #[.agg #[.int .u16 x', .int .u16 y', .int .u16 z', .int .u16 a', .int .u16 f'], .bool b]) ∧ ∃ q, w' = more W q) := by
  by_cases hm : m = 255 ∨ m = 65535
  · cases h : okB x y z a f k m
    · exact ⟨0, 0, 0, 0, 0, false, fun W => (scale_no3 _ _ _ _ _ _ _ W hm h).mono fun _ _ ⟨e, o1, o2, o3, hw⟩ => ⟨e, ⟨[o1, o2, o3], 0⟩, hw⟩,
        fun W => (refScale_no3 _ _ _ _ _ _ _ W hm h).mono fun _ _ ⟨e, o1, o2, o3, hw⟩ => ⟨e, ⟨[o1, o2, o3], 0⟩, hw⟩⟩
    · have hd := of_decide_eq_true h
      have hv : validB x y z a f m = true := decide_eq_true hd.2.1
      exact ⟨_, _, _, _, _, true, fun W => (scale_at x y z a f k m hm hv x0 y0 z0 k0 hd.2.2 W).mono fun _ _ ⟨e, o1, o2, o3, hw⟩ => ⟨e, ⟨[o1, o2, o3], 0⟩, hw⟩,
        fun W => (refScale_at x y z a f k m hm hv x0 y0 z0 k0 hd.2.2 W).mono fun _ _ ⟨e, o1, o2, o3, o4, n, hw⟩ => ⟨e, ⟨[o1, o2, o3, o4], n⟩, hw⟩⟩
  · exact ⟨0, 0, 0, 0, 0, false, fun W => (scale_no2 _ _ _ _ _ _ _ W hm).mono fun _ _ ⟨e, o1, o2, hw⟩ => ⟨e, ⟨[o1, o2], 0⟩, hw⟩,
      fun W => (refScale_no2 _ _ _ _ _ _ _ W hm).mono fun _ _ ⟨e, o1, o2, hw⟩ => ⟨e, ⟨[o1, o2], 0⟩, hw⟩⟩

theorem refBoth_at (x y z a f k j m : Int) (hm : m = 255 ∨ m = 65535) (hv : validB x y z a f m = true) (x0 : 0 ≤ x) (y0 : 0 ≤ y) (z0 : 0 ≤ z) (k0 : 0 ≤ k) (k1 : k ≤ m) (j0 : 0 ≤ j) (j1 : j ≤ m) (W : World) :
    Calls Try.prog 39 #[.agg #[.int .u16 x, .int .u16 y, .int .u16 z, .int .u16 a, .int .u16 f], .int .u16 k, .int .u16 j, .int .u16 m] W fun e w' => e = .returned (.tuple #[.agg #[.int .u16 (halfI (halfI (x * k) m * j) m), .int .u16 (halfI (halfI (y * k) m * j) m), .int .u16 (halfI (halfI (z * k) m * j) m), .int .u16 (halfI (halfI (a * k) m * j) m), .int .u16 (halfI (halfI (f * k) m * j) m)], .bool true]) ∧ ∃ o1 o2 o3 o4 o5 o6 o7 o8 o9 o10 o11 : Obj, ∃ n : Nat, w' = (((((((((((W.alloc o1).alloc o2).alloc o3).alloc o4).alloc o5).alloc o6).alloc o7).alloc o8).alloc o9).alloc o10).alloc o11).drewN n := by
  rcases hm with rfl | rfl
  · exact refBoth255 _ _ _ _ _ _ _ W hv x0 y0 z0 k0 k1 j0 j1
  · exact refBoth65535 _ _ _ _ _ _ _ W hv x0 y0 z0 k0 k1 j0 j1
theorem both_full (x y z a f k j m : Int) (hm : m = 255 ∨ m = 65535) (hv : validB x y z a f m = true) (x0 : 0 ≤ x) (y0 : 0 ≤ y) (z0 : 0 ≤ z) (k0 : 0 ≤ k) (k1 : k ≤ m) (j0 : 0 ≤ j) (j1 : j ≤ m) (W : World) :
    Calls Try.prog 38 #[.agg #[.int .u16 x, .int .u16 y, .int .u16 z, .int .u16 a, .int .u16 f], .int .u16 k, .int .u16 j, .int .u16 m] W fun e w' => e = .returned (.tuple #[.agg #[.int .u16 (halfI (halfI (x * k) m * j) m), .int .u16 (halfI (halfI (y * k) m * j) m), .int .u16 (halfI (halfI (z * k) m * j) m), .int .u16 (halfI (halfI (a * k) m * j) m), .int .u16 (halfI (halfI (f * k) m * j) m)], .bool true]) ∧ ∃ o1 o2 o3 o4 o5 o6 o7 o8 : Obj, w' = ((((((((W.alloc o1).alloc o2).alloc o3).alloc o4).alloc o5).alloc o6).alloc o7).alloc o8) := by
  rcases hm with rfl | rfl
  · exact both255 _ _ _ _ _ _ _ W hv x0 y0 z0 k0 k1 j0 j1
  · exact both65535 _ _ _ _ _ _ _ W hv x0 y0 z0 k0 k1 j0 j1

set_option maxHeartbeats 1000000 in
theorem both_noK (x y z a f k j m : Int) (w : World) (hm : m = 255 ∨ m = 65535) (hv : validB x y z a f m = true) (x0 : 0 ≤ x) (y0 : 0 ≤ y) (z0 : 0 ≤ z) (k1 : m < k) :
    Calls Try.prog 38 #[.agg #[.int .u16 x, .int .u16 y, .int .u16 z, .int .u16 a, .int .u16 f], .int .u16 k, .int .u16 j, .int .u16 m] w fun e w' => e = .returned (.tuple #[.agg #[.int .u16 0, .int .u16 0, .int .u16 0, .int .u16 0, .int .u16 0], .bool false]) ∧ ∃ q, w' = more w q := by
  have HM := Lib.hid hm
  have hsd : ∀ (w : World) (n : Nat) (a : Addr) (v : Value), (w.drewN n).setCell a v = (w.setCell a v).drewN n := fun _ _ _ _ => rfl
  have had : ∀ (w : World) (n : Nat) (o : Obj), (w.drewN n).alloc o = (w.alloc o).drewN n := fun _ _ _ => rfl
  go_enter Try.func38, Try.ntmps38
  go_wp2_with fail
  refine (scale_no3 _ _ _ _ _ _ _ _ HM.out (okB_no _ _ _ _ _ _ _ k1)).mono ?_
  rintro e w1 ⟨rfl, o1, o2, o3, rfl⟩
  go_wp2_with fail
  go_returns
  exact ⟨rfl, ⟨[_, _, _, _, _], 0⟩, rfl⟩

set_option maxHeartbeats 1000000 in
theorem refBoth_noK (x y z a f k j m : Int) (w : World) (hm : m = 255 ∨ m = 65535) (hv : validB x y z a f m = true) (x0 : 0 ≤ x) (y0 : 0 ≤ y) (z0 : 0 ≤ z) (k1 : m < k) :
    Calls Try.prog 39 #[.agg #[.int .u16 x, .int .u16 y, .int .u16 z, .int .u16 a, .int .u16 f], .int .u16 k, .int .u16 j, .int .u16 m] w fun e w' => e = .returned (.tuple #[.agg #[.int .u16 0, .int .u16 0, .int .u16 0, .int .u16 0, .int .u16 0], .bool false]) ∧ ∃ q, w' = more w q := by
  have HM := Lib.hid hm
  have hsd : ∀ (w : World) (n : Nat) (a : Addr) (v : Value), (w.drewN n).setCell a v = (w.setCell a v).drewN n := fun _ _ _ _ => rfl
  have had : ∀ (w : World) (n : Nat) (o : Obj), (w.drewN n).alloc o = (w.alloc o).drewN n := fun _ _ _ => rfl
  go_enter Try.func39, Try.ntmps39
  go_wp2_with fail
  refine (refScale_no3 _ _ _ _ _ _ _ _ HM.out (okB_no _ _ _ _ _ _ _ k1)).mono ?_
  rintro e w1 ⟨rfl, o1, o2, o3, rfl⟩
  go_wp2_with fail
  go_returns
  exact ⟨rfl, ⟨[_, _, _, _, _, _], 0⟩, rfl⟩

set_option maxHeartbeats 1000000 in
theorem both_noJ (x y z a f k j m : Int) (w : World) (hm : m = 255 ∨ m = 65535) (hv : validB x y z a f m = true) (x0 : 0 ≤ x) (y0 : 0 ≤ y) (z0 : 0 ≤ z) (k0 : 0 ≤ k) (k1 : k ≤ m) (j1 : m < j) :
    Calls Try.prog 38 #[.agg #[.int .u16 x, .int .u16 y, .int .u16 z, .int .u16 a, .int .u16 f], .int .u16 k, .int .u16 j, .int .u16 m] w fun e w' => e = .returned (.tuple #[.agg #[.int .u16 0, .int .u16 0, .int .u16 0, .int .u16 0, .int .u16 0], .bool false]) ∧ ∃ q, w' = more w q := by
  have hv2 := valid_scaled x y z a f k m hv (by omega) k0 k1
  have HM := Lib.hid hm
  have hsd : ∀ (w : World) (n : Nat) (a : Addr) (v : Value), (w.drewN n).setCell a v = (w.setCell a v).drewN n := fun _ _ _ _ => rfl
  have had : ∀ (w : World) (n : Nat) (o : Obj), (w.drewN n).alloc o = (w.alloc o).drewN n := fun _ _ _ => rfl
  go_enter Try.func38, Try.ntmps38
  go_wp2_with fail
  refine (scale_at _ _ _ _ _ _ _ HM.out hv x0 y0 z0 k0 k1 _).mono ?_
  rintro e w1 ⟨rfl, r1, r2, r3, rfl⟩
  go_wp2_with fail
  refine (scale_no3 _ _ _ _ _ _ _ _ HM.out (okB_no _ _ _ _ _ _ _ j1)).mono ?_
  rintro e w1 ⟨rfl, o1, o2, o3, rfl⟩
  go_wp2_with fail
  go_returns
  exact ⟨rfl, ⟨[_, _, _, _, _, _, _, _], 0⟩, rfl⟩

set_option maxHeartbeats 1000000 in
theorem refBoth_noJ (x y z a f k j m : Int) (w : World) (hm : m = 255 ∨ m = 65535) (hv : validB x y z a f m = true) (x0 : 0 ≤ x) (y0 : 0 ≤ y) (z0 : 0 ≤ z) (k0 : 0 ≤ k) (k1 : k ≤ m) (j1 : m < j) :
    Calls Try.prog 39 #[.agg #[.int .u16 x, .int .u16 y, .int .u16 z, .int .u16 a, .int .u16 f], .int .u16 k, .int .u16 j, .int .u16 m] w fun e w' => e = .returned (.tuple #[.agg #[.int .u16 0, .int .u16 0, .int .u16 0, .int .u16 0, .int .u16 0], .bool false]) ∧ ∃ q, w' = more w q := by
  have hv2 := valid_scaled x y z a f k m hv (by omega) k0 k1
  have HM := Lib.hid hm
  have hsd : ∀ (w : World) (n : Nat) (a : Addr) (v : Value), (w.drewN n).setCell a v = (w.setCell a v).drewN n := fun _ _ _ _ => rfl
  have had : ∀ (w : World) (n : Nat) (o : Obj), (w.drewN n).alloc o = (w.alloc o).drewN n := fun _ _ _ => rfl
  go_enter Try.func39, Try.ntmps39
  go_wp2_with fail
  refine (refScale_at _ _ _ _ _ _ _ HM.out hv x0 y0 z0 k0 k1 _).mono ?_
  rintro e w1 ⟨rfl, r1, r2, r3, r4, n, rfl⟩
  go_wp2_with fail
  refine (refScale_no3 _ _ _ _ _ _ _ _ HM.out (okB_no _ _ _ _ _ _ _ j1)).mono ?_
  rintro e w1 ⟨rfl, o1, o2, o3, rfl⟩
  go_wp2_with fail
  go_returns
  exact ⟨rfl, ⟨[_, _, _, _, _, _, _, _, _, _], _⟩, rfl⟩

/-- scale.Both and the document's Both give one answer -/
theorem pair_both (x y z a f k j m : Int) (hm : m = 255 ∨ m = 65535) (hv : validB x y z a f m = true) (x0 : 0 ≤ x) (y0 : 0 ≤ y) (z0 : 0 ≤ z) (k0 : 0 ≤ k) (j0 : 0 ≤ j) : ∃ x' y' z' a' f' : Int, ∃ b : Bool,
    (∀ W : World, Calls Try.prog 38 #[.agg #[.int .u16 x, .int .u16 y, .int .u16 z, .int .u16 a, .int .u16 f], .int .u16 k, .int .u16 j, .int .u16 m] W fun e w' => e = .returned (.tuple #[.agg #[.int .u16 x', .int .u16 y', .int .u16 z', .int .u16 a', .int .u16 f'], .bool b]) ∧ ∃ q, w' = more W q) ∧
    (∀ W : World, Calls Try.prog 39 #[.agg #[.int .u16 x, .int .u16 y, .int .u16 z, .int .u16 a, .int .u16 f], .int .u16 k, .int .u16 j, .int .u16 m] W fun e w' => e = .returned (.tuple #[.agg #[.int .u16 x', .int .u16 y', .int .u16 z', .int .u16 a', .int .u16 f'], .bool b]) ∧ ∃ q, w' = more W q) := by
  by_cases hk : k ≤ m
  · by_cases hj : j ≤ m
    · exact ⟨_, _, _, _, _, true, fun W => (both_full x y z a f k j m hm hv x0 y0 z0 k0 hk j0 hj W).mono fun _ _ ⟨e, o1, o2, o3, o4, o5, o6, o7, o8, hw⟩ => ⟨e, ⟨[o1, o2, o3, o4, o5, o6, o7, o8], 0⟩, hw⟩,
        fun W => (refBoth_at x y z a f k j m hm hv x0 y0 z0 k0 hk j0 hj W).mono fun _ _ ⟨e, o1, o2, o3, o4, o5, o6, o7, o8, o9, o10, o11, n, hw⟩ => ⟨e, ⟨[o1, o2, o3, o4, o5, o6, o7, o8, o9, o10, o11], n⟩, hw⟩⟩
    · exact ⟨0, 0, 0, 0, 0, false, fun W => both_noJ x y z a f k j m W hm hv x0 y0 z0 k0 hk (by omega), fun W => refBoth_noJ x y z a f k j m W hm hv x0 y0 z0 k0 hk (by omega)⟩
  · exact ⟨0, 0, 0, 0, 0, false, fun W => both_noK x y z a f k j m W hm hv x0 y0 z0 (by omega), fun W => refBoth_noK x y z a f k j m W hm hv x0 y0 z0 (by omega)⟩
end Go.Proofs.Ytmehclilgmigkaa
