/- Contracts of the conversions of pixels: Widen, Narrow and the reference's. -/
import Derived.Test.YtmehclilgmigkaaPix2
import Derived.Test.YtmehclilgmigkaaMore
import Derived.Deep.RegionWith
import Derived.Deep.RegionHeld3
namespace Go.Proofs.Ytmehclilgmigkaa
open Go.RowKit

set_option maxHeartbeats 1000000 in
theorem apply16 (x y z a f : Int) (w : World) (x0 : 0 ≤ x) (x1 : x ≤ 65535) (y0 : 0 ≤ y) (y1 : y ≤ 65535) (z0 : 0 ≤ z) (z1 : z ≤ 65535) (a0 : 0 ≤ a) (a1 : a ≤ 65535) (f0 : 0 ≤ f) (f1 : f ≤ 65535) :
    Calls Try.prog 44 #[.agg #[.int .u16 x, .int .u16 y, .int .u16 z, .int .u16 a, .int .u16 f], .func (.func 13) #[] #[]] w fun e w' =>
      e = .returned (.agg #[.int .u16 (to16I x), .int .u16 (to16I y), .int .u16 (to16I z), .int .u16 (to16I a), .int .u16 (to16I f)]) ∧ ∃ o1 o2 : Obj, ∃ n : Nat, w' = ((w.alloc o1).alloc o2).drewN n := by
  have i0 : ∀ (b0 b1 b2 : Value) (w : World), (Instr.index 33 (.agg #[b0, b1, b2]) (.int .i64 0)).run Try.prog w = .ok b0 w := fun _ _ _ _ => by kernel_rfl
  have i1 : ∀ (b0 b1 b2 : Value) (w : World), (Instr.index 33 (.agg #[b0, b1, b2]) (.int .i64 1)).run Try.prog w = .ok b1 w := fun _ _ _ _ => by kernel_rfl
  have i2 : ∀ (b0 b1 b2 : Value) (w : World), (Instr.index 33 (.agg #[b0, b1, b2]) (.int .i64 2)).run Try.prog w = .ok b2 w := fun _ _ _ _ => by kernel_rfl
  have hsd : ∀ (w : World) (n : Nat) (a : Addr) (v : Value), (w.drewN n).setCell a v = (w.setCell a v).drewN n := fun _ _ _ _ => rfl
  have had : ∀ (w : World) (n : Nat) (o : Obj), (w.drewN n).alloc o = (w.alloc o).drewN n := fun _ _ _ => rfl
  go_enter Try.func44, Try.ntmps44
  go_wp2_with fail
  refine wp_loop_rounds 4 ?_
  iterate 3
    rw [rounds_succ]
    go_wp2_with fail
    refine (to16_call _ _ (by omega) (by omega)).mono ?_
    rintro e w' ⟨rfl, rfl⟩
    go_wp2_with fail
  rw [rounds_succ]
  go_wp2_with fail
  go_region_with (first | (go_at_call 13; refine (to16_call _ _ (by omega) (by omega)).mono ?_; rintro e w' ⟨rfl, rfl⟩))
  all_goals go_wp2
  all_goals go_returns
  all_goals exact ⟨rfl, _, _, _, rfl⟩

set_option maxHeartbeats 1000000 in
theorem apply8 (x y z a f : Int) (w : World) (x0 : 0 ≤ x) (x1 : x ≤ 65535) (y0 : 0 ≤ y) (y1 : y ≤ 65535) (z0 : 0 ≤ z) (z1 : z ≤ 65535) (a0 : 0 ≤ a) (a1 : a ≤ 65535) (f0 : 0 ≤ f) (f1 : f ≤ 65535) :
    Calls Try.prog 44 #[.agg #[.int .u16 x, .int .u16 y, .int .u16 z, .int .u16 a, .int .u16 f], .func (.func 14) #[] #[]] w fun e w' =>
      e = .returned (.agg #[.int .u16 (to8I x), .int .u16 (to8I y), .int .u16 (to8I z), .int .u16 (to8I a), .int .u16 (to8I f)]) ∧ ∃ o1 o2 : Obj, ∃ n : Nat, w' = ((w.alloc o1).alloc o2).drewN n := by
  have i0 : ∀ (b0 b1 b2 : Value) (w : World), (Instr.index 33 (.agg #[b0, b1, b2]) (.int .i64 0)).run Try.prog w = .ok b0 w := fun _ _ _ _ => by kernel_rfl
  have i1 : ∀ (b0 b1 b2 : Value) (w : World), (Instr.index 33 (.agg #[b0, b1, b2]) (.int .i64 1)).run Try.prog w = .ok b1 w := fun _ _ _ _ => by kernel_rfl
  have i2 : ∀ (b0 b1 b2 : Value) (w : World), (Instr.index 33 (.agg #[b0, b1, b2]) (.int .i64 2)).run Try.prog w = .ok b2 w := fun _ _ _ _ => by kernel_rfl
  have hsd : ∀ (w : World) (n : Nat) (a : Addr) (v : Value), (w.drewN n).setCell a v = (w.setCell a v).drewN n := fun _ _ _ _ => rfl
  have had : ∀ (w : World) (n : Nat) (o : Obj), (w.drewN n).alloc o = (w.alloc o).drewN n := fun _ _ _ => rfl
  go_enter Try.func44, Try.ntmps44
  go_wp2_with fail
  refine wp_loop_rounds 4 ?_
  iterate 3
    rw [rounds_succ]
    go_wp2_with fail
    refine (to8_call _ _ (by omega) (by omega)).mono ?_
    rintro e w' ⟨rfl, n, rfl⟩
    go_wp2_with fail
  rw [rounds_succ]
  go_wp2_with fail
  go_region_with (first | (go_at_call 14; refine (to8_call _ _ (by omega) (by omega)).mono ?_; rintro e w' ⟨rfl, n, rfl⟩))
  all_goals go_wp2
  all_goals go_returns
  all_goals exact ⟨rfl, _, _, _, rfl⟩

set_option maxHeartbeats 1000000 in
theorem widen_call (x y z a f : Int) (w : World) (x0 : 0 ≤ x) (x1 : x ≤ 65535) (y0 : 0 ≤ y) (y1 : y ≤ 65535) (z0 : 0 ≤ z) (z1 : z ≤ 65535) (a0 : 0 ≤ a) (a1 : a ≤ 65535) (f0 : 0 ≤ f) (f1 : f ≤ 65535) :
    Calls Try.prog 33 #[.agg #[.int .u16 x, .int .u16 y, .int .u16 z, .int .u16 a, .int .u16 f]] w fun e w' => e = .returned (.agg #[.int .u16 (to16I x), .int .u16 (to16I y), .int .u16 (to16I z), .int .u16 (to16I a), .int .u16 (to16I f)]) ∧ ∃ p, w' = more w p := by
  have hsd : ∀ (w : World) (n : Nat) (a : Addr) (v : Value), (w.drewN n).setCell a v = (w.setCell a v).drewN n := fun _ _ _ _ => rfl
  have had : ∀ (w : World) (n : Nat) (o : Obj), (w.drewN n).alloc o = (w.alloc o).drewN n := fun _ _ _ => rfl
  go_enter Try.func33, Try.ntmps33
  go_wp2_with fail
  refine (apply16 _ _ _ _ _ _ x0 x1 y0 y1 z0 z1 a0 a1 f0 f1).mono ?_
  rintro e w' ⟨rfl, o1, o2, n, rfl⟩
  go_wp2_with fail
  go_returns
  exact ⟨rfl, ⟨[_, _, _, _], _⟩, rfl⟩

set_option maxHeartbeats 1000000 in
theorem narrow_call (x y z a f : Int) (w : World) (x0 : 0 ≤ x) (x1 : x ≤ 65535) (y0 : 0 ≤ y) (y1 : y ≤ 65535) (z0 : 0 ≤ z) (z1 : z ≤ 65535) (a0 : 0 ≤ a) (a1 : a ≤ 65535) (f0 : 0 ≤ f) (f1 : f ≤ 65535) :
    Calls Try.prog 35 #[.agg #[.int .u16 x, .int .u16 y, .int .u16 z, .int .u16 a, .int .u16 f]] w fun e w' => e = .returned (.agg #[.int .u16 (to8I x), .int .u16 (to8I y), .int .u16 (to8I z), .int .u16 (to8I a), .int .u16 (to8I f)]) ∧ ∃ p, w' = more w p := by
  have hsd : ∀ (w : World) (n : Nat) (a : Addr) (v : Value), (w.drewN n).setCell a v = (w.setCell a v).drewN n := fun _ _ _ _ => rfl
  have had : ∀ (w : World) (n : Nat) (o : Obj), (w.drewN n).alloc o = (w.alloc o).drewN n := fun _ _ _ => rfl
  go_enter Try.func35, Try.ntmps35
  go_wp2_with fail
  refine (apply8 _ _ _ _ _ _ x0 x1 y0 y1 z0 z1 a0 a1 f0 f1).mono ?_
  rintro e w' ⟨rfl, o1, o2, n, rfl⟩
  go_wp2_with fail
  go_returns
  exact ⟨rfl, ⟨[_, _, _, _], _⟩, rfl⟩

set_option maxHeartbeats 4000000 in
theorem refWiden_call (x y z a f : Int) (w : World) (x0 : 0 ≤ x) (x1 : x ≤ 65535) (y0 : 0 ≤ y) (y1 : y ≤ 65535) (z0 : 0 ≤ z) (z1 : z ≤ 65535) (a0 : 0 ≤ a) (a1 : a ≤ 65535) (f0 : 0 ≤ f) (f1 : f ≤ 65535) :
    Calls Try.prog 34 #[.agg #[.int .u16 x, .int .u16 y, .int .u16 z, .int .u16 a, .int .u16 f]] w fun e w' => e = .returned (.agg #[.int .u16 (to16I x), .int .u16 (to16I y), .int .u16 (to16I z), .int .u16 (to16I a), .int .u16 (to16I f)]) ∧ ∃ p, w' = more w p := by
  have hsd : ∀ (w : World) (n : Nat) (a : Addr) (v : Value), (w.drewN n).setCell a v = (w.setCell a v).drewN n := fun _ _ _ _ => rfl
  have had : ∀ (w : World) (n : Nat) (o : Obj), (w.drewN n).alloc o = (w.alloc o).drewN n := fun _ _ _ => rfl
  go_enter Try.func34, Try.ntmps34
  go_wp2
  go_region_held3 (fun w' => w'.cell? ⟨w.heap.size, 0, none⟩ = some (.int .u16 x) ∧ w'.cell? ⟨w.heap.size, 1, none⟩ = some (.int .u16 y) ∧ w'.cell? ⟨w.heap.size, 2, none⟩ = some (.int .u16 z) ∧ w'.cell? ⟨w.heap.size, 3, none⟩ = some (.int .u16 a) ∧ w'.cell? ⟨w.heap.size, 4, none⟩ = some (.int .u16 f)) (go_keep) (first | (go_at_call 31; refine (refTo16_call _ _ (by omega) (by omega)).mono ?_; rintro e w' ⟨rfl, rfl⟩))
  all_goals go_wp2
  all_goals go_returns
  all_goals exact ⟨rfl, ⟨[_, _], _⟩, rfl⟩

set_option maxHeartbeats 4000000 in
theorem refNarrow_call (x y z a f : Int) (w : World) (x0 : 0 ≤ x) (x1 : x ≤ 65535) (y0 : 0 ≤ y) (y1 : y ≤ 65535) (z0 : 0 ≤ z) (z1 : z ≤ 65535) (a0 : 0 ≤ a) (a1 : a ≤ 65535) (f0 : 0 ≤ f) (f1 : f ≤ 65535) :
    Calls Try.prog 36 #[.agg #[.int .u16 x, .int .u16 y, .int .u16 z, .int .u16 a, .int .u16 f]] w fun e w' => e = .returned (.agg #[.int .u16 (to8I x), .int .u16 (to8I y), .int .u16 (to8I z), .int .u16 (to8I a), .int .u16 (to8I f)]) ∧ ∃ p, w' = more w p := by
  have hsd : ∀ (w : World) (n : Nat) (a : Addr) (v : Value), (w.drewN n).setCell a v = (w.setCell a v).drewN n := fun _ _ _ _ => rfl
  have had : ∀ (w : World) (n : Nat) (o : Obj), (w.drewN n).alloc o = (w.alloc o).drewN n := fun _ _ _ => rfl
  go_enter Try.func36, Try.ntmps36
  go_wp2
  go_region_held3 (fun w' => w'.cell? ⟨w.heap.size, 0, none⟩ = some (.int .u16 x) ∧ w'.cell? ⟨w.heap.size, 1, none⟩ = some (.int .u16 y) ∧ w'.cell? ⟨w.heap.size, 2, none⟩ = some (.int .u16 z) ∧ w'.cell? ⟨w.heap.size, 3, none⟩ = some (.int .u16 a) ∧ w'.cell? ⟨w.heap.size, 4, none⟩ = some (.int .u16 f)) (go_keep) (first | (go_at_call 32; refine (refTo8_call _ _ (by omega) (by omega)).mono ?_; rintro e w' ⟨rfl, n, rfl⟩))
  all_goals go_wp2
  all_goals go_returns
  all_goals exact ⟨rfl, ⟨[_, _], _⟩, rfl⟩

end Go.Proofs.Ytmehclilgmigkaa
