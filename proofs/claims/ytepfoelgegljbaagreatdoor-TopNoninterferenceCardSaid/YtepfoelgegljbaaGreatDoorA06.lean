/- Part A6. -/
import Derived.StillTailTactics
import Derived.DeepKeys
import Derived.Test.YtepfoelgegljbaaGreatDoorA04
namespace Go.Proofs.YtepfoelgegljbaaGreatDoor
open Go.RowKit
theorem ret_bool {a b:Bool} (h:a = b):Ending.returned (.bool a) = .returned (.bool b):=by rw [h]
def validB (x y z a f m:Int):Bool:=decide (x ≤ a ∧ y ≤ a ∧ z ≤ a ∧ a ≤ f ∧ f ≤ m)
theorem tlPix0 {p:Prop} (h:p:=by
  go_ret
  refine ⟨ret_bool ?_,rfl⟩
  unfold validB
  first | exact (decide_eq_false (by omega)).symm | exact decide_eq_decide.2 (by omega)):p:=h
set_option maxHeartbeats 400000 in
theorem valid_call (x y z a f m:Int) (w:World) :
  Calls Tryz.prog 54 #[.agg #[.int .u16 x,.int .u16 y,.int .u16 z,.int .u16 a,.int .u16 f],.int .u16 m] w fun e w' => e = .returned (.bool (validB x y z a f m)) ∧ w.alloc (.cells #[.int .u16 x,.int .u16 y,.int .u16 z,.int .u16 a,.int .u16 f] 32) = w':=by
 have i0:∀ (b0 b1 b2:Value) (w:World),(Instr.index 30 (.agg #[b0,b1,b2]) (.int .i64 0)).run Tryz.prog w = .ok b0 w:=fun _ _ _  _ => by kernel_rfl
 have i1:∀ (b0 b1 b2:Value) (w:World),(Instr.index 30 (.agg #[b0,b1,b2]) (.int .i64 1)).run Tryz.prog w = .ok b1 w:=fun _ _ _  _ => by kernel_rfl
 have i2:∀ (b0 b1 b2:Value) (w:World),(Instr.index 30 (.agg #[b0,b1,b2]) (.int .i64 2)).run Tryz.prog w = .ok b2 w:=fun _ _ _  _ => by kernel_rfl
 go_enter Tryz.func54,Tryz.ntmps54
 go_wp2
 go_rounds 4
 all_goals
  exact tlPix0
set_option maxHeartbeats 400000 in
theorem refValid_call (x y z a f m:Int) (w:World) :
  Calls Tryz.prog 39 #[.agg #[.int .u16 x,.int .u16 y,.int .u16 z,.int .u16 a,.int .u16 f],.int .u16 m] w fun e w' => e = .returned (.bool (validB x y z a f m)) ∧ w.alloc (.cells #[.int .u16 x,.int .u16 y,.int .u16 z,.int .u16 a,.int .u16 f] 32) = w':=by
 go_enter Tryz.func39,Tryz.ntmps39
 go_wp2
 all_goals
  exact tlPix0
set_option maxHeartbeats 1000000 in
theorem scale255 (x y z a f k:Int) (w:World) (hv:validB x y z a f 255 = true) (x0:0 ≤ x) (y0:0 ≤ y) (z0:0 ≤ z) (k0:0 ≤ k) (k1:k ≤ 255) :
  Calls Tryz.prog 104 #[.agg #[.int .u16 x,.int .u16 y,.int .u16 z,.int .u16 a,.int .u16 f],.int .u16 k,.int .u16 255] w fun e w' =>
   e = .returned (.tuple #[.agg #[.int .u16 (halfI (x * k) 255),.int .u16 (halfI (y * k) 255),.int .u16 (halfI (z * k) 255),.int .u16 (halfI (a * k) 255),.int .u16 (halfI (f * k) 255)],.bool true]) ∧ ∃ o1 o2 o3:Obj,w' = (((w.alloc o1).alloc o2).alloc o3):=by
 have i0:∀ (b0 b1 b2 b3 b4:Value) (w:World),(Instr.index 174 (.agg #[b0,b1,b2,b3,b4]) (.int .i64 0)).run Tryz.prog w = .ok b0 w:=fun _ _ _ _ _  _ => by kernel_rfl
 have i1:∀ (b0 b1 b2 b3 b4:Value) (w:World),(Instr.index 174 (.agg #[b0,b1,b2,b3,b4]) (.int .i64 1)).run Tryz.prog w = .ok b1 w:=fun _ _ _ _ _  _ => by kernel_rfl
 have i2:∀ (b0 b1 b2 b3 b4:Value) (w:World),(Instr.index 174 (.agg #[b0,b1,b2,b3,b4]) (.int .i64 2)).run Tryz.prog w = .ok b2 w:=fun _ _ _ _ _  _ => by kernel_rfl
 have i3:∀ (b0 b1 b2 b3 b4:Value) (w:World),(Instr.index 174 (.agg #[b0,b1,b2,b3,b4]) (.int .i64 3)).run Tryz.prog w = .ok b3 w:=fun _ _ _ _ _  _ => by kernel_rfl
 have i4:∀ (b0 b1 b2 b3 b4:Value) (w:World),(Instr.index 174 (.agg #[b0,b1,b2,b3,b4]) (.int .i64 4)).run Tryz.prog w = .ok b4 w:=fun _ _ _ _ _  _ => by kernel_rfl
 obtain ⟨v0,v1,v2,v3,v4⟩:x ≤ a ∧ y ≤ a ∧ z ≤ a ∧ a ≤ f ∧ f ≤ 255:=by simpa [validB] using hv
 obtain ⟨p0,p1⟩:=mul_bound x k 255 255 (by omega) (by omega) (by omega) (by omega)
 obtain ⟨p2,p3⟩:=mul_bound y k 255 255 (by omega) (by omega) (by omega) (by omega)
 obtain ⟨p4,p5⟩:=mul_bound z k 255 255 (by omega) (by omega) (by omega) (by omega)
 obtain ⟨p6,p7⟩:=mul_bound a k 255 255 (by omega) (by omega) (by omega) (by omega)
 obtain ⟨p8,p9⟩:=mul_bound f k 255 255 (by omega) (by omega) (by omega) (by omega)
 obtain ⟨q0,q1⟩:=half_range (x * k) 255 255 p0 (by omega) (by omega) (by omega)
 obtain ⟨q2,q3⟩:=half_range (y * k) 255 255 p2 (by omega) (by omega) (by omega)
 obtain ⟨q4,q5⟩:=half_range (z * k) 255 255 p4 (by omega) (by omega) (by omega)
 obtain ⟨q6,q7⟩:=half_range (a * k) 255 255 p6 (by omega) (by omega) (by omega)
 obtain ⟨q8,q9⟩:=half_range (f * k) 255 255 p8 (by omega) (by omega) (by omega)
 go_enter Tryz.func104,Tryz.ntmps104
 go_wp2_with (go_at_call 54; refine (valid_call _ _ _ _ _ _ _).mono ?_; rintro e w1 ⟨rfl,rfl⟩)
 refine wp_loop_rounds 6 ?_
 iterate 5
  rw [rounds_succ]
  go_wp2_with fail
  refine (by255_call _ _ (by omega) (by omega)).mono ?_
  rintro e w' ⟨rfl,rfl⟩
  go_wp2_with fail
 rw [rounds_succ]
 go_wp2_with fail
 go_returns
 exact ⟨rfl,_,_,_,rfl⟩
set_option maxHeartbeats 1000000 in
theorem scale65535 (x y z a f k:Int) (w:World) (hv:validB x y z a f 65535 = true) (x0:0 ≤ x) (y0:0 ≤ y) (z0:0 ≤ z) (k0:0 ≤ k) (k1:k ≤ 65535) :
  Calls Tryz.prog 104 #[.agg #[.int .u16 x,.int .u16 y,.int .u16 z,.int .u16 a,.int .u16 f],.int .u16 k,.int .u16 65535] w fun e w' =>
   e = .returned (.tuple #[.agg #[.int .u16 (halfI (x * k) 65535),.int .u16 (halfI (y * k) 65535),.int .u16 (halfI (z * k) 65535),.int .u16 (halfI (a * k) 65535),.int .u16 (halfI (f * k) 65535)],.bool true]) ∧ ∃ o1 o2 o3:Obj,w' = (((w.alloc o1).alloc o2).alloc o3):=by
 have i0:∀ (b0 b1 b2 b3 b4:Value) (w:World),(Instr.index 174 (.agg #[b0,b1,b2,b3,b4]) (.int .i64 0)).run Tryz.prog w = .ok b0 w:=fun _ _ _ _ _  _ => by kernel_rfl
 have i1:∀ (b0 b1 b2 b3 b4:Value) (w:World),(Instr.index 174 (.agg #[b0,b1,b2,b3,b4]) (.int .i64 1)).run Tryz.prog w = .ok b1 w:=fun _ _ _ _ _  _ => by kernel_rfl
 have i2:∀ (b0 b1 b2 b3 b4:Value) (w:World),(Instr.index 174 (.agg #[b0,b1,b2,b3,b4]) (.int .i64 2)).run Tryz.prog w = .ok b2 w:=fun _ _ _ _ _  _ => by kernel_rfl
 have i3:∀ (b0 b1 b2 b3 b4:Value) (w:World),(Instr.index 174 (.agg #[b0,b1,b2,b3,b4]) (.int .i64 3)).run Tryz.prog w = .ok b3 w:=fun _ _ _ _ _  _ => by kernel_rfl
 have i4:∀ (b0 b1 b2 b3 b4:Value) (w:World),(Instr.index 174 (.agg #[b0,b1,b2,b3,b4]) (.int .i64 4)).run Tryz.prog w = .ok b4 w:=fun _ _ _ _ _  _ => by kernel_rfl
 obtain ⟨v0,v1,v2,v3,v4⟩:x ≤ a ∧ y ≤ a ∧ z ≤ a ∧ a ≤ f ∧ f ≤ 65535:=by simpa [validB] using hv
 obtain ⟨p0,p1⟩:=mul_bound x k 65535 65535 (by omega) (by omega) (by omega) (by omega)
 obtain ⟨p2,p3⟩:=mul_bound y k 65535 65535 (by omega) (by omega) (by omega) (by omega)
 obtain ⟨p4,p5⟩:=mul_bound z k 65535 65535 (by omega) (by omega) (by omega) (by omega)
 obtain ⟨p6,p7⟩:=mul_bound a k 65535 65535 (by omega) (by omega) (by omega) (by omega)
 obtain ⟨p8,p9⟩:=mul_bound f k 65535 65535 (by omega) (by omega) (by omega) (by omega)
 obtain ⟨q0,q1⟩:=half_range (x * k) 65535 65535 p0 (by omega) (by omega) (by omega)
 obtain ⟨q2,q3⟩:=half_range (y * k) 65535 65535 p2 (by omega) (by omega) (by omega)
 obtain ⟨q4,q5⟩:=half_range (z * k) 65535 65535 p4 (by omega) (by omega) (by omega)
 obtain ⟨q6,q7⟩:=half_range (a * k) 65535 65535 p6 (by omega) (by omega) (by omega)
 obtain ⟨q8,q9⟩:=half_range (f * k) 65535 65535 p8 (by omega) (by omega) (by omega)
 go_enter Tryz.func104,Tryz.ntmps104
 go_wp2_with (go_at_call 54; refine (valid_call _ _ _ _ _ _ _).mono ?_; rintro e w1 ⟨rfl,rfl⟩)
 refine wp_loop_rounds 6 ?_
 iterate 5
  rw [rounds_succ]
  go_wp2_with fail
  refine (by65535_call _ _ (by omega) (by omega)).mono ?_
  rintro e w' ⟨rfl,rfl⟩
  go_wp2_with fail
 rw [rounds_succ]
 go_wp2_with fail
 go_returns
 exact ⟨rfl,_,_,_,rfl⟩
set_option maxRecDepth 100000
def galp (n3 n4 m:Int):Int:=if 0 < n3 % 3 then gsam (n3.tdiv 3) (gsam n4 m) else gsam n4 m
theorem galp_bounds (n3 n4 m:Int) (h:0 ≤ m):0 ≤ galp n3 n4 m ∧ galp n3 n4 m ≤ gsam n4 m:=by
 unfold galp
 have a:=gsam_bounds n4 m h
 have b:=gsam_bounds (n3.tdiv 3) (gsam n4 m) a.1
 split <;> omega
theorem still_tail {P:Program} {id:Nat} {Q:Exit → Act → World → Prop} {a:Act} {w:World} {l:List Oper} (n:Nat) (hm:P.follows .mixedOrders = true) (hB:Region.lexTailB .any l.toArray n = true)
  (h:wpStill P l.toArray w.drew (fun a' => wpList P l.toArray Q (l.drop n) a' w.drew) (l.take n) a):(Code.region id l.toArray true).wp P Q a w :=
 wp_region_still_tail n hm hB h
theorem tdiv3_bounds (n:Int) (h0:-9223372036854775808 ≤ n) (h1:n ≤ 9223372036854775807):-9223372036854775808 ≤ n.tdiv 3 ∧ n.tdiv 3 ≤ 9223372036854775807:=by
 have e:=Int.mul_tdiv_add_tmod n 3
 have b:=tmod_bounds n 3 (by omega)
 omega
theorem tlPix20 {p:Prop} (h:p:=by
  rw [e]
  clear e
  go_enter Tryz.func42,Tryz.ntmps42
  go_wp2_with (first
   | (go_at_call 47; refine (sample_call _ _ _ (by omega) (by omega) (by omega) (by omega)).mono ?_; rintro e w' ⟨rfl,rfl⟩)
   | (go_at_call 8; refine (mod_call _ _ _ (by omega) (by omega)).mono ?_; rintro e w' ⟨rfl,rfl⟩))
  refine still_tail 16 (by kernel_rfl) (by kernel_rfl) ?_
  simp only [List.take_succ_cons,List.take_zero,List.drop_succ_cons,List.drop_zero]
  iterate 3
   iterate 3 still_step
   still_call ((sample_call _ _ _ (by omega) (by omega) (by omega) (by omega)).mono fun _ _ h => ⟨h.1,h.2.symm⟩)
  iterate 4 still_step
  refine wpStill_nil ?_
  go_wp2
  go_returns
  exact ⟨rfl,_,_,1,rfl⟩):p:=h
set_option maxHeartbeats 1000000 in
theorem genPixel (n0 n1 n2 n3 n4 m:Int) (w:World) (m0:0 ≤ m) (m1:m ≤ 65535) (h0:-9223372036854775808 ≤ n0) (g0:n0 ≤ 9223372036854775807) (h1:-9223372036854775808 ≤ n1) (g1:n1 ≤ 9223372036854775807) (h2:-9223372036854775808 ≤ n2) (g2:n2 ≤ 9223372036854775807) (h3:-9223372036854775808 ≤ n3) (g3:n3 ≤ 9223372036854775807) (h4:-9223372036854775808 ≤ n4) (g4:n4 ≤ 9223372036854775807) :
  Calls Tryz.prog 42 #[.agg #[.int .i64 n0,.int .i64 n1,.int .i64 n2,.int .i64 n3,.int .i64 n4],.int .u16 m] w fun e w' =>
   e = .returned (.agg #[.int .u16 (gsam n0 (galp n3 n4 m)),.int .u16 (gsam n1 (galp n3 n4 m)),.int .u16 (gsam n2 (galp n3 n4 m)),.int .u16 (galp n3 n4 m),.int .u16 (gsam n4 m)]) ∧ ∃ o1 o2:Obj,∃ n:Nat,w' = (((w.alloc o1).alloc o2).drewN n):=by
 obtain ⟨a0,a1⟩:=gsam_bounds n4 m m0
 obtain ⟨d0,d1⟩:=tdiv3_bounds n3 h3 g3
 obtain ⟨b0,b1⟩:=gsam_bounds (n3.tdiv 3) (gsam n4 m) a0
 have hsd:∀ (w:World) (n:Nat) (a:Addr) (v:Value),(w.drewN n).setCell a v = (w.setCell a v).drewN n:=fun _ _ _ _ => rfl
 have had:∀ (w:World) (n:Nat) (o:Obj),(w.drewN n).alloc o = (w.alloc o).drewN n:=fun _ _ _ => rfl
 by_cases hc:0 < n3 % 3
 ·have e:galp n3 n4 m = gsam (n3.tdiv 3) (gsam n4 m):=by simp [galp,hc]
  exact tlPix20
 ·have e:galp n3 n4 m = gsam n4 m:=by simp [galp,hc]
  exact tlPix20
theorem valid_scaled (x y z a f k m:Int) (hv:validB x y z a f m = true) (m0:1 ≤ m) (k0:0 ≤ k) (k1:k ≤ m) :
  validB (halfI (x * k) m) (halfI (y * k) m) (halfI (z * k) m) (halfI (a * k) m) (halfI (f * k) m) m = true:=by
 obtain ⟨v0,v1,v2,v3,v4⟩:x ≤ a ∧ y ≤ a ∧ z ≤ a ∧ a ≤ f ∧ f ≤ m:=by simpa [validB] using hv
 have h:∀ p q:Int,p ≤ q → halfI (p * k) m ≤ halfI (q * k) m:=fun p q h => half_mono _ _ _ (Int.mul_le_mul_of_nonneg_right h k0) (by omega)
 have hm:halfI (f * k) m ≤ m:=half_mul_le _ _ _ m0 (Int.mul_le_mul v4 k1 k0 (by omega))
 simpa [validB] using ⟨h _ _ v0,h _ _ v1,h _ _ v2,h _ _ v3,hm⟩
theorem scaled_nonneg (x y z k m:Int) (m0:1 ≤ m) (x0:0 ≤ x) (y0:0 ≤ y) (z0:0 ≤ z) (k0:0 ≤ k):0 ≤ halfI (x * k) m ∧ 0 ≤ halfI (y * k) m ∧ 0 ≤ halfI (z * k) m :=
 ⟨half_nonneg _ _ (Int.mul_nonneg x0 k0) (by omega),half_nonneg _ _ (Int.mul_nonneg y0 k0) (by omega),half_nonneg _ _ (Int.mul_nonneg z0 k0) (by omega)⟩
theorem tlPix21 {p:Prop} (h:p:=by
  rintro e w1 ⟨rfl,o1,o2,o3,rfl⟩
  go_wp2_with fail
  go_returns
  exact ⟨rfl,_,_,_,_,_,_,_,_,rfl⟩):p:=h
set_option maxHeartbeats 1000000 in
theorem both255 (x y z a f k j:Int) (w:World) (hv:validB x y z a f 255 = true) (x0:0 ≤ x) (y0:0 ≤ y) (z0:0 ≤ z) (k0:0 ≤ k) (k1:k ≤ 255) (j0:0 ≤ j) (j1:j ≤ 255) :
  Calls Tryz.prog 100 #[.agg #[.int .u16 x,.int .u16 y,.int .u16 z,.int .u16 a,.int .u16 f],.int .u16 k,.int .u16 j,.int .u16 255] w fun e w' =>
   e = .returned (.tuple #[.agg #[.int .u16 (halfI (halfI (x * k) 255 * j) 255),.int .u16 (halfI (halfI (y * k) 255 * j) 255),.int .u16 (halfI (halfI (z * k) 255 * j) 255),.int .u16 (halfI (halfI (a * k) 255 * j) 255),.int .u16 (halfI (halfI (f * k) 255 * j) 255)],.bool true]) ∧ ∃ o1 o2 o3 o4 o5 o6 o7 o8:Obj,w' = ((((((((w.alloc o1).alloc o2).alloc o3).alloc o4).alloc o5).alloc o6).alloc o7).alloc o8):=by
 have hv2:=valid_scaled x y z a f k 255 hv (by omega) k0 k1
 obtain ⟨s0,s1,s2⟩:=scaled_nonneg x y z k 255 (by omega) x0 y0 z0 k0
 have hsd:∀ (w:World) (n:Nat) (a:Addr) (v:Value),(w.drewN n).setCell a v = (w.setCell a v).drewN n:=fun _ _ _ _ => rfl
 have had:∀ (w:World) (n:Nat) (o:Obj),(w.drewN n).alloc o = (w.alloc o).drewN n:=fun _ _ _ => rfl
 go_enter Tryz.func100,Tryz.ntmps100
 go_wp2_with fail
 refine (scale255 _ _ _ _ _ _ _ hv x0 y0 z0 k0 k1).mono ?_
 rintro e w1 ⟨rfl,o1,o2,o3,rfl⟩
 go_wp2_with fail
 refine (scale255 _ _ _ _ _ _ _ hv2 s0 s1 s2 j0 j1).mono ?_
 exact tlPix21
set_option maxHeartbeats 1000000 in
theorem both65535 (x y z a f k j:Int) (w:World) (hv:validB x y z a f 65535 = true) (x0:0 ≤ x) (y0:0 ≤ y) (z0:0 ≤ z) (k0:0 ≤ k) (k1:k ≤ 65535) (j0:0 ≤ j) (j1:j ≤ 65535) :
  Calls Tryz.prog 100 #[.agg #[.int .u16 x,.int .u16 y,.int .u16 z,.int .u16 a,.int .u16 f],.int .u16 k,.int .u16 j,.int .u16 65535] w fun e w' =>
   e = .returned (.tuple #[.agg #[.int .u16 (halfI (halfI (x * k) 65535 * j) 65535),.int .u16 (halfI (halfI (y * k) 65535 * j) 65535),.int .u16 (halfI (halfI (z * k) 65535 * j) 65535),.int .u16 (halfI (halfI (a * k) 65535 * j) 65535),.int .u16 (halfI (halfI (f * k) 65535 * j) 65535)],.bool true]) ∧ ∃ o1 o2 o3 o4 o5 o6 o7 o8:Obj,w' = ((((((((w.alloc o1).alloc o2).alloc o3).alloc o4).alloc o5).alloc o6).alloc o7).alloc o8):=by
 have hv2:=valid_scaled x y z a f k 65535 hv (by omega) k0 k1
 obtain ⟨s0,s1,s2⟩:=scaled_nonneg x y z k 65535 (by omega) x0 y0 z0 k0
 have hsd:∀ (w:World) (n:Nat) (a:Addr) (v:Value),(w.drewN n).setCell a v = (w.setCell a v).drewN n:=fun _ _ _ _ => rfl
 have had:∀ (w:World) (n:Nat) (o:Obj),(w.drewN n).alloc o = (w.alloc o).drewN n:=fun _ _ _ => rfl
 go_enter Tryz.func100,Tryz.ntmps100
 go_wp2_with fail
 refine (scale65535 _ _ _ _ _ _ _ hv x0 y0 z0 k0 k1).mono ?_
 rintro e w1 ⟨rfl,o1,o2,o3,rfl⟩
 go_wp2_with fail
 refine (scale65535 _ _ _ _ _ _ _ hv2 s0 s1 s2 j0 j1).mono ?_
 exact tlPix21
theorem eql_pixel (x y z a f x' y' z' a' f':Int) (w:World) :
  (binOp .eql 32 (.agg #[.int .u16 x,.int .u16 y,.int .u16 z,.int .u16 a,.int .u16 f]) (.agg #[.int .u16 x',.int .u16 y',.int .u16 z',.int .u16 a',.int .u16 f'])).run Tryz.prog w
   = .ok (.bool (x == x' && y == y' && z == z' && a == a' && f == f')) w:=by
 have h1:∀ (a b:Int) (d:Nat),(Op.equalIn (d + 1) 27 (.int .u16 a) (.int .u16 b)).run Tryz.prog w = .ok (a == b) w:=fun a b d => run_equalIn_int w d 27 .u16 .u16 a b Tryz.underlying27
 have p0:∀ a b c d e:Value,(part 30 #[a,b,c,d,e] 0).run Tryz.prog w = .ok (.agg #[a,b,c]) w:=fun _ _ _ _ _ => by kernel_rfl
 have p1:∀ a b c d e:Int,(part 27 #[.int .u16 a,.int .u16 b,.int .u16 c,.int .u16 d,.int .u16 e] 3).run Tryz.prog w = .ok (.int .u16 d) w:=fun _ _ _ _ _ => by kernel_rfl
 have p2:∀ a b c d e:Int,(part 27 #[.int .u16 a,.int .u16 b,.int .u16 c,.int .u16 d,.int .u16 e] 4).run Tryz.prog w = .ok (.int .u16 e) w:=fun _ _ _ _ _ => by kernel_rfl
 have q0:∀ a b c:Int,(part 27 #[.int .u16 a,.int .u16 b,.int .u16 c] 0).run Tryz.prog w = .ok (.int .u16 a) w:=fun _ _ _ => by kernel_rfl
 have q1:∀ a b c:Int,(part 27 #[.int .u16 a,.int .u16 b,.int .u16 c] 1).run Tryz.prog w = .ok (.int .u16 b) w:=fun _ _ _ => by kernel_rfl
 have q2:∀ a b c:Int,(part 27 #[.int .u16 a,.int .u16 b,.int .u16 c] 2).run Tryz.prog w = .ok (.int .u16 c) w:=fun _ _ _ => by kernel_rfl
 obtain ⟨i,hi⟩:=Option.isSome_iff_exists.1 (show (Tryz.prog.info? 27).isSome = true by kernel_rfl)
 have hA:∀ x y z x' y' z':Int,(Op.equalIn 9999 30 (.agg #[.int .u16 x,.int .u16 y,.int .u16 z]) (.agg #[.int .u16 x',.int .u16 y',.int .u16 z'])).run Tryz.prog w = .ok (x == x' && y == y' && z == z') w:=by
  intro x y z x' y' z'
  have hc:Tryz.prog.cellsOf 27 = 1:=by kernel_rfl
  have e:=run_equalIn_array (P:=Tryz.prog) w 9998 #[.int .u16 x,.int .u16 y,.int .u16 z] #[.int .u16 x',.int .u16 y',.int .u16 z'] Tryz.underlying30 hi
  rw [hc] at e
  rw [e]
  have r3:List.range 3 = [0,1,2]:=rfl
  simp only [r3,Op.eqItems]
  by_cases e1:x = x' <;> by_cases e2:y = y' <;> by_cases e3:z = z' <;> simp [q0,q1,q2,h1 _ _ 9997,e1,e2,e3]
 rw [run_eql_struct,show (10000:Nat) = 9999 + 1 from rfl,run_equalIn_struct w 9999 32 _ _ (by kernel_rfl) (by kernel_rfl)]
 simp only [Program.fieldsOf,Tryz.underlying32,Op.eqFields]
 by_cases e1:x = x' <;> by_cases e2:y = y' <;> by_cases e3:z = z' <;> by_cases e4:a = a' <;> by_cases e5:f = f' <;> simp [p0,hA,p1,p2,h1 _ _ 9998,e1,e2,e3,e4,e5]
theorem eql_pixel_same (x y z a f:Int) (w:World) :
  (binOp .eql 32 (.agg #[.int .u16 x,.int .u16 y,.int .u16 z,.int .u16 a,.int .u16 f]) (.agg #[.int .u16 x,.int .u16 y,.int .u16 z,.int .u16 a,.int .u16 f])).run Tryz.prog w = .ok (.bool true) w:=by
 rw [eql_pixel]; simp
end Go.Proofs.YtepfoelgegljbaaGreatDoor
