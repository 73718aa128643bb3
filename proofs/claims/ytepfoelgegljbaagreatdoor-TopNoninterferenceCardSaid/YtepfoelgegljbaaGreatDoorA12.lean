/- Part A12. -/
import Derived.Test.YtepfoelgegljbaaGreatDoorA03
namespace Go.Proofs.YtepfoelgegljbaaGreatDoor
set_option maxRecDepth 100000
open Go.RowKit
set_option linter.unusedVariables false
set_option maxHeartbeats 400000 in
theorem factor_call (f a m:Int) (w:World) (a0:0 ≤ a) (a1:a ≤ m) (m1:m ≤ 65535) :
  Calls Tryz.prog 125 #[.int .i64 f,.int .u16 a,.int .u16 m] w fun e w' => e = .returned (.int .u16 (facI f a m)) ∧ w = w':=by
 by_cases h1:f = 1
 ·subst h1
  go_enter Tryz.func125,Tryz.ntmps125
  go_wp2
  go_ret
  exact ⟨rfl,rfl⟩
 by_cases h2:f = 2
 ·subst h2
  go_enter Tryz.func125,Tryz.ntmps125
  go_wp2
  go_ret
  exact ⟨rfl,rfl⟩
 by_cases h3:f = 3
 ·subst h3
  go_enter Tryz.func125,Tryz.ntmps125
  go_wp2
  go_ret
  exact ⟨rfl,rfl⟩
 have e:facI f a m = 0:=by unfold facI; rw [if_neg h1,if_neg h2,if_neg h3]
 rw [e]
 have b1:(f == 1) = false:=by simpa using h1
 have b2:(f == 2) = false:=by simpa using h2
 have b3:(f == 3) = false:=by simpa using h3
 clear h1 h2 h3 e
 go_enter Tryz.func125,Tryz.ntmps125
 go_wp2
 go_ret
 exact ⟨rfl,rfl⟩
theorem factors_no (k a b m:Int) (h:opOk k a b m = false):faI k a b m = 0 ∧ fbI k a b m = 0:=by
 unfold faI fbI; rw [h]; exact ⟨rfl,rfl⟩
theorem factors_yes (k a b m:Int) (h:opOk k a b m = true):faI k a b m = facI (opFa k) b m ∧ fbI k a b m = facI (opFb k) a m:=by
 unfold faI fbI; rw [h]; exact ⟨rfl,rfl⟩
theorem ok_not {k a b m:Int} (h:opIs k = false ∨ m < a ∨ m < b):opOk k a b m = false:=by
 unfold opOk
 rcases h with h | h | h
 ·have:=of_decide_eq_false h
  exact decide_eq_false (by omega)
 ·exact decide_eq_false (by omega)
 ·exact decide_eq_false (by omega)
theorem ok_yes {k a b m:Int} (h:opIs k = true) (h1:a ≤ m) (h2:b ≤ m):opOk k a b m = true:=by
 have:=of_decide_eq_true h
 exact decide_eq_true (by omega)
theorem tlFac2 {p:Prop} (h:p:=by
  go_enter Tryz.func116,Tryz.ntmps116
  go_wp2_with (go_at_call 82; (with_reducible refine (HF.out).mono ?_); rintro e w' ⟨rfl,rfl⟩)
  go_ret3
  exact ⟨rfl,⟨[_,_],0⟩,rfl⟩):p:=h
theorem tlFac3 {p:Prop} (h:p:=by
  obtain ⟨e1,e2⟩:=factors_no k a b m e
  rw [e,e1,e2]
  clear e e1 e2 hk
  exact tlFac2):p:=h
set_option maxHeartbeats 1000000 in
theorem factors_call (k a b m:Int) (w:World) (hR:Ruled w) (a0:0 ≤ a) (a1:a ≤ 65535) (b0:0 ≤ b) (b1:b ≤ 65535) (m0:0 ≤ m) (m1:m ≤ 65535) :
  Calls Tryz.prog 116 #[.int .i64 k,.int .u16 a,.int .u16 b,.int .u16 m] w fun e w' => e = .returned (.tuple #[.int .u16 (faI k a b m),.int .u16 (fbI k a b m),.bool (opOk k a b m)]) ∧ ∃ p,w' = more w p:=by
 have hf:=find_call k w hR
 by_cases hk:opIs k = true
 ·rw [hk] at hf
  have HF:=hd_ hf
  clear hf
  by_cases ha:m < a
  ·have e:=ok_not (k:=k) (b:=b) (.inr (.inl ha))
   exact tlFac3
  by_cases hb:m < b
  ·have e:=ok_not (k:=k) (a:=a) (.inr (.inr hb))
   exact tlFac3
  have e:=ok_yes (k:=k) (a:=a) (b:=b) (m:=m) hk (by omega) (by omega)
  obtain ⟨e1,e2⟩:=factors_yes k a b m e
  rw [e,e1,e2]
  clear e e1 e2 hk
  go_enter Tryz.func116,Tryz.ntmps116
  go_wp2_with (go_at_call 82; (with_reducible refine (HF.out).mono ?_); rintro e w' ⟨rfl,rfl⟩)
  go_quiet ((go_at_call 125; exact Calls.quiet_of_same ((factor_call _ _ _ _ (by omega) (by omega) (by omega)).mono fun _ _ ⟨he,hw⟩ => ⟨he,hw.symm⟩)))
  go_wp2
  go_ret3
  exact ⟨rfl,⟨[_,_],_⟩,rfl⟩
 ·have hk':opIs k = false:=by simpa using hk
  rw [hk'] at hf
  have HF:=hd_ hf
  have e:=ok_not (a:=a) (b:=b) (m:=m) (.inl hk')
  obtain ⟨e1,e2⟩:=factors_no k a b m e
  rw [e,e1,e2]
  clear hf e e1 e2 hk hk'
  exact tlFac2
set_option maxHeartbeats 400000 in
theorem sum_call (x p y q m:Int) (w:World) (x0:0 ≤ x) (x1:x ≤ 65535) (p0:0 ≤ p) (p1:p ≤ 65535) (y0:0 ≤ y) (y1:y ≤ 65535) (q0:0 ≤ q) (q1:q ≤ 65535) (m0:0 ≤ m) (m1:m ≤ 65535) (h:halfI (x * p + y * q) m ≤ 65535) :
  Calls Tryz.prog 117 #[.int .u16 x,.int .u16 p,.int .u16 y,.int .u16 q,.int .u16 m] w fun e w' => e = .returned (.int .u16 (halfI (x * p + y * q) m)) ∧ ∃ n,w' = w.drewN n:=by
 obtain ⟨u0,u1⟩:=mul_bound x p 65535 65535 x0 p0 x1 p1
 obtain ⟨v0,v1⟩:=mul_bound y q 65535 65535 y0 q0 y1 q1
 have h0:=half_nonneg (x * p + y * q) m (by omega) m0
 go_enter Tryz.func117,Tryz.ntmps117
 go_wp2_with (go_at_call 103; (with_reducible refine (half_call _ _ _ (by omega) (by omega) (by omega) (by omega)).mono ?_); rintro e w' ⟨rfl,k,rfl⟩)
 go_ret
 exact ⟨rfl,_,rfl⟩
set_option maxHeartbeats 400000 in
theorem alpha_op (k a b m:Int) (w:World) (hR:Ruled w) (a0:0 ≤ a) (a1:a ≤ 65535) (b0:0 ≤ b) (b1:b ≤ 65535) (m0:0 ≤ m) (m1:m ≤ 65535) :
  Calls Tryz.prog 107 #[.int .i64 k,.int .u16 a,.int .u16 b,.int .u16 m] w fun e w' => e = .returned (.int .u16 (alpI k a b m)) ∧ ∃ p,w' = more w p:=by
 obtain ⟨u0,u1⟩:=faI_bounds k a b m b0 m0
 obtain ⟨v0,v1⟩:=fbI_bounds k a b m a0 m0
 obtain ⟨h0,h1⟩:=alp_bounds k a b m a0 b0 m0
 unfold alpI at *
 have HF:=hd_ (factors_call k a b m w hR a0 a1 b0 b1 m0 m1)
 go_enter Tryz.func107,Tryz.ntmps107
 go_wp2_with (first
  | (go_at_call 116; (with_reducible refine (HF.out).mono ?_); rintro e w' ⟨rfl,p,rfl⟩)
  | (go_at_call 117; (with_reducible refine (sum_call _ _ _ _ _ _ (by omega) (by omega) (by omega) (by omega) (by omega) (by omega) (by omega) (by omega) (by omega) (by omega) (by omega)).mono ?_); rintro e w' ⟨rfl,n,rfl⟩))
 go_ret
 exact ⟨rfl,_,more_drewN _ _ _⟩
theorem shI_not {k f g m:Int} (h:opOk k f g m = false):shI k f g m = 0:=by unfold shI; rw [h]; rfl
theorem shI_at {k f g m:Int} (h:opOk k f g m = true) :
  (opSh k = 0 → shI k f g m = 0) ∧ (opSh k = 1 → shI k f g m = f) ∧ (opSh k = 2 → shI k f g m = g) ∧ (opSh k = 3 → shI k f g m = halfI (m * f + (m - f) * g) m) ∧ (opSh k = 4 → shI k f g m = halfI (f * g) m):=by
 unfold shI; rw [h]
 refine ⟨?_,?_,?_,?_,?_⟩
 all_goals
  intro e
  rw [e]
  simp
theorem opSh_cases (k:Int):opSh k = 0 ∨ opSh k = 1 ∨ opSh k = 2 ∨ opSh k = 3 ∨ opSh k = 4:=by
 by_cases h:1 ≤ k ∧ k ≤ 12
 ·rcases op_cases h.1 h.2 with rfl | rfl | rfl | rfl | rfl | rfl | rfl | rfl | rfl | rfl | rfl | rfl
  all_goals decide
 ·exact .inl (op_none (by omega)).2.2.2
theorem tlFac0 {p:Prop} (h:p:=by
  have HF:=hd_ hf
  clear hf
  go_enter Tryz.func108,Tryz.ntmps108
  go_wp2_with (first
   | (go_at_call 82; (with_reducible refine (HF.out).mono ?_); rintro e w' ⟨rfl,rfl⟩)
   | (go_at_call 117; (with_reducible refine (sum_call _ _ _ _ _ _ (by omega) (by omega) (by omega) (by omega) (by omega) (by omega) (by omega) (by omega) (by omega) (by omega) (by omega)).mono ?_); rintro e w' ⟨rfl,n,rfl⟩))
  go_ret
  exact ⟨rfl,⟨[_,_],0⟩,rfl⟩):p:=h
theorem shape_early (k f g m s:Int) (ok:Bool) (w:World) (hf:Calls Tryz.prog 82 #[.int .i64 k] w fun e w' => e = .returned (.tuple #[.agg #[.string (opName k),.int .i64 (opFa k),.int .i64 (opFb k),.int .i64 s],.bool ok]) ∧ w.alloc (.cells #[.string (opName k),.int .i64 (opFa k),.int .i64 (opFb k),.int .i64 s] 139) = w')
  (f0:0 ≤ f) (f1:f ≤ 65535) (g0:0 ≤ g) (g1:g ≤ 65535) (m0:0 ≤ m) (m1:m ≤ 65535) (h:m < f ∨ m < g ∨ m = 0) :
  Calls Tryz.prog 108 #[.int .i64 k,.int .u16 f,.int .u16 g,.int .u16 m] w fun e w' => e = .returned (.int .u16 0) ∧ ∃ p,w' = more w p:=by
 by_cases h1:m < f
 ·clear h
  exact tlFac0
 by_cases h2:m < g
 ·clear h
  exact tlFac0
 obtain rfl:m = 0:=by omega
 clear h
 exact tlFac0
set_option maxHeartbeats 400000 in
theorem shape_0 (k f g m:Int) (ok:Bool) (w:World) (hf:Calls Tryz.prog 82 #[.int .i64 k] w fun e w' => e = .returned (.tuple #[.agg #[.string (opName k),.int .i64 (opFa k),.int .i64 (opFb k),.int .i64 0],.bool ok]) ∧ w.alloc (.cells #[.string (opName k),.int .i64 (opFa k),.int .i64 (opFb k),.int .i64 0] 139) = w')
  (f0:0 ≤ f) (f1:f ≤ 65535) (g0:0 ≤ g) (g1:g ≤ 65535) (m0:0 ≤ m) (m1:m ≤ 65535) (h1:f ≤ m) (h2:g ≤ m) (h3:1 ≤ m) :
  Calls Tryz.prog 108 #[.int .i64 k,.int .u16 f,.int .u16 g,.int .u16 m] w fun e w' => e = .returned (.int .u16 (0)) ∧ ∃ p,w' = more w p:=by
 have hz:(m == 0) = false:=by simpa using (by omega:m ≠ 0)
 exact tlFac0
set_option maxHeartbeats 400000 in
theorem shape_1 (k f g m:Int) (ok:Bool) (w:World) (hf:Calls Tryz.prog 82 #[.int .i64 k] w fun e w' => e = .returned (.tuple #[.agg #[.string (opName k),.int .i64 (opFa k),.int .i64 (opFb k),.int .i64 1],.bool ok]) ∧ w.alloc (.cells #[.string (opName k),.int .i64 (opFa k),.int .i64 (opFb k),.int .i64 1] 139) = w')
  (f0:0 ≤ f) (f1:f ≤ 65535) (g0:0 ≤ g) (g1:g ≤ 65535) (m0:0 ≤ m) (m1:m ≤ 65535) (h1:f ≤ m) (h2:g ≤ m) (h3:1 ≤ m) :
  Calls Tryz.prog 108 #[.int .i64 k,.int .u16 f,.int .u16 g,.int .u16 m] w fun e w' => e = .returned (.int .u16 (f)) ∧ ∃ p,w' = more w p:=by
 have hz:(m == 0) = false:=by simpa using (by omega:m ≠ 0)
 exact tlFac0
set_option maxHeartbeats 400000 in
theorem shape_2 (k f g m:Int) (ok:Bool) (w:World) (hf:Calls Tryz.prog 82 #[.int .i64 k] w fun e w' => e = .returned (.tuple #[.agg #[.string (opName k),.int .i64 (opFa k),.int .i64 (opFb k),.int .i64 2],.bool ok]) ∧ w.alloc (.cells #[.string (opName k),.int .i64 (opFa k),.int .i64 (opFb k),.int .i64 2] 139) = w')
  (f0:0 ≤ f) (f1:f ≤ 65535) (g0:0 ≤ g) (g1:g ≤ 65535) (m0:0 ≤ m) (m1:m ≤ 65535) (h1:f ≤ m) (h2:g ≤ m) (h3:1 ≤ m) :
  Calls Tryz.prog 108 #[.int .i64 k,.int .u16 f,.int .u16 g,.int .u16 m] w fun e w' => e = .returned (.int .u16 (g)) ∧ ∃ p,w' = more w p:=by
 have hz:(m == 0) = false:=by simpa using (by omega:m ≠ 0)
 exact tlFac0
theorem tlFac1 {p:Prop} (h:p:=by
  have HF:=hd_ hf
  clear hf
  go_enter Tryz.func108,Tryz.ntmps108
  go_wp2_with (first
   | (go_at_call 82; (with_reducible refine (HF.out).mono ?_); rintro e w' ⟨rfl,rfl⟩)
   | (go_at_call 117; (with_reducible refine (sum_call _ _ _ _ _ _ (by omega) (by omega) (by omega) (by omega) (by omega) (by omega) (by omega) (by omega) (by omega) (by omega) (by omega)).mono ?_); rintro e w' ⟨rfl,n,rfl⟩))
  go_ret
  exact ⟨rfl,⟨[_,_],_⟩,rfl⟩):p:=h
set_option maxHeartbeats 400000 in
theorem shape_3 (k f g m:Int) (ok:Bool) (w:World) (hf:Calls Tryz.prog 82 #[.int .i64 k] w fun e w' => e = .returned (.tuple #[.agg #[.string (opName k),.int .i64 (opFa k),.int .i64 (opFb k),.int .i64 3],.bool ok]) ∧ w.alloc (.cells #[.string (opName k),.int .i64 (opFa k),.int .i64 (opFb k),.int .i64 3] 139) = w')
  (f0:0 ≤ f) (f1:f ≤ 65535) (g0:0 ≤ g) (g1:g ≤ 65535) (m0:0 ≤ m) (m1:m ≤ 65535) (h1:f ≤ m) (h2:g ≤ m) (h3:1 ≤ m) :
  Calls Tryz.prog 108 #[.int .i64 k,.int .u16 f,.int .u16 g,.int .u16 m] w fun e w' => e = .returned (.int .u16 (halfI (m * f + (m - f) * g) m)) ∧ ∃ p,w' = more w p:=by
 have hz:(m == 0) = false:=by simpa using (by omega:m ≠ 0)
 obtain ⟨u0,u1⟩:=union_bounds f g m f0 g0 h1 h2
 obtain ⟨v0,v1⟩:=half_m _ m m0 u0 u1
 exact tlFac1
set_option maxHeartbeats 400000 in
theorem shape_4 (k f g m:Int) (ok:Bool) (w:World) (hf:Calls Tryz.prog 82 #[.int .i64 k] w fun e w' => e = .returned (.tuple #[.agg #[.string (opName k),.int .i64 (opFa k),.int .i64 (opFb k),.int .i64 4],.bool ok]) ∧ w.alloc (.cells #[.string (opName k),.int .i64 (opFa k),.int .i64 (opFb k),.int .i64 4] 139) = w')
  (f0:0 ≤ f) (f1:f ≤ 65535) (g0:0 ≤ g) (g1:g ≤ 65535) (m0:0 ≤ m) (m1:m ≤ 65535) (h1:f ≤ m) (h2:g ≤ m) (h3:1 ≤ m) :
  Calls Tryz.prog 108 #[.int .i64 k,.int .u16 f,.int .u16 g,.int .u16 m] w fun e w' => e = .returned (.int .u16 (halfI (f * g) m)) ∧ ∃ p,w' = more w p:=by
 have hz:(m == 0) = false:=by simpa using (by omega:m ≠ 0)
 obtain ⟨u0,u1⟩:=mul_bound f g m m f0 g0 h1 h2
 obtain ⟨v0,v1⟩:=half_m (f * g + 0 * 0) m m0 (by omega) (by omega)
 exact tlFac1
theorem shape_op (k f g m:Int) (w:World) (hR:Ruled w) (f0:0 ≤ f) (f1:f ≤ 65535) (g0:0 ≤ g) (g1:g ≤ 65535) (m0:0 ≤ m) (m1:m ≤ 65535) :
  Calls Tryz.prog 108 #[.int .i64 k,.int .u16 f,.int .u16 g,.int .u16 m] w fun e w' => e = .returned (.int .u16 (shI k f g m)) ∧ ∃ p,w' = more w p:=by
 have hf:=find_call k w hR
 unfold ruleBlock at hf
 by_cases h:m < f ∨ m < g ∨ m = 0
 ·rw [shI_zero k f g m f0 g0 h]
  exact shape_early k f g m _ _ w hf f0 f1 g0 g1 m0 m1 h
 by_cases hk:opIs k = true
 ·obtain ⟨s0,s1,s2,s3,s4⟩:=shI_at (ok_yes (k:=k) (a:=f) (b:=g) (m:=m) hk (by omega) (by omega))
  rcases opSh_cases k with e | e | e | e | e
  ·rw [s0 e]; rw [e] at hf; exact shape_0 k f g m _ w hf f0 f1 g0 g1 m0 m1 (by omega) (by omega) (by omega)
  ·rw [s1 e]; rw [e] at hf; exact shape_1 k f g m _ w hf f0 f1 g0 g1 m0 m1 (by omega) (by omega) (by omega)
  ·rw [s2 e]; rw [e] at hf; exact shape_2 k f g m _ w hf f0 f1 g0 g1 m0 m1 (by omega) (by omega) (by omega)
  ·rw [s3 e]; rw [e] at hf; exact shape_3 k f g m _ w hf f0 f1 g0 g1 m0 m1 (by omega) (by omega) (by omega)
  ·rw [s4 e]; rw [e] at hf; exact shape_4 k f g m _ w hf f0 f1 g0 g1 m0 m1 (by omega) (by omega) (by omega)
 ·have hk':opIs k = false:=by simpa using hk
  have e:opSh k = 0:=(op_none (by have:=of_decide_eq_false hk'; omega)).2.2.2
  rw [shI_not (ok_not (.inl hk'))]
  rw [e] at hf
  exact shape_0 k f g m _ w hf f0 f1 g0 g1 m0 m1 (by omega) (by omega) (by omega)
set_option linter.unusedSimpArgs false
theorem shI_1 {k f g m:Int} (h:opOk k f g m = true) (e:opSh k = 1):shI k f g m = f:=by unfold shI; rw [h,e]; simp
theorem shI_2 {k f g m:Int} (h:opOk k f g m = true) (e:opSh k = 2):shI k f g m = g:=by unfold shI; rw [h,e]; simp
theorem shI_3 {k f g m:Int} (h:opOk k f g m = true) (e:opSh k = 3):shI k f g m = halfI (m * f + (m - f) * g) m:=by unfold shI; rw [h,e]; simp
theorem shI_4 {k f g m:Int} (h:opOk k f g m = true) (e:opSh k = 4):shI k f g m = halfI (f * g) m:=by unfold shI; rw [h,e]; simp
theorem shI_0 {k f g m:Int} (e:opSh k = 0):shI k f g m = 0:=by unfold shI; rw [e]; simp
theorem union_mono (a b p q m:Int) (a0:0 ≤ a) (b0:0 ≤ b) (ap:a ≤ p) (bq:b ≤ q) (pm:p ≤ m) (qm:q ≤ m):m * a + (m - a) * b ≤ m * p + (m - p) * q:=by
 have h1:(m - p) * (m - q) ≤ (m - a) * (m - b):=Int.mul_le_mul (by omega) (by omega) (by omega) (by omega)
 have e:∀ x y:Int,m * x + (m - x) * y = m * m - (m - x) * (m - y):=by
  intro x y
  rw [Int.sub_mul,Int.sub_mul,Int.mul_sub,Int.mul_sub,Int.mul_comm x m]
  omega
 rw [e,e]; omega
theorem alp_le_sh (k a b p q m:Int) (k0:1 ≤ k) (k1:k ≤ 12) (a0:0 ≤ a) (b0:0 ≤ b) (ap:a ≤ p) (bq:b ≤ q) (pm:p ≤ m) (qm:q ≤ m) (m1:1 ≤ m):alpI k a b m ≤ shI k p q m:=by
 have h:opOk k a b m = true:=decide_eq_true (by omega)
 have h':opOk k p q m = true:=decide_eq_true (by omega)
 obtain ⟨A,B,C,M,hA,hB,hC,hM,hC',e1,e2,c0,c1,c2,c3⟩:=prods a b m a0 b0 (by omega) (by omega)
 have hu:=union_mono a b p q m a0 b0 ap bq pm qm
 rw [hA,e1] at hu
 have hpq:C ≤ p * q:=by rw [← hC]; exact Int.mul_le_mul ap bq b0 (by omega)
 have hpa:A ≤ p * m:=by rw [← hA,Int.mul_comm m a]; exact Int.mul_le_mul_of_nonneg_right ap (by omega)
 have hqb:B ≤ q * m:=by rw [← hB,Int.mul_comm m b]; exact Int.mul_le_mul_of_nonneg_right bq (by omega)
 unfold alpI
 rcases alp_num k a b m A B C h hA hB hC hC' e1 e2 with ⟨rfl,e⟩ | ⟨rfl,e⟩ | ⟨rfl,e⟩ | ⟨rfl,e⟩ | ⟨rfl,e⟩ | ⟨rfl,e⟩ | ⟨rfl,e⟩ | ⟨rfl,e⟩ | ⟨rfl,e⟩ | ⟨rfl,e⟩ | ⟨rfl,e⟩ | ⟨rfl,e⟩
 ·rw [e,shI_0 rfl]; exact half_mul_le _ _ _ m1 (by omega)
 ·rw [e,shI_1 h' rfl]; exact half_mul_le _ _ _ m1 hpa
 ·rw [e,shI_2 h' rfl]; exact half_mul_le _ _ _ m1 hqb
 ·rw [e,shI_3 h' rfl]; exact half_mono _ _ _ (by omega) (by omega)
 ·rw [e,shI_3 h' rfl]; exact half_mono _ _ _ (by omega) (by omega)
 ·rw [e,shI_4 h' rfl]; exact half_mono _ _ _ (by omega) (by omega)
 ·rw [e,shI_4 h' rfl]; exact half_mono _ _ _ (by omega) (by omega)
 ·rw [e,shI_1 h' rfl]; exact half_mul_le _ _ _ m1 (by omega)
 ·rw [e,shI_2 h' rfl]; exact half_mul_le _ _ _ m1 (by omega)
 ·rw [e,shI_2 h' rfl]; exact half_mul_le _ _ _ m1 hqb
 ·rw [e,shI_1 h' rfl]; exact half_mul_le _ _ _ m1 hpa
 ·rw [e,shI_3 h' rfl]; exact half_mono _ _ _ (by omega) (by omega)
theorem neutral_law (k a s m:Int) (h:neuB k = true) (a0:0 ≤ a) (a1:a ≤ m) (s0:0 ≤ s) (s1:s ≤ m) (m1:1 ≤ m):alpI k 0 a m = a ∧ shI k 0 s m = s:=by
 have hk:k = 3 ∨ k = 4 ∨ k = 5 ∨ k = 9 ∨ k = 10 ∨ k = 12:=of_decide_eq_true h
 have ok:opOk k 0 a m = true:=decide_eq_true (by omega)
 have ok':opOk k 0 s m = true:=decide_eq_true (by omega)
 have eu:m * 0 + (m - 0) * s = s * m:=by rw [Int.mul_zero,Int.sub_zero,Int.mul_comm]; omega
 constructor
 ·unfold alpI
  rcases alp_num k 0 a m 0 (a * m) 0 ok (by simp) (Int.mul_comm _ _) (by simp) (by simp) (by rw [Int.sub_zero,Int.mul_comm]; omega) (by simp) with ⟨e,e'⟩ | ⟨e,e'⟩ | ⟨e,e'⟩ | ⟨e,e'⟩ | ⟨e,e'⟩ | ⟨e,e'⟩ | ⟨e,e'⟩ | ⟨e,e'⟩ | ⟨e,e'⟩ | ⟨e,e'⟩ | ⟨e,e'⟩ | ⟨e,e'⟩
  all_goals first
   | (exfalso; omega)
   | (rw [e']; first | exact half_mul _ _ m1 | (simp only [Int.zero_add,Int.sub_zero,Int.mul_zero]; exact half_mul _ _ m1))
 ·rcases hk with rfl | rfl | rfl | rfl | rfl | rfl
  all_goals first
   | exact shI_2 ok' rfl
   | (rw [shI_3 ok' rfl,eu]; exact half_mul _ _ m1)
theorem fresh_law (k a s m:Int) (h:freB k = true) (a0:0 ≤ a) (a1:a ≤ m) (s0:0 ≤ s) (s1:s ≤ m) (m1:1 ≤ m):alpI k a 0 m = a ∧ shI k s 0 m = s:=by
 have hk:k = 2 ∨ k = 4 ∨ k = 5 ∨ k = 8 ∨ k = 11 ∨ k = 12:=of_decide_eq_true h
 have ok:opOk k a 0 m = true:=decide_eq_true (by omega)
 have ok':opOk k s 0 m = true:=decide_eq_true (by omega)
 have eu:m * s + (m - s) * 0 = s * m:=by rw [Int.mul_zero,Int.mul_comm]; omega
 constructor
 ·unfold alpI
  rcases alp_num k a 0 m (a * m) 0 0 ok (Int.mul_comm _ _) (by simp) (by simp) (by simp) (by simp) (by rw [Int.sub_zero,Int.mul_comm]; omega) with ⟨e,e'⟩ | ⟨e,e'⟩ | ⟨e,e'⟩ | ⟨e,e'⟩ | ⟨e,e'⟩ | ⟨e,e'⟩ | ⟨e,e'⟩ | ⟨e,e'⟩ | ⟨e,e'⟩ | ⟨e,e'⟩ | ⟨e,e'⟩ | ⟨e,e'⟩
  all_goals first
   | (exfalso; omega)
   | (rw [e']; first | exact half_mul _ _ m1 | (simp only [Int.add_zero,Int.sub_zero,Int.mul_zero]; exact half_mul _ _ m1))
 ·rcases hk with rfl | rfl | rfl | rfl | rfl | rfl
  all_goals first
   | exact shI_1 ok' rfl
   | (rw [shI_3 ok' rfl,eu]; exact half_mul _ _ m1)
end Go.Proofs.YtepfoelgegljbaaGreatDoor
