/- Part A3. -/
import Derived.Deep.Light
import Derived.Handy
import Derived.StillTail
import Derived.Deep.DeepCutAuto
import Derived.Deep.RegionHeld3
import Derived.Deep.RegionWith
import Derived.Deep.LoopGhost
import Derived.Laws.OwnMore
import Derived.Test.YtepfoelgegljbaaGreatDoorA01
import Derived.Test.YtepfoelgegljbaaGreatDoorA02
namespace Go.Proofs.YtepfoelgegljbaaGreatDoor
set_option linter.unusedSimpArgs false
set_option linter.unusedVariables false
def opFa (k:Int):Int:=if k = 2 then 1 else if k = 4 then 1 else if k = 5 then 3 else if k = 6 then 2 else if k = 8 then 3 else if k = 10 then 2 else if k = 11 then 3 else if k = 12 then 3 else 0
def opFb (k:Int):Int:=if k = 3 then 1 else if k = 4 then 3 else if k = 5 then 1 else if k = 7 then 2 else if k = 9 then 3 else if k = 10 then 3 else if k = 11 then 2 else if k = 12 then 3 else 0
def opSh (k:Int):Int:=if k = 2 then 1 else if k = 3 then 2 else if k = 4 then 3 else if k = 5 then 3 else if k = 6 then 4 else if k = 7 then 4 else if k = 8 then 1 else if k = 9 then 2 else if k = 10 then 2 else if k = 11 then 1 else if k = 12 then 3 else 0
def facI (f a m:Int):Int:=if f = 1 then m else if f = 2 then a else if f = 3 then m - a else 0
def opIs (k:Int):Bool:=decide (1 ≤ k ∧ k ≤ 12)
def opOk (k a b m:Int):Bool:=decide (1 ≤ k ∧ k ≤ 12 ∧ a ≤ m ∧ b ≤ m)
def faI (k a b m:Int):Int:=if opOk k a b m = true then facI (opFa k) b m else 0
def fbI (k a b m:Int):Int:=if opOk k a b m = true then facI (opFb k) a m else 0
def alpI (k a b m:Int):Int:=halfI (faI k a b m * a + fbI k a b m * b) m
def shI (k f g m:Int):Int :=
 if opOk k f g m = true then (if opSh k = 1 then f else if opSh k = 2 then g else if opSh k = 3 then halfI (m * f + (m - f) * g) m else if opSh k = 4 then halfI (f * g) m else 0) else 0
def neuB (k:Int):Bool:=decide (k = 3 ∨ k = 4 ∨ k = 5 ∨ k = 9 ∨ k = 10 ∨ k = 12)
def freB (k:Int):Bool:=decide (k = 2 ∨ k = 4 ∨ k = 5 ∨ k = 8 ∨ k = 11 ∨ k = 12)
theorem op_cases {k:Int} (h0:1 ≤ k) (h1:k ≤ 12):k = 1 ∨ k = 2 ∨ k = 3 ∨ k = 4 ∨ k = 5 ∨ k = 6 ∨ k = 7 ∨ k = 8 ∨ k = 9 ∨ k = 10 ∨ k = 11 ∨ k = 12:=by omega
theorem facI_bounds (f a m:Int) (a0:0 ≤ a) (a1:a ≤ m):0 ≤ facI f a m ∧ facI f a m ≤ m:=by
 unfold facI; repeat' split
 all_goals omega
theorem opOk_parts {k a b m:Int} (h:opOk k a b m = true):1 ≤ k ∧ k ≤ 12 ∧ a ≤ m ∧ b ≤ m:=of_decide_eq_true h
theorem faI_bounds (k a b m:Int) (b0:0 ≤ b) (m0:0 ≤ m):0 ≤ faI k a b m ∧ faI k a b m ≤ m:=by
 unfold faI; split
 ·rename_i h; exact facI_bounds _ _ _ b0 (opOk_parts h).2.2.2
 ·omega
theorem fbI_bounds (k a b m:Int) (a0:0 ≤ a) (m0:0 ≤ m):0 ≤ fbI k a b m ∧ fbI k a b m ≤ m:=by
 unfold fbI; split
 ·rename_i h; exact facI_bounds _ _ _ a0 (opOk_parts h).2.2.1
 ·omega
theorem prods (a b m:Int) (a0:0 ≤ a) (b0:0 ≤ b) (a1:a ≤ m) (b1:b ≤ m) :
  ∃ A B C M:Int,m * a = A ∧ m * b = B ∧ a * b = C ∧ m * m = M ∧ b * a = C ∧ (m - a) * b = B - C ∧ (m - b) * a = A - C ∧ 0 ≤ C ∧ C ≤ A ∧ C ≤ B ∧ A + B ≤ M + C:=by
 refine ⟨m * a,m * b,a * b,m * m,rfl,rfl,rfl,rfl,Int.mul_comm _ _,by rw [Int.sub_mul],by rw [Int.sub_mul,Int.mul_comm b a],Int.mul_nonneg a0 b0,?_,?_,?_⟩
 ·have:=Int.mul_le_mul_of_nonneg_right b1 a0
  rwa [Int.mul_comm b a] at this
 ·exact Int.mul_le_mul_of_nonneg_right a1 b0
 ·have h:0 ≤ (m - a) * (m - b):=Int.mul_nonneg (by omega) (by omega)
  rw [Int.sub_mul,Int.mul_sub,Int.mul_sub,Int.mul_comm a m] at h
  omega
theorem op1:opFa 1 = 0 ∧ opFb 1 = 0 ∧ opSh 1 = 0:=⟨rfl,rfl,rfl⟩
theorem op2:opFa 2 = 1 ∧ opFb 2 = 0 ∧ opSh 2 = 1:=⟨rfl,rfl,rfl⟩
theorem op3:opFa 3 = 0 ∧ opFb 3 = 1 ∧ opSh 3 = 2:=⟨rfl,rfl,rfl⟩
theorem op4:opFa 4 = 1 ∧ opFb 4 = 3 ∧ opSh 4 = 3:=⟨rfl,rfl,rfl⟩
theorem op5:opFa 5 = 3 ∧ opFb 5 = 1 ∧ opSh 5 = 3:=⟨rfl,rfl,rfl⟩
theorem op6:opFa 6 = 2 ∧ opFb 6 = 0 ∧ opSh 6 = 4:=⟨rfl,rfl,rfl⟩
theorem op7:opFa 7 = 0 ∧ opFb 7 = 2 ∧ opSh 7 = 4:=⟨rfl,rfl,rfl⟩
theorem op8:opFa 8 = 3 ∧ opFb 8 = 0 ∧ opSh 8 = 1:=⟨rfl,rfl,rfl⟩
theorem op9:opFa 9 = 0 ∧ opFb 9 = 3 ∧ opSh 9 = 2:=⟨rfl,rfl,rfl⟩
theorem op10:opFa 10 = 2 ∧ opFb 10 = 3 ∧ opSh 10 = 2:=⟨rfl,rfl,rfl⟩
theorem op11:opFa 11 = 3 ∧ opFb 11 = 2 ∧ opSh 11 = 1:=⟨rfl,rfl,rfl⟩
theorem op12:opFa 12 = 3 ∧ opFb 12 = 3 ∧ opSh 12 = 3:=⟨rfl,rfl,rfl⟩
theorem alp_num (k a b m A B C:Int) (h:opOk k a b m = true) (hA:m * a = A) (hB:m * b = B) (hC:a * b = C) (hC':b * a = C) (h1:(m - a) * b = B - C) (h2:(m - b) * a = A - C) :
  (k = 1 ∧ faI k a b m * a + fbI k a b m * b = 0) ∨ (k = 2 ∧ faI k a b m * a + fbI k a b m * b = A) ∨ (k = 3 ∧ faI k a b m * a + fbI k a b m * b = B) ∨ (k = 4 ∧ faI k a b m * a + fbI k a b m * b = A + B - C) ∨ (k = 5 ∧ faI k a b m * a + fbI k a b m * b = A + B - C) ∨ (k = 6 ∧ faI k a b m * a + fbI k a b m * b = C) ∨ (k = 7 ∧ faI k a b m * a + fbI k a b m * b = C) ∨ (k = 8 ∧ faI k a b m * a + fbI k a b m * b = A - C) ∨ (k = 9 ∧ faI k a b m * a + fbI k a b m * b = B - C) ∨ (k = 10 ∧ faI k a b m * a + fbI k a b m * b = B) ∨ (k = 11 ∧ faI k a b m * a + fbI k a b m * b = A) ∨ (k = 12 ∧ faI k a b m * a + fbI k a b m * b = A + B - 2 * C):=by
 obtain ⟨k0,k1,ha,hb⟩:=opOk_parts h
 unfold faI fbI
 rw [if_pos h,if_pos h]
 rcases op_cases k0 k1 with rfl | rfl | rfl | rfl | rfl | rfl | rfl | rfl | rfl | rfl | rfl | rfl
 ·exact .inl ⟨rfl,by rw [op1.1,op1.2.1]; simp [facI,hA,hB,hC,hC',h1,h2]⟩
 ·exact .inr (.inl ⟨rfl,by rw [op2.1,op2.2.1]; simp [facI,hA,hB,hC,hC',h1,h2]⟩)
 ·exact .inr (.inr (.inl ⟨rfl,by rw [op3.1,op3.2.1]; simp [facI,hA,hB,hC,hC',h1,h2]⟩))
 ·exact .inr (.inr (.inr (.inl ⟨rfl,by rw [op4.1,op4.2.1]; simp [facI,hA,hB,hC,hC',h1,h2]; try omega⟩)))
 ·exact .inr (.inr (.inr (.inr (.inl ⟨rfl,by rw [op5.1,op5.2.1]; simp [facI,hA,hB,hC,hC',h1,h2]; try omega⟩))))
 ·exact .inr (.inr (.inr (.inr (.inr (.inl ⟨rfl,by rw [op6.1,op6.2.1]; simp [facI,hA,hB,hC,hC',h1,h2]⟩)))))
 ·exact .inr (.inr (.inr (.inr (.inr (.inr (.inl ⟨rfl,by rw [op7.1,op7.2.1]; simp [facI,hA,hB,hC,hC',h1,h2]⟩))))))
 ·exact .inr (.inr (.inr (.inr (.inr (.inr (.inr (.inl ⟨rfl,by rw [op8.1,op8.2.1]; simp [facI,hA,hB,hC,hC',h1,h2]⟩)))))))
 ·exact .inr (.inr (.inr (.inr (.inr (.inr (.inr (.inr (.inl ⟨rfl,by rw [op9.1,op9.2.1]; simp [facI,hA,hB,hC,hC',h1,h2]⟩))))))))
 ·exact .inr (.inr (.inr (.inr (.inr (.inr (.inr (.inr (.inr (.inl ⟨rfl,by rw [op10.1,op10.2.1]; simp [facI,hA,hB,hC,hC',h1,h2]; try omega⟩)))))))))
 ·exact .inr (.inr (.inr (.inr (.inr (.inr (.inr (.inr (.inr (.inr (.inl ⟨rfl,by rw [op11.1,op11.2.1]; simp [facI,hA,hB,hC,hC',h1,h2]; try omega⟩))))))))))
 ·exact .inr (.inr (.inr (.inr (.inr (.inr (.inr (.inr (.inr (.inr (.inr (⟨rfl,by rw [op12.1,op12.2.1]; simp [facI,hA,hB,hC,hC',h1,h2]; try omega⟩)))))))))))
theorem alp_num_bounds (k a b m:Int) (a0:0 ≤ a) (b0:0 ≤ b) (m0:0 ≤ m):0 ≤ faI k a b m * a + fbI k a b m * b ∧ faI k a b m * a + fbI k a b m * b ≤ m * m:=by
 by_cases h:opOk k a b m = true
 ·obtain ⟨k0,k1,ha,hb⟩:=opOk_parts h
  obtain ⟨A,B,C,M,hA,hB,hC,hM,hC',h1,h2,c0,c1,c2,c3⟩:=prods a b m a0 b0 ha hb
  rw [hM]
  rcases alp_num k a b m A B C h hA hB hC hC' h1 h2 with h | h | h | h | h | h | h | h | h | h | h | h
  all_goals
   rw [h.2]
   omega
 ·have e1:faI k a b m = 0:=by unfold faI; rw [if_neg h]
  have e2:fbI k a b m = 0:=by unfold fbI; rw [if_neg h]
  rw [e1,e2]
  have:=Int.mul_nonneg m0 m0
  omega
theorem alp_bounds (k a b m:Int) (a0:0 ≤ a) (b0:0 ≤ b) (m0:0 ≤ m):0 ≤ alpI k a b m ∧ alpI k a b m ≤ m:=by
 obtain ⟨p0,p1⟩:=alp_num_bounds k a b m a0 b0 m0
 unfold alpI
 refine ⟨half_nonneg _ _ p0 m0,?_⟩
 by_cases e:m = 0
 ·simp [halfI,e]
 ·exact half_mul_le _ _ _ (by omega) p1
theorem union_bounds (f g m:Int) (f0:0 ≤ f) (g0:0 ≤ g) (f1:f ≤ m) (g1:g ≤ m):0 ≤ m * f + (m - f) * g ∧ m * f + (m - f) * g ≤ m * m:=by
 obtain ⟨A,B,C,M,hA,hB,hC,hM,hC',h1,h2,c0,c1,c2,c3⟩:=prods f g m f0 g0 f1 g1
 rw [hA,h1,hM]; omega
theorem half_m (n m:Int) (m0:0 ≤ m) (h0:0 ≤ n) (h1:n ≤ m * m):0 ≤ halfI n m ∧ halfI n m ≤ m:=by
 refine ⟨half_nonneg _ _ h0 m0,?_⟩
 by_cases e:m = 0
 ·simp [halfI,e]
 ·exact half_mul_le _ _ _ (by omega) h1
theorem shI_bounds (k f g m:Int) (f0:0 ≤ f) (g0:0 ≤ g) (m0:0 ≤ m):0 ≤ shI k f g m ∧ shI k f g m ≤ m:=by
 unfold shI
 split
 ·rename_i h
  obtain ⟨k0,k1,ha,hb⟩:=opOk_parts h
  obtain ⟨u0,u1⟩:=union_bounds f g m f0 g0 ha hb
  obtain ⟨v0,v1⟩:=mul_bound f g m m f0 g0 ha hb
  have hu:=half_m _ m m0 u0 u1
  have hv:=half_m _ m m0 v0 v1
  repeat' split
  all_goals omega
 ·omega
theorem shI_zero (k f g m:Int) (f0:0 ≤ f) (g0:0 ≤ g) (h:m < f ∨ m < g ∨ m = 0):shI k f g m = 0:=by
 unfold shI
 split
 ·rename_i hk
  obtain ⟨k0,k1,ha,hb⟩:=opOk_parts hk
  obtain rfl:m = 0:=by omega
  obtain rfl:f = 0:=by omega
  obtain rfl:g = 0:=by omega
  repeat' split
  all_goals rfl
 ·rfl
open Go.RowKit
theorem tmod_add_emod (n k:Int):(n.tmod k + k) % k = n % k:=by
 rw [Int.add_emod_right]
 have e:=Int.mul_tdiv_add_tmod n k
 have:n % k = (n.tmod k + k * n.tdiv k) % k:=by rw [Int.add_comm,e]
 rw [this,Int.add_mul_emod_self_left]
theorem tmod_bounds (n k:Int) (h:1 ≤ k):-k < n.tmod k ∧ n.tmod k < k :=
 ⟨Int.lt_tmod_of_pos n (by omega),Int.tmod_lt_of_pos n (by omega)⟩
set_option maxHeartbeats 400000 in
theorem mod_call (n k:Int) (w:World) (h0:1 ≤ k) (h1:k ≤ 4611686018427387903) :
  Calls Tryz.prog 8 #[.int .i64 n,.int .i64 k] w fun e w' => e = .returned (.int .i64 (n % k)) ∧ w = w':=by
 obtain ⟨b0,b1⟩:=tmod_bounds n k h0
 go_enter Tryz.func8,Tryz.ntmps8
 go_wp2
 go_ret
 exact ⟨ret_int (tmod_add_emod n k),rfl⟩
def gmax (n:Int):Int:=if n % 3 = 2 then 65535 else 255
theorem gmax_cases (n:Int):gmax n = 255 ∨ gmax n = 65535:=by unfold gmax; split <;> simp
theorem tlGen0 {p:Prop} (h:p:=by
  clear e h
  go_enter Tryz.func22,Tryz.ntmps22
  go_wp2_with (go_at_call 8; refine (mod_call _ _ _ (by omega) (by omega)).mono ?_; rintro e w' ⟨rfl,rfl⟩)
  go_ret
  exact ⟨ret_int E.out.symm,rfl⟩):p:=h
set_option maxHeartbeats 400000 in
theorem max_call (n:Int) (w:World) :
  Calls Tryz.prog 22 #[.int .i64 n] w fun e w' => e = .returned (.int .u16 (gmax n)) ∧ w = w':=by
 by_cases h:n % 3 = 2
 ·have e:gmax n = 65535:=by simp [gmax,h]
  have E:=hd_ e
  have hb:(n % 3 == 2) = true:=by simpa using h
  exact tlGen0
 ·have e:gmax n = 255:=by simp [gmax,h]
  have E:=hd_ e
  have hb:(n % 3 == 2) = false:=by simpa using h
  exact tlGen0
def gsam (n m:Int):Int :=
 if n % 8 = 0 then 0 else if n % 8 = 1 ∨ n % 8 = 2 then m else if n % 8 = 3 then (m + (n.tdiv 8) % 2) / 2
 else if n % 8 = 4 then min m ((n.tdiv 8) % 4) else (n.tdiv 8) % (m + 1)
theorem gsam_bounds (n m:Int) (h:0 ≤ m):0 ≤ gsam n m ∧ gsam n m ≤ m:=by
 unfold gsam
 have a:0 ≤ (n.tdiv 8) % (m + 1):=Int.emod_nonneg _ (by omega)
 have b:(n.tdiv 8) % (m + 1) < m + 1:=Int.emod_lt_of_pos _ (by omega)
 repeat' split
 all_goals omega
set_option maxHeartbeats 400000 in
theorem sample_call (n m:Int) (w:World) (h0:0 ≤ m) (h1:m ≤ 65535) (n0:-9223372036854775808 ≤ n) (n1:n ≤ 9223372036854775807) :
  Calls Tryz.prog 47 #[.int .i64 n,.int .u16 m] w fun e w' => e = .returned (.int .u16 (gsam n m)) ∧ w = w':=by
 have a:0 ≤ (n.tdiv 8) % (m + 1):=Int.emod_nonneg _ (by omega)
 have b:(n.tdiv 8) % (m + 1) < m + 1:=Int.emod_lt_of_pos _ (by omega)
 go_enter Tryz.func47,Tryz.ntmps47
 go_wp2_with (go_at_call 8; refine (mod_call _ _ _ (by omega) (by omega)).mono ?_; rintro e w' ⟨rfl,rfl⟩)
 all_goals
  go_ret
  refine ⟨ret_int ?_,rfl⟩
  go_light
  unfold gsam
  simp only [beq_iff_eq,beq_eq_false_iff_ne,ne_eq] at *
  repeat' split
  all_goals omega
structure Extra where
 blocks:List Obj
 draws:Nat
instance:Nonempty Extra:=⟨⟨[],0⟩⟩
def more (w:World) (p:Extra):World:=(p.blocks.foldl World.alloc w).drewN p.draws
theorem more_drewN (w:World) (p:Extra) (n:Nat):(more w p).drewN n = more w ⟨p.blocks,p.draws + n⟩:=by
 unfold more; rw [World.drewN_drewN]
theorem alloc_drewN (w:World) (n:Nat) (o:Obj):(w.drewN n).alloc o = (w.alloc o).drewN n:=rfl
theorem setCell_drewN (w:World) (n:Nat) (a:Addr) (v:Value):(w.drewN n).setCell a v = (w.setCell a v).drewN n:=rfl
theorem more_alloc (w:World) (p:Extra) (o:Obj):(more w p).alloc o = more w ⟨p.blocks ++ [o],p.draws⟩:=by
 unfold more; rw [alloc_drewN,List.foldl_append]; rfl
theorem foldl_drewN (os:List Obj) (w:World) (n:Nat):os.foldl World.alloc (w.drewN n) = (os.foldl World.alloc w).drewN n:=by
 induction os generalizing w with
 | nil => rfl
 | cons o os ih => exact ih (w.alloc o)
theorem more_more (w:World) (p q:Extra):more (more w p) q = more w ⟨p.blocks ++ q.blocks,p.draws + q.draws⟩:=by
 unfold more
 rw [foldl_drewN,World.drewN_drewN,List.foldl_append]
theorem below_more {B:Nat} {a w:World} (h:Below B a w) (hB:B ≤ w.heap.size) (p:Extra):Below B a (more w p):=by
 obtain ⟨os,n⟩:=p
 have key:∀ (os:List Obj) (w:World),Below B a w → B ≤ w.heap.size → Below B a (os.foldl World.alloc w):=by
  intro os
  induction os with
  | nil => intro w h _; exact h
  | cons o os ih => intro w h hB; exact ih (w.alloc o) (h.alloc hB o) (by simp; omega)
 have h1:=key os w h hB
 exact ⟨h1.os,h1.tape,h1.output,h1.size,h1.block⟩
theorem more_below (w:World) (p:Extra):Below w.heap.size w (more w p):=below_more (Below.refl _ _) (Nat.le_refl _) p
theorem more_size (w:World) (p:Extra):(more w p).heap.size = w.heap.size + p.blocks.length:=by
 obtain ⟨os,n⟩:=p
 have key:∀ (os:List Obj) (w:World),(os.foldl World.alloc w).heap.size = w.heap.size + os.length:=by
  intro os
  induction os with
  | nil => intro w; rfl
  | cons o os ih => intro w; rw [List.foldl_cons,ih]; simp; omega
 exact key os w
theorem more_cell (w:World) (p:Extra) (b o:Nat) (h:b < w.heap.size):(more w p).cell? ⟨b,o,none⟩ = w.cell? ⟨b,o,none⟩:=(more_below w p).cell (p:=⟨b,o,none⟩) h
theorem more_cell_some (w:World) (p:Extra) (a:Addr) (h:(w.cell? a).isSome = true):(more w p).cell? a = w.cell? a:=by
 obtain ⟨u,hu⟩:=Option.isSome_iff_exists.1 h
 exact (more_below w p).cell (World.block_lt_of_cell? w a hu)
theorem more_frozen (w:World) (p:Extra) (b o:Nat) (h:b < w.heap.size):(more w p).frozen? ⟨b,o,none⟩ = w.frozen? ⟨b,o,none⟩:=(more_below w p).frozen (p:=⟨b,o,none⟩) h
theorem more_heap (w:World) (p:Extra) (b:Nat) (h:b < w.heap.size):(more w p).heap[b]? = w.heap[b]?:=(more_below w p).block b h
theorem size_setCell (w:World) (a:Addr) (v:Value):(w.setCell a v).heap.size = w.heap.size:=by simp [World.setCell]
theorem more_setCell (w:World) (p:Extra) (b i:Nat) (v:Value) (h:b < w.heap.size):(more w p).setCell ⟨b,i,none⟩ v = more (w.setCell ⟨b,i,none⟩ v) p:=by
 obtain ⟨os,n⟩:=p
 have key:∀ (os:List Obj) (w:World),b < w.heap.size → (os.foldl World.alloc w).setCell ⟨b,i,none⟩ v = os.foldl World.alloc (w.setCell ⟨b,i,none⟩ v):=by
  intro os
  induction os with
  | nil => intro w _; rfl
  | cons o os ih =>
   intro w hb
   rw [List.foldl_cons,List.foldl_cons,ih _ (by simp; omega),World.setCell_alloc_past _ _ _ _ hb]
 unfold more
 rw [setCell_drewN,key os w h]
theorem more_to {w w1 w2:World} (h1:∃ p,w1 = more w p) (h2:∃ p,w2 = more w1 p):∃ p,w2 = more w p:=by
 obtain ⟨p,rfl⟩:=h1
 obtain ⟨q,rfl⟩:=h2
 exact ⟨_,more_more w p q⟩
theorem region_more {P:Program} {id:Nat} {Q:Exit → Act → World → Prop} {a:Act} {w:World} {l:List Oper} (hm:P.follows .mixedOrders = true) (hB:Region.lexB .any l.toArray = true)
  (h:wpQuiet P l.toArray (fun w' => ∃ p,w' = more w p) (fun a' => ∀ w',(∃ p,w' = more w p) → Q .normal a' w') l a):(Code.region id l.toArray true).wp P Q a w :=
 wp_region_quiet (C:=fun w' => ∃ p,w' = more w p) hm hB ⟨⟨[],1⟩,rfl⟩ (by simpa using h)
theorem calls_more {P:Program} {f:FuncId} {args:Array Value} {w:World} {p:Extra} {v:Value} (h:Calls P f args (more w p) fun e w' => e = .returned v ∧ ∃ q,w' = more (more w p) q) :
  Calls P f args (more w p) fun e w'' => e = .returned v ∧ ∃ q,w'' = more w q :=
 h.mono fun _ _ ⟨he,q,hq⟩ => ⟨he,_,hq.trans (more_more w p q)⟩
theorem calls_more_same {P:Program} {f:FuncId} {args:Array Value} {w:World} {p:Extra} {v:Value} (h:Calls P f args (more w p) fun e w' => e = .returned v ∧ more w p = w') :
  Calls P f args (more w p) fun e w'' => e = .returned v ∧ ∃ q,w'' = more w q :=
 h.mono fun _ _ ⟨he,hq⟩ => ⟨he,p,hq.symm⟩
theorem calls_more_drewN {P:Program} {f:FuncId} {args:Array Value} {w:World} {p:Extra} {v:Value} (h:Calls P f args (more w p) fun e w' => e = .returned v ∧ ∃ n,w' = (more w p).drewN n) :
  Calls P f args (more w p) fun e w'' => e = .returned v ∧ ∃ q,w'' = more w q :=
 h.mono fun _ _ ⟨he,n,hq⟩ => ⟨he,_,hq.trans (more_drewN w p n)⟩
set_option maxRecDepth 100000
def opName (k:Int):ByteArray:=if k = 1 then ⟨#[99,108,101,97,114]⟩ else if k = 2 then ⟨#[115,114,99]⟩ else if k = 3 then ⟨#[100,115,116]⟩ else if k = 4 then ⟨#[115,114,99,45,111,118,101,114]⟩ else if k = 5 then ⟨#[100,115,116,45,111,118,101,114]⟩ else if k = 6 then ⟨#[115,114,99,45,105,110]⟩ else if k = 7 then ⟨#[100,115,116,45,105,110]⟩ else if k = 8 then ⟨#[115,114,99,45,111,117,116]⟩ else if k = 9 then ⟨#[100,115,116,45,111,117,116]⟩ else if k = 10 then ⟨#[115,114,99,45,97,116,111,112]⟩ else if k = 11 then ⟨#[100,115,116,45,97,116,111,112]⟩ else if k = 12 then ⟨#[120,111,114]⟩ else ⟨#[]⟩
def ruleBlock (k:Int):Obj:=.cells #[.string (opName k),.int .i64 (opFa k),.int .i64 (opFb k),.int .i64 (opSh k)] 139
theorem ruled_size {w:World} (h:Ruled w):1 < w.heap.size:=by
 obtain ⟨T,fr,h⟩:=h
 rcases Nat.lt_or_ge 1 w.heap.size with h1 | h1
 ·exact h1
 ·simp [h1] at h
theorem ruled_cell {w:World} (h:Ruled w) (i:Nat):w.cell? ⟨1,i,none⟩ = ruleCells[i]?:=by
 obtain ⟨T,fr,h⟩:=h
 simp only [World.cell?,h]
 simp
theorem ruled_more {w:World} (h:Ruled w) (p:Extra):Ruled (more w p):=by
 have hs:=ruled_size h
 obtain ⟨T,fr,h⟩:=h
 exact ⟨T,fr,(more_heap w p _ hs).trans h⟩
set_option maxHeartbeats 400000 in
theorem find_1 (w:World) (h:Ruled w) :
  Calls Tryz.prog 82 #[.int .i64 1] w fun e w' => e = .returned (.tuple #[.agg #[.string ⟨#[99,108,101,97,114]⟩,.int .i64 0,.int .i64 0,.int .i64 0],.bool true]) ∧ w.alloc (.cells #[.string ⟨#[99,108,101,97,114]⟩,.int .i64 0,.int .i64 0,.int .i64 0] 139) = w':=by
 have hs:=ruled_size h
 have c0:w.cell? ⟨1,4,none⟩ = some (.string ⟨#[99,108,101,97,114]⟩):=ruled_cell h 4
 have c1:w.cell? ⟨1,5,none⟩ = some (.int .i64 0):=ruled_cell h 5
 have c2:w.cell? ⟨1,6,none⟩ = some (.int .i64 0):=ruled_cell h 6
 have c3:w.cell? ⟨1,7,none⟩ = some (.int .i64 0):=ruled_cell h 7
 clear h
 go_enter Tryz.func82,Tryz.ntmps82
 go_wp2
 exact bodyPost_ret (v:=.tuple #[.agg #[.string ⟨#[99,108,101,97,114]⟩,.int .i64 0,.int .i64 0,.int .i64 0],.bool true]) (by simp [results,Tryz.results82,go_sem]) rfl ⟨rfl,rfl⟩
set_option maxHeartbeats 400000 in
theorem find_2 (w:World) (h:Ruled w) :
  Calls Tryz.prog 82 #[.int .i64 2] w fun e w' => e = .returned (.tuple #[.agg #[.string ⟨#[115,114,99]⟩,.int .i64 1,.int .i64 0,.int .i64 1],.bool true]) ∧ w.alloc (.cells #[.string ⟨#[115,114,99]⟩,.int .i64 1,.int .i64 0,.int .i64 1] 139) = w':=by
 have hs:=ruled_size h
 have c0:w.cell? ⟨1,8,none⟩ = some (.string ⟨#[115,114,99]⟩):=ruled_cell h 8
 have c1:w.cell? ⟨1,9,none⟩ = some (.int .i64 1):=ruled_cell h 9
 have c2:w.cell? ⟨1,10,none⟩ = some (.int .i64 0):=ruled_cell h 10
 have c3:w.cell? ⟨1,11,none⟩ = some (.int .i64 1):=ruled_cell h 11
 clear h
 go_enter Tryz.func82,Tryz.ntmps82
 go_wp2
 exact bodyPost_ret (v:=.tuple #[.agg #[.string ⟨#[115,114,99]⟩,.int .i64 1,.int .i64 0,.int .i64 1],.bool true]) (by simp [results,Tryz.results82,go_sem]) rfl ⟨rfl,rfl⟩
set_option maxHeartbeats 400000 in
theorem find_3 (w:World) (h:Ruled w) :
  Calls Tryz.prog 82 #[.int .i64 3] w fun e w' => e = .returned (.tuple #[.agg #[.string ⟨#[100,115,116]⟩,.int .i64 0,.int .i64 1,.int .i64 2],.bool true]) ∧ w.alloc (.cells #[.string ⟨#[100,115,116]⟩,.int .i64 0,.int .i64 1,.int .i64 2] 139) = w':=by
 have hs:=ruled_size h
 have c0:w.cell? ⟨1,12,none⟩ = some (.string ⟨#[100,115,116]⟩):=ruled_cell h 12
 have c1:w.cell? ⟨1,13,none⟩ = some (.int .i64 0):=ruled_cell h 13
 have c2:w.cell? ⟨1,14,none⟩ = some (.int .i64 1):=ruled_cell h 14
 have c3:w.cell? ⟨1,15,none⟩ = some (.int .i64 2):=ruled_cell h 15
 clear h
 go_enter Tryz.func82,Tryz.ntmps82
 go_wp2
 exact bodyPost_ret (v:=.tuple #[.agg #[.string ⟨#[100,115,116]⟩,.int .i64 0,.int .i64 1,.int .i64 2],.bool true]) (by simp [results,Tryz.results82,go_sem]) rfl ⟨rfl,rfl⟩
set_option maxHeartbeats 400000 in
theorem find_4 (w:World) (h:Ruled w) :
  Calls Tryz.prog 82 #[.int .i64 4] w fun e w' => e = .returned (.tuple #[.agg #[.string ⟨#[115,114,99,45,111,118,101,114]⟩,.int .i64 1,.int .i64 3,.int .i64 3],.bool true]) ∧ w.alloc (.cells #[.string ⟨#[115,114,99,45,111,118,101,114]⟩,.int .i64 1,.int .i64 3,.int .i64 3] 139) = w':=by
 have hs:=ruled_size h
 have c0:w.cell? ⟨1,16,none⟩ = some (.string ⟨#[115,114,99,45,111,118,101,114]⟩):=ruled_cell h 16
 have c1:w.cell? ⟨1,17,none⟩ = some (.int .i64 1):=ruled_cell h 17
 have c2:w.cell? ⟨1,18,none⟩ = some (.int .i64 3):=ruled_cell h 18
 have c3:w.cell? ⟨1,19,none⟩ = some (.int .i64 3):=ruled_cell h 19
 clear h
 go_enter Tryz.func82,Tryz.ntmps82
 go_wp2
 exact bodyPost_ret (v:=.tuple #[.agg #[.string ⟨#[115,114,99,45,111,118,101,114]⟩,.int .i64 1,.int .i64 3,.int .i64 3],.bool true]) (by simp [results,Tryz.results82,go_sem]) rfl ⟨rfl,rfl⟩
set_option maxHeartbeats 400000 in
theorem find_5 (w:World) (h:Ruled w) :
  Calls Tryz.prog 82 #[.int .i64 5] w fun e w' => e = .returned (.tuple #[.agg #[.string ⟨#[100,115,116,45,111,118,101,114]⟩,.int .i64 3,.int .i64 1,.int .i64 3],.bool true]) ∧ w.alloc (.cells #[.string ⟨#[100,115,116,45,111,118,101,114]⟩,.int .i64 3,.int .i64 1,.int .i64 3] 139) = w':=by
 have hs:=ruled_size h
 have c0:w.cell? ⟨1,20,none⟩ = some (.string ⟨#[100,115,116,45,111,118,101,114]⟩):=ruled_cell h 20
 have c1:w.cell? ⟨1,21,none⟩ = some (.int .i64 3):=ruled_cell h 21
 have c2:w.cell? ⟨1,22,none⟩ = some (.int .i64 1):=ruled_cell h 22
 have c3:w.cell? ⟨1,23,none⟩ = some (.int .i64 3):=ruled_cell h 23
 clear h
 go_enter Tryz.func82,Tryz.ntmps82
 go_wp2
 exact bodyPost_ret (v:=.tuple #[.agg #[.string ⟨#[100,115,116,45,111,118,101,114]⟩,.int .i64 3,.int .i64 1,.int .i64 3],.bool true]) (by simp [results,Tryz.results82,go_sem]) rfl ⟨rfl,rfl⟩
set_option maxHeartbeats 400000 in
theorem find_6 (w:World) (h:Ruled w) :
  Calls Tryz.prog 82 #[.int .i64 6] w fun e w' => e = .returned (.tuple #[.agg #[.string ⟨#[115,114,99,45,105,110]⟩,.int .i64 2,.int .i64 0,.int .i64 4],.bool true]) ∧ w.alloc (.cells #[.string ⟨#[115,114,99,45,105,110]⟩,.int .i64 2,.int .i64 0,.int .i64 4] 139) = w':=by
 have hs:=ruled_size h
 have c0:w.cell? ⟨1,24,none⟩ = some (.string ⟨#[115,114,99,45,105,110]⟩):=ruled_cell h 24
 have c1:w.cell? ⟨1,25,none⟩ = some (.int .i64 2):=ruled_cell h 25
 have c2:w.cell? ⟨1,26,none⟩ = some (.int .i64 0):=ruled_cell h 26
 have c3:w.cell? ⟨1,27,none⟩ = some (.int .i64 4):=ruled_cell h 27
 clear h
 go_enter Tryz.func82,Tryz.ntmps82
 go_wp2
 exact bodyPost_ret (v:=.tuple #[.agg #[.string ⟨#[115,114,99,45,105,110]⟩,.int .i64 2,.int .i64 0,.int .i64 4],.bool true]) (by simp [results,Tryz.results82,go_sem]) rfl ⟨rfl,rfl⟩
set_option maxHeartbeats 400000 in
theorem find_7 (w:World) (h:Ruled w) :
  Calls Tryz.prog 82 #[.int .i64 7] w fun e w' => e = .returned (.tuple #[.agg #[.string ⟨#[100,115,116,45,105,110]⟩,.int .i64 0,.int .i64 2,.int .i64 4],.bool true]) ∧ w.alloc (.cells #[.string ⟨#[100,115,116,45,105,110]⟩,.int .i64 0,.int .i64 2,.int .i64 4] 139) = w':=by
 have hs:=ruled_size h
 have c0:w.cell? ⟨1,28,none⟩ = some (.string ⟨#[100,115,116,45,105,110]⟩):=ruled_cell h 28
 have c1:w.cell? ⟨1,29,none⟩ = some (.int .i64 0):=ruled_cell h 29
 have c2:w.cell? ⟨1,30,none⟩ = some (.int .i64 2):=ruled_cell h 30
 have c3:w.cell? ⟨1,31,none⟩ = some (.int .i64 4):=ruled_cell h 31
 clear h
 go_enter Tryz.func82,Tryz.ntmps82
 go_wp2
 exact bodyPost_ret (v:=.tuple #[.agg #[.string ⟨#[100,115,116,45,105,110]⟩,.int .i64 0,.int .i64 2,.int .i64 4],.bool true]) (by simp [results,Tryz.results82,go_sem]) rfl ⟨rfl,rfl⟩
set_option maxHeartbeats 400000 in
theorem find_8 (w:World) (h:Ruled w) :
  Calls Tryz.prog 82 #[.int .i64 8] w fun e w' => e = .returned (.tuple #[.agg #[.string ⟨#[115,114,99,45,111,117,116]⟩,.int .i64 3,.int .i64 0,.int .i64 1],.bool true]) ∧ w.alloc (.cells #[.string ⟨#[115,114,99,45,111,117,116]⟩,.int .i64 3,.int .i64 0,.int .i64 1] 139) = w':=by
 have hs:=ruled_size h
 have c0:w.cell? ⟨1,32,none⟩ = some (.string ⟨#[115,114,99,45,111,117,116]⟩):=ruled_cell h 32
 have c1:w.cell? ⟨1,33,none⟩ = some (.int .i64 3):=ruled_cell h 33
 have c2:w.cell? ⟨1,34,none⟩ = some (.int .i64 0):=ruled_cell h 34
 have c3:w.cell? ⟨1,35,none⟩ = some (.int .i64 1):=ruled_cell h 35
 clear h
 go_enter Tryz.func82,Tryz.ntmps82
 go_wp2
 exact bodyPost_ret (v:=.tuple #[.agg #[.string ⟨#[115,114,99,45,111,117,116]⟩,.int .i64 3,.int .i64 0,.int .i64 1],.bool true]) (by simp [results,Tryz.results82,go_sem]) rfl ⟨rfl,rfl⟩
set_option maxHeartbeats 400000 in
theorem find_9 (w:World) (h:Ruled w) :
  Calls Tryz.prog 82 #[.int .i64 9] w fun e w' => e = .returned (.tuple #[.agg #[.string ⟨#[100,115,116,45,111,117,116]⟩,.int .i64 0,.int .i64 3,.int .i64 2],.bool true]) ∧ w.alloc (.cells #[.string ⟨#[100,115,116,45,111,117,116]⟩,.int .i64 0,.int .i64 3,.int .i64 2] 139) = w':=by
 have hs:=ruled_size h
 have c0:w.cell? ⟨1,36,none⟩ = some (.string ⟨#[100,115,116,45,111,117,116]⟩):=ruled_cell h 36
 have c1:w.cell? ⟨1,37,none⟩ = some (.int .i64 0):=ruled_cell h 37
 have c2:w.cell? ⟨1,38,none⟩ = some (.int .i64 3):=ruled_cell h 38
 have c3:w.cell? ⟨1,39,none⟩ = some (.int .i64 2):=ruled_cell h 39
 clear h
 go_enter Tryz.func82,Tryz.ntmps82
 go_wp2
 exact bodyPost_ret (v:=.tuple #[.agg #[.string ⟨#[100,115,116,45,111,117,116]⟩,.int .i64 0,.int .i64 3,.int .i64 2],.bool true]) (by simp [results,Tryz.results82,go_sem]) rfl ⟨rfl,rfl⟩
set_option maxHeartbeats 400000 in
theorem find_10 (w:World) (h:Ruled w) :
  Calls Tryz.prog 82 #[.int .i64 10] w fun e w' => e = .returned (.tuple #[.agg #[.string ⟨#[115,114,99,45,97,116,111,112]⟩,.int .i64 2,.int .i64 3,.int .i64 2],.bool true]) ∧ w.alloc (.cells #[.string ⟨#[115,114,99,45,97,116,111,112]⟩,.int .i64 2,.int .i64 3,.int .i64 2] 139) = w':=by
 have hs:=ruled_size h
 have c0:w.cell? ⟨1,40,none⟩ = some (.string ⟨#[115,114,99,45,97,116,111,112]⟩):=ruled_cell h 40
 have c1:w.cell? ⟨1,41,none⟩ = some (.int .i64 2):=ruled_cell h 41
 have c2:w.cell? ⟨1,42,none⟩ = some (.int .i64 3):=ruled_cell h 42
 have c3:w.cell? ⟨1,43,none⟩ = some (.int .i64 2):=ruled_cell h 43
 clear h
 go_enter Tryz.func82,Tryz.ntmps82
 go_wp2
 exact bodyPost_ret (v:=.tuple #[.agg #[.string ⟨#[115,114,99,45,97,116,111,112]⟩,.int .i64 2,.int .i64 3,.int .i64 2],.bool true]) (by simp [results,Tryz.results82,go_sem]) rfl ⟨rfl,rfl⟩
set_option maxHeartbeats 400000 in
theorem find_11 (w:World) (h:Ruled w) :
  Calls Tryz.prog 82 #[.int .i64 11] w fun e w' => e = .returned (.tuple #[.agg #[.string ⟨#[100,115,116,45,97,116,111,112]⟩,.int .i64 3,.int .i64 2,.int .i64 1],.bool true]) ∧ w.alloc (.cells #[.string ⟨#[100,115,116,45,97,116,111,112]⟩,.int .i64 3,.int .i64 2,.int .i64 1] 139) = w':=by
 have hs:=ruled_size h
 have c0:w.cell? ⟨1,44,none⟩ = some (.string ⟨#[100,115,116,45,97,116,111,112]⟩):=ruled_cell h 44
 have c1:w.cell? ⟨1,45,none⟩ = some (.int .i64 3):=ruled_cell h 45
 have c2:w.cell? ⟨1,46,none⟩ = some (.int .i64 2):=ruled_cell h 46
 have c3:w.cell? ⟨1,47,none⟩ = some (.int .i64 1):=ruled_cell h 47
 clear h
 go_enter Tryz.func82,Tryz.ntmps82
 go_wp2
 exact bodyPost_ret (v:=.tuple #[.agg #[.string ⟨#[100,115,116,45,97,116,111,112]⟩,.int .i64 3,.int .i64 2,.int .i64 1],.bool true]) (by simp [results,Tryz.results82,go_sem]) rfl ⟨rfl,rfl⟩
set_option maxHeartbeats 400000 in
theorem find_12 (w:World) (h:Ruled w) :
  Calls Tryz.prog 82 #[.int .i64 12] w fun e w' => e = .returned (.tuple #[.agg #[.string ⟨#[120,111,114]⟩,.int .i64 3,.int .i64 3,.int .i64 3],.bool true]) ∧ w.alloc (.cells #[.string ⟨#[120,111,114]⟩,.int .i64 3,.int .i64 3,.int .i64 3] 139) = w':=by
 have hs:=ruled_size h
 have c0:w.cell? ⟨1,48,none⟩ = some (.string ⟨#[120,111,114]⟩):=ruled_cell h 48
 have c1:w.cell? ⟨1,49,none⟩ = some (.int .i64 3):=ruled_cell h 49
 have c2:w.cell? ⟨1,50,none⟩ = some (.int .i64 3):=ruled_cell h 50
 have c3:w.cell? ⟨1,51,none⟩ = some (.int .i64 3):=ruled_cell h 51
 clear h
 go_enter Tryz.func82,Tryz.ntmps82
 go_wp2
 exact bodyPost_ret (v:=.tuple #[.agg #[.string ⟨#[120,111,114]⟩,.int .i64 3,.int .i64 3,.int .i64 3],.bool true]) (by simp [results,Tryz.results82,go_sem]) rfl ⟨rfl,rfl⟩
set_option maxHeartbeats 400000 in
theorem find_no (k:Int) (w:World) (h:k < 1 ∨ 12 < k) :
  Calls Tryz.prog 82 #[.int .i64 k] w fun e w' => e = .returned (.tuple #[.agg #[.string ⟨#[]⟩,.int .i64 0,.int .i64 0,.int .i64 0],.bool false]) ∧ w.alloc (.cells #[.string ⟨#[]⟩,.int .i64 0,.int .i64 0,.int .i64 0] 139) = w':=by
 rcases h with h | h
 all_goals
  go_enter Tryz.func82,Tryz.ntmps82
  go_wp2
  exact bodyPost_ret (v:=.tuple #[.agg #[.string ⟨#[]⟩,.int .i64 0,.int .i64 0,.int .i64 0],.bool false]) (by simp [results,Tryz.results82,go_sem]) rfl ⟨rfl,rfl⟩
theorem opIs_yes {k:Int} (h0:1 ≤ k) (h1:k ≤ 12):opIs k = true:=decide_eq_true ⟨h0,h1⟩
theorem opIs_no {k:Int} (h:k < 1 ∨ 12 < k):opIs k = false:=decide_eq_false (by omega)
theorem op_none {k:Int} (h:k < 1 ∨ 12 < k):opName k = ⟨#[]⟩ ∧ opFa k = 0 ∧ opFb k = 0 ∧ opSh k = 0:=by
 unfold opName opFa opFb opSh
 refine ⟨?_,?_,?_,?_⟩
 all_goals
  repeat (rw [if_neg (by omega)])
theorem find_call (k:Int) (w:World) (h:Ruled w) :
  Calls Tryz.prog 82 #[.int .i64 k] w fun e w' => e = .returned (.tuple #[.agg #[.string (opName k),.int .i64 (opFa k),.int .i64 (opFb k),.int .i64 (opSh k)],.bool (opIs k)]) ∧ w.alloc (ruleBlock k) = w':=by
 by_cases hk:1 ≤ k ∧ k ≤ 12
 ·rw [opIs_yes hk.1 hk.2]
  rcases op_cases hk.1 hk.2 with rfl | rfl | rfl | rfl | rfl | rfl | rfl | rfl | rfl | rfl | rfl | rfl
  ·exact find_1 w h
  ·exact find_2 w h
  ·exact find_3 w h
  ·exact find_4 w h
  ·exact find_5 w h
  ·exact find_6 w h
  ·exact find_7 w h
  ·exact find_8 w h
  ·exact find_9 w h
  ·exact find_10 w h
  ·exact find_11 w h
  ·exact find_12 w h
 ·have hn:k < 1 ∨ 12 < k:=by omega
  obtain ⟨e0,e1,e2,e3⟩:=op_none hn
  unfold ruleBlock
  rw [opIs_no hn,e0,e1,e2,e3]
  exact find_no k w hn
section
variable {P:Program} {ops:Array Oper} {md:Region.Mode} {C:World → Prop}
def headQ (P:Program) (md:Region.Mode) (ops:Array Oper) (C:World → Prop) (n:Nat) (L:Array Bool → Act → Prop):Nat → Array Bool → Act → Prop
 | 0,listed,a => L listed a
 | f + 1,listed,a => Region.ready md ops listed ≠ [] ∧ ∀ i ∈ Region.ready md ops listed,i < n ∧ qOp P ops C i (headQ P md ops C n L f (listed.setIfInBounds i true)) a
theorem any_of_headQ {n g:Nat} {L:Array Bool → Act → Prop} {Q':Exit → Act → World → Prop} (hL:∀ listed a w,C w → L listed a → wpAny P md ops Q' g listed a w) :
  ∀ (f:Nat) (listed:Array Bool) (a:Act) (w:World),C w → headQ P md ops C n L f listed a → wpAny P md ops Q' (f + g) listed a w
 | 0,_,_,_,hw,h => by rw [Nat.zero_add]; exact hL _ _ _ hw h
 | f + 1,_,_,_,hw,h => by
  rw [Nat.add_right_comm]
  exact ⟨fun h0 => absurd h0 h.1,fun i hi => wpOp_of_qOp hw (fun a' w' hw' h' => any_of_headQ hL f _ a' w' hw' h') (h.2 i hi).2⟩
theorem headQ_first {n i:Nat} {oi:Oper} {v:Value} {L:Array Bool → Act → Prop} (hi:ops[i]? = some oi) (hsel:∀ (j:Nat) (o:Oper) cs b,ops[j]? = some o → o.op ≠ .select cs b)
  (hs:Region.sinkB md ops n = true) (hc:Region.chainB md ops n = true) (hn:n < ops.size) (hin:i < n) (hdone:∀ listed a,L listed a → ∀ j ∈ Region.ready md ops listed,n ≤ j) :
  ∀ (f:Nat) (listed:Array Bool) (a:Act),HeadInv md ops n listed →
   (∀ j oj,ops[j]? = some oj → j ≠ i → listed.getD j true = false → (∀ e ∈ oj.after,Region.binds md e = true → e.on ≠ i) → oi.apart ops oj = true) →
   i ∈ Region.ready md ops listed → YieldsIn P ops C oi v a → headQ P md ops C n L f (listed.setIfInBounds i true) (a.put oi.dst v) → headQ P md ops C n L (f + 1) listed a
 | f,listed,a,inv,hfree,hr,hy,H => by
  have hun:=(mem_ready.1 hr).1
  refine ⟨List.ne_nil_of_mem hr,fun j hj => ?_⟩
  have hjn:j < n:=Nat.lt_of_not_le fun h => tail_waits hs hc hn inv _ i rfl hin hun j h hj
  refine ⟨hjn,?_⟩
  by_cases hji:j = i
  ·subst hji; exact hy.qOp hi H
  match f,H with
  | 0,H => exact absurd (hdone _ _ H j (ready_mono hj hji)) (Nat.not_le_of_lt hjn)
  | f + 1,H =>
   obtain ⟨hjun,oj,hoj,hall⟩:=mem_ready.1 hj
   have hap:=hfree j oj hoj hji hjun fun e he hb heq => by
    have h1:=hall e he hb
    rw [heq,getD_both hun] at h1
    cases h1
   refine qOp_mono (fun a' h3 => ?_) (qOp_put hoj hap (fun cs b => hsel i oi cs b hi) (fun cs b => hsel j oj cs b hoj) hy (H.2 j (ready_mono hj hji)).2)
   refine headQ_first hi hsel hs hc hn hin hdone f _ a' (inv.set hj hjn) (fun k ok hk hki hku hno => hfree k ok hk hki ?_ hno) (ready_mono hr (Ne.symm hji)) h3.1 ?_
   ·by_cases hjk:j = k
    ·subst hjk; exact hjun
    ·rwa [getD_set_ne true hjk] at hku
   ·rw [Array.setIfInBounds_comm _ _ hji]
    exact h3.2
theorem headQ_lex {n g:Nat} {Lq:Act → Prop} (hsel:Region.noSelect ops = true) (hs:Region.sinkB md ops n = true) (hc:Region.chainB md ops n = true) (hn:n < ops.size) :
  ∀ (l:List Oper) (k:Nat) (listed:Array Bool) (a:Act),(∀ j,j < l.length → l[j]? = ops[k + j]?) → k + l.length = n → HeadInv md ops n listed →
  Region.lexHead md ops g l.length k listed = true → wpQuiet P ops C Lq l a → headQ P md ops C n (fun listed' a' => Region.seqB md ops g n listed' = true ∧ Lq a') l.length listed a
 | [],k,listed,a,_,hk,_,hB,h => by
  obtain rfl:k = n:=by simpa using hk
  exact ⟨by simpa [Region.lexHead] using hB,h⟩
 | o :: l,k,listed,a,hl,hk,inv,hB,h => by
  have h0:ops[k]? = some o:=by simpa using (hl 0 (by simp)).symm
  simp only [List.length_cons,Region.lexHead,Bool.and_eq_true] at hB
  simp only [List.length_cons] at hk
  have hr:k ∈ Region.ready md ops listed:=by simpa using hB.1.1
  obtain ⟨v,hy,hK⟩:=yieldsIn_of_qOp (C:=C) (K:=wpQuiet P ops C Lq l) h0 (by unfold qOp; simp only [h0]; exact h)
  exact headQ_first h0 (Region.noSelect_spec hsel) hs hc hn (by omega) (fun _ _ hL => seqB_ready hL.1) l.length listed a inv (Region.free_spec h0 hB.1.2) hr hy
   (headQ_lex hsel hs hc hn l (k + 1) _ _ (fun j hj => by have:=hl (j + 1) (by simp; omega); simpa [Nat.add_assoc,Nat.add_comm 1 j] using this) (by omega) (inv.set hr (by omega)) hB.2 hK)
theorem wp_region_quiet_tail {id:Nat} {Q:Exit → Act → World → Prop} {a:Act} {w:World} {l:List Oper} (n:Nat) (hm:P.follows .mixedOrders = true) (hB:Region.lexTailB .any l.toArray n = true)
  (hC:C { w with drawn:=w.drawn + 1 }) (h:wpQuiet P l.toArray C (fun a' => ∀ w',C w' → wpList P l.toArray Q (l.drop n) a' w') (l.take n) a):(Code.region id l.toArray true).wp P Q a w:=by
 simp only [Region.lexTailB,Bool.and_eq_true,decide_eq_true_eq] at hB
 obtain ⟨⟨⟨⟨hsel,hn⟩,hs⟩,hc⟩,hlex⟩:=hB
 have hn':n < l.length:=by simpa using hn
 have htl:(l.take n).length = n:=by simp; omega
 have hdl:(l.drop n).length = l.toArray.size - n:=by simp
 have inv0:HeadInv .any l.toArray n (Array.replicate l.toArray.size false) :=
  ⟨by simp,fun j oj _ hl => (by rw [getD_replicate_false] at hl; cases hl),fun t _ ht => getD_in (by simpa using ht) (getD_replicate_false _ _)⟩
 have H:=headQ_lex (md:=.any) (g:=l.toArray.size - n) hsel hs hc hn (l.take n) 0 _ a (fun j hj => by rw [htl] at hj; simp [hj]) (by simpa using htl) inv0 (by rw [htl]; exact hlex) h
 refine wp_region_any hm ?_
 have key:=any_of_headQ (Q':=Q) (g:=l.toArray.size - n) (fun listed a' w' hw' hL => by
  have:=wpAny_of_seq (md:=.any) (Q':=Q) (l.drop n) n listed a' w' (fun j => by simp [List.getElem?_drop]) (by rw [hdl]; exact hL.1) (hL.2 w' hw')
  rwa [hdl] at this) _ _ _ _ hC H
 rw [htl,Nat.add_sub_cancel' (Nat.le_of_lt hn)] at key
 exact key
end
theorem region_tail {P:Program} {id:Nat} {Q:Exit → Act → World → Prop} {a:Act} {w:World} {l:List Oper} (n:Nat) (hm:P.follows .mixedOrders = true) (hB:Region.lexTailB .any l.toArray n = true)
  (h:wpQuiet P l.toArray (fun w' => ∃ p,w' = more w p) (fun a' => ∀ w',(∃ p,w' = more w p) → wpList P l.toArray Q (l.drop n) a' w') (l.take n) a):(Code.region id l.toArray true).wp P Q a w :=
 wp_region_quiet_tail (C:=fun w' => ∃ p,w' = more w p) n hm hB ⟨⟨[],1⟩,rfl⟩ h
theorem at_world {P:Program} {c:Code} {Q:Exit → Act → World → Prop} {a:Act} {W:World} (F:World → Prop) (h:F W) (k:∀ W,F W → c.wp P Q a W):c.wp P Q a W:=k W h
theorem calls_more_o {P:Program} {f:FuncId} {args:Array Value} {w:World} {p:Extra} {v:Value} {o:Obj} (h:Calls P f args (more w p) fun e w' => e = .returned v ∧ (more w p).alloc o = w') :
  Calls P f args (more w p) fun e w'' => e = .returned v ∧ ∃ q,w'' = more w q :=
 h.mono fun _ _ ⟨he,hq⟩ => ⟨he,_,hq.symm.trans (more_alloc w p o)⟩
theorem at_new {W:World} {o:Obj} {g:Nat} (h:g = W.heap.size):(W.alloc o).heap[g]? = some o:=by subst h; show (W.heap.push o)[W.heap.size]? = some o; simp
theorem at_old {W:World} {o v:Obj} {g:Nat} (h:W.heap[g]? = some v):(W.alloc o).heap[g]? = some v:=by
 have hg:g < W.heap.size:=by
  rcases Nat.lt_or_ge g W.heap.size with h1 | h1
  ·exact h1
  ·simp [h1] at h
 rw [← h]
 exact more_heap W ⟨[o],0⟩ g hg
theorem at_drew {W:World} {n:Nat} {v:Obj} {g:Nat} (h:W.heap[g]? = some v):(W.drewN n).heap[g]? = some v:=h
def Ext (w W:World):Prop:=∃ q,W = more w q
theorem Ext.refl (w:World):Ext w w:=⟨⟨[],0⟩,rfl⟩
theorem Ext.alloc {w W:World} (h:Ext w W) (o:Obj):Ext w (W.alloc o):=by obtain ⟨q,rfl⟩:=h; exact ⟨_,more_alloc w q o⟩
theorem Ext.drewN {w W:World} (h:Ext w W) (n:Nat):Ext w (W.drewN n):=by obtain ⟨q,rfl⟩:=h; exact ⟨_,more_drewN w q n⟩
theorem Ext.mored {w W:World} (h:Ext w W) (p:Extra):Ext w (more W p):=by obtain ⟨q,rfl⟩:=h; exact ⟨_,more_more w q p⟩
theorem Ext.trans {w W W':World} (h:Ext w W) (h':Ext W W'):Ext w W':=more_to h h'
theorem foldl_parts (os:List Obj) (w:World):(os.foldl World.alloc w).heap = w.heap ++ os.toArray ∧ (os.foldl World.alloc w).tape = w.tape ∧ (os.foldl World.alloc w).drawn = w.drawn ∧ (os.foldl World.alloc w).os = w.os ∧ (os.foldl World.alloc w).output = w.output:=by
 induction os generalizing w with
 | nil => exact ⟨by simp,rfl,rfl,rfl,rfl⟩
 | cons o os ih =>
  obtain ⟨h1,h2,h3,h4,h5⟩:=ih (w.alloc o)
  refine ⟨?_,h2,h3,h4,h5⟩
  rw [List.foldl_cons,h1]
  show w.heap.push o ++ os.toArray = w.heap ++ (o :: os).toArray
  apply Array.ext'
  simp
theorem Ext.of {w W:World} (hb:Below w.heap.size w W) (hd:w.drawn ≤ W.drawn):Ext w W:=by
 refine ⟨⟨W.heap.toList.drop w.heap.size,W.drawn - w.drawn⟩,?_⟩
 obtain ⟨h1,h2,h3,h4,h5⟩:=foldl_parts (W.heap.toList.drop w.heap.size) w
 have e:((W.heap.toList.drop w.heap.size).foldl World.alloc w).heap = W.heap:=by
  rw [h1]
  apply Array.ext_getElem?
  intro k
  rcases Nat.lt_or_ge k w.heap.size with hk | hk
  ·rw [hb.block k hk,Array.getElem?_append_left hk]
  ·rw [Array.getElem?_append_right hk]
   simp
   congr 1
   omega
 have key:∀ (V:World) (n:Nat),V.heap = W.heap → V.tape = W.tape → V.drawn + n = W.drawn → V.os = W.os → V.output = W.output → W = V.drewN n:=by
  intro V n g1 g2 g3 g4 g5
  cases V
  cases W
  simp only at g1 g2 g3 g4 g5
  subst g1 g2 g3 g4 g5
  rfl
 exact key _ _ e (h2.trans hb.tape.symm) (by rw [h3]; show w.drawn + (W.drawn - w.drawn) = _; omega) (h4.trans hb.os.symm) (h5.trans hb.output.symm)
theorem Ext.setCell {w W:World} (h:Ext w W) {g i:Nat} (hg:w.heap.size ≤ g) (v:Value):Ext w (W.setCell ⟨g,i,none⟩ v):=by
 obtain ⟨q,rfl⟩:=h
 have hb:=more_below w q
 refine Ext.of ⟨hb.os,hb.tape,hb.output,?_,fun b hb' => ?_⟩ ?_
 ·rw [size_setCell]; exact hb.size
 ·show ((more w q).heap.modify g _)[b]? = _
  rw [Array.getElem?_modify,if_neg (by omega)]
  exact hb.block b hb'
 ·show w.drawn ≤ (more w q).drawn
  obtain ⟨os,n⟩:=q
  show w.drawn ≤ (os.foldl World.alloc w).drawn + n
  rw [(foldl_parts os w).2.2.1]; omega
theorem heap_set_other {W:World} {g b i:Nat} {x:Option Obj} (v:Value) (hne:b ≠ g) (e:W.heap[g]? = x):(W.setCell ⟨b,i,none⟩ v).heap[g]? = x:=by
 show (W.heap.modify b _)[g]? = _
 rw [Array.getElem?_modify,if_neg hne]
 exact e
theorem at_more {W:World} {p:Extra} {g:Nat} {v:Obj} (h:W.heap[g]? = some v):(more W p).heap[g]? = some v:=by
 have hg:g < W.heap.size:=by
  rcases Nat.lt_or_ge g W.heap.size with h1 | h1
  ·exact h1
  ·simp [h1] at h
 rw [← h]
 exact more_heap W p g hg
theorem at_drew1 {W:World} {g:Nat} {v:Obj} (h:W.heap[g]? = some v):W.drew.heap[g]? = some v:=h
theorem ext_drew (w:World):Ext w w.drew:=⟨⟨[],1⟩,rfl⟩
theorem ext_drewW {w W:World} (h:Ext w W):Ext w W.drew:=h.drewN 1
theorem at_ext {w W:World} {g:Nat} {v:Obj} (h:Ext w W) (e:w.heap[g]? = some v):W.heap[g]? = some v:=by
 obtain ⟨q,rfl⟩:=h; exact at_more e
theorem Ext.below' {w W:World} (h:Ext w W):Below w.heap.size w W:=by obtain ⟨q,rfl⟩:=h; exact more_below w q
theorem lt_of_heap {W:World} {g:Nat} {o:Obj} (e:W.heap[g]? = some o):g < W.heap.size:=by
 rcases Nat.lt_or_ge g W.heap.size with h1 | h1
 ·exact h1
 ·simp [h1] at e
theorem froz_cells {W:World} {g i:Nat} {vs:Array Value} {t:TypeId} (e:W.heap[g]? = some (.cells vs t)):W.frozen? ⟨g,i,none⟩ = false:=by
 unfold World.frozen?
 rw [e]
 simp
theorem heap_set {W:World} {g i:Nat} {vs:Array Value} {t:TypeId} (v:Value) (e:W.heap[g]? = some (.cells vs t)):(W.setCell ⟨g,i,none⟩ v).heap[g]? = some (.cells (vs.setIfInBounds i v) t):=by
 unfold World.setCell
 simp only [Array.getElem?_modify,if_true,e]
 rfl
theorem cell_of {W:World} {g i:Nat} {vs:Array Value} {t:TypeId} {v:Value} (e:W.heap[g]? = some (.cells vs t)) (h:vs[i]? = some v):W.cell? ⟨g,i,none⟩ = some v:=by simp [World.cell?,e,h]
theorem cq0 {W:World} {g:Nat} {vs:Array Value} {t:TypeId} {v:Value} (e:W.heap[g]? = some (.cells vs t)) (h:vs[0]? = some v):W.cell? ⟨g,0,none⟩ = some v:=cell_of (i:=0) e h
theorem cq1 {W:World} {g:Nat} {vs:Array Value} {t:TypeId} {v:Value} (e:W.heap[g]? = some (.cells vs t)) (h:vs[1]? = some v):W.cell? ⟨g,1,none⟩ = some v:=cell_of (i:=1) e h
theorem cq2 {W:World} {g:Nat} {vs:Array Value} {t:TypeId} {v:Value} (e:W.heap[g]? = some (.cells vs t)) (h:vs[2]? = some v):W.cell? ⟨g,2,none⟩ = some v:=cell_of (i:=2) e h
theorem cq3 {W:World} {g:Nat} {vs:Array Value} {t:TypeId} {v:Value} (e:W.heap[g]? = some (.cells vs t)) (h:vs[3]? = some v):W.cell? ⟨g,3,none⟩ = some v:=cell_of (i:=3) e h
theorem cq4 {W:World} {g:Nat} {vs:Array Value} {t:TypeId} {v:Value} (e:W.heap[g]? = some (.cells vs t)) (h:vs[4]? = some v):W.cell? ⟨g,4,none⟩ = some v:=cell_of (i:=4) e h
theorem cq5 {W:World} {g:Nat} {vs:Array Value} {t:TypeId} {v:Value} (e:W.heap[g]? = some (.cells vs t)) (h:vs[5]? = some v):W.cell? ⟨g,5,none⟩ = some v:=cell_of (i:=5) e h
theorem cq6 {W:World} {g:Nat} {vs:Array Value} {t:TypeId} {v:Value} (e:W.heap[g]? = some (.cells vs t)) (h:vs[6]? = some v):W.cell? ⟨g,6,none⟩ = some v:=cell_of (i:=6) e h
theorem cq7 {W:World} {g:Nat} {vs:Array Value} {t:TypeId} {v:Value} (e:W.heap[g]? = some (.cells vs t)) (h:vs[7]? = some v):W.cell? ⟨g,7,none⟩ = some v:=cell_of (i:=7) e h
theorem cq8 {W:World} {g:Nat} {vs:Array Value} {t:TypeId} {v:Value} (e:W.heap[g]? = some (.cells vs t)) (h:vs[8]? = some v):W.cell? ⟨g,8,none⟩ = some v:=cell_of (i:=8) e h
theorem cq9 {W:World} {g:Nat} {vs:Array Value} {t:TypeId} {v:Value} (e:W.heap[g]? = some (.cells vs t)) (h:vs[9]? = some v):W.cell? ⟨g,9,none⟩ = some v:=cell_of (i:=9) e h
theorem cq10 {W:World} {g:Nat} {vs:Array Value} {t:TypeId} {v:Value} (e:W.heap[g]? = some (.cells vs t)) (h:vs[10]? = some v):W.cell? ⟨g,10,none⟩ = some v:=cell_of (i:=10) e h
theorem cq11 {W:World} {g:Nat} {vs:Array Value} {t:TypeId} {v:Value} (e:W.heap[g]? = some (.cells vs t)) (h:vs[11]? = some v):W.cell? ⟨g,11,none⟩ = some v:=cell_of (i:=11) e h
theorem cq12 {W:World} {g:Nat} {vs:Array Value} {t:TypeId} {v:Value} (e:W.heap[g]? = some (.cells vs t)) (h:vs[12]? = some v):W.cell? ⟨g,12,none⟩ = some v:=cell_of (i:=12) e h
theorem cq13 {W:World} {g:Nat} {vs:Array Value} {t:TypeId} {v:Value} (e:W.heap[g]? = some (.cells vs t)) (h:vs[13]? = some v):W.cell? ⟨g,13,none⟩ = some v:=cell_of (i:=13) e h
theorem cq14 {W:World} {g:Nat} {vs:Array Value} {t:TypeId} {v:Value} (e:W.heap[g]? = some (.cells vs t)) (h:vs[14]? = some v):W.cell? ⟨g,14,none⟩ = some v:=cell_of (i:=14) e h
theorem cq15 {W:World} {g:Nat} {vs:Array Value} {t:TypeId} {v:Value} (e:W.heap[g]? = some (.cells vs t)) (h:vs[15]? = some v):W.cell? ⟨g,15,none⟩ = some v:=cell_of (i:=15) e h
theorem cq16 {W:World} {g:Nat} {vs:Array Value} {t:TypeId} {v:Value} (e:W.heap[g]? = some (.cells vs t)) (h:vs[16]? = some v):W.cell? ⟨g,16,none⟩ = some v:=cell_of (i:=16) e h
theorem cq17 {W:World} {g:Nat} {vs:Array Value} {t:TypeId} {v:Value} (e:W.heap[g]? = some (.cells vs t)) (h:vs[17]? = some v):W.cell? ⟨g,17,none⟩ = some v:=cell_of (i:=17) e h
theorem cq18 {W:World} {g:Nat} {vs:Array Value} {t:TypeId} {v:Value} (e:W.heap[g]? = some (.cells vs t)) (h:vs[18]? = some v):W.cell? ⟨g,18,none⟩ = some v:=cell_of (i:=18) e h
theorem cq19 {W:World} {g:Nat} {vs:Array Value} {t:TypeId} {v:Value} (e:W.heap[g]? = some (.cells vs t)) (h:vs[19]? = some v):W.cell? ⟨g,19,none⟩ = some v:=cell_of (i:=19) e h
theorem cq20 {W:World} {g:Nat} {vs:Array Value} {t:TypeId} {v:Value} (e:W.heap[g]? = some (.cells vs t)) (h:vs[20]? = some v):W.cell? ⟨g,20,none⟩ = some v:=cell_of (i:=20) e h
theorem cq21 {W:World} {g:Nat} {vs:Array Value} {t:TypeId} {v:Value} (e:W.heap[g]? = some (.cells vs t)) (h:vs[21]? = some v):W.cell? ⟨g,21,none⟩ = some v:=cell_of (i:=21) e h
theorem cq22 {W:World} {g:Nat} {vs:Array Value} {t:TypeId} {v:Value} (e:W.heap[g]? = some (.cells vs t)) (h:vs[22]? = some v):W.cell? ⟨g,22,none⟩ = some v:=cell_of (i:=22) e h
theorem cq23 {W:World} {g:Nat} {vs:Array Value} {t:TypeId} {v:Value} (e:W.heap[g]? = some (.cells vs t)) (h:vs[23]? = some v):W.cell? ⟨g,23,none⟩ = some v:=cell_of (i:=23) e h
theorem cq24 {W:World} {g:Nat} {vs:Array Value} {t:TypeId} {v:Value} (e:W.heap[g]? = some (.cells vs t)) (h:vs[24]? = some v):W.cell? ⟨g,24,none⟩ = some v:=cell_of (i:=24) e h
theorem cq25 {W:World} {g:Nat} {vs:Array Value} {t:TypeId} {v:Value} (e:W.heap[g]? = some (.cells vs t)) (h:vs[25]? = some v):W.cell? ⟨g,25,none⟩ = some v:=cell_of (i:=25) e h
theorem cq26 {W:World} {g:Nat} {vs:Array Value} {t:TypeId} {v:Value} (e:W.heap[g]? = some (.cells vs t)) (h:vs[26]? = some v):W.cell? ⟨g,26,none⟩ = some v:=cell_of (i:=26) e h
theorem cq27 {W:World} {g:Nat} {vs:Array Value} {t:TypeId} {v:Value} (e:W.heap[g]? = some (.cells vs t)) (h:vs[27]? = some v):W.cell? ⟨g,27,none⟩ = some v:=cell_of (i:=27) e h
theorem calls_ext1 {P:Program} {f:FuncId} {args:Array Value} {w:World} {v:Value} {o1:Obj} (h:Calls P f args w fun e w' => e = .returned v ∧ w.alloc o1 = w'):Calls P f args w fun e w' => e = .returned v ∧ ∃ q,w' = more w q :=
 h.mono fun _ _ ⟨he,hq⟩ => ⟨he,⟨[o1],0⟩,hq.symm⟩
theorem calls_ext3 {P:Program} {f:FuncId} {args:Array Value} {w:World} {v:Value} {o1 o2 o3:Obj} (h:Calls P f args w fun e w' => e = .returned v ∧ ((w.alloc o1).alloc o2).alloc o3 = w'):Calls P f args w fun e w' => e = .returned v ∧ ∃ q,w' = more w q :=
 h.mono fun _ _ ⟨he,hq⟩ => ⟨he,⟨[o1,o2,o3],0⟩,hq.symm⟩
theorem calls_same {P:Program} {f:FuncId} {args:Array Value} {w:World} {v:Value} (h:Calls P f args w fun e w' => e = .returned v ∧ w = w'):Calls P f args w fun e w' => e = .returned v ∧ ∃ q,w' = more w q :=
 h.mono fun _ _ ⟨he,hq⟩ => ⟨he,⟨[],0⟩,hq.symm⟩
theorem ret_bool' {a b:Bool} (h:a = b):Ending.returned (.bool a) = .returned (.bool b):=by rw [h]
theorem cells2_of {W:World} {g:Nat} {v0 v1:Value} {t:TypeId} (e:W.heap[g]? = some (.cells #[v0,v1] t)):g < W.heap.size ∧ W.cell? ⟨g,0,none⟩ = some v0 ∧ W.cell? ⟨g,1,none⟩ = some v1 :=
 ⟨lt_of_heap e,cell_of e rfl,cell_of e rfl⟩
theorem cells4_of {W:World} {g:Nat} {v0 v1 v2 v3:Value} {t:TypeId} (e:W.heap[g]? = some (.cells #[v0,v1,v2,v3] t)):g < W.heap.size ∧ W.cell? ⟨g,0,none⟩ = some v0 ∧ W.cell? ⟨g,1,none⟩ = some v1 ∧ W.cell? ⟨g,2,none⟩ = some v2 ∧ W.cell? ⟨g,3,none⟩ = some v3 :=
 ⟨lt_of_heap e,cell_of e rfl,cell_of e rfl,cell_of e rfl,cell_of e rfl⟩
theorem cells5_of {W:World} {g:Nat} {v0 v1 v2 v3 v4:Value} {t:TypeId} (e:W.heap[g]? = some (.cells #[v0,v1,v2,v3,v4] t)):g < W.heap.size ∧ W.cell? ⟨g,0,none⟩ = some v0 ∧ W.cell? ⟨g,1,none⟩ = some v1 ∧ W.cell? ⟨g,2,none⟩ = some v2 ∧ W.cell? ⟨g,3,none⟩ = some v3 ∧ W.cell? ⟨g,4,none⟩ = some v4 :=
 ⟨lt_of_heap e,cell_of e rfl,cell_of e rfl,cell_of e rfl,cell_of e rfl,cell_of e rfl⟩
theorem cells6_of {W:World} {g:Nat} {v0 v1 v2 v3 v4 v5:Value} {t:TypeId} (e:W.heap[g]? = some (.cells #[v0,v1,v2,v3,v4,v5] t)):g < W.heap.size ∧ W.cell? ⟨g,0,none⟩ = some v0 ∧ W.cell? ⟨g,1,none⟩ = some v1 ∧ W.cell? ⟨g,2,none⟩ = some v2 ∧ W.cell? ⟨g,3,none⟩ = some v3 ∧ W.cell? ⟨g,4,none⟩ = some v4 ∧ W.cell? ⟨g,5,none⟩ = some v5 :=
 ⟨lt_of_heap e,cell_of e rfl,cell_of e rfl,cell_of e rfl,cell_of e rfl,cell_of e rfl,cell_of e rfl⟩
theorem cells12_of {W:World} {g:Nat} {v0 v1 v2 v3 v4 v5 v6 v7 v8 v9 v10 v11:Value} {t:TypeId} (e:W.heap[g]? = some (.cells #[v0,v1,v2,v3,v4,v5,v6,v7,v8,v9,v10,v11] t)):g < W.heap.size ∧ W.cell? ⟨g,0,none⟩ = some v0 ∧ W.cell? ⟨g,1,none⟩ = some v1 ∧ W.cell? ⟨g,2,none⟩ = some v2 ∧ W.cell? ⟨g,3,none⟩ = some v3 ∧ W.cell? ⟨g,4,none⟩ = some v4 ∧ W.cell? ⟨g,5,none⟩ = some v5 ∧ W.cell? ⟨g,6,none⟩ = some v6 ∧ W.cell? ⟨g,7,none⟩ = some v7 ∧ W.cell? ⟨g,8,none⟩ = some v8 ∧ W.cell? ⟨g,9,none⟩ = some v9 ∧ W.cell? ⟨g,10,none⟩ = some v10 ∧ W.cell? ⟨g,11,none⟩ = some v11 :=
 ⟨lt_of_heap e,cell_of e rfl,cell_of e rfl,cell_of e rfl,cell_of e rfl,cell_of e rfl,cell_of e rfl,cell_of e rfl,cell_of e rfl,cell_of e rfl,cell_of e rfl,cell_of e rfl,cell_of e rfl⟩
def Bel (w W:World):Prop:=Below w.heap.size w W
theorem Bel.refl (w:World):Bel w w:=Below.refl _ _
theorem Bel.of_ext {w W:World} (h:Ext w W):Bel w W:=h.below'
theorem Bel.trans {w V W:World} (h:Bel w V) (h':Bel V W):Bel w W:=by
 refine ⟨h'.os.trans h.os,h'.tape.trans h.tape,h'.output.trans h.output,Nat.le_trans h.size h'.size,fun k hk => ?_⟩
 exact (h'.block k (Nat.lt_of_lt_of_le hk h.size)).trans (h.block k hk)
theorem Bel.size' {w W:World} (h:Bel w W):w.heap.size ≤ W.heap.size:=h.size
theorem Bel.ext {w V W:World} (h:Bel w V) (h':Ext V W):Bel w W:=h.trans (.of_ext h')
theorem Bel.heap {w W:World} (h:Bel w W) {g:Nat} {o:Obj} (e:w.heap[g]? = some o):W.heap[g]? = some o:=(h.block g (lt_of_heap e)).trans e
theorem Bel.cell {w W:World} (h:Bel w W) {a:Addr} {v:Value} (e:w.cell? a = some v):W.cell? a = some v :=
 (Below.cell h (World.block_lt_of_cell? w a e)).trans e
theorem Bel.setCell {w W:World} (h:Bel w W) {g i:Nat} (hg:w.heap.size ≤ g) (v:Value):Bel w (W.setCell ⟨g,i,none⟩ v):=by
 refine ⟨h.os,h.tape,h.output,by rw [size_setCell]; exact h.size,fun k hk => ?_⟩
 show (W.heap.modify g _)[k]? = _
 rw [Array.getElem?_modify,if_neg (by omega)]
 exact h.block k hk
theorem Bel.grown {w W W':World} (h:Bel w W) {row:Option Nat} (hg:W.grownBy W' row) (hr:∀ k,row = some k → w.heap.size ≤ k):Bel w W' :=
 ⟨hg.os.trans h.os,hg.tape.trans h.tape,hg.output.trans h.output,Nat.le_trans h.size hg.size,fun k hk => (hg.block k (Nat.lt_of_lt_of_le hk h.size) (fun e => by have:=hr k e.symm; omega)).trans (h.block k hk)⟩
theorem ext_cell {w W:World} (h:Ext w W) {a:Addr} {v:Value} (e:w.cell? a = some v):W.cell? a = some v:=(Bel.of_ext h).cell e
def Sl (W:World) (k n:Nat) (A:Option Addr) (xs:List Value):Prop :=
 xs.length = n * k ∧ (0 < n → ∃ g off,A = some ⟨g,off,none⟩ ∧ ∀ j u,xs[j]? = some u → W.cell? ⟨g,off + j,none⟩ = some u)
theorem Sl.bel {w W:World} {k n:Nat} {A:Option Addr} {xs:List Value} (h:Sl w k n A xs) (hb:Bel w W):Sl W k n A xs :=
 ⟨h.1,fun hn => by
  obtain ⟨g,off,e,hc⟩:=h.2 hn
  exact ⟨g,off,e,fun j u hj => hb.cell (hc j u hj)⟩⟩
theorem Sl.nil (W:World) (k:Nat) (A:Option Addr):Sl W k 0 A []:=⟨by simp,fun h => absurd h (by omega)⟩
theorem own_ext {w W:World} {base size n:Nat} {e:TypeId} {v:Value} {xs:List Value} (h:w.ownsRow base e size v n xs) (hb:Bel w W):W.ownsRow base e size v n xs:=by
 refine ⟨h.1,?_⟩
 rcases h.2 with h0 | ⟨g,cap,cur,e1,e2,e3,e4⟩
 ·exact .inl h0
 ·exact .inr ⟨g,cap,cur,e1,e2,hb.heap e3,e4⟩
theorem own_sl {w:World} {base k n:Nat} {e:TypeId} {v:Value} {xs:List Value} (h:w.ownsRow base e k v n xs):∃ A c,v = .slice A n c ∧ Sl w k n A xs:=by
 rcases h.2 with ⟨rfl,rfl⟩ | ⟨g,cap,cur,rfl,e2,e3,e4,e5,e6,e7⟩
 ·exact ⟨none,0,rfl,by have:=h.1; simpa using this,fun hn => absurd hn (by omega)⟩
 ·refine ⟨_,cap,rfl,h.1,fun _ => ⟨g,0,rfl,fun j u hj => ?_⟩⟩
  rw [← e7,List.getElem?_take] at hj
  split at hj
  ·rw [Nat.zero_add]
   simpa [World.cell?,e3] using hj
  ·cases hj
structure Px where
 x:Int
 y:Int
 z:Int
 a:Int
 f:Int
structure Ac where
 x:Int
 y:Int
 z:Int
 a:Int
 o:Int
 f:Int
abbrev Px.cs (p:Px):List Value:=[.int .u16 p.x,.int .u16 p.y,.int .u16 p.z,.int .u16 p.a,.int .u16 p.f]
abbrev Ac.cs (p:Ac):List Value:=[.int .u16 p.x,.int .u16 p.y,.int .u16 p.z,.int .u16 p.a,.int .u16 p.o,.int .u16 p.f]
abbrev Px.v (p:Px):Value:=.agg #[.int .u16 p.x,.int .u16 p.y,.int .u16 p.z,.int .u16 p.a,.int .u16 p.f]
abbrev Ac.v (p:Ac):Value:=.agg #[.int .u16 p.x,.int .u16 p.y,.int .u16 p.z,.int .u16 p.a,.int .u16 p.o,.int .u16 p.f]
def pxs (l:List Px):List Value:=l.flatMap Px.cs
def acs (l:List Ac):List Value:=l.flatMap Ac.cs
theorem flat_len {α:Type} {f:α → List Value} {k:Nat} (hf:∀ a,(f a).length = k) (l:List α):(l.flatMap f).length = l.length * k:=by
 induction l with
 | nil => simp
 | cons a l ih => rw [List.flatMap_cons,List.length_append,ih,hf,List.length_cons,Nat.succ_mul]; omega
theorem flat_get {α:Type} {f:α → List Value} {k:Nat} (hf:∀ a,(f a).length = k) (l:List α) (i j:Nat) (a:α) (hi:l[i]? = some a) (hj:j < k):(l.flatMap f)[i * k + j]? = (f a)[j]?:=by
 induction l generalizing i with
 | nil => cases hi
 | cons b l ih =>
  rw [List.flatMap_cons]
  cases i with
  | zero =>
   simp at hi
   subst hi
   rw [Nat.zero_mul,Nat.zero_add,List.getElem?_append_left (by rw [hf]; exact hj)]
  | succ i =>
   rw [List.getElem?_cons_succ] at hi
   rw [List.getElem?_append_right (by rw [hf,Nat.succ_mul]; omega),hf,← ih i hi]
   congr 1
   rw [Nat.succ_mul]; omega
theorem pxs_len (l:List Px):(pxs l).length = l.length * 5:=flat_len (f:=Px.cs) (fun _ => rfl) l
theorem Sl.px {W:World} {n i:Nat} {A:Option Addr} {l:List Px} {p:Px} (h:Sl W 5 n A (pxs l)) (hi:l[i]? = some p) (hn:i < n) :
  ∃ g off,A = some ⟨g,off,none⟩ ∧ W.cell? ⟨g,off + i * 5,none⟩ = some (.int .u16 p.x) ∧ W.cell? ⟨g,off + i * 5 + 1,none⟩ = some (.int .u16 p.y) ∧ W.cell? ⟨g,off + i * 5 + 2,none⟩ = some (.int .u16 p.z) ∧ W.cell? ⟨g,off + i * 5 + 3,none⟩ = some (.int .u16 p.a) ∧ W.cell? ⟨g,off + i * 5 + 4,none⟩ = some (.int .u16 p.f):=by
 obtain ⟨g,off,rfl,hc⟩:=h.2 (by omega)
 have k:∀ j u,j < 5 → p.cs[j]? = some u → W.cell? ⟨g,off + i * 5 + j,none⟩ = some u:=fun j u hj hu => by
  rw [Nat.add_assoc]
  exact hc _ u ((flat_get (f:=Px.cs) (fun _ => rfl) l i j p hi hj).trans hu)
 exact ⟨g,off,rfl,k 0 _ (by decide) rfl,k 1 _ (by decide) rfl,k 2 _ (by decide) rfl,k 3 _ (by decide) rfl,k 4 _ (by decide) rfl⟩
theorem Sl.ac {W:World} {n i:Nat} {A:Option Addr} {l:List Ac} {p:Ac} (h:Sl W 6 n A (acs l)) (hi:l[i]? = some p) (hn:i < n) :
  ∃ g off,A = some ⟨g,off,none⟩ ∧ W.cell? ⟨g,off + i * 6,none⟩ = some (.int .u16 p.x) ∧ W.cell? ⟨g,off + i * 6 + 1,none⟩ = some (.int .u16 p.y) ∧ W.cell? ⟨g,off + i * 6 + 2,none⟩ = some (.int .u16 p.z) ∧ W.cell? ⟨g,off + i * 6 + 3,none⟩ = some (.int .u16 p.a) ∧ W.cell? ⟨g,off + i * 6 + 4,none⟩ = some (.int .u16 p.o) ∧ W.cell? ⟨g,off + i * 6 + 5,none⟩ = some (.int .u16 p.f):=by
 obtain ⟨g,off,rfl,hc⟩:=h.2 (by omega)
 have k:∀ j u,j < 6 → p.cs[j]? = some u → W.cell? ⟨g,off + i * 6 + j,none⟩ = some u:=fun j u hj hu => by
  rw [Nat.add_assoc]
  exact hc _ u ((flat_get (f:=Ac.cs) (fun _ => rfl) l i j p hi hj).trans hu)
 exact ⟨g,off,rfl,k 0 _ (by decide) rfl,k 1 _ (by decide) rfl,k 2 _ (by decide) rfl,k 3 _ (by decide) rfl,k 4 _ (by decide) rfl,k 5 _ (by decide) rfl⟩
theorem pxs_snoc (l:List Px) (p:Px):pxs (l ++ [p]) = pxs l ++ p.cs:=by unfold pxs; rw [List.flatMap_append]; simp
theorem acs_snoc (l:List Ac) (p:Ac):acs (l ++ [p]) = acs l ++ p.cs:=by unfold acs; rw [List.flatMap_append]; simp
theorem take_snoc {α:Type} {l:List α} {i:Nat} {a:α} (h:l[i]? = some a):l.take (i + 1) = l.take i ++ [a]:=by
 rw [List.take_add_one,h]; rfl
theorem new_row (W:World) (vs:List Value) (t:TypeId) (j:Nat) (u:Value) (h:vs[j]? = some u):(W.alloc (.cells vs.toArray t)).cell? ((⟨W.heap.size,0,none⟩:Addr).add j) = some u:=by
 have e:(⟨W.heap.size,0,none⟩:Addr).add j = ⟨W.heap.size,j,none⟩:=by unfold Addr.add; split <;> simp_all
 rw [e]
 exact cell_of (at_new rfl) (by simpa using h)
theorem px_one (p:Px):∀ u ∈ p.cs,u.oneCell' = true:=by
 intro u hu
 simp [Px.cs] at hu
 rcases hu with rfl | rfl | rfl | rfl | rfl <;> rfl
theorem ac_one (p:Ac):∀ u ∈ p.cs,u.oneCell' = true:=by
 intro u hu
 simp [Ac.cs] at hu
 rcases hu with rfl | rfl | rfl | rfl | rfl | rfl <;> rfl
theorem Bel.app {w W W':World} {o:Obj} {base size n:Nat} {e:TypeId} {v:Value} {xs:List Value} (h:Bel w W) (hb:w.heap.size ≤ base) (hown:W.ownsRow base e size v n xs) (hg:(W.alloc o).grownBy W' v.ownBlock):Bel w W' :=
 (h.ext ((Ext.refl W).alloc o)).grown hg fun k hk => Nat.le_trans hb (hown.lt k hk).1
theorem wrap_i64 (x:Int) (h0:-9223372036854775808 ≤ x) (h1:x ≤ 9223372036854775807):IntKind.i64.wrap x = x:=by
 unfold IntKind.wrap
 simp [IntKind.bits,IntKind.signed]
 split <;> omega
theorem Bel.al {w W:World} (h:Bel w W) (o:Obj):Bel w (W.alloc o):=h.ext ((Ext.refl W).alloc o)
theorem Bel.dr {w W:World} (h:Bel w W):Bel w W.drew:=h.ext (ext_drew W)
theorem Bel.dn {w W:World} (h:Bel w W) (n:Nat):Bel w (W.drewN n):=h.ext ((Ext.refl W).drewN n)
theorem Bel.mo {w W:World} (h:Bel w W) (p:Extra):Bel w (more W p):=h.ext ((Ext.refl W).mored p)
theorem calls_bel {P:Program} {f:FuncId} {args:Array Value} {w:World} {v:Value} (h:Calls P f args w fun e w' => e = .returned v ∧ ∃ q,w' = more w q):Calls P f args w fun e w' => e = .returned v ∧ Bel w w' :=
 h.mono fun _ _ ⟨he,hq⟩ => ⟨he,.of_ext hq⟩
theorem frozA {W:World} {g:Nat} {vs:Array Value} {t:TypeId} (e:W.heap[g]? = some (.cells vs t)) (i:Nat):W.frozen? ⟨g,i,none⟩ = false:=froz_cells e
theorem max_ints (ats:Array TypeId) (ty:TypeId) (k k':IntKind) (a b:Int):Builtin.max_ ats ty #[.int k a,.int k' b] = pure (.int k (max a b)):=by
 show (Builtin.max2 (.int k a) (.int k' b) >>= pure) = _
 have h:(if b > a then b else a) = max a b:=by split <;> omega
 show (pure (.int k (if b > a then b else a)):Sem Value) = _
 rw [h]
theorem min_ints (ats:Array TypeId) (ty:TypeId) (k k':IntKind) (a b:Int):Builtin.min_ ats ty #[.int k a,.int k' b] = pure (.int k (min a b)):=by
 have h:(if b < a then b else a) = min a b:=by split <;> omega
 show (pure (.int k (if b < a then b else a)):Sem Value) = _
 rw [h]
structure Root (N r:Int):Prop where
 r0:0 ≤ r
 r1:r ≤ 18446744073709551615
 lo:r * r ≤ N
 hi:N < (r + 1) * (r + 1)
theorem sq_mono {a b:Int} (a0:0 ≤ a) (h:a ≤ b):a * a ≤ b * b:=Int.mul_le_mul h h a0 (Int.le_trans a0 h)
theorem Root.le {N r c:Int} (h:Root N r) (c0:0 ≤ c):c * c ≤ N ↔ c ≤ r:=by
 constructor
 ·intro hc
  apply Int.not_lt.1
  intro hl
  have:=sq_mono (a:=r + 1) (b:=c) (by have:=h.r0; omega) (by omega)
  have:=h.hi
  omega
 ·intro hc
  exact Int.le_trans (sq_mono c0 hc) h.lo
theorem nat_root (n:Nat):∃ r:Nat,r * r ≤ n ∧ n < (r + 1) * (r + 1):=by
 induction n with
 | zero => exact ⟨0,by simp,by simp⟩
 | succ n ih =>
  obtain ⟨r,h1,h2⟩:=ih
  by_cases h:n + 1 < (r + 1) * (r + 1)
  ·exact ⟨r,by omega,h⟩
  ·refine ⟨r + 1,by omega,?_⟩
   have e:(r + 1 + 1) * (r + 1 + 1) = (r + 1) * (r + 1) + (r + 1) + (r + 1) + 1:=by
    rw [Nat.add_mul (r + 1) 1,Nat.mul_add (r + 1) (r + 1) 1]; omega
   omega
theorem root_ex (N:Int) (h0:0 ≤ N) (h1:N < 340282366920938463463374607431768211456):∃ r,Root N r:=by
 obtain ⟨r,a,b⟩:=nat_root N.toNat
 have a':(r:Int) * (r:Int) ≤ N:=by rw [← Int.natCast_mul]; omega
 have b':N < ((r:Int) + 1) * ((r:Int) + 1):=by
  have:((r:Int) + 1) * ((r:Int) + 1) = (((r + 1) * (r + 1):Nat):Int):=by rw [Int.natCast_mul]; rfl
  rw [this]; omega
 refine ⟨r,by omega,?_,a',b'⟩
 apply Int.not_lt.1
 intro hl
 have:=sq_mono (a:=18446744073709551616) (b:=(r:Int)) (by omega) (by omega)
 omega
noncomputable def isq (N:Int):Int:=Classical.epsilon (Root N)
theorem isq_spec {N:Int} (h0:0 ≤ N) (h1:N < 340282366920938463463374607431768211456):Root N (isq N):=by
 exact Classical.epsilon_spec (root_ex N h0 h1)
def sqB (k:Nat):Int:=match k with | 0 => 0 | j + 1 => 2 ^ j
def sqX (r:Int) (k:Nat):Int:=r / 2 ^ k * 2 ^ k
theorem sqX_start {r:Int} (r0:0 ≤ r) (r1:r ≤ 18446744073709551615):sqX r 64 = 0:=by
 unfold sqX
 rw [Int.ediv_eq_zero_of_lt r0 (by omega),Int.zero_mul]
theorem sqX_end (r:Int):sqX r 0 = r:=by unfold sqX; rw [Int.pow_zero,Int.ediv_one,Int.mul_one]
theorem tlSq0 {p:Prop} (h:p:=by
  have:2 ^ j * (2 * (r / (2 ^ j * 2))) = r / (2 ^ j * 2) * (2 ^ j * 2):=by rw [← Int.mul_assoc,Int.mul_comm]
  omega):p:=h
theorem sqX_step {r:Int} {j:Nat} (r0:0 ≤ r) (r1:r ≤ 18446744073709551615) (hj:j ≤ 63) :
  0 ≤ sqX r (j + 1) ∧ 1 ≤ (2:Int) ^ j ∧ (2:Int) ^ j ≤ 9223372036854775808 ∧ sqX r (j + 1) + 2 ^ j ≤ 18446744073709551615 ∧ bits .or .u64 (sqX r (j + 1)) (2 ^ j) = sqX r (j + 1) + 2 ^ j ∧
  (sqX r (j + 1) + 2 ^ j ≤ r → sqX r j = sqX r (j + 1) + 2 ^ j) ∧ (r < sqX r (j + 1) + 2 ^ j → sqX r j = sqX r (j + 1)) ∧ (2:Int) ^ j / 2 = sqB j:=by
 have p:=two_pow_pos j
 have hs:(2:Int) ^ (j + 1) = 2 ^ j * 2:=Int.pow_succ _ _
 have h63:(2:Int) ^ j ≤ 9223372036854775808:=by
  have:(2:Int) ^ j ≤ 2 ^ 63:=by
   rw [pow2_cast,pow2_cast]
   exact Int.ofNat_le.2 (Nat.pow_le_pow_right (by omega) hj)
  omega
 have e:=Int.mul_ediv_add_emod r (2 ^ (j + 1))
 have m0:=Int.emod_nonneg r (b:=2 ^ (j + 1)) (by omega)
 have m1:=Int.emod_lt_of_pos r (b:=2 ^ (j + 1)) (by omega)
 have q0:0 ≤ r / 2 ^ (j + 1):=Int.ediv_nonneg r0 (by omega)
 have x0:0 ≤ sqX r (j + 1):=Int.mul_nonneg q0 (by omega)
 have top:(r / 2 ^ (j + 1) + 1) * 2 ^ (j + 1) ≤ 18446744073709551616:=by
  have e64:(18446744073709551616:Int) = 2 ^ (63 - j) * 2 ^ (j + 1):=by
   rw [← Int.pow_add,show 63 - j + (j + 1) = 64 by omega]; rfl
  have hq:r / 2 ^ (j + 1) < 2 ^ (63 - j):=(Int.ediv_lt_iff_lt_mul (by omega)).2 (by omega)
  rw [e64]
  exact Int.mul_le_mul_of_nonneg_right (by omega) (by omega)
 rw [Int.add_mul,Int.one_mul] at top
 have hx:sqX r (j + 1) = r / 2 ^ (j + 1) * 2 ^ (j + 1):=rfl
 refine ⟨x0,p,h63,by omega,?_,?_,?_,?_⟩
 ·exact or_join _ _ (j + 1) x0 (by omega) (by omega) (by omega) (by omega) (Int.mul_emod_left _ _)
 ·intro h
  have hd:r / 2 ^ j = 2 * (r / 2 ^ (j + 1)) + 1:=by
   refine ((Int.ediv_emod_unique (r:=r - sqX r (j + 1) - 2 ^ j) (by omega)).2 ⟨?_,by omega,?_⟩).1
   ·rw [Int.mul_add,Int.mul_one,hx,hs]
    exact tlSq0
   ·rw [Int.mul_comm] at e; omega
  show r / 2 ^ j * 2 ^ j = _
  rw [hd,hx,hs,Int.add_mul,Int.one_mul,Int.mul_comm 2,Int.mul_assoc,Int.mul_comm 2]
 ·intro h
  have hd:r / 2 ^ j = 2 * (r / 2 ^ (j + 1)):=by
   refine ((Int.ediv_emod_unique (r:=r - sqX r (j + 1)) (by omega)).2 ⟨?_,?_,by omega⟩).1
   ·rw [hx,hs]
    exact tlSq0
   ·rw [Int.mul_comm] at e; omega
  show r / 2 ^ j * 2 ^ j = _
  rw [hd,hx,hs,Int.mul_comm 2,Int.mul_assoc,Int.mul_comm 2]
 ·match j with
  | 0 => rfl
  | i + 1 => rw [Int.pow_succ,Int.mul_ediv_cancel _ (by decide)]; rfl
def cmpI (x y:Int):Int:=if x < y then -1 else if y < x then 1 else 0
def orI (a b:Int):Int:=if a = 0 then b else a
theorem cmp_wide {ah al bh bl:Int} (a0:0 ≤ al) (a1:al ≤ 18446744073709551615) (b0:0 ≤ bl) (b1:bl ≤ 18446744073709551615) :
  orI (cmpI ah bh) (cmpI al bl) = cmpI (ah * 18446744073709551616 + al) (bh * 18446744073709551616 + bl):=by
 unfold orI cmpI
 repeat' split
 all_goals omega
theorem cmp_le (x y:Int):decide (cmpI x y ≤ 0) = decide (x ≤ y):=by
 unfold cmpI
 apply decide_eq_decide.2
 repeat' split
 all_goals omega
section
variable {P:Program}
theorem app_block {w:World} {base:Nat} {t ty e:TypeId} {i:TypeInfo} {z:Value} {size bytes:Nat} (ht:P.underlying t = some (.slice e)) (hi:P.info? e = some i) (hz:i.zero = some z)
  (hsize:i.size = size) (hby:i.bytes = bytes) (hzs:z.cells.size = size) (hsz:0 < size) {v:Value} {n:Nat} {xs:List Value} (hown:w.ownsRow base e size v n xs)
  {a:Addr} {m c:Nat} {news:List Value} (hl:news.length = m * size) (hnews:∀ j u,news[j]? = some u → w.cell? (a.add j) = some u) (h1:∀ u ∈ news,u.oneCell' = true)
  (h63:n + m ≤ maxLen) (hbytes:(n + m) * bytes ≤ 140737488355328) (hm:0 < m) :
  ∃ v' w',(Builtin.append_ #[t,t] ty #[v,.slice (some a) m c]).run P w = .ok v' w' ∧ ∀ k,v'.ownBlock = some k → v.ownBlock = some k ∨ k = w.heap.size:=by
 subst hsize
 subst hby
 have hs:n + m ≤ 9223372036854775807:=by
  simp only [maxLen] at h63
  omega
 have ob:∀ {g k n c:Nat},(Value.slice (some ⟨g,0,none⟩) n c).ownBlock = some k → k = g:=fun {g k n c} h => (Option.some.inj h).symm
 rcases hown.2 with ⟨rfl,rfl⟩ | ⟨g,cap,cur,rfl,hbg,hg,hnc,hcm,hcs,htake⟩
 ·have hr:=run_append_nil (P:=P) w t ty e i z ht hi hz a m c news hl hnews hm (by omega) (by rw [Nat.zero_add] at hbytes; omega)
  exact ⟨_,_,hr,fun k hk => .inr (ob hk)⟩
 ·by_cases hroom:n + m ≤ cap
  ·have hfit:n * i.size + news.length ≤ cur.size:=by
    rw [hl,hcs,← Nat.add_mul]
    exact Nat.mul_le_mul_right _ hroom
   have hr:=run_append_room (P:=P) w t ty e i ht hi g n cap cur hg a m c news hl hnews h1 hroom hfit
   exact ⟨_,_,hr,fun k hk => .inl (by rw [ob hk]; rfl)⟩
  ·have holds:=World.ownsRow.cells hown (g:=g) rfl
   have hr:=run_append_grow (P:=P) w t ty e i z ht hi hz ⟨g,0,none⟩ n cap xs hown.1 holds a m c news hl hnews (by omega) (by omega) (growslice_fits (by omega) hbytes)
   exact ⟨_,_,hr,fun k hk => .inr (ob hk)⟩
theorem wpList_append_own2 {w:World} {ops:Array Oper} {rest:List Oper} {o:Oper} {a:Act} {Q:Exit → Act → World → Prop} (hgd:o.guard = none) (s x:Operand) (t:TypeId)
  (ho:o.op = .call { callee:=.builtin .append,args:=#[s,x],argTypes:=#[t,t] })
  (base:Nat) (e:TypeId) (i:TypeInfo) (z:Value) (size bytes:Nat) (ht:P.underlying t = some (.slice e)) (hi:P.info? e = some i) (hz:i.zero = some z)
  (hsize:i.size = size) (hby:i.bytes = bytes) (hzs:z.cells.size = size) (hsz:0 < size)
  (v:Value) (n:Nat) (xs:List Value) (hs:a.eval s = v) (hown:w.ownsRow base e size v n xs)
  (ad:Addr) (m c:Nat) (news:List Value) (hx:a.eval x = .slice (some ad) m c) (hl:news.length = m * size) (hnews:∀ j u,news[j]? = some u → w.cell? (ad.add j) = some u) (h1:∀ u ∈ news,u.oneCell' = true)
  (h63:n + m ≤ maxLen) (hbytes:(n + m) * bytes ≤ 140737488355328) (hbase:base ≤ w.heap.size) (hm:0 < m)
  (h:∀ v' w',w'.ownsRow base e size v' (n + m) (xs ++ news) → w.grownBy w' v.ownBlock → (∀ k,v'.ownBlock = some k → v.ownBlock = some k ∨ k = w.heap.size) → wpList P ops Q rest (a.put o.dst v') w'):wpList P ops Q (o :: rest) a w:=by
 refine wpList_plain hgd fun K hK => ?_
 obtain ⟨v1,w1,hr1,hb⟩:=app_block (ty:=o.type) ht hi hz hsize hby hzs hsz hown hl hnews h1 h63 hbytes hm
 obtain ⟨v',w',hr,h2,h3,-⟩:=run_append_own (P:=P) w base t o.type e i z size bytes ht hi hz hsize hby hzs hsz v n xs hown ad m c news hl hnews h1 h63 hbytes hbase
 rw [hr] at hr1
 cases hr1
 unfold Oper.wp execOp
 simp only [ho,resolve,invoke,builtin,Sem.run_bind,Sem.run_pure,Result.andThen_ok,List.map_toArray,List.map_cons,List.map_nil,hs,hx,hr]
 exact hK _ _ (h _ _ h2 h3 hb)
end
end Go.Proofs.YtepfoelgegljbaaGreatDoor
