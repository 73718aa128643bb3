/- Part A10. -/
import Derived.Laws.Externs
import Derived.Test.YtepfoelgegljbaaGreatDoorA03
import Derived.Test.YtepfoelgegljbaaGreatDoorA09
namespace Go.Proofs.YtepfoelgegljbaaGreatDoor
set_option maxRecDepth 100000
open Go.RowKit
set_option linter.unusedVariables false
abbrev wideO (h l:Int):Obj:=.cells #[.int .u64 h,.int .u64 l] 182
theorem add64_run (x y c:Int) (x0:0 ≤ x) (y0:0 ≤ y) (c0:0 ≤ c) (c1:c ≤ 1) (w:World) :
  (callFunc 127 #[.int .u64 x,.int .u64 y,.int .u64 c]).run Tryz.prog w = .ok (.value (.tuple #[.int .u64 ((x + y + c) % 18446744073709551616),.int .u64 ((x + y + c) / 18446744073709551616)])) w:=by
 rw [run_callFunc_extern Tryz.func127 (by kernel_rfl) (by kernel_rfl) (by kernel_rfl) (e:=add64Entry) (by kernel_rfl),run_add64 x y c x0 y0 c0 c1]
 rfl
theorem wide_of {W:World} {g:Nat} {l h:Int} (e:W.heap[g]? = some (wideO l h)):g < W.heap.size ∧ W.cell? ⟨g,0,none⟩ = some (.int .u64 l) ∧ W.cell? ⟨g,1,none⟩ = some (.int .u64 h):=by
 have hg:g < W.heap.size:=by
  rcases Nat.lt_or_ge g W.heap.size with h1 | h1
  ·exact h1
  ·simp [h1] at e
 refine ⟨hg,?_,?_⟩ <;> simp [World.cell?,e]
set_option maxHeartbeats 400000 in
theorem isNaN_call (x:Int) (w:World):Calls Tryz.prog 148 #[.int .u64 x] w fun e w' => e = .returned (.bool false) ∧ w = w':=by
 go_enter Tryz.func148,Tryz.ntmps148
 go_wp2
 go_ret
 exact ⟨rfl,rfl⟩
theorem tlTWide1 {p:Prop} (h:p:=by
  go_enter Tryz.func146,Tryz.ntmps146
  go_wp2_with (go_at_call 148; (with_reducible refine (isNaN_call _ _).mono ?_); rintro e w' ⟨rfl,rfl⟩)
  go_ret
  exact ⟨rfl,rfl⟩):p:=h
set_option maxHeartbeats 1000000 in
theorem cmpCompare_call (x y:Int) (w:World):Calls Tryz.prog 146 #[.int .u64 x,.int .u64 y] w fun e w' => e = .returned (.int .i64 (cmpI x y)) ∧ w = w':=by
 unfold cmpI
 by_cases h1:x < y
 ·rw [if_pos h1]
  exact tlTWide1
 ·rw [if_neg h1]
  by_cases h2:y < x
  ·rw [if_pos h2]
   exact tlTWide1
  ·rw [if_neg h2]
   exact tlTWide1
theorem tlTWide0 {p:Prop} (h:p:=by
  go_enter Tryz.func145,Tryz.ntmps145
  go_wp2_with fail
  refine wp_loop_rounds 3 ?_
  iterate 4 all_goals (first | (rw [rounds_succ]; go_wp2) | skip)
  go_ret
  exact ⟨rfl,rfl⟩):p:=h
set_option maxHeartbeats 1000000 in
theorem or_call (a c:Int) (b:Nat) (w:World) (h0:w.cell? ⟨b,0,none⟩ = some (.int .i64 a)) (h1:w.cell? ⟨b,1,none⟩ = some (.int .i64 c)) :
  Calls Tryz.prog 145 #[.slice (some ⟨b,0,none⟩) 2 2] w fun e w' => e = .returned (.int .i64 (orI a c)) ∧ w = w':=by
 unfold orI
 by_cases ha:a = 0
 ·rw [if_pos ha]
  subst ha
  by_cases hc:c = 0
  ·subst hc
   exact tlTWide0
  ·have hcb:(c == 0) = false:=beq_eq_false_iff_ne.2 hc
   clear hc
   exact tlTWide0
 ·rw [if_neg ha]
  have hab:(a == 0) = false:=beq_eq_false_iff_ne.2 ha
  clear ha
  exact tlTWide0
set_option maxHeartbeats 1000000 in
theorem wideCompare_call (ah al bh bl:Int) (w:World) (a0:0 ≤ al) (a1:al ≤ 18446744073709551615) (b0:0 ≤ bl) (b1:bl ≤ 18446744073709551615) :
  Calls Tryz.prog 137 #[.agg #[.int .u64 ah,.int .u64 al],.agg #[.int .u64 bh,.int .u64 bl]] w fun e w' => e = .returned (.int .i64 (cmpI (ah * 18446744073709551616 + al) (bh * 18446744073709551616 + bl))) ∧ ∃ p,w' = more w p:=by
 rw [← cmp_wide a0 a1 b0 b1]
 have C1:=hd_ @(fun w => cmpCompare_call ah bh w)
 have C2:=hd_ @(fun w => cmpCompare_call al bl w)
 generalize cmpI ah bh = c1 at *
 generalize cmpI al bl = c2 at *
 have CO:=hd_ @(fun b w h0 h1 => or_call c1 c2 b w h0 h1)
 go_enter Tryz.func137,Tryz.ntmps137
 go_wp2_with fail
 refine at_world (fun V => Ext w V ∧ V.heap[w.heap.size]? = some (wideO ah al) ∧ V.heap[w.heap.size + 1]? = some (wideO bh bl)) ⟨⟨⟨[_,_],0⟩,rfl⟩,at_old (at_new rfl),at_new (by simp)⟩ ?_
 rintro V ⟨hE,e1,e2⟩
 obtain ⟨k0,k1,k2⟩:=wide_of e1
 obtain ⟨j0,j1,j2⟩:=wide_of e2
 replace hE:=hd_ hE
 clear e1 e2
 have hmc:=more_cell
 refine region_tail 10 (by kernel_rfl) (by kernel_rfl) ?_
 simp only [List.take_succ_cons,List.take_zero,List.drop_succ_cons,List.drop_zero]
 repeat (go_big_quiet_step ((go_at_call 146; first | with_reducible exact calls_more_same (C1.out _) | with_reducible exact calls_more_same (C2.out _))))
 refine wpQuiet_nil ?_
 rintro w1 ⟨p,rfl⟩
 go_wp2_with (go_at_call 145; (with_reducible refine (CO.out _ _ ?h0 ?h1).mono ?_); (case h0 => simp); (case h1 => simp); rintro e w' ⟨rfl,rfl⟩)
 go_ret
 exact ⟨rfl,(hE.out.mored p).alloc _⟩
set_option maxHeartbeats 400000 in
theorem wideMul_call (a b:Int) (w:World) (a0:0 ≤ a) (a1:a ≤ 18446744073709551615) (b0:0 ≤ b) (b1:b ≤ 18446744073709551615) :
  Calls Tryz.prog 121 #[.int .u64 a,.int .u64 b] w fun e w' => e = .returned (.agg #[.int .u64 (a * b / 18446744073709551616),.int .u64 (a * b % 18446744073709551616)]) ∧ w.alloc (wideO (a * b / 18446744073709551616) (a * b % 18446744073709551616)) = w':=by
 obtain ⟨m0,m1,m2,m3,m4⟩:=mul_hi_lo a b a0 a1 b0 b1
 have hm:=fun w => mul64_call a b w a0 a1 b0 b1
 obtain ⟨H,hH⟩:∃ H,a * b / 18446744073709551616 = H:=⟨_,rfl⟩
 obtain ⟨L,hL⟩:∃ L,a * b % 18446744073709551616 = L:=⟨_,rfl⟩
 rw [hH,hL] at hm ⊢
 have HM:=hd_ @hm
 clear hm hH hL m4
 go_enter Tryz.func121,Tryz.ntmps121
 go_wp2_with (go_at_call 128; (with_reducible refine (HM.out _).mono ?_); rintro e w' ⟨rfl,rfl⟩)
 exact bodyPost_ret (v:=.agg #[.int .u64 H,.int .u64 L]) (by simp [results,Tryz.results121,go_sem]) rfl ⟨rfl,rfl⟩
theorem sum_parts (ah al bh bl:Int) (a0:0 ≤ ah) (l0:0 ≤ al) (b0:0 ≤ bh) (k0:0 ≤ bl) (l1:al ≤ 18446744073709551615) (k1:bl ≤ 18446744073709551615) (hf:ah * 18446744073709551616 + al + (bh * 18446744073709551616 + bl) < 340282366920938463463374607431768211456) :
  ∃ C H L:Int,(∀ w,(callFunc 127 #[.int .u64 al,.int .u64 bl,.int .u64 0]).run Tryz.prog w = .ok (.value (.tuple #[.int .u64 L,.int .u64 C])) w) ∧
   (∀ w,(callFunc 127 #[.int .u64 ah,.int .u64 bh,.int .u64 C]).run Tryz.prog w = .ok (.value (.tuple #[.int .u64 H,.int .u64 0])) w) ∧
   H = (ah * 18446744073709551616 + al + (bh * 18446744073709551616 + bl)) / 18446744073709551616 ∧ L = (ah * 18446744073709551616 + al + (bh * 18446744073709551616 + bl)) % 18446744073709551616:=by
 have r1:=fun w => add64_run al bl 0 l0 k0 (by omega) (by omega) w
 have r2:=fun w => add64_run ah bh ((al + bl) / 18446744073709551616) a0 b0 (by omega) (by omega) w
 rw [show al + bl + 0 = al + bl by omega] at r1
 rw [show (ah + bh + (al + bl) / 18446744073709551616) / 18446744073709551616 = 0 by omega] at r2
 exact ⟨_,_,_,r1,r2,by omega,by omega⟩
set_option maxHeartbeats 400000 in
theorem wideAdd_call (ah al bh bl S:Int) (a0:0 ≤ ah) (l0:0 ≤ al) (b0:0 ≤ bh) (k0:0 ≤ bl) (l1:al ≤ 18446744073709551615) (k1:bl ≤ 18446744073709551615) (hS:ah * 18446744073709551616 + al + (bh * 18446744073709551616 + bl) = S) (hf:S < 340282366920938463463374607431768211456) (w:World) :
  Calls Tryz.prog 120 #[.agg #[.int .u64 ah,.int .u64 al],.agg #[.int .u64 bh,.int .u64 bl]] w fun e w' => e = .returned (.tuple #[.agg #[.int .u64 (S / 18446744073709551616),.int .u64 (S % 18446744073709551616)],.bool true]) ∧
   ((w.alloc (wideO ah al)).alloc (wideO bh bl)).alloc (wideO (S / 18446744073709551616) (S % 18446744073709551616)) = w':=by
 subst hS
 obtain ⟨C,H,L,r1,r2,e1,e2⟩:=sum_parts ah al bh bl a0 l0 b0 k0 l1 k1 hf
 rw [← e1,← e2]
 clear hf e1 e2
 go_enter Tryz.func120,Tryz.ntmps120
 go_wp2_with (simp only [r1,r2])
 exact bodyPost_ret (v:=.tuple #[.agg #[.int .u64 H,.int .u64 L],.bool true]) (by simp [results,Tryz.results120,go_sem]) rfl ⟨rfl,rfl⟩
set_option maxHeartbeats 400000 in
theorem wideOf_call (n:Int) (w:World) :
  Calls Tryz.prog 130 #[.int .u64 n] w fun e w' => e = .returned (.agg #[.int .u64 0,.int .u64 n]) ∧ w.alloc (wideO 0 n) = w':=by
 go_enter Tryz.func130,Tryz.ntmps130
 go_wp2
 exact bodyPost_ret (v:=.agg #[.int .u64 0,.int .u64 n]) (by simp [results,Tryz.results130,go_sem]) rfl ⟨rfl,rfl⟩
set_option maxHeartbeats 2000000 in
theorem wideSqrt_call (hi lo N:Int) (w:World) (h0:0 ≤ hi) (h1:hi ≤ 18446744073709551615) (l0:0 ≤ lo) (l1:lo ≤ 18446744073709551615) (hN:hi * 18446744073709551616 + lo = N) :
  Calls Tryz.prog 131 #[.agg #[.int .u64 hi,.int .u64 lo]] w fun e w' => e = .returned (.int .u64 (isq N)) ∧ ∃ p,w' = more w p:=by
 have R:=isq_spec (N:=N) (by omega) (by omega)
 obtain ⟨r,hr⟩:∃ r,isq N = r:=⟨_,rfl⟩
 rw [hr] at R ⊢
 have r0:=R.r0
 have r1:=R.r1
 replace hN:=hd_ hN
 replace R:=hd_ R
 clear hr
 go_enter Tryz.func131,Tryz.ntmps131
 go_wp2_with fail
 go_loopw [3,4] (fun s3 s4 wr => ∃ k:Nat,k ≤ 64 ∧ s3 = .int .u64 (sqX r k) ∧ s4 = .int .u64 (sqB k) ∧ Ext w wr ∧ wr.heap[w.heap.size]? = some (wideO hi lo)) (fun _ s4 _ => (intOf s4).toNat)
 case atStart => exact ⟨64,by omega,by rw [sqX_start r0 r1],rfl,⟨⟨[_],0⟩,rfl⟩,at_new rfl⟩
 case round =>
  obtain ⟨k,hk,rfl,rfl,hE,e1⟩:=hrel
  obtain ⟨k0,k1,k2⟩:=wide_of e1
  have hmc:=more_cell
  replace hE:=hd_ hE
  replace e1:=hd_ e1
  cases k with
  | zero =>
   have ex:=sqX_end r
   have eb:sqB 0 = 0:=rfl
   rw [ex,eb]
   clear ex eb
   go_wp2_with fail
   go_ret
   exact ⟨rfl,hE.out⟩
  | succ j =>
   obtain ⟨x0,p1,p2,x1,hor,y1,y2,hb⟩:=sqX_step (r:=r) (j:=j) r0 r1 (by omega)
   have eb:sqB (j + 1) = 2 ^ j:=rfl
   rw [eb]
   clear eb
   obtain ⟨x,hx⟩:∃ x,sqX r (j + 1) = x:=⟨_,rfl⟩
   obtain ⟨b,hb'⟩:∃ b,(2:Int) ^ j = b:=⟨_,rfl⟩
   rw [hb'] at p1 p2
   rw [hx,hb'] at x1 hor y1 y2
   rw [hx] at x0 ⊢
   rw [hb'] at hb ⊢
   obtain ⟨m0,m1,m2,m3,m4⟩:=mul_hi_lo (x + b) (x + b) (by omega) (by omega) (by omega) (by omega)
   have wm:=fun w => wideMul_call (x + b) (x + b) w (by omega) (by omega) (by omega) (by omega)
   have wc:=fun w => wideCompare_call ((x + b) * (x + b) / 18446744073709551616) ((x + b) * (x + b) % 18446744073709551616) hi lo w m2 m3 l0 l1
   rw [m4,hN.out] at wc
   have WM:=hd_ @wm
   have WC:=hd_ @wc
   have hcmp:=cmp_le ((x + b) * (x + b)) N
   have hle:=R.out.le (c:=x + b) (by omega)
   clear wm wc m0 m1 m2 m3 m4 hx hb'
   by_cases hc:x + b ≤ r
   ·have hd:decide (cmpI ((x + b) * (x + b)) N ≤ 0) = true:=hcmp.trans (decide_eq_true (hle.2 hc))
    replace y1:=hd_ (y1 hc)
    clear hcmp hle hc y2
    go_wp2_with fail
    refine region_more (by kernel_rfl) (by kernel_rfl) ?_
    repeat (go_big_quiet_step ((first
     | (go_at_call 121; with_reducible exact calls_more_o (WM.out _))
     | (go_at_call 137; with_reducible exact calls_more (WC.out _)))))
    refine wpQuiet_nil ?_
    rintro w1 ⟨p,rfl⟩
    go_wp2_with fail
    refine ⟨⟨j,by omega,by rw [y1.out],rfl,hE.out.mored p,(more_heap _ _ _ k0).trans e1.out⟩,?_⟩
    simp only [intOf]; omega
   ·have hd:decide (cmpI ((x + b) * (x + b)) N ≤ 0) = false:=hcmp.trans (decide_eq_false (fun c => hc (hle.1 c)))
    replace y2:=hd_ (y2 (by omega))
    clear hcmp hle hc y1
    go_wp2_with fail
    refine region_more (by kernel_rfl) (by kernel_rfl) ?_
    repeat (go_big_quiet_step ((first
     | (go_at_call 121; with_reducible exact calls_more_o (WM.out _))
     | (go_at_call 137; with_reducible exact calls_more (WC.out _)))))
    refine wpQuiet_nil ?_
    rintro w1 ⟨p,rfl⟩
    go_wp2_with fail
    refine ⟨⟨j,by omega,by rw [y2.out],rfl,hE.out.mored p,(more_heap _ _ _ k0).trans e1.out⟩,?_⟩
    simp only [intOf]; omega
def sub64Entry:Array Value → Sem Value:=fun args => do
 let (x,y,b) ← Extern.MathBitsCarry.three "Sub64" args
 pure (Extern.MathBitsCarry.pair ((x + Extern.MathBitsCarry.m64 - y - b) % Extern.MathBitsCarry.m64) (if x < y + b then 1 else 0))
theorem run_sub64 {P:Program} (x y c:Int) (hx:0 ≤ x) (hy:0 ≤ y) (hy1:y < 18446744073709551616) (hc0:0 ≤ c) (hc:c ≤ 1) (w:World) :
  (sub64Entry #[.int .u64 x,.int .u64 y,.int .u64 c]).run P w =
   .ok (.tuple #[.int .u64 ((x - y - c) % 18446744073709551616),.int .u64 (if x < y + c then 1 else 0)]) w:=by
 have key:∀ k:Nat,k ≤ 1 → (sub64Entry #[.int .u64 x,.int .u64 y,.int .u64 (k:Int)]).run P w =
   .ok (Extern.MathBitsCarry.pair ((x.toNat + Extern.MathBitsCarry.m64 - y.toNat - k) % Extern.MathBitsCarry.m64) (if x.toNat < y.toNat + k then 1 else 0)) w:=by
  intro k hk
  have:k = 0 ∨ k = 1:=by omega
  rcases this with rfl | rfl <;> rfl
 obtain ⟨k,rfl⟩:=Int.eq_ofNat_of_zero_le hc0
 rw [key k (by omega)]
 obtain ⟨X,rfl⟩:=Int.eq_ofNat_of_zero_le hx
 obtain ⟨Y,rfl⟩:=Int.eq_ofNat_of_zero_le hy
 simp only [Extern.MathBitsCarry.pair,Extern.MathBitsCarry.m64,Int.toNat_natCast]
 have e1:Int.ofNat ((X + 2 ^ 64 - Y - k) % 2 ^ 64) = ((X:Int) - Y - k) % 18446744073709551616:=by
  show (((X + 2 ^ 64 - Y - k) % 2 ^ 64:Nat):Int) = _
  omega
 have e2:Int.ofNat (if X < Y + k then 1 else 0) = (if (X:Int) < Y + k then (1:Int) else 0):=by
  by_cases h:X < Y + k
  ·rw [if_pos h,if_pos (by omega)]; rfl
  ·rw [if_neg h,if_neg (by omega)]; rfl
 rw [e1,e2]
theorem sub64_run (x y c:Int) (x0:0 ≤ x) (y0:0 ≤ y) (y1:y ≤ 18446744073709551615) (c0:0 ≤ c) (c1:c ≤ 1) (w:World) :
  (callFunc 144 #[.int .u64 x,.int .u64 y,.int .u64 c]).run Tryz.prog w = .ok (.value (.tuple #[.int .u64 ((x - y - c) % 18446744073709551616),.int .u64 (if x < y + c then 1 else 0)])) w:=by
 rw [run_callFunc_extern Tryz.func144 (by kernel_rfl) (by kernel_rfl) (by kernel_rfl) (e:=sub64Entry) (by kernel_rfl),run_sub64 x y c x0 y0 (by omega) c0 c1]
 rfl
set_option maxHeartbeats 400000 in
theorem wideSub_yes (ah al bh bl S:Int) (a0:0 ≤ ah) (a1:ah ≤ 18446744073709551615) (l0:0 ≤ al) (l1:al ≤ 18446744073709551615) (b0:0 ≤ bh) (b1:bh ≤ 18446744073709551615) (k0:0 ≤ bl) (k1:bl ≤ 18446744073709551615) (hS:ah * 18446744073709551616 + al - (bh * 18446744073709551616 + bl) = S) (hf:0 ≤ S) (w:World) :
  Calls Tryz.prog 135 #[.agg #[.int .u64 ah,.int .u64 al],.agg #[.int .u64 bh,.int .u64 bl]] w fun e w' => e = .returned (.tuple #[.agg #[.int .u64 (S / 18446744073709551616),.int .u64 (S % 18446744073709551616)],.bool true]) ∧
   ((w.alloc (wideO ah al)).alloc (wideO bh bl)).alloc (wideO (S / 18446744073709551616) (S % 18446744073709551616)) = w':=by
 obtain ⟨c,hc⟩:∃ c:Int,(if al < bl + 0 then (1:Int) else 0) = c:=⟨_,rfl⟩
 have c01:(c = 1 ∧ al < bl) ∨ (c = 0 ∧ bl ≤ al):=by
  by_cases h:al < bl + 0
  ·rw [if_pos h] at hc; left; omega
  ·rw [if_neg h] at hc; right; omega
 have r1:=fun w => sub64_run al bl 0 l0 k0 k1 (by omega) (by omega) w
 have r2:=fun w => sub64_run ah bh c a0 b0 b1 (by omega) (by omega) w
 rw [hc,show (al - bl - 0) % 18446744073709551616 = S % 18446744073709551616 by omega] at r1
 rw [if_neg (by omega),show (ah - bh - c) % 18446744073709551616 = S / 18446744073709551616 by omega] at r2
 generalize S / 18446744073709551616 = H at *
 generalize S % 18446744073709551616 = L at *
 clear hS hc c01
 go_enter Tryz.func135,Tryz.ntmps135
 go_wp2_with (simp only [r1,r2])
 exact bodyPost_ret (v:=.tuple #[.agg #[.int .u64 H,.int .u64 L],.bool true]) (by simp [results,Tryz.results135,go_sem]) rfl ⟨rfl,rfl⟩
set_option maxHeartbeats 400000 in
theorem wideSub_no (ah al bh bl:Int) (a0:0 ≤ ah) (a1:ah ≤ 18446744073709551615) (l0:0 ≤ al) (l1:al ≤ 18446744073709551615) (b0:0 ≤ bh) (b1:bh ≤ 18446744073709551615) (k0:0 ≤ bl) (k1:bl ≤ 18446744073709551615) (hS:ah * 18446744073709551616 + al < bh * 18446744073709551616 + bl) (w:World) :
  Calls Tryz.prog 135 #[.agg #[.int .u64 ah,.int .u64 al],.agg #[.int .u64 bh,.int .u64 bl]] w fun e w' => e = .returned (.tuple #[.agg #[.int .u64 0,.int .u64 0],.bool false]) ∧
   ((w.alloc (wideO ah al)).alloc (wideO bh bl)).alloc (wideO 0 0) = w':=by
 obtain ⟨c,hc⟩:∃ c:Int,(if al < bl + 0 then (1:Int) else 0) = c:=⟨_,rfl⟩
 have c01:(c = 1 ∧ al < bl) ∨ (c = 0 ∧ bl ≤ al):=by
  by_cases h:al < bl + 0
  ·rw [if_pos h] at hc; left; omega
  ·rw [if_neg h] at hc; right; omega
 have r1:=fun w => sub64_run al bl 0 l0 k0 k1 (by omega) (by omega) w
 have r2:=fun w => sub64_run ah bh c a0 b0 b1 (by omega) (by omega) w
 rw [hc] at r1
 rw [if_pos (by omega)] at r2
 generalize (al - bl - 0) % 18446744073709551616 = L at *
 generalize (ah - bh - c) % 18446744073709551616 = H at *
 clear hS hc c01
 go_enter Tryz.func135,Tryz.ntmps135
 go_wp2_with (simp only [r1,r2])
 exact bodyPost_ret (v:=.tuple #[.agg #[.int .u64 0,.int .u64 0],.bool false]) (by simp [results,Tryz.results135,go_sem]) rfl ⟨rfl,rfl⟩
set_option maxHeartbeats 1000000 in
theorem mulSmall_call (hi lo k S:Int) (h0:0 ≤ hi) (h1:hi ≤ 18446744073709551615) (l0:0 ≤ lo) (l1:lo ≤ 18446744073709551615) (k0:0 ≤ k) (k1:k ≤ 18446744073709551615) (hS:(hi * 18446744073709551616 + lo) * k = S) (hf:S < 340282366920938463463374607431768211456) (w:World) :
  Calls Tryz.prog 134 #[.agg #[.int .u64 hi,.int .u64 lo],.int .u64 k] w fun e w' => e = .returned (.tuple #[.agg #[.int .u64 (S / 18446744073709551616),.int .u64 (S % 18446744073709551616)],.bool true]) ∧ ∃ p,w' = more w p:=by
 obtain ⟨A,hA⟩:∃ A,hi * k = A:=⟨_,rfl⟩
 obtain ⟨B,hB⟩:∃ B,lo * k = B:=⟨_,rfl⟩
 have A0:0 ≤ A:=by rw [← hA]; exact Int.mul_nonneg h0 k0
 have B0:=(mul_bound lo k 18446744073709551615 18446744073709551615 l0 k0 l1 k1).1
 have B1:=(mul_bound lo k 18446744073709551615 18446744073709551615 l0 k0 l1 k1).2
 rw [hB] at B0 B1
 have e:A * 18446744073709551616 + B = S:=by rw [← hS,Int.add_mul,hB,← hA,Int.mul_right_comm]
 have m1:=fun w => mul64_call hi k w h0 h1 k0 k1
 rw [hA,show A / 18446744073709551616 = 0 by omega,show A % 18446744073709551616 = A by omega] at m1
 have m2:=fun w => wideMul_call lo k w l0 l1 k0 k1
 rw [hB] at m2
 have m3:=fun w => wideAdd_call A 0 (B / 18446744073709551616) (B % 18446744073709551616) S A0 (by omega) (by omega) (by omega) (by omega) (by omega) (by omega) hf w
 have M1:=hd_ @m1
 have M2:=hd_ @m2
 have M3:=hd_ @m3
 clear m1 m2 m3 e hA hB hS B0 B1 hf
 go_enter Tryz.func134,Tryz.ntmps134
 go_wp2_with (first
  | (go_at_call 128; (with_reducible refine (M1.out _).mono ?_); rintro e w' ⟨rfl,rfl⟩)
  | (go_at_call 121; (with_reducible refine (M2.out _).mono ?_); rintro e w' ⟨rfl,rfl⟩)
  | (go_at_call 120; (with_reducible refine (M3.out _).mono ?_); rintro e w' ⟨rfl,rfl⟩))
 exact bodyPost_ret (v:=.tuple #[.agg #[.int .u64 (S / 18446744073709551616),.int .u64 (S % 18446744073709551616)],.bool true]) (by simp [results,Tryz.results134,go_sem]) rfl ⟨rfl,⟨[_,_,_,_,_,_],0⟩,rfl⟩
theorem divMod_parts {hi lo d N:Int} (h0:0 ≤ hi) (l0:0 ≤ lo) (l1:lo ≤ 18446744073709551615) (d0:1 ≤ d) (hN:hi * 18446744073709551616 + lo = N) :
  N / d / 18446744073709551616 = hi / d ∧ N / d % 18446744073709551616 = divQ (hi % d) lo d ∧ N % d = divR (hi % d) lo d ∧ 0 ≤ hi % d ∧ hi % d < d:=by
 have r0:=Int.emod_nonneg hi (b:=d) (by omega)
 have r1:=Int.emod_lt_of_pos hi (b:=d) (by omega)
 have e:=Int.mul_ediv_add_emod hi d
 have hq0:0 ≤ hi / d:=Int.ediv_nonneg h0 (by omega)
 have eN:N = (hi % d * 18446744073709551616 + lo) + d * (hi / d * 18446744073709551616):=by
  rw [← hN,← Int.mul_assoc]
  have:hi * 18446744073709551616 = (d * (hi / d) + hi % d) * 18446744073709551616:=by rw [e]
  rw [this,Int.add_mul]; omega
 have a1:N / d = (hi % d * 18446744073709551616 + lo) / d + hi / d * 18446744073709551616:=by rw [eN,Int.add_mul_ediv_left _ _ (by omega)]
 have a2:N % d = (hi % d * 18446744073709551616 + lo) % d:=by rw [eN,Int.add_mul_emod_self_left]
 have b0:0 ≤ (hi % d * 18446744073709551616 + lo) / d:=Int.ediv_nonneg (by omega) (by omega)
 have b1:(hi % d * 18446744073709551616 + lo) / d < 18446744073709551616:=Int.ediv_lt_of_lt_mul (by omega) (by
  have:=Int.mul_le_mul_of_nonneg_right (show hi % d ≤ d - 1 by omega) (show (0:Int) ≤ 18446744073709551616 by omega)
  rw [Int.mul_comm 18446744073709551616 d]
  omega)
 refine ⟨by omega,by unfold divQ; omega,?_,r0,r1⟩
 unfold divR
 rw [a2]
set_option maxHeartbeats 1000000 in
theorem divMod_call (hi lo d N:Int) (h0:0 ≤ hi) (h1:hi ≤ 18446744073709551615) (l0:0 ≤ lo) (l1:lo ≤ 18446744073709551615) (d0:1 ≤ d) (d1:d ≤ 18446744073709551615) (hN:hi * 18446744073709551616 + lo = N) (w:World) :
  Calls Tryz.prog 133 #[.agg #[.int .u64 hi,.int .u64 lo],.int .u64 d] w fun e w' => e = .returned (.tuple #[.agg #[.int .u64 (N / d / 18446744073709551616),.int .u64 (N / d % 18446744073709551616)],.int .u64 (N % d),.bool true]) ∧ ∃ p,w' = more w p:=by
 obtain ⟨e1,e2,e3,r0,r1⟩:=divMod_parts h0 l0 l1 d0 hN
 rw [e1,e2,e3]
 have hd:=fun w => div64_call (hi % d) lo d w r0 r1 d1 l0 l1
 generalize divQ (hi % d) lo d = q at *
 generalize divR (hi % d) lo d = r at *
 have HD:=hd_ @hd
 have hz:(d == 0) = false:=beq_eq_false_iff_ne.2 (by omega)
 have q0:0 ≤ hi / d:=Int.ediv_nonneg h0 (by omega)
 have q1:hi / d ≤ 18446744073709551615:=by have:=Int.ediv_le_self d h0; omega
 clear hd e1 e2 e3 hN
 go_enter Tryz.func133,Tryz.ntmps133
 go_upto_region 3 with fail
 refine at_world (fun W => Ext w W ∧ W.heap[w.heap.size]? = some (wideO hi lo) ∧ W.heap[w.heap.size + 1]? = some (wideO 0 0)) ⟨⟨⟨[_,_],0⟩,rfl⟩,at_old (at_new rfl),at_new (by simp)⟩ ?_
 rintro W ⟨hE,b1,b2⟩
 obtain ⟨k0,k1,k2⟩:=wide_of b1
 obtain ⟨j0,j1,j2⟩:=wide_of b2
 have z0:=froz_cells (i:=0) b2
 have z1:=froz_cells (i:=1) b2
 have HE:=hd_ hE
 clear hE b1 b2
 have hmc:=more_cell
 have hmf:=more_frozen
 refine region_more (by kernel_rfl) (by kernel_rfl) ?_
 repeat (go_big_quiet_step ((go_at_call 143; with_reducible exact calls_more_drewN (HD.out _))))
 refine wpQuiet_nil ?_
 rintro w1 ⟨p,rfl⟩
 go_wp2
 exact bodyPost_ret (v:=.tuple #[.agg #[.int .u64 (hi / d),.int .u64 q],.int .u64 r,.bool true]) (by simp [results,Tryz.results133,go_sem, *]) rfl ⟨rfl,((HE.out.mored p).setCell (by omega) _).setCell (by omega) _⟩
structure ExOk (ph pl q r d:Int):Prop where
 h0:0 ≤ ph
 h1:ph < 4294967296
 l0:0 ≤ pl
 l1:pl ≤ 18446744073709551615
 q0:0 ≤ q
 q1:q < 70368744177664
 r0:0 ≤ r
 r1:r < 8589934592
 d0:1 ≤ d
 d1:d ≤ 18446744073709551615
theorem sq_bounds {ph pl q r d:Int} (h:ExOk ph pl q r d):0 ≤ q * q ∧ q * q ≤ 4951760157141521099596496896 ∧ 0 ≤ q * q * r ∧ q * q * r ≤ 42535295865117307932921825928971026432:=by
 obtain ⟨h0,h1,l0,l1,q0,q1,r0,r1,d0,d1⟩:=h
 have a:=mul_bound q q 70368744177664 70368744177664 q0 q0 (by omega) (by omega)
 have b:=mul_bound (q * q) r 4951760157141521099596496896 8589934592 a.1 r0 (by omega) (by omega)
 omega
set_option maxHeartbeats 400000 in
theorem surdValid_call {ph pl q r d:Int} (h:ExOk ph pl q r d) (w:World) :
  Calls Tryz.prog 129 #[.agg #[.int .u64 (ph),.int .u64 (pl),.int .u64 (q),.int .u64 (r),.int .u64 (d)]] w fun e w' => e = .returned (.bool true) ∧ w.alloc (.cells #[.int .u64 (ph),.int .u64 (pl),.int .u64 (q),.int .u64 (r),.int .u64 (d)] 184) = w':=by
 obtain ⟨h0,h1,l0,l1,q0,q1,r0,r1,d0,d1⟩:=h
 go_enter Tryz.func129,Tryz.ntmps129
 go_wp2
 go_ret
 exact ⟨rfl,rfl⟩
set_option maxHeartbeats 2000000 in
theorem square_call {ph pl q r d:Int} (h:ExOk ph pl q r d) (w:World) :
  Calls Tryz.prog 132 #[.agg #[.int .u64 (ph),.int .u64 (pl),.int .u64 (q),.int .u64 (r),.int .u64 (d)]] w fun e w' => e = .returned (.agg #[.int .u64 (q * q * r / 18446744073709551616),.int .u64 (q * q * r % 18446744073709551616)]) ∧ ∃ p,w' = more w p:=by
 obtain ⟨a0,a1,b0,b1⟩:=sq_bounds h
 obtain ⟨h0,h1,l0,l1,q0,q1,r0,r1,d0,d1⟩:=h
 obtain ⟨A,hA⟩:∃ A,q * q = A:=⟨_,rfl⟩
 obtain ⟨S,hS⟩:∃ S,A * r = S:=⟨_,rfl⟩
 have m1:=fun w => wideMul_call q q w q0 (by omega) q0 (by omega)
 rw [hA] at m1 a0 a1 b0 b1 ⊢
 rw [hS] at b0 b1 ⊢
 have m2:=fun w => mulSmall_call (A / 18446744073709551616) (A % 18446744073709551616) r S (by omega) (by omega) (by omega) (by omega) r0 (by omega) (by rw [show A / 18446744073709551616 * 18446744073709551616 + A % 18446744073709551616 = A by omega]; exact hS) (by omega) w
 have M1:=hd_ @(fun w => calls_ext1 (m1 w))
 have M2:=hd_ @m2
 clear m1 m2 a0 a1 b0 b1 hA hS
 go_enter Tryz.func132,Tryz.ntmps132
 go_upto_region 1 with fail
 refine at_world (fun V => Ext w V ∧ V.heap[w.heap.size]? = some (.cells #[.int .u64 (ph),.int .u64 (pl),.int .u64 (q),.int .u64 (r),.int .u64 (d)] 184) ∧ V.heap[w.heap.size + 1]? = some (.cells #[.int .u64 (0),.int .u64 (0)] 182)) ⟨⟨⟨[_,_],0⟩,rfl⟩,at_old (at_new (by simp)),at_new (by simp)⟩ ?_
 rintro wc ⟨hE,ex,ez⟩
 go_cut [3] (fun s3 Z => ∃ gs:Nat,Ext wc Z ∧ s3 = .pointer (some ⟨gs,0,none⟩) ∧ Z.heap[gs]? = some (.cells #[.int .u64 (S / 18446744073709551616),.int .u64 (S % 18446744073709551616)] 182))
 case first =>
  obtain ⟨cxs,cx0,cx1,cx2,cx3,cx4⟩:=cells5_of ex
  have hmc:=more_cell
  have hmh:=more_heap
  have hmf:=more_frozen
  have qx0:∀ W',Ext wc W' → W'.cell? ⟨w.heap.size,0,none⟩ = some (.int .u64 (ph)):=fun W' hW => cell_of (at_ext hW ex) rfl
  have qx1:∀ W',Ext wc W' → W'.cell? ⟨w.heap.size,1,none⟩ = some (.int .u64 (pl)):=fun W' hW => cell_of (at_ext hW ex) rfl
  have qx2:∀ W',Ext wc W' → W'.cell? ⟨w.heap.size,2,none⟩ = some (.int .u64 (q)):=fun W' hW => cell_of (at_ext hW ex) rfl
  have qx3:∀ W',Ext wc W' → W'.cell? ⟨w.heap.size,3,none⟩ = some (.int .u64 (r)):=fun W' hW => cell_of (at_ext hW ex) rfl
  have qx4:∀ W',Ext wc W' → W'.cell? ⟨w.heap.size,4,none⟩ = some (.int .u64 (d)):=fun W' hW => cell_of (at_ext hW ex) rfl
  have hms:=more_setCell
  have hlt:∀ (W:World) (p:Extra) (b:Nat),b < W.heap.size → b < (more W p).heap.size:=fun W p b h => by rw [more_size]; omega
  have hlt2:∀ (W:World) (p q:Extra) (b:Nat),b < W.heap.size → b < (more (more W p) q).heap.size:=fun W p q b h => by rw [more_size,more_size]; omega
  have hmz:∀ (X:World) (o:Obj) (q:Extra),(more (X.alloc o) q).heap.size = (more X q).heap.size + 1:=fun X o q => by rw [more_size,more_size]; simp; omega
  have hmz2:∀ (X:World) (o:Obj) (p q:Extra),(more (more (X.alloc o).drew p) q).heap.size = (more (more X.drew p) q).heap.size + 1:=fun X o p q => by simp [more_size]; omega
  have hmz3:∀ (X:World) (o:Obj) (q:Extra),(more (X.alloc o).drew q).heap.size = (more X.drew q).heap.size + 1:=fun X o q => by simp [more_size]; omega
  have hmz4:∀ (X:World) (o:Obj) (p q:Extra),(more (more (X.alloc o) p) q).heap.size = (more (more X p) q).heap.size + 1:=fun X o p q => by simp [more_size]; omega
  have hl3:∀ (W:World) (p:Extra),W.heap.size < (more W.drew p).heap.size + 1:=fun W p => by simp [more_size]; omega
  have hl4:∀ (W:World) (p q:Extra),W.heap.size < (more (more W.drew p) q).heap.size + 1:=fun W p q => by simp [more_size]; omega
  have hl5:∀ (W:World) (p q:Extra),W.heap.size < (more (more W p) q).heap.size + 1:=fun W p q => by simp [more_size]; omega
  have hl2:∀ (W:World) (p:Extra),W.heap.size < (more W p).heap.size + 1:=fun W p => by rw [more_size]; omega
  have hn1:∀ (W:World) (p:Extra),(W.heap.size = (more W p).heap.size + 1) = False:=fun W p => eq_false (by rw [more_size]; omega)
  go_region_held3 (fun w' => Ext wc w') ((repeat (first | assumption | exact Ext.refl _ | exact ext_drew _ | refine ext_drewW ?_ | refine Ext.mored ?_ _ | refine Ext.alloc ?_ _ | refine Ext.drewN ?_ _))) (first | (go_at_call 121; (with_reducible refine (M1.out _).mono ?_); rintro e w2 ⟨rfl,p,rfl⟩) | (go_at_call 134; (with_reducible refine (M2.out _).mono ?_); rintro e w2 ⟨rfl,p,rfl⟩))
  all_goals go_wp2_with fail
  all_goals
   go_meet
   refine ⟨_,?_,rfl,?_⟩
   ·repeat (first | exact Ext.refl _ | exact ext_drew _ | refine ext_drewW ?_ | refine Ext.mored ?_ _ | refine Ext.alloc ?_ _)
   all_goals repeat (first | refine at_more ?_ | refine at_drew1 ?_ | (refine at_new ?_; first | with_reducible rfl | (simp [more_size]; done) | (simp [more_size]; omega)) | refine at_old ?_)
 case rest =>
  obtain ⟨gs,hX,rfl,es⟩:=hcut
  replace hE:=hE.trans hX
  replace ex:=at_ext hX ex
  replace ez:=at_ext hX ez
  clear hX
  obtain ⟨css,cs0,cs1⟩:=cells2_of es
  obtain ⟨czs,cz0,cz1⟩:=cells2_of ez
  have z0:=froz_cells (i:=0) ez
  have z1:=froz_cells (i:=1) ez
  have HE:=hd_ hE
  clear hE ez es ex
  go_wp2_with fail
  exact bodyPost_ret (v:=.agg #[.int .u64 (S / 18446744073709551616),.int .u64 (S % 18446744073709551616)]) (by simp [results,Tryz.results132,go_sem, *]) rfl ⟨rfl,(HE.out.setCell (by omega) _).setCell (by omega) _⟩
set_option maxHeartbeats 2000000 in
theorem root_call {ph pl q r d:Int} (h:ExOk ph pl q r d) (n:Int) (n0:0 ≤ n) (n1:n ≤ 18446744073709551615) (w:World) :
  Calls Tryz.prog 136 #[.agg #[.int .u64 (ph),.int .u64 (pl),.int .u64 (q),.int .u64 (r),.int .u64 (d)],.agg #[.int .u64 0,.int .u64 n]] w fun e w' => e = .returned (.int .i64 (cmpI (q * q * r) (n * n))) ∧ ∃ p,w' = more w p:=by
 obtain ⟨_,_,b0,b1⟩:=sq_bounds h
 have m1:=fun w => square_call h w
 obtain ⟨S,hS⟩:∃ S,q * q * r = S:=⟨_,rfl⟩
 rw [hS] at b0 b1 m1 ⊢
 obtain ⟨B0,B1⟩:=mul_bound n n 18446744073709551615 18446744073709551615 n0 n0 n1 n1
 have m2:=fun w => wideMul_call n n w n0 n1 n0 n1
 obtain ⟨A,hA⟩:∃ A,n * n = A:=⟨_,rfl⟩
 rw [hA] at B0 B1 m2 ⊢
 have m3:=fun w => wideCompare_call (S / 18446744073709551616) (S % 18446744073709551616) (A / 18446744073709551616) (A % 18446744073709551616) w (by omega) (by omega) (by omega) (by omega)
 rw [show S / 18446744073709551616 * 18446744073709551616 + S % 18446744073709551616 = S by omega,show A / 18446744073709551616 * 18446744073709551616 + A % 18446744073709551616 = A by omega] at m3
 have M1:=hd_ @m1
 have M2:=hd_ @(fun w => calls_ext1 (m2 w))
 have M3:=hd_ @m3
 clear m1 m2 m3 b0 b1 hA hS B0 B1
 go_enter Tryz.func136,Tryz.ntmps136
 go_upto_region 1 with fail
 refine at_world (fun V => Ext w V ∧ V.heap[w.heap.size]? = some (.cells #[.int .u64 (ph),.int .u64 (pl),.int .u64 (q),.int .u64 (r),.int .u64 (d)] 184) ∧ V.heap[w.heap.size + 1]? = some (.cells #[.int .u64 (0),.int .u64 (n)] 182)) ⟨⟨⟨[_,_],0⟩,rfl⟩,at_old (at_new (by simp)),at_new (by simp)⟩ ?_
 rintro wc ⟨hE,ex,ez⟩
 obtain ⟨cxs,cx0,cx1,cx2,cx3,cx4⟩:=cells5_of ex
 obtain ⟨czs,cz0,cz1⟩:=cells2_of ez
 have hmc:=more_cell
 have hmh:=more_heap
 have hmf:=more_frozen
 have HE:=hd_ hE
 clear hE ez ex
 go_upto_region 3 with fail
 refine region_more (by kernel_rfl) (by kernel_rfl) ?_
 repeat (go_big_quiet_step (first | (go_at_call 132; first | with_reducible exact calls_more (M1.out _)) | (go_at_call 121; first | with_reducible exact calls_more (M2.out _)) | (go_at_call 137; first | with_reducible exact calls_more (M3.out _))))
 refine wpQuiet_nil ?_
 rintro w1 ⟨p,rfl⟩
 go_wp2
 go_ret
 exact ⟨rfl,HE.out.mored p⟩
noncomputable def floX (P q r d:Int):Int:=(P + isq (q * q * r)) / d
theorem tlTSurd3 {p:Prop} (h:p:=by
  refine ⟨_,?_,rfl,rfl,?_⟩
  ·repeat (first | exact Ext.refl _ | exact ext_drew _ | refine ext_drewW ?_ | refine Ext.mored ?_ _ | refine Ext.alloc ?_ _)
  all_goals repeat (first | refine at_more ?_ | refine at_drew1 ?_ | (refine at_new ?_; first | with_reducible rfl | (simp [more_size]; done) | (simp [more_size]; omega)) | refine at_old ?_)):p:=h
set_option maxHeartbeats 4000000 in
theorem floor_call {ph pl q r d:Int} (h:ExOk ph pl q r d) (P f:Int) (hP:ph * 18446744073709551616 + pl = P) (hf:floX P q r d = f) (f1:f < 9223372036854775808) (w:World) :
  Calls Tryz.prog 123 #[.agg #[.int .u64 (ph),.int .u64 (pl),.int .u64 (q),.int .u64 (r),.int .u64 (d)]] w fun e w' => e = .returned (.tuple #[.int .u64 f,.bool true]) ∧ ∃ p,w' = more w p:=by
 obtain ⟨_,_,b0,b1⟩:=sq_bounds h
 have m0:=fun w => surdValid_call h w
 have m1:=fun w => square_call h w
 obtain ⟨h0,h1,l0,l1,q0,q1,r0,r1,d0,d1⟩:=h
 unfold floX at hf
 obtain ⟨S,hS⟩:∃ S,q * q * r = S:=⟨_,rfl⟩
 rw [hS] at b0 b1 m1 hf
 have R:=isq_spec (N:=S) b0 (by omega)
 have m2:=fun w => wideSqrt_call (S / 18446744073709551616) (S % 18446744073709551616) S w (by omega) (by omega) (by omega) (by omega) (by omega)
 have c0:=R.r0
 have c1:=R.r1
 generalize isq S = I at *
 have m3:=fun w => wideOf_call I w
 obtain ⟨Y,hY⟩:∃ Y,P + I = Y:=⟨_,rfl⟩
 rw [hY] at hf
 have m4:=fun w => wideAdd_call ph pl 0 I Y h0 l0 (by omega) c0 l1 c1 (by omega) (by omega) w
 have m5:=fun w => divMod_call (Y / 18446744073709551616) (Y % 18446744073709551616) d Y (by omega) (by omega) (by omega) (by omega) d0 d1 (by omega) w
 rw [hf] at m5
 have f0:0 ≤ f:=by rw [← hf]; exact Int.ediv_nonneg (by omega) (by omega)
 rw [show f / 18446744073709551616 = 0 by omega,show f % 18446744073709551616 = f by omega] at m5
 obtain ⟨zr,hzr⟩:∃ zr,Y % d = zr:=⟨_,rfl⟩
 rw [hzr] at m5
 have M0:=hd_ @(fun w => calls_ext1 (m0 w))
 have M1:=hd_ @m1
 have M2:=hd_ @m2
 have M3:=hd_ @(fun w => calls_ext1 (m3 w))
 have M4:=hd_ @(fun w => calls_ext3 (m4 w))
 have M5:=hd_ @m5
 clear m0 m1 m2 m3 m4 m5 b0 b1 hS hY hf R hP hzr
 go_enter Tryz.func123,Tryz.ntmps123
 go_upto_region 1 with fail
 refine at_world (fun V => Ext w V ∧ V.heap[w.heap.size]? = some (.cells #[.int .u64 (ph),.int .u64 (pl),.int .u64 (q),.int .u64 (r),.int .u64 (d)] 184)) ⟨⟨⟨[_],0⟩,rfl⟩,at_new (by simp)⟩ ?_
 rintro wc ⟨hE,ex⟩
 go_cut [11] (fun s11 Z => Ext wc Z ∧ s11 = .bool false)
 case first =>
  obtain ⟨cxs,cx0,cx1,cx2,cx3,cx4⟩:=cells5_of ex
  go_wp2_with (go_at_call 129; first | ((with_reducible refine (M0.out _).mono ?_); rintro e w' ⟨rfl,q,rfl⟩))
  go_meet
  refine ⟨?_,rfl⟩
  all_goals repeat (first | exact Ext.refl _ | refine Ext.mored ?_ _ | refine Ext.drewN ?_ _ | refine Ext.alloc ?_ _ | (refine at_new ?_; first | rfl | (simp; done)) | refine at_more ?_ | refine at_drew ?_ | refine at_old ?_)
 case rest =>
  obtain ⟨hX,rfl⟩:=hcut
  replace hE:=hE.trans hX
  replace ex:=at_ext hX ex
  clear hX
  go_upto_region 3 with fail
  go_cut [4,5] (fun s4 s5 Z => ∃ gs:Nat,Ext wc Z ∧ s4 = .pointer (some ⟨gs,0,none⟩) ∧ s5 = .bool true ∧ Z.heap[gs]? = some (.cells #[.int .u64 (Y / 18446744073709551616),.int .u64 (Y % 18446744073709551616)] 182))
  case first =>
   obtain ⟨cxs,cx0,cx1,cx2,cx3,cx4⟩:=cells5_of ex
   have hmc:=more_cell
   have hmh:=more_heap
   have hmf:=more_frozen
   have qx0:∀ W',Ext wc W' → W'.cell? ⟨w.heap.size,0,none⟩ = some (.int .u64 (ph)):=fun W' hW => cell_of (at_ext hW ex) rfl
   have qx1:∀ W',Ext wc W' → W'.cell? ⟨w.heap.size,1,none⟩ = some (.int .u64 (pl)):=fun W' hW => cell_of (at_ext hW ex) rfl
   have qx2:∀ W',Ext wc W' → W'.cell? ⟨w.heap.size,2,none⟩ = some (.int .u64 (q)):=fun W' hW => cell_of (at_ext hW ex) rfl
   have qx3:∀ W',Ext wc W' → W'.cell? ⟨w.heap.size,3,none⟩ = some (.int .u64 (r)):=fun W' hW => cell_of (at_ext hW ex) rfl
   have qx4:∀ W',Ext wc W' → W'.cell? ⟨w.heap.size,4,none⟩ = some (.int .u64 (d)):=fun W' hW => cell_of (at_ext hW ex) rfl
   have hms:=more_setCell
   have hlt:∀ (W:World) (p:Extra) (b:Nat),b < W.heap.size → b < (more W p).heap.size:=fun W p b h => by rw [more_size]; omega
   have hlt2:∀ (W:World) (p q:Extra) (b:Nat),b < W.heap.size → b < (more (more W p) q).heap.size:=fun W p q b h => by rw [more_size,more_size]; omega
   have hmz:∀ (X:World) (o:Obj) (q:Extra),(more (X.alloc o) q).heap.size = (more X q).heap.size + 1:=fun X o q => by rw [more_size,more_size]; simp; omega
   have hmz2:∀ (X:World) (o:Obj) (p q:Extra),(more (more (X.alloc o).drew p) q).heap.size = (more (more X.drew p) q).heap.size + 1:=fun X o p q => by simp [more_size]; omega
   have hmz3:∀ (X:World) (o:Obj) (q:Extra),(more (X.alloc o).drew q).heap.size = (more X.drew q).heap.size + 1:=fun X o q => by simp [more_size]; omega
   have hmz4:∀ (X:World) (o:Obj) (p q:Extra),(more (more (X.alloc o) p) q).heap.size = (more (more X p) q).heap.size + 1:=fun X o p q => by simp [more_size]; omega
   have hl3:∀ (W:World) (p:Extra),W.heap.size < (more W.drew p).heap.size + 1:=fun W p => by simp [more_size]; omega
   have hl4:∀ (W:World) (p q:Extra),W.heap.size < (more (more W.drew p) q).heap.size + 1:=fun W p q => by simp [more_size]; omega
   have hl5:∀ (W:World) (p q:Extra),W.heap.size < (more (more W p) q).heap.size + 1:=fun W p q => by simp [more_size]; omega
   have hl2:∀ (W:World) (p:Extra),W.heap.size < (more W p).heap.size + 1:=fun W p => by rw [more_size]; omega
   have hn1:∀ (W:World) (p:Extra),(W.heap.size = (more W p).heap.size + 1) = False:=fun W p => eq_false (by rw [more_size]; omega)
   go_region_held3 (fun w' => Ext wc w') ((repeat (first | assumption | exact Ext.refl _ | exact ext_drew _ | refine ext_drewW ?_ | refine Ext.mored ?_ _ | refine Ext.alloc ?_ _ | refine Ext.drewN ?_ _))) (first | (go_at_call 132; (with_reducible refine (M1.out _).mono ?_); rintro e w2 ⟨rfl,p,rfl⟩) | (go_at_call 131; (with_reducible refine (M2.out _).mono ?_); rintro e w2 ⟨rfl,p,rfl⟩) | (go_at_call 130; (with_reducible refine (M3.out _).mono ?_); rintro e w2 ⟨rfl,p,rfl⟩) | (go_at_call 120; (with_reducible refine (M4.out _).mono ?_); rintro e w2 ⟨rfl,p,rfl⟩))
   all_goals go_wp2_with fail
   all_goals
    go_meet
    exact tlTSurd3
  case rest =>
   obtain ⟨gs,hX,rfl,rfl,es⟩:=hcut
   replace hE:=hE.trans hX
   replace ex:=at_ext hX ex
   clear hX
   obtain ⟨cxs,cx0,cx1,cx2,cx3,cx4⟩:=cells5_of ex
   obtain ⟨css,cs0,cs1⟩:=cells2_of es
   have hmc:=more_cell
   have hmh:=more_heap
   have hmf:=more_frozen
   have HE:=hd_ hE
   clear hE es ex
   go_wp2_with (go_at_call 133; first | ((with_reducible refine (M5.out _).mono ?_); rintro e w' ⟨rfl,q,rfl⟩))
   go_ret2
   exact ⟨rfl,(HE.out.mored q).alloc _⟩
def upB (P q r d f:Int):Bool:=if (2 * f + 1) * d < 2 * P then true else if 36893488147419103232 ≤ (2 * f + 1) * d - 2 * P then false else
 if ((2 * f + 1) * d - 2 * P) % 2 = 0 then decide (((2 * f + 1) * d - 2 * P) / 2 * (((2 * f + 1) * d - 2 * P) / 2) ≤ q * q * r) else decide (((2 * f + 1) * d - 2 * P) / 2 * (((2 * f + 1) * d - 2 * P) / 2) + ((2 * f + 1) * d - 2 * P) / 2 < q * q * r)
theorem cmp_ge0 (x y:Int):decide (0 ≤ cmpI x y) = decide (y ≤ x):=by
 unfold cmpI
 by_cases h:x < y
 ·rw [if_pos h,decide_eq_false (by omega),decide_eq_false (by omega)]
 ·rw [if_neg h]
  by_cases h2:y < x
  ·rw [if_pos h2,decide_eq_true (by omega),decide_eq_true (by omega)]
  ·rw [if_neg h2,decide_eq_true (by omega),decide_eq_true (by omega)]
theorem cmp_gt0 (x y:Int):decide (0 < cmpI x y) = decide (y < x):=by
 unfold cmpI
 by_cases h:x < y
 ·rw [if_pos h,decide_eq_false (by omega),decide_eq_false (by omega)]
 ·rw [if_neg h]
  by_cases h2:y < x
  ·rw [if_pos h2,decide_eq_true (by omega),decide_eq_true (by omega)]
  ·rw [if_neg h2,decide_eq_false (by omega),decide_eq_false (by omega)]
theorem tlTSurd0 {p:Prop} (h:p:=by
  obtain ⟨cxs,cx0,cx1,cx2,cx3,cx4⟩:=cells5_of ex
  obtain ⟨cts,ct0,ct1⟩:=cells2_of et
  have hmc:=more_cell
  have hmh:=more_heap
  have hmf:=more_frozen
  have qx0:∀ W',Ext wc W' → W'.cell? ⟨w.heap.size,0,none⟩ = some (.int .u64 (ph)):=fun W' hW => cell_of (at_ext hW ex) rfl
  have qx1:∀ W',Ext wc W' → W'.cell? ⟨w.heap.size,1,none⟩ = some (.int .u64 (pl)):=fun W' hW => cell_of (at_ext hW ex) rfl
  have qx2:∀ W',Ext wc W' → W'.cell? ⟨w.heap.size,2,none⟩ = some (.int .u64 (q)):=fun W' hW => cell_of (at_ext hW ex) rfl
  have qx3:∀ W',Ext wc W' → W'.cell? ⟨w.heap.size,3,none⟩ = some (.int .u64 (r)):=fun W' hW => cell_of (at_ext hW ex) rfl
  have qx4:∀ W',Ext wc W' → W'.cell? ⟨w.heap.size,4,none⟩ = some (.int .u64 (d)):=fun W' hW => cell_of (at_ext hW ex) rfl
  have qt0:∀ W',Ext wc W' → W'.cell? ⟨gt,0,none⟩ = some (.int .u64 (B / 18446744073709551616)):=fun W' hW => cell_of (at_ext hW et) rfl
  have qt1:∀ W',Ext wc W' → W'.cell? ⟨gt,1,none⟩ = some (.int .u64 (B % 18446744073709551616)):=fun W' hW => cell_of (at_ext hW et) rfl
  have hms:=more_setCell
  have hlt:∀ (W:World) (p:Extra) (b:Nat),b < W.heap.size → b < (more W p).heap.size:=fun W p b h => by rw [more_size]; omega
  have hlt2:∀ (W:World) (p q:Extra) (b:Nat),b < W.heap.size → b < (more (more W p) q).heap.size:=fun W p q b h => by rw [more_size,more_size]; omega
  have hmz:∀ (X:World) (o:Obj) (q:Extra),(more (X.alloc o) q).heap.size = (more X q).heap.size + 1:=fun X o q => by rw [more_size,more_size]; simp; omega
  have hmz2:∀ (X:World) (o:Obj) (p q:Extra),(more (more (X.alloc o).drew p) q).heap.size = (more (more X.drew p) q).heap.size + 1:=fun X o p q => by simp [more_size]; omega
  have hmz3:∀ (X:World) (o:Obj) (q:Extra),(more (X.alloc o).drew q).heap.size = (more X.drew q).heap.size + 1:=fun X o q => by simp [more_size]; omega
  have hmz4:∀ (X:World) (o:Obj) (p q:Extra),(more (more (X.alloc o) p) q).heap.size = (more (more X p) q).heap.size + 1:=fun X o p q => by simp [more_size]; omega
  have hl3:∀ (W:World) (p:Extra),W.heap.size < (more W.drew p).heap.size + 1:=fun W p => by simp [more_size]; omega
  have hl4:∀ (W:World) (p q:Extra),W.heap.size < (more (more W.drew p) q).heap.size + 1:=fun W p q => by simp [more_size]; omega
  have hl5:∀ (W:World) (p q:Extra),W.heap.size < (more (more W p) q).heap.size + 1:=fun W p q => by simp [more_size]; omega
  have hl2:∀ (W:World) (p:Extra),W.heap.size < (more W p).heap.size + 1:=fun W p => by rw [more_size]; omega
  have hn1:∀ (W:World) (p:Extra),(W.heap.size = (more W p).heap.size + 1) = False:=fun W p => eq_false (by rw [more_size]; omega)
  go_region_held3 (fun w' => Ext wc w') ((repeat (first | assumption | exact Ext.refl _ | exact ext_drew _ | refine ext_drewW ?_ | refine Ext.mored ?_ _ | refine Ext.alloc ?_ _ | refine Ext.drewN ?_ _))) (first | (go_at_call 121; (with_reducible refine (M2.out _).mono ?_); rintro e w2 ⟨rfl,p,rfl⟩) | (go_at_call 135; (with_reducible refine (M3.out _).mono ?_); rintro e w2 ⟨rfl,p,rfl⟩))
  all_goals go_wp2_with fail
  all_goals
   go_meet
   refine ⟨_,?_,rfl,rfl,?_⟩
   ·repeat (first | exact Ext.refl _ | exact ext_drew _ | refine ext_drewW ?_ | refine Ext.mored ?_ _ | refine Ext.alloc ?_ _)
   all_goals repeat (first | refine at_more ?_ | refine at_drew1 ?_ | (refine at_new ?_; first | with_reducible rfl | (simp [more_size]; done) | (simp [more_size]; omega)) | refine at_old ?_)):p:=h
theorem tlTSurd1 {p:Prop} (h:p:=by
  obtain ⟨cxs,cx0,cx1,cx2,cx3,cx4⟩:=cells5_of ex
  go_wp2_with (go_at_call 134; first | ((with_reducible refine (M1.out _).mono ?_); rintro e w' ⟨rfl,q,rfl⟩))
  go_meet
  refine ⟨_,?_,rfl,rfl,?_⟩
  all_goals repeat (first | exact Ext.refl _ | refine Ext.mored ?_ _ | refine Ext.drewN ?_ _ | refine Ext.alloc ?_ _ | (refine at_new ?_; first | rfl | (simp; done)) | refine at_more ?_ | refine at_drew ?_ | refine at_old ?_)):p:=h
set_option maxHeartbeats 4000000 in
theorem up_neg {ph pl q r d:Int} (h:ExOk ph pl q r d) (P f K:Int) (hP:ph * 18446744073709551616 + pl = P) (f0:0 ≤ f) (f1:f < 9223372036854775808) (hK:(2 * f + 1) * d - 2 * P = K) (k0:K < 0) (w:World) :
  Calls Tryz.prog 124 #[.agg #[.int .u64 (ph),.int .u64 (pl),.int .u64 (q),.int .u64 (r),.int .u64 (d)],.int .u64 f] w fun e w' => e = .returned (.bool (true)) ∧ ∃ p,w' = more w p:=by
 obtain ⟨_,_,b0,b1⟩:=sq_bounds h
 have h':=hd_ h
 obtain ⟨h0,h1,l0,l1,q0,q1,r0,r1,d0,d1⟩:=h
 have m1:=fun w => mulSmall_call ph pl 2 (2 * P) h0 (by omega) l0 l1 (by omega) (by omega) (by omega) (by omega) w
 obtain ⟨A0,A1⟩:=mul_bound (2 * f + 1) d 18446744073709551615 18446744073709551615 (by omega) (by omega) (by omega) d1
 have m2:=fun w => wideMul_call (2 * f + 1) d w (by omega) (by omega) (by omega) d1
 have hw1:IntKind.u64.wrap (2 * f) = 2 * f:=IntWalk.u64_in _ (by omega)
 have hw2:IntKind.u64.wrap (2 * f + 1) = 2 * f + 1:=IntWalk.u64_in _ (by omega)
 obtain ⟨A,hA⟩:∃ A,(2 * f + 1) * d = A:=⟨_,rfl⟩
 rw [hA] at A0 A1 m2 hK
 obtain ⟨B,hB⟩:∃ B,2 * P = B:=⟨_,rfl⟩
 rw [hB] at m1 hK
 have B0:0 ≤ B:=by omega
 have B1:B < 340282366920938463463374607431768211456:=by omega
 have m3:=fun w => wideSub_no (A / 18446744073709551616) (A % 18446744073709551616) (B / 18446744073709551616) (B % 18446744073709551616) (by omega) (by omega) (by omega) (by omega) (by omega) (by omega) (by omega) (by omega) (by omega) w
 have M1:=hd_ @m1
 have M2:=hd_ @(fun w => calls_ext1 (m2 w))
 have M3:=hd_ @(fun w => calls_ext3 (m3 w))
 clear m1 m2 m3 hA hB hP b0 b1 A0 A1 B0 B1
 clear hK
 go_enter Tryz.func124,Tryz.ntmps124
 go_upto_region 1 with fail
 refine at_world (fun V => Ext w V ∧ V.heap[w.heap.size]? = some (.cells #[.int .u64 (ph),.int .u64 (pl),.int .u64 (q),.int .u64 (r),.int .u64 (d)] 184)) ⟨⟨⟨[_],0⟩,rfl⟩,at_new (by simp)⟩ ?_
 rintro wc ⟨hE,ex⟩
 go_cut [5,6] (fun s5 s6 Z => ∃ gt:Nat,Ext wc Z ∧ s5 = .pointer (some ⟨gt,0,none⟩) ∧ s6 = .bool true ∧ Z.heap[gt]? = some (.cells #[.int .u64 (B / 18446744073709551616),.int .u64 (B % 18446744073709551616)] 182))
 case first =>
  exact tlTSurd1
 case rest =>
  obtain ⟨gt,hX,rfl,rfl,et⟩:=hcut
  replace hE:=hE.trans hX
  replace ex:=at_ext hX ex
  clear hX
  go_upto_region 2 with fail
  go_cut [7,8] (fun s7 s8 Z => ∃ gs:Nat,Ext wc Z ∧ s7 = .pointer (some ⟨gs,0,none⟩) ∧ s8 = .bool false ∧ Z.heap[gs]? = some (.cells #[.int .u64 (0),.int .u64 (0)] 182))
  case first =>
   exact tlTSurd0
  case rest =>
   obtain ⟨gs,hX,rfl,rfl,es⟩:=hcut
   replace hE:=hE.trans hX
   replace ex:=at_ext hX ex
   replace et:=at_ext hX et
   clear hX
   have HE:=hd_ hE
   clear hE es ex et
   go_wp2_with fail
   go_ret
   exact ⟨rfl,HE.out⟩
theorem tlTSurd2 {p:Prop} (h:p:=by
  obtain ⟨css,cs0,cs1⟩:=cells2_of es
  go_wp2_with (go_at_call 133; first | ((with_reducible refine (M4.out _).mono ?_); rintro e w' ⟨rfl,q,rfl⟩))
  go_meet
  refine ⟨_,?_,rfl,rfl,rfl,?_⟩
  all_goals repeat (first | exact Ext.refl _ | refine Ext.mored ?_ _ | refine Ext.drewN ?_ _ | refine Ext.alloc ?_ _ | (refine at_new ?_; first | rfl | (simp; done)) | refine at_more ?_ | refine at_drew ?_ | refine at_old ?_)):p:=h
set_option maxHeartbeats 4000000 in
theorem up_big {ph pl q r d:Int} (h:ExOk ph pl q r d) (P f K:Int) (hP:ph * 18446744073709551616 + pl = P) (f0:0 ≤ f) (f1:f < 9223372036854775808) (hK:(2 * f + 1) * d - 2 * P = K) (k0:0 ≤ K) (k1:36893488147419103232 ≤ K) (w:World) :
  Calls Tryz.prog 124 #[.agg #[.int .u64 (ph),.int .u64 (pl),.int .u64 (q),.int .u64 (r),.int .u64 (d)],.int .u64 f] w fun e w' => e = .returned (.bool (false)) ∧ ∃ p,w' = more w p:=by
 obtain ⟨_,_,b0,b1⟩:=sq_bounds h
 have h':=hd_ h
 obtain ⟨h0,h1,l0,l1,q0,q1,r0,r1,d0,d1⟩:=h
 have m1:=fun w => mulSmall_call ph pl 2 (2 * P) h0 (by omega) l0 l1 (by omega) (by omega) (by omega) (by omega) w
 obtain ⟨A0,A1⟩:=mul_bound (2 * f + 1) d 18446744073709551615 18446744073709551615 (by omega) (by omega) (by omega) d1
 have m2:=fun w => wideMul_call (2 * f + 1) d w (by omega) (by omega) (by omega) d1
 have hw1:IntKind.u64.wrap (2 * f) = 2 * f:=IntWalk.u64_in _ (by omega)
 have hw2:IntKind.u64.wrap (2 * f + 1) = 2 * f + 1:=IntWalk.u64_in _ (by omega)
 obtain ⟨A,hA⟩:∃ A,(2 * f + 1) * d = A:=⟨_,rfl⟩
 rw [hA] at A0 A1 m2 hK
 obtain ⟨B,hB⟩:∃ B,2 * P = B:=⟨_,rfl⟩
 rw [hB] at m1 hK
 have B0:0 ≤ B:=by omega
 have B1:B < 340282366920938463463374607431768211456:=by omega
 have m3:=fun w => wideSub_yes (A / 18446744073709551616) (A % 18446744073709551616) (B / 18446744073709551616) (B % 18446744073709551616) K (by omega) (by omega) (by omega) (by omega) (by omega) (by omega) (by omega) (by omega) (by omega) k0 w
 obtain ⟨m,hm⟩:∃ m,K / 2 = m:=⟨_,rfl⟩
 have m4:=fun w => divMod_call (K / 18446744073709551616) (K % 18446744073709551616) 2 K (by omega) (by omega) (by omega) (by omega) (by omega) (by omega) (by omega) w
 rw [hm] at m4
 have mb:18446744073709551616 ≤ m:=by omega
 have M1:=hd_ @m1
 have M2:=hd_ @(fun w => calls_ext1 (m2 w))
 have M3:=hd_ @(fun w => calls_ext3 (m3 w))
 clear m1 m2 m3 hA hB hP b0 b1 A0 A1 B0 B1
 have M4:=hd_ @m4
 clear m4 hK hm
 go_enter Tryz.func124,Tryz.ntmps124
 go_upto_region 1 with fail
 refine at_world (fun V => Ext w V ∧ V.heap[w.heap.size]? = some (.cells #[.int .u64 (ph),.int .u64 (pl),.int .u64 (q),.int .u64 (r),.int .u64 (d)] 184)) ⟨⟨⟨[_],0⟩,rfl⟩,at_new (by simp)⟩ ?_
 rintro wc ⟨hE,ex⟩
 go_cut [5,6] (fun s5 s6 Z => ∃ gt:Nat,Ext wc Z ∧ s5 = .pointer (some ⟨gt,0,none⟩) ∧ s6 = .bool true ∧ Z.heap[gt]? = some (.cells #[.int .u64 (B / 18446744073709551616),.int .u64 (B % 18446744073709551616)] 182))
 case first =>
  exact tlTSurd1
 case rest =>
  obtain ⟨gt,hX,rfl,rfl,et⟩:=hcut
  replace hE:=hE.trans hX
  replace ex:=at_ext hX ex
  clear hX
  go_upto_region 2 with fail
  go_cut [7,8] (fun s7 s8 Z => ∃ gs:Nat,Ext wc Z ∧ s7 = .pointer (some ⟨gs,0,none⟩) ∧ s8 = .bool true ∧ Z.heap[gs]? = some (.cells #[.int .u64 (K / 18446744073709551616),.int .u64 (K % 18446744073709551616)] 182))
  case first =>
   exact tlTSurd0
  case rest =>
   obtain ⟨gs,hX,rfl,rfl,es⟩:=hcut
   replace hE:=hE.trans hX
   replace ex:=at_ext hX ex
   replace et:=at_ext hX et
   clear hX
   go_upto_region 5 with fail
   go_cut [9,10,11] (fun s9 s10 s11 Z => ∃ gm:Nat,Ext wc Z ∧ s9 = .pointer (some ⟨gm,0,none⟩) ∧ s10 = .int .u64 (K % 2) ∧ s11 = .bool true ∧ Z.heap[gm]? = some (.cells #[.int .u64 (m / 18446744073709551616),.int .u64 (m % 18446744073709551616)] 182))
   case first =>
    exact tlTSurd2
   case rest =>
    obtain ⟨gm,hX,rfl,rfl,rfl,em⟩:=hcut
    replace hE:=hE.trans hX
    replace ex:=at_ext hX ex
    replace et:=at_ext hX et
    replace es:=at_ext hX es
    clear hX
    obtain ⟨cms,cm0,cm1⟩:=cells2_of em
    have HE:=hd_ hE
    clear hE es ex et em
    have y0:0 < m / 18446744073709551616:=by omega
    go_wp2_with fail
    go_ret
    exact ⟨rfl,HE.out⟩
set_option maxHeartbeats 4000000 in
theorem up_even {ph pl q r d:Int} (h:ExOk ph pl q r d) (P f K:Int) (hP:ph * 18446744073709551616 + pl = P) (f0:0 ≤ f) (f1:f < 9223372036854775808) (hK:(2 * f + 1) * d - 2 * P = K) (k0:0 ≤ K) (k1:K < 36893488147419103232) (k2:K % 2 = 0) (w:World) :
  Calls Tryz.prog 124 #[.agg #[.int .u64 (ph),.int .u64 (pl),.int .u64 (q),.int .u64 (r),.int .u64 (d)],.int .u64 f] w fun e w' => e = .returned (.bool (decide (K / 2 * (K / 2) ≤ q * q * r))) ∧ ∃ p,w' = more w p:=by
 obtain ⟨_,_,b0,b1⟩:=sq_bounds h
 have h':=hd_ h
 obtain ⟨h0,h1,l0,l1,q0,q1,r0,r1,d0,d1⟩:=h
 have m1:=fun w => mulSmall_call ph pl 2 (2 * P) h0 (by omega) l0 l1 (by omega) (by omega) (by omega) (by omega) w
 obtain ⟨A0,A1⟩:=mul_bound (2 * f + 1) d 18446744073709551615 18446744073709551615 (by omega) (by omega) (by omega) d1
 have m2:=fun w => wideMul_call (2 * f + 1) d w (by omega) (by omega) (by omega) d1
 have hw1:IntKind.u64.wrap (2 * f) = 2 * f:=IntWalk.u64_in _ (by omega)
 have hw2:IntKind.u64.wrap (2 * f + 1) = 2 * f + 1:=IntWalk.u64_in _ (by omega)
 obtain ⟨A,hA⟩:∃ A,(2 * f + 1) * d = A:=⟨_,rfl⟩
 rw [hA] at A0 A1 m2 hK
 obtain ⟨B,hB⟩:∃ B,2 * P = B:=⟨_,rfl⟩
 rw [hB] at m1 hK
 have B0:0 ≤ B:=by omega
 have B1:B < 340282366920938463463374607431768211456:=by omega
 have m3:=fun w => wideSub_yes (A / 18446744073709551616) (A % 18446744073709551616) (B / 18446744073709551616) (B % 18446744073709551616) K (by omega) (by omega) (by omega) (by omega) (by omega) (by omega) (by omega) (by omega) (by omega) k0 w
 obtain ⟨m,hm⟩:∃ m,K / 2 = m:=⟨_,rfl⟩
 have m4:=fun w => divMod_call (K / 18446744073709551616) (K % 18446744073709551616) 2 K (by omega) (by omega) (by omega) (by omega) (by omega) (by omega) (by omega) w
 rw [hm] at m4
 have mb:m ≤ 18446744073709551615:=by omega
 have m0:0 ≤ m:=by omega
 rw [show m / 18446744073709551616 = 0 by omega,show m % 18446744073709551616 = m by omega] at m4
 rw [k2] at m4
 rw [hm]
 have m5:=fun w => root_call h'.out m m0 mb w
 have M1:=hd_ @m1
 have M2:=hd_ @(fun w => calls_ext1 (m2 w))
 have M3:=hd_ @(fun w => calls_ext3 (m3 w))
 clear m1 m2 m3 hA hB hP b0 b1 A0 A1 B0 B1
 have M4:=hd_ @m4
 have M5:=hd_ @m5
 clear m4 m5 hK hm k2
 go_enter Tryz.func124,Tryz.ntmps124
 go_upto_region 1 with fail
 refine at_world (fun V => Ext w V ∧ V.heap[w.heap.size]? = some (.cells #[.int .u64 (ph),.int .u64 (pl),.int .u64 (q),.int .u64 (r),.int .u64 (d)] 184)) ⟨⟨⟨[_],0⟩,rfl⟩,at_new (by simp)⟩ ?_
 rintro wc ⟨hE,ex⟩
 go_cut [5,6] (fun s5 s6 Z => ∃ gt:Nat,Ext wc Z ∧ s5 = .pointer (some ⟨gt,0,none⟩) ∧ s6 = .bool true ∧ Z.heap[gt]? = some (.cells #[.int .u64 (B / 18446744073709551616),.int .u64 (B % 18446744073709551616)] 182))
 case first =>
  exact tlTSurd1
 case rest =>
  obtain ⟨gt,hX,rfl,rfl,et⟩:=hcut
  replace hE:=hE.trans hX
  replace ex:=at_ext hX ex
  clear hX
  go_upto_region 2 with fail
  go_cut [7,8] (fun s7 s8 Z => ∃ gs:Nat,Ext wc Z ∧ s7 = .pointer (some ⟨gs,0,none⟩) ∧ s8 = .bool true ∧ Z.heap[gs]? = some (.cells #[.int .u64 (K / 18446744073709551616),.int .u64 (K % 18446744073709551616)] 182))
  case first =>
   exact tlTSurd0
  case rest =>
   obtain ⟨gs,hX,rfl,rfl,es⟩:=hcut
   replace hE:=hE.trans hX
   replace ex:=at_ext hX ex
   replace et:=at_ext hX et
   clear hX
   go_upto_region 5 with fail
   go_cut [9,10,11] (fun s9 s10 s11 Z => ∃ gm:Nat,Ext wc Z ∧ s9 = .pointer (some ⟨gm,0,none⟩) ∧ s10 = .int .u64 0 ∧ s11 = .bool true ∧ Z.heap[gm]? = some (.cells #[.int .u64 (0),.int .u64 (m)] 182))
   case first =>
    exact tlTSurd2
   case rest =>
    obtain ⟨gm,hX,rfl,rfl,rfl,em⟩:=hcut
    replace hE:=hE.trans hX
    replace ex:=at_ext hX ex
    replace et:=at_ext hX et
    replace es:=at_ext hX es
    clear hX
    obtain ⟨cms,cm0,cm1⟩:=cells2_of em
    obtain ⟨cxs,cx0,cx1,cx2,cx3,cx4⟩:=cells5_of ex
    have HE:=hd_ hE
    clear hE es ex et em
    have hcmp:=cmp_ge0 (q * q * r) (m * m)
    go_wp2_with (go_at_call 136; first | ((with_reducible refine (M5.out _).mono ?_); rintro e w' ⟨rfl,q,rfl⟩))
    go_ret
    exact ⟨ret_bool' rfl,HE.out.mored _⟩
set_option maxHeartbeats 4000000 in
theorem up_odd {ph pl q r d:Int} (h:ExOk ph pl q r d) (P f K:Int) (hP:ph * 18446744073709551616 + pl = P) (f0:0 ≤ f) (f1:f < 9223372036854775808) (hK:(2 * f + 1) * d - 2 * P = K) (k0:0 ≤ K) (k1:K < 36893488147419103232) (k2:K % 2 = 1) (w:World) :
  Calls Tryz.prog 124 #[.agg #[.int .u64 (ph),.int .u64 (pl),.int .u64 (q),.int .u64 (r),.int .u64 (d)],.int .u64 f] w fun e w' => e = .returned (.bool (decide (K / 2 * (K / 2) + K / 2 < q * q * r))) ∧ ∃ p,w' = more w p:=by
 obtain ⟨_,_,b0,b1⟩:=sq_bounds h
 have h':=hd_ h
 obtain ⟨h0,h1,l0,l1,q0,q1,r0,r1,d0,d1⟩:=h
 have m1:=fun w => mulSmall_call ph pl 2 (2 * P) h0 (by omega) l0 l1 (by omega) (by omega) (by omega) (by omega) w
 obtain ⟨A0,A1⟩:=mul_bound (2 * f + 1) d 18446744073709551615 18446744073709551615 (by omega) (by omega) (by omega) d1
 have m2:=fun w => wideMul_call (2 * f + 1) d w (by omega) (by omega) (by omega) d1
 have hw1:IntKind.u64.wrap (2 * f) = 2 * f:=IntWalk.u64_in _ (by omega)
 have hw2:IntKind.u64.wrap (2 * f + 1) = 2 * f + 1:=IntWalk.u64_in _ (by omega)
 obtain ⟨A,hA⟩:∃ A,(2 * f + 1) * d = A:=⟨_,rfl⟩
 rw [hA] at A0 A1 m2 hK
 obtain ⟨B,hB⟩:∃ B,2 * P = B:=⟨_,rfl⟩
 rw [hB] at m1 hK
 have B0:0 ≤ B:=by omega
 have B1:B < 340282366920938463463374607431768211456:=by omega
 have m3:=fun w => wideSub_yes (A / 18446744073709551616) (A % 18446744073709551616) (B / 18446744073709551616) (B % 18446744073709551616) K (by omega) (by omega) (by omega) (by omega) (by omega) (by omega) (by omega) (by omega) (by omega) k0 w
 obtain ⟨m,hm⟩:∃ m,K / 2 = m:=⟨_,rfl⟩
 have m4:=fun w => divMod_call (K / 18446744073709551616) (K % 18446744073709551616) 2 K (by omega) (by omega) (by omega) (by omega) (by omega) (by omega) (by omega) w
 rw [hm] at m4
 have mb:m ≤ 18446744073709551615:=by omega
 have m0:0 ≤ m:=by omega
 rw [show m / 18446744073709551616 = 0 by omega,show m % 18446744073709551616 = m by omega] at m4
 rw [k2] at m4
 rw [hm]
 have m5:=fun w => wideMul_call m m w m0 mb m0 mb
 obtain ⟨C0,C1⟩:=mul_bound m m 18446744073709551615 18446744073709551615 m0 m0 mb mb
 obtain ⟨C,hC⟩:∃ C,m * m = C:=⟨_,rfl⟩
 rw [hC] at m5 C0 C1 ⊢
 obtain ⟨V,hV⟩:∃ V,C + m = V:=⟨_,rfl⟩
 have m6:=fun w => wideAdd_call (C / 18446744073709551616) (C % 18446744073709551616) 0 m V (by omega) (by omega) (by omega) m0 (by omega) mb (by omega) (by omega) w
 have m7:=fun w => square_call h'.out w
 rw [hV]
 obtain ⟨S,hS⟩:∃ S,q * q * r = S:=⟨_,rfl⟩
 rw [hS] at m7 b0 b1 ⊢
 have m8:=fun w => wideCompare_call (S / 18446744073709551616) (S % 18446744073709551616) (V / 18446744073709551616) (V % 18446744073709551616) w (by omega) (by omega) (by omega) (by omega)
 rw [show S / 18446744073709551616 * 18446744073709551616 + S % 18446744073709551616 = S by omega,show V / 18446744073709551616 * 18446744073709551616 + V % 18446744073709551616 = V by omega] at m8
 have M1:=hd_ @m1
 have M2:=hd_ @(fun w => calls_ext1 (m2 w))
 have M3:=hd_ @(fun w => calls_ext3 (m3 w))
 clear m1 m2 m3 hA hB hP b0 b1 A0 A1 B0 B1
 have M4:=hd_ @m4
 have M5:=hd_ @(fun w => calls_ext1 (m5 w))
 have M6:=hd_ @(fun w => calls_ext3 (m6 w))
 have M7:=hd_ @m7
 have M8:=hd_ @m8
 clear m4 m5 m6 m7 m8 hK hm k2 hS hV hC C0 C1
 go_enter Tryz.func124,Tryz.ntmps124
 go_upto_region 1 with fail
 refine at_world (fun V => Ext w V ∧ V.heap[w.heap.size]? = some (.cells #[.int .u64 (ph),.int .u64 (pl),.int .u64 (q),.int .u64 (r),.int .u64 (d)] 184)) ⟨⟨⟨[_],0⟩,rfl⟩,at_new (by simp)⟩ ?_
 rintro wc ⟨hE,ex⟩
 go_cut [5,6] (fun s5 s6 Z => ∃ gt:Nat,Ext wc Z ∧ s5 = .pointer (some ⟨gt,0,none⟩) ∧ s6 = .bool true ∧ Z.heap[gt]? = some (.cells #[.int .u64 (B / 18446744073709551616),.int .u64 (B % 18446744073709551616)] 182))
 case first =>
  exact tlTSurd1
 case rest =>
  obtain ⟨gt,hX,rfl,rfl,et⟩:=hcut
  replace hE:=hE.trans hX
  replace ex:=at_ext hX ex
  clear hX
  go_upto_region 2 with fail
  go_cut [7,8] (fun s7 s8 Z => ∃ gs:Nat,Ext wc Z ∧ s7 = .pointer (some ⟨gs,0,none⟩) ∧ s8 = .bool true ∧ Z.heap[gs]? = some (.cells #[.int .u64 (K / 18446744073709551616),.int .u64 (K % 18446744073709551616)] 182))
  case first =>
   exact tlTSurd0
  case rest =>
   obtain ⟨gs,hX,rfl,rfl,es⟩:=hcut
   replace hE:=hE.trans hX
   replace ex:=at_ext hX ex
   replace et:=at_ext hX et
   clear hX
   go_upto_region 5 with fail
   go_cut [9,10,11] (fun s9 s10 s11 Z => ∃ gm:Nat,Ext wc Z ∧ s9 = .pointer (some ⟨gm,0,none⟩) ∧ s10 = .int .u64 1 ∧ s11 = .bool true ∧ Z.heap[gm]? = some (.cells #[.int .u64 (0),.int .u64 (m)] 182))
   case first =>
    exact tlTSurd2
   case rest =>
    obtain ⟨gm,hX,rfl,rfl,rfl,em⟩:=hcut
    replace hE:=hE.trans hX
    replace ex:=at_ext hX ex
    replace et:=at_ext hX et
    replace es:=at_ext hX es
    clear hX
    obtain ⟨cms,cm0,cm1⟩:=cells2_of em
    go_upto_region 10 with fail
    go_cut [12,8] (fun s12 s8 Z => ∃ ga:Nat,Ext wc Z ∧ s12 = .pointer (some ⟨ga,0,none⟩) ∧ s8 = .bool true ∧ Z.heap[ga]? = some (.cells #[.int .u64 (V / 18446744073709551616),.int .u64 (V % 18446744073709551616)] 182))
    case first =>
     obtain ⟨cms,cm0,cm1⟩:=cells2_of em
     have hmc:=more_cell
     have hmh:=more_heap
     have hmf:=more_frozen
     have qm0:∀ W',Ext wc W' → W'.cell? ⟨gm,0,none⟩ = some (.int .u64 (0)):=fun W' hW => cell_of (at_ext hW em) rfl
     have qm1:∀ W',Ext wc W' → W'.cell? ⟨gm,1,none⟩ = some (.int .u64 (m)):=fun W' hW => cell_of (at_ext hW em) rfl
     have hms:=more_setCell
     have hlt:∀ (W:World) (p:Extra) (b:Nat),b < W.heap.size → b < (more W p).heap.size:=fun W p b h => by rw [more_size]; omega
     have hlt2:∀ (W:World) (p q:Extra) (b:Nat),b < W.heap.size → b < (more (more W p) q).heap.size:=fun W p q b h => by rw [more_size,more_size]; omega
     have hmz:∀ (X:World) (o:Obj) (q:Extra),(more (X.alloc o) q).heap.size = (more X q).heap.size + 1:=fun X o q => by rw [more_size,more_size]; simp; omega
     have hmz2:∀ (X:World) (o:Obj) (p q:Extra),(more (more (X.alloc o).drew p) q).heap.size = (more (more X.drew p) q).heap.size + 1:=fun X o p q => by simp [more_size]; omega
     have hmz3:∀ (X:World) (o:Obj) (q:Extra),(more (X.alloc o).drew q).heap.size = (more X.drew q).heap.size + 1:=fun X o q => by simp [more_size]; omega
     have hmz4:∀ (X:World) (o:Obj) (p q:Extra),(more (more (X.alloc o) p) q).heap.size = (more (more X p) q).heap.size + 1:=fun X o p q => by simp [more_size]; omega
     have hl3:∀ (W:World) (p:Extra),W.heap.size < (more W.drew p).heap.size + 1:=fun W p => by simp [more_size]; omega
     have hl4:∀ (W:World) (p q:Extra),W.heap.size < (more (more W.drew p) q).heap.size + 1:=fun W p q => by simp [more_size]; omega
     have hl5:∀ (W:World) (p q:Extra),W.heap.size < (more (more W p) q).heap.size + 1:=fun W p q => by simp [more_size]; omega
     have hl2:∀ (W:World) (p:Extra),W.heap.size < (more W p).heap.size + 1:=fun W p => by rw [more_size]; omega
     have hn1:∀ (W:World) (p:Extra),(W.heap.size = (more W p).heap.size + 1) = False:=fun W p => eq_false (by rw [more_size]; omega)
     go_region_held3 (fun w' => Ext wc w') ((repeat (first | assumption | exact Ext.refl _ | exact ext_drew _ | refine ext_drewW ?_ | refine Ext.mored ?_ _ | refine Ext.alloc ?_ _ | refine Ext.drewN ?_ _))) (first | (go_at_call 121; (with_reducible refine (M5.out _).mono ?_); rintro e w2 ⟨rfl,p,rfl⟩) | (go_at_call 120; (with_reducible refine (M6.out _).mono ?_); rintro e w2 ⟨rfl,p,rfl⟩))
     all_goals go_wp2_with fail
     all_goals
      go_meet
      exact tlTSurd3
    case rest =>
     obtain ⟨ga,hX,rfl,rfl,ea⟩:=hcut
     replace hE:=hE.trans hX
     replace ex:=at_ext hX ex
     replace et:=at_ext hX et
     replace es:=at_ext hX es
     replace em:=at_ext hX em
     clear hX
     obtain ⟨cxs,cx0,cx1,cx2,cx3,cx4⟩:=cells5_of ex
     obtain ⟨cas,ca0,ca1⟩:=cells2_of ea
     have hmc:=more_cell
     have hmh:=more_heap
     have hmf:=more_frozen
     have HE:=hd_ hE
     clear hE es ex et em ea
     have hcmp:=cmp_gt0 S V
     go_upto_region 11 with fail
     refine region_more (by kernel_rfl) (by kernel_rfl) ?_
     repeat (go_big_quiet_step (first | (go_at_call 132; first | with_reducible exact calls_more (M7.out _)) | (go_at_call 137; first | with_reducible exact calls_more (M8.out _))))
     refine wpQuiet_nil ?_
     rintro w1 ⟨p,rfl⟩
     go_wp2
     go_ret
     exact ⟨ret_bool' rfl,HE.out.mored p⟩
theorem up_call {ph pl q r d:Int} (h:ExOk ph pl q r d) (P f:Int) (hP:ph * 18446744073709551616 + pl = P) (f0:0 ≤ f) (f1:f < 9223372036854775808) (w:World) :
  Calls Tryz.prog 124 #[.agg #[.int .u64 (ph),.int .u64 (pl),.int .u64 (q),.int .u64 (r),.int .u64 (d)],.int .u64 f] w fun e w' => e = .returned (.bool (upB P q r d f)) ∧ ∃ p,w' = more w p:=by
 unfold upB
 by_cases h1:(2 * f + 1) * d < 2 * P
 ·rw [if_pos h1]; exact up_neg h P f _ hP f0 f1 rfl (by omega) w
 ·rw [if_neg h1]
  by_cases h2:36893488147419103232 ≤ (2 * f + 1) * d - 2 * P
  ·rw [if_pos h2]; exact up_big h P f _ hP f0 f1 rfl (by omega) h2 w
  ·rw [if_neg h2]
   by_cases h3:((2 * f + 1) * d - 2 * P) % 2 = 0
   ·rw [if_pos h3]; exact up_even h P f _ hP f0 f1 rfl (by omega) (by omega) h3 w
   ·rw [if_neg h3]; exact up_odd h P f _ hP f0 f1 rfl (by omega) (by omega) (by omega) w
noncomputable def halfX (P q r d:Int):Int:=if upB P q r d (floX P q r d) = true then floX P q r d + 1 else floX P q r d
set_option maxHeartbeats 1000000 in
theorem halfX_call {ph pl q r d:Int} (h:ExOk ph pl q r d) (P:Int) (hP:ph * 18446744073709551616 + pl = P) (f0:0 ≤ floX P q r d) (f1:floX P q r d < 9223372036854775807) (w:World) :
  Calls Tryz.prog 115 #[.agg #[.int .u64 (ph),.int .u64 (pl),.int .u64 (q),.int .u64 (r),.int .u64 (d)]] w fun e w' => e = .returned (.tuple #[.int .u64 (halfX P q r d),.bool true]) ∧ ∃ p,w' = more w p:=by
 have m1:=fun w => floor_call h P _ hP rfl (by omega) w
 have m2:=fun w => up_call h P (floX P q r d) hP f0 (by omega) w
 unfold halfX
 generalize floX P q r d = f at *
 have hE:Ext w (w.alloc (.cells #[.int .u64 (ph),.int .u64 (pl),.int .u64 (q),.int .u64 (r),.int .u64 (d)] 184)):=⟨⟨[_],0⟩,rfl⟩
 have HE:=hd_ hE
 have M1:=hd_ @m1
 clear m1 hE h hP
 cases hb:upB P q r d f
 all_goals
  rw [hb] at m2
  have M2:=hd_ @m2
  clear m2 hb
  simp only [reduceIte,Bool.false_eq_true]
  have hmc:=more_cell
  go_enter Tryz.func115,Tryz.ntmps115
  go_wp2_with (first | (go_at_call 123; first | ((with_reducible refine (M1.out _).mono ?_); rintro e w' ⟨rfl,q,rfl⟩)) | (go_at_call 124; first | ((with_reducible refine (M2.out _).mono ?_); rintro e w' ⟨rfl,q,rfl⟩)))
  go_ret2
  exact ⟨rfl,(HE.out.mored _).mored _⟩
end Go.Proofs.YtepfoelgegljbaaGreatDoor
