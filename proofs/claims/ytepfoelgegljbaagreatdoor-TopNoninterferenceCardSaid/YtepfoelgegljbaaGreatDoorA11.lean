/- Part A11. -/
import Derived.Lib.MinMax
import Derived.Test.YtepfoelgegljbaaGreatDoorA05
import Derived.Test.YtepfoelgegljbaaGreatDoorA10
namespace Go.Proofs.YtepfoelgegljbaaGreatDoor
set_option maxRecDepth 100000
open Go.RowKit
set_option linter.unusedVariables false
abbrev exO (ph pl q r d:Int):Obj:=.cells #[.int .u64 (ph),.int .u64 (pl),.int .u64 (q),.int .u64 (r),.int .u64 (d)] 184
set_option maxHeartbeats 400000 in
theorem fraction_call (p d:Int) (w:World):Calls Tryz.prog 138 #[.int .u64 (p),.int .u64 (d)] w fun e w' => e = .returned (.agg #[.int .u64 (0),.int .u64 (p),.int .u64 (0),.int .u64 (0),.int .u64 (d)]) ∧ w.alloc (exO 0 p 0 0 d) = w':=by
 go_enter Tryz.func138,Tryz.ntmps138
 go_wp2
 exact bodyPost_ret (v:=.agg #[.int .u64 (0),.int .u64 (p),.int .u64 (0),.int .u64 (0),.int .u64 (d)]) (by simp [results,Tryz.results138,go_sem]) rfl ⟨rfl,rfl⟩
theorem wr {a b:Int} (e:a = b) (h0:0 ≤ b) (h1:b ≤ 18446744073709551615):IntKind.u64.wrap a = b:=by rw [e]; exact IntWalk.u64_in _ ⟨h0,h1⟩
set_option maxHeartbeats 400000 in
theorem hard_yes {s a d b sd sb da ab:Int} (g:Grid s a d b sd sb da ab) (h:2 * s * d = 2 * sd) (h2:2 * sd ≤ ab) (w:World) :
  Calls Tryz.prog 139 #[.int .u64 (s),.int .u64 (a),.int .u64 (d),.int .u64 (b),.bool true] w fun e w' => e = .returned (.int .u64 (2 * sd)) ∧ w = w':=by
 have p0:=g.p0
 have p6:=g.p6
 have s0:=g.s0
 have s1:s ≤ 65535:=Int.le_trans g.sa g.a1
 have hV:=wr h (by omega) (by omega)
 clear g h
 go_enter Tryz.func139,Tryz.ntmps139
 go_wp2
 go_ret
 exact ⟨rfl,rfl⟩
set_option maxHeartbeats 400000 in
theorem hard_no {s a d b sd sb da ab V:Int} (g:Grid s a d b sd sb da ab) (hV:2 * (ab - da - sb + sd) = V) (h:V ≤ ab) (w:World) :
  Calls Tryz.prog 139 #[.int .u64 (s),.int .u64 (a),.int .u64 (d),.int .u64 (b),.bool false] w fun e w' => e = .returned (.int .u64 (ab - V)) ∧ w = w':=by
 have r:=g.rest
 rw [hV] at r
 obtain ⟨s0,sa,a1,d0,db,b1,e1,e2,e3,e4,p0,p1,p2,p3,p4,p5,p6⟩:=g
 have V0:0 ≤ V:=by omega
 have w1:=wr r V0 (by omega)
 have w2:=wr e4 (by omega) (by omega)
 clear hV r e1 e2 e3 e4
 go_enter Tryz.func139,Tryz.ntmps139
 go_wp2
 go_ret
 exact ⟨rfl,rfl⟩
set_option maxHeartbeats 1000000 in
theorem dodge_1 (s a b:Int) (w:World):Calls Tryz.prog 140 #[.int .u64 (s),.int .u64 (a),.int .u64 (0),.int .u64 (b)] w fun e w' => e = .returned (.agg #[.int .u64 (0),.int .u64 (0),.int .u64 (0),.int .u64 (0),.int .u64 (1)]) ∧ ∃ p,w' = more w p:=by
 go_enter Tryz.func140,Tryz.ntmps140
 go_wp2_with (go_at_call 138; (with_reducible refine (fraction_call _ _ _).mono ?_); rintro e w' ⟨rfl,rfl⟩)
 exact bodyPost_ret (v:=.agg #[.int .u64 (0),.int .u64 (0),.int .u64 (0),.int .u64 (0),.int .u64 (1)]) (by simp [results,Tryz.results140,go_sem]) rfl ⟨rfl,⟨[_,_],0⟩,rfl⟩
set_option maxHeartbeats 1000000 in
theorem dodge_2 {s a d b sd sb da ab:Int} (g:Grid s a d b sd sb da ab) (hz:d ≠ 0) (h:ab - sb ≤ da) (w:World):Calls Tryz.prog 140 #[.int .u64 (s),.int .u64 (a),.int .u64 (d),.int .u64 (b)] w fun e w' => e = .returned (.agg #[.int .u64 (0),.int .u64 (ab),.int .u64 (0),.int .u64 (0),.int .u64 (1)]) ∧ ∃ p,w' = more w p:=by
 obtain ⟨s0,sa,a1,d0,db,b1,e1,e2,e3,e4,p0,p1,p2,p3,p4,p5,p6⟩:=g
 have hz':(d == 0) = false:=beq_eq_false_iff_ne.2 hz
 have w1:=wr e3 (by omega) (by omega)
 have w2:IntKind.u64.wrap (b * (a - s)) = ab - sb:=wr (by rw [Int.mul_sub,Int.mul_comm b a,Int.mul_comm b s,e4,e2]) (by omega) (by omega)
 have w3:=wr e4 (by omega) (by omega)
 clear e1 e2 e3 e4 hz
 go_enter Tryz.func140,Tryz.ntmps140
 go_wp2_with (go_at_call 138; (with_reducible refine (fraction_call _ _ _).mono ?_); rintro e w' ⟨rfl,rfl⟩)
 exact bodyPost_ret (v:=.agg #[.int .u64 (0),.int .u64 (ab),.int .u64 (0),.int .u64 (0),.int .u64 (1)]) (by simp [results,Tryz.results140,go_sem]) rfl ⟨rfl,⟨[_,_],0⟩,rfl⟩
set_option maxHeartbeats 1000000 in
theorem dodge_3 {s a d b sd sb da ab:Int} (g:Grid s a d b sd sb da ab) (hz:d ≠ 0) (h:da < ab - sb) (w:World):Calls Tryz.prog 140 #[.int .u64 (s),.int .u64 (a),.int .u64 (d),.int .u64 (b)] w fun e w' => e = .returned (.agg #[.int .u64 (0),.int .u64 (a * a * d),.int .u64 (0),.int .u64 (0),.int .u64 (a - s)]) ∧ ∃ p,w' = more w p:=by
 have k:=g.dodge h
 obtain ⟨k1,k2,k3,k4,k5,k6⟩:=k
 obtain ⟨s0,sa,a1,d0,db,b1,e1,e2,e3,e4,p0,p1,p2,p3,p4,p5,p6⟩:=g
 have hz':(d == 0) = false:=beq_eq_false_iff_ne.2 hz
 have w1:=wr e3 (by omega) (by omega)
 have w2:IntKind.u64.wrap (b * (a - s)) = ab - sb:=wr (by rw [Int.mul_sub,Int.mul_comm b a,Int.mul_comm b s,e4,e2]) (by omega) (by omega)
 obtain ⟨A,hA⟩:∃ A,a * a = A:=⟨_,rfl⟩
 rw [hA] at k4 k5 k6 k2 ⊢
 obtain ⟨B,hB⟩:∃ B,A * d = B:=⟨_,rfl⟩
 rw [hB] at k2 k6 ⊢
 have w3:=wr hA (by omega) (by omega)
 have w4:=wr hB (by omega) (by omega)
 clear e1 e2 e3 e4 hz hA hB k3
 go_enter Tryz.func140,Tryz.ntmps140
 go_wp2_with (go_at_call 138; (with_reducible refine (fraction_call _ _ _).mono ?_); rintro e w' ⟨rfl,rfl⟩)
 exact bodyPost_ret (v:=.agg #[.int .u64 (0),.int .u64 (B),.int .u64 (0),.int .u64 (0),.int .u64 (a - s)]) (by simp [results,Tryz.results140,go_sem]) rfl ⟨rfl,⟨[_,_],0⟩,rfl⟩
set_option maxHeartbeats 1000000 in
theorem burn_1 {s a b ab:Int} (e4:a * b = ab) (p0:0 ≤ ab) (p6:ab ≤ 4294836225) (w:World):Calls Tryz.prog 141 #[.int .u64 (s),.int .u64 (a),.int .u64 (b),.int .u64 (b)] w fun e w' => e = .returned (.agg #[.int .u64 (0),.int .u64 (ab),.int .u64 (0),.int .u64 (0),.int .u64 (1)]) ∧ ∃ p,w' = more w p:=by
 have w3:=wr e4 (by omega) (by omega)
 clear e4
 go_enter Tryz.func141,Tryz.ntmps141
 go_wp2_with (go_at_call 138; (with_reducible refine (fraction_call _ _ _).mono ?_); rintro e w' ⟨rfl,rfl⟩)
 exact bodyPost_ret (v:=.agg #[.int .u64 (0),.int .u64 (ab),.int .u64 (0),.int .u64 (0),.int .u64 (1)]) (by simp [results,Tryz.results141,go_sem]) rfl ⟨rfl,⟨[_,_],0⟩,rfl⟩
set_option maxHeartbeats 1000000 in
theorem burn_2 {s a d b sd sb da ab:Int} (g:Grid s a d b sd sb da ab) (hz:d ≠ b) (h:sb ≤ ab - da) (w:World):Calls Tryz.prog 141 #[.int .u64 (s),.int .u64 (a),.int .u64 (d),.int .u64 (b)] w fun e w' => e = .returned (.agg #[.int .u64 (0),.int .u64 (0),.int .u64 (0),.int .u64 (0),.int .u64 (1)]) ∧ ∃ p,w' = more w p:=by
 obtain ⟨s0,sa,a1,d0,db,b1,e1,e2,e3,e4,p0,p1,p2,p3,p4,p5,p6⟩:=g
 have hz':(d == b) = false:=beq_eq_false_iff_ne.2 hz
 have w1:IntKind.u64.wrap ((b - d) * a) = ab - da:=wr (by rw [Int.sub_mul,Int.mul_comm b a,e4,e3]) (by omega) (by omega)
 have w2:=wr e2 (by omega) (by omega)
 clear e1 e2 e3 e4 hz
 go_enter Tryz.func141,Tryz.ntmps141
 go_wp2_with (go_at_call 138; (with_reducible refine (fraction_call _ _ _).mono ?_); rintro e w' ⟨rfl,rfl⟩)
 exact bodyPost_ret (v:=.agg #[.int .u64 (0),.int .u64 (0),.int .u64 (0),.int .u64 (0),.int .u64 (1)]) (by simp [results,Tryz.results141,go_sem]) rfl ⟨rfl,⟨[_,_],0⟩,rfl⟩
set_option maxHeartbeats 1000000 in
theorem burn_3 {s a d b sd sb da ab:Int} (g:Grid s a d b sd sb da ab) (hz:d ≠ b) (h:ab - da < sb) (w:World):Calls Tryz.prog 141 #[.int .u64 (s),.int .u64 (a),.int .u64 (d),.int .u64 (b)] w fun e w' => e = .returned (.agg #[.int .u64 (0),.int .u64 (ab * s - (ab - da) * a),.int .u64 (0),.int .u64 (0),.int .u64 (s)]) ∧ ∃ p,w' = more w p:=by
 obtain ⟨k1,k2,k3,k4⟩:=g.burn h
 obtain ⟨s0,sa,a1,d0,db,b1,e1,e2,e3,e4,p0,p1,p2,p3,p4,p5,p6⟩:=g
 have hz':(d == b) = false:=beq_eq_false_iff_ne.2 hz
 have w1:IntKind.u64.wrap ((b - d) * a) = ab - da:=wr (by rw [Int.sub_mul,Int.mul_comm b a,e4,e3]) (by omega) (by omega)
 have w2:=wr e2 (by omega) (by omega)
 have w3:=wr e4 (by omega) (by omega)
 obtain ⟨A,hA⟩:∃ A,ab * s = A:=⟨_,rfl⟩
 obtain ⟨B,hB⟩:∃ B,(ab - da) * a = B:=⟨_,rfl⟩
 rw [hA] at k3 k4 ⊢
 rw [hB] at k2 k3 ⊢
 have w4:=wr hA (by omega) (by omega)
 have w5:=wr hB (by omega) (by omega)
 clear e1 e2 e3 e4 hz hA hB
 go_enter Tryz.func141,Tryz.ntmps141
 go_wp2_with (go_at_call 138; (with_reducible refine (fraction_call _ _ _).mono ?_); rintro e w' ⟨rfl,rfl⟩)
 exact bodyPost_ret (v:=.agg #[.int .u64 (0),.int .u64 (A - B),.int .u64 (0),.int .u64 (0),.int .u64 (s)]) (by simp [results,Tryz.results141,go_sem]) rfl ⟨rfl,⟨[_,_],0⟩,rfl⟩
set_option maxHeartbeats 1000000 in
theorem soft_1 (s a d:Int) (w:World):Calls Tryz.prog 142 #[.int .u64 (s),.int .u64 (a),.int .u64 (d),.int .u64 (0)] w fun e w' => e = .returned (.agg #[.int .u64 (0),.int .u64 (0),.int .u64 (0),.int .u64 (0),.int .u64 (1)]) ∧ ∃ p,w' = more w p:=by
 go_enter Tryz.func142,Tryz.ntmps142
 go_wp2_with (go_at_call 138; (with_reducible refine (fraction_call _ _ _).mono ?_); rintro e w' ⟨rfl,rfl⟩)
 exact bodyPost_ret (v:=.agg #[.int .u64 (0),.int .u64 (0),.int .u64 (0),.int .u64 (0),.int .u64 (1)]) (by simp [results,Tryz.results142,go_sem]) rfl ⟨rfl,⟨[_,_],0⟩,rfl⟩
set_option maxHeartbeats 1000000 in
theorem soft_2 {s a d b sd sb da ab:Int} (g:Grid s a d b sd sb da ab) (hz:b ≠ 0) (h:2 * s ≤ a) (w:World):Calls Tryz.prog 142 #[.int .u64 (s),.int .u64 (a),.int .u64 (d),.int .u64 (b)] w fun e w' => e = .returned (.agg #[.int .u64 (0),.int .u64 (da * b - (a - 2 * s) * d * (b - d)),.int .u64 (0),.int .u64 (0),.int .u64 (b)]) ∧ ∃ p,w' = more w p:=by
 obtain ⟨k1,k2,k3,k4,k5,k6⟩:=g.soft2 h
 obtain ⟨s0,sa,a1,d0,db,b1,e1,e2,e3,e4,p0,p1,p2,p3,p4,p5,p6⟩:=g
 have hz':(b == 0) = false:=beq_eq_false_iff_ne.2 hz
 have w1:=wr e3 (by omega) (by omega)
 obtain ⟨A,hA⟩:∃ A,da * b = A:=⟨_,rfl⟩
 obtain ⟨B,hB⟩:∃ B,(a - 2 * s) * d = B:=⟨_,rfl⟩
 rw [hA] at k4 k6 ⊢
 rw [hB] at k1 k2 k3 k4 ⊢
 obtain ⟨C,hC⟩:∃ C,B * (b - d) = C:=⟨_,rfl⟩
 rw [hC] at k3 k4 ⊢
 have w2:=wr hA (by omega) (by omega)
 have w3:=wr hB (by omega) (by omega)
 have w4:=wr hC (by omega) (by omega)
 clear e1 e2 e3 e4 hz hA hB hC k5
 go_enter Tryz.func142,Tryz.ntmps142
 go_wp2_with (go_at_call 138; (with_reducible refine (fraction_call _ _ _).mono ?_); rintro e w' ⟨rfl,rfl⟩)
 exact bodyPost_ret (v:=.agg #[.int .u64 (0),.int .u64 (A - C),.int .u64 (0),.int .u64 (0),.int .u64 (b)]) (by simp [results,Tryz.results142,go_sem]) rfl ⟨rfl,⟨[_,_],0⟩,rfl⟩
set_option maxHeartbeats 1000000 in
theorem soft_3 {s a d b sd sb da ab:Int} (g:Grid s a d b sd sb da ab) (hz:1 ≤ b) (h:a < 2 * s) (h4:4 * d ≤ b) (w:World):Calls Tryz.prog 142 #[.int .u64 (s),.int .u64 (a),.int .u64 (d),.int .u64 (b)] w fun e w' => e = .returned (.agg #[.int .u64 (0),.int .u64 (d * a * b * b + (2 * s - a) * d * (16 * (d * d) + 3 * (b * b) - 12 * (d * b))),.int .u64 (0),.int .u64 (0),.int .u64 (b * b)]) ∧ ∃ p,w' = more w p:=by
 obtain ⟨dd,bb,db',x1,x2,x3,x4,x5,x6,y1,y2,y3,y4,y5,y6,z1,z2,z3,z4,z5⟩:=soft3 h g.sa g.a1 g.d0 h4 g.b1 hz
 obtain ⟨s0,sa,a1,d0,db,b1,e1,e2,e3,e4,p0,p1,p2,p3,p4,p5,p6⟩:=g
 have hz':(b == 0) = false:=beq_eq_false_iff_ne.2 (by omega)
 rw [x1,x2,x3]
 rw [e4] at z5
 rw [e3] at z4 z5 ⊢
 have w1:=wr e3 (by omega) (by omega)
 have A1:da * b ≤ 4294836225 * 65535:=Int.mul_le_mul (by omega) b1 (by omega) (by decide)
 have A0:0 ≤ da * b:=Int.mul_nonneg (by omega) (by omega)
 have Z1:ab * bb ≤ 4294836225 * 4294836225:=Int.mul_le_mul p6 (by omega) (by omega) (by decide)
 obtain ⟨A,hA⟩:∃ A,da * b = A:=⟨_,rfl⟩
 rw [hA] at z4 z5 A0 A1 ⊢
 obtain ⟨B,hB⟩:∃ B,A * b = B:=⟨_,rfl⟩
 rw [hB] at z4 z5 ⊢
 obtain ⟨C,hC⟩:∃ C,(2 * s - a) * d = C:=⟨_,rfl⟩
 rw [hC] at z1 z2 z3 z5 ⊢
 obtain ⟨E,hE⟩:∃ E,C * (16 * dd + 3 * bb - 12 * db') = E:=⟨_,rfl⟩
 rw [hE] at z3 z5 ⊢
 have w2:=wr hA (by omega) (by omega)
 have w3:=wr hB (by omega) (by omega)
 have w4:=wr hC (by omega) (by omega)
 have w5:=wr x4 (by omega) (by omega)
 have w6:=wr x5 (by omega) (by omega)
 have w7:=wr x6 (by omega) (by omega)
 have w8:=wr hE (by omega) (by omega)
 have w9:=wr x2 (by omega) (by omega)
 have Z2:B + E ≤ 18446744073709551615:=by omega
 clear e1 e2 e3 e4 x1 x2 x3 x4 x5 x6 hA hB hC hE Z1 z5
 go_enter Tryz.func142,Tryz.ntmps142
 go_wp2_with (go_at_call 138; (with_reducible refine (fraction_call _ _ _).mono ?_); rintro e w' ⟨rfl,rfl⟩)
 exact bodyPost_ret (v:=.agg #[.int .u64 (0),.int .u64 (B + E),.int .u64 (0),.int .u64 (0),.int .u64 (bb)]) (by simp [results,Tryz.results142,go_sem]) rfl ⟨rfl,⟨[_,_],0⟩,rfl⟩
set_option maxHeartbeats 1000000 in
theorem soft_4 {s a d b sd sb da ab:Int} (g:Grid s a d b sd sb da ab) (hz:b ≠ 0) (h:a < 2 * s) (h4:b < 4 * d) (w:World):Calls Tryz.prog 142 #[.int .u64 (s),.int .u64 (a),.int .u64 (d),.int .u64 (b)] w fun e w' => e = .returned (.agg #[.int .u64 (0),.int .u64 (2 * (da - sd)),.int .u64 (2 * s - a),.int .u64 (d * b),.int .u64 (1)]) ∧ ∃ p,w' = more w p:=by
 obtain ⟨k1,k2⟩:=g.soft4 h
 have k3:=k2.R0
 have k4:=k2.R1
 obtain ⟨s0,sa,a1,d0,db,b1,e1,e2,e3,e4,p0,p1,p2,p3,p4,p5,p6⟩:=g
 have hz':(b == 0) = false:=beq_eq_false_iff_ne.2 hz
 have w1:=wr k1 (by omega) (by omega)
 have B1:b * b ≤ 65535 * 65535:=Int.mul_le_mul b1 b1 (by omega) (by decide)
 obtain ⟨A,hA⟩:∃ A,d * b = A:=⟨_,rfl⟩
 rw [hA] at k3 k4 ⊢
 have w2:=wr hA k3 (by omega)
 clear e1 e2 e3 e4 hA k1 k2 k4 B1 hz
 go_enter Tryz.func142,Tryz.ntmps142
 go_wp2_with (go_at_call 138; (with_reducible refine (fraction_call _ _ _).mono ?_); rintro e w' ⟨rfl,rfl⟩)
 exact bodyPost_ret (v:=.agg #[.int .u64 (0),.int .u64 (2 * (da - sd)),.int .u64 (2 * s - a),.int .u64 (A),.int .u64 (1)]) (by simp [results,Tryz.results142,go_sem]) rfl ⟨rfl,⟨[_,_,_],0⟩,rfl⟩
theorem dodge_ex {s a d b sd sb da ab:Int} (g:Grid s a d b sd sb da ab):∃ P Q R D,TermOk a b P Q R D ∧ ∀ w,Calls Tryz.prog 140 #[.int .u64 (s),.int .u64 (a),.int .u64 (d),.int .u64 (b)] w fun e w' => e = .returned (.agg #[.int .u64 (0),.int .u64 (P),.int .u64 (Q),.int .u64 (R),.int .u64 (D)]) ∧ ∃ p,w' = more w p:=by
 by_cases hz:d = 0
 ·subst hz; exact ⟨_,_,_,_,.one (by omega) (by have:=g.e4; have:=g.p0; have:=g.p1; have:=g.p3; omega),fun w => dodge_1 s a b w⟩
 ·by_cases h:ab - sb ≤ da
  ·exact ⟨_,_,_,_,.one (by have:=g.p0; have:=g.p1; have:=g.p3; omega) (by have:=g.e4; omega),fun w => dodge_2 g hz h w⟩
  ·have h':da < ab - sb:=by omega
   obtain ⟨k1,k2,k3,k4,k5,k6⟩:=g.dodge h'
   exact ⟨_,_,_,_,.frac k2 k1 (by have:=g.a1; have:=g.s0; omega) k3,fun w => dodge_3 g hz h' w⟩
theorem burn_ex {s a d b sd sb da ab:Int} (g:Grid s a d b sd sb da ab):∃ P Q R D,TermOk a b P Q R D ∧ ∀ w,Calls Tryz.prog 141 #[.int .u64 (s),.int .u64 (a),.int .u64 (d),.int .u64 (b)] w fun e w' => e = .returned (.agg #[.int .u64 (0),.int .u64 (P),.int .u64 (Q),.int .u64 (R),.int .u64 (D)]) ∧ ∃ p,w' = more w p:=by
 have p0:=g.p0
 have p1:=g.p1
 have p3:=g.p3
 have e4:=g.e4
 by_cases hz:d = b
 ·subst hz; exact ⟨_,_,_,_,.one (by omega) (by omega),fun w => burn_1 g.e4 (by omega) g.p6 w⟩
 ·by_cases h:sb ≤ ab - da
  ·exact ⟨_,_,_,_,.one (by omega) (by omega),fun w => burn_2 g hz h w⟩
  ·have h':ab - da < sb:=by omega
   obtain ⟨k1,k2,k3,k4⟩:=g.burn h'
   refine ⟨_,_,_,_,.frac (P:=ab * s - (ab - da) * a) (D:=s) (by omega) k1 (by have:=g.a1; have:=g.sa; omega) ?_,fun w => burn_3 g hz h' w⟩
   rw [e4]; omega
theorem soft_ex {s a d b sd sb da ab:Int} (g:Grid s a d b sd sb da ab):∃ P Q R D,TermOk a b P Q R D ∧ ∀ w,Calls Tryz.prog 142 #[.int .u64 (s),.int .u64 (a),.int .u64 (d),.int .u64 (b)] w fun e w' => e = .returned (.agg #[.int .u64 (0),.int .u64 (P),.int .u64 (Q),.int .u64 (R),.int .u64 (D)]) ∧ ∃ p,w' = more w p:=by
 have p0:=g.p0
 have p1:=g.p1
 have p3:=g.p3
 have e4:=g.e4
 have d0:=g.d0
 have db:=g.db
 have b1:=g.b1
 by_cases hz:b = 0
 ·subst hz; exact ⟨_,_,_,_,.one (by omega) (by omega),fun w => soft_1 s a d w⟩
 ·by_cases h:2 * s ≤ a
  ·obtain ⟨k1,k2,k3,k4,k5,k6⟩:=g.soft2 h
   exact ⟨_,_,_,_,.frac (P:=da * b - (a - 2 * s) * d * (b - d)) (D:=b) (by omega) (by omega) (by omega) (by omega),fun w => soft_2 g hz h w⟩
  ·have h':a < 2 * s:=by omega
   by_cases h4:4 * d ≤ b
   ·obtain ⟨dd,bb,db',x1,x2,x3,x4,x5,x6,y1,y2,y3,y4,y5,y6,z1,z2,z3,z4,z5⟩:=soft3 h' g.sa g.a1 g.d0 h4 g.b1 (by omega)
    refine ⟨_,_,_,_,.frac (P:=d * a * b * b + (2 * s - a) * d * (16 * (d * d) + 3 * (b * b) - 12 * (d * b))) (D:=b * b) ?_ ?_ ?_ ?_,fun w => soft_3 g (by omega) h' h4 w⟩
    ·rw [x1,x2,x3]; omega
    ·rw [x2]; omega
    ·rw [x2]; omega
    ·rw [x1,x2,x3]; exact z5
   ·obtain ⟨k1,k2⟩:=g.soft4 h'
    exact ⟨_,_,_,_,k2,fun w => soft_4 g hz h' (by omega) w⟩
set_option maxHeartbeats 1000000 in
theorem term_1 {s a d b sd sb da ab:Int} (g:Grid s a d b sd sb da ab) (w:World):Calls Tryz.prog 126 #[.int .i64 1,.int .u64 (s),.int .u64 (a),.int .u64 (d),.int .u64 (b)] w fun e w' => e = .returned (.agg #[.int .u64 (0),.int .u64 (sb),.int .u64 (0),.int .u64 (0),.int .u64 (1)]) ∧ ∃ p,w' = more w p:=by
 obtain ⟨s0,sa,a1,d0,db,b1,e1,e2,e3,e4,p0,p1,p2,p3,p4,p5,p6⟩:=g
 have w2:=wr e2 (by omega) (by omega)
 clear e1 e2 e3 e4
 go_enter Tryz.func126,Tryz.ntmps126
 go_wp2_with (first | (go_at_call 138; (with_reducible refine (fraction_call _ _ _).mono ?_); rintro e w' ⟨rfl,rfl⟩))
 exact bodyPost_ret (v:=.agg #[.int .u64 (0),.int .u64 (sb),.int .u64 (0),.int .u64 (0),.int .u64 (1)]) (by simp [results,Tryz.results126,go_sem]) rfl ⟨rfl,⟨[_,_],0⟩,rfl⟩
set_option maxHeartbeats 1000000 in
theorem term_2 {s a d b sd sb da ab:Int} (g:Grid s a d b sd sb da ab) (w:World):Calls Tryz.prog 126 #[.int .i64 2,.int .u64 (s),.int .u64 (a),.int .u64 (d),.int .u64 (b)] w fun e w' => e = .returned (.agg #[.int .u64 (0),.int .u64 (sd),.int .u64 (0),.int .u64 (0),.int .u64 (1)]) ∧ ∃ p,w' = more w p:=by
 obtain ⟨s0,sa,a1,d0,db,b1,e1,e2,e3,e4,p0,p1,p2,p3,p4,p5,p6⟩:=g
 have w1:=wr e1 (by omega) (by omega)
 clear e1 e2 e3 e4
 go_enter Tryz.func126,Tryz.ntmps126
 go_wp2_with (first | (go_at_call 138; (with_reducible refine (fraction_call _ _ _).mono ?_); rintro e w' ⟨rfl,rfl⟩))
 exact bodyPost_ret (v:=.agg #[.int .u64 (0),.int .u64 (sd),.int .u64 (0),.int .u64 (0),.int .u64 (1)]) (by simp [results,Tryz.results126,go_sem]) rfl ⟨rfl,⟨[_,_],0⟩,rfl⟩
set_option maxHeartbeats 1000000 in
theorem term_3 {s a d b sd sb da ab:Int} (g:Grid s a d b sd sb da ab) (w:World):Calls Tryz.prog 126 #[.int .i64 3,.int .u64 (s),.int .u64 (a),.int .u64 (d),.int .u64 (b)] w fun e w' => e = .returned (.agg #[.int .u64 (0),.int .u64 (sb + da - sd),.int .u64 (0),.int .u64 (0),.int .u64 (1)]) ∧ ∃ p,w' = more w p:=by
 obtain ⟨s0,sa,a1,d0,db,b1,e1,e2,e3,e4,p0,p1,p2,p3,p4,p5,p6⟩:=g
 have w1:=wr e1 (by omega) (by omega)
 have w2:=wr e2 (by omega) (by omega)
 have w3:=wr e3 (by omega) (by omega)
 clear e1 e2 e3 e4
 go_enter Tryz.func126,Tryz.ntmps126
 go_wp2_with (first | (go_at_call 138; (with_reducible refine (fraction_call _ _ _).mono ?_); rintro e w' ⟨rfl,rfl⟩))
 exact bodyPost_ret (v:=.agg #[.int .u64 (0),.int .u64 (sb + da - sd),.int .u64 (0),.int .u64 (0),.int .u64 (1)]) (by simp [results,Tryz.results126,go_sem]) rfl ⟨rfl,⟨[_,_],0⟩,rfl⟩
theorem tlTBlend0 {p:Prop} (h:p:=by
  have H:=hd_ @(fun w => hard_yes g t1 t2 w)
  clear t1
  obtain ⟨s0,sa,a1,d0,db,b1,e1,e2,e3,e4,p0,p1,p2,p3,p4,p5,p6⟩:=g
  clear e1 e2 e3 e4
  go_enter Tryz.func126,Tryz.ntmps126
  go_wp2_with (first | (go_at_call 138; (with_reducible refine (fraction_call _ _ _).mono ?_); rintro e w' ⟨rfl,rfl⟩) | (go_at_call 139; (with_reducible refine (H.out _).mono ?_); rintro e w' ⟨rfl,rfl⟩))
  exact bodyPost_ret (v:=.agg #[.int .u64 (0),.int .u64 (2 * sd),.int .u64 (0),.int .u64 (0),.int .u64 (1)]) (by simp [results,Tryz.results126,go_sem]) rfl ⟨rfl,⟨[_,_],0⟩,rfl⟩):p:=h
set_option maxHeartbeats 1000000 in
theorem term_4y {s a d b sd sb da ab:Int} (g:Grid s a d b sd sb da ab) (h:2 * d ≤ b) (w:World):Calls Tryz.prog 126 #[.int .i64 4,.int .u64 (s),.int .u64 (a),.int .u64 (d),.int .u64 (b)] w fun e w' => e = .returned (.agg #[.int .u64 (0),.int .u64 (2 * sd),.int .u64 (0),.int .u64 (0),.int .u64 (1)]) ∧ ∃ p,w' = more w p:=by
 obtain ⟨t1,t2⟩:=g.twice_d h
 exact tlTBlend0
theorem tlTBlend1 {p:Prop} (h:p:=by
  have H:=hd_ @(fun w => hard_no g hV t2 w)
  clear hV
  obtain ⟨s0,sa,a1,d0,db,b1,e1,e2,e3,e4,p0,p1,p2,p3,p4,p5,p6⟩:=g
  clear e1 e2 e3 e4
  go_enter Tryz.func126,Tryz.ntmps126
  go_wp2_with (first | (go_at_call 138; (with_reducible refine (fraction_call _ _ _).mono ?_); rintro e w' ⟨rfl,rfl⟩) | (go_at_call 139; (with_reducible refine (H.out _).mono ?_); rintro e w' ⟨rfl,rfl⟩))
  exact bodyPost_ret (v:=.agg #[.int .u64 (0),.int .u64 (ab - V),.int .u64 (0),.int .u64 (0),.int .u64 (1)]) (by simp [results,Tryz.results126,go_sem]) rfl ⟨rfl,⟨[_,_],0⟩,rfl⟩):p:=h
set_option maxHeartbeats 1000000 in
theorem term_4n {s a d b sd sb da ab:Int} (g:Grid s a d b sd sb da ab) (h:b < 2 * d) (w:World):Calls Tryz.prog 126 #[.int .i64 4,.int .u64 (s),.int .u64 (a),.int .u64 (d),.int .u64 (b)] w fun e w' => e = .returned (.agg #[.int .u64 (0),.int .u64 (ab - 2 * (ab - da - sb + sd)),.int .u64 (0),.int .u64 (0),.int .u64 (1)]) ∧ ∃ p,w' = more w p:=by
 obtain ⟨V,hV⟩:∃ V,2 * (ab - da - sb + sd) = V:=⟨_,rfl⟩
 have t2:=g.rest_d h
 rw [hV] at t2 ⊢
 have hd:decide (2 * d ≤ b) = false:=decide_eq_false (by omega)
 exact tlTBlend1
set_option maxHeartbeats 1000000 in
theorem term_9y {s a d b sd sb da ab:Int} (g:Grid s a d b sd sb da ab) (h:2 * s ≤ a) (w:World):Calls Tryz.prog 126 #[.int .i64 9,.int .u64 (s),.int .u64 (a),.int .u64 (d),.int .u64 (b)] w fun e w' => e = .returned (.agg #[.int .u64 (0),.int .u64 (2 * sd),.int .u64 (0),.int .u64 (0),.int .u64 (1)]) ∧ ∃ p,w' = more w p:=by
 obtain ⟨t1,t2⟩:=g.twice_s h
 exact tlTBlend0
set_option maxHeartbeats 1000000 in
theorem term_9n {s a d b sd sb da ab:Int} (g:Grid s a d b sd sb da ab) (h:a < 2 * s) (w:World):Calls Tryz.prog 126 #[.int .i64 9,.int .u64 (s),.int .u64 (a),.int .u64 (d),.int .u64 (b)] w fun e w' => e = .returned (.agg #[.int .u64 (0),.int .u64 (ab - 2 * (ab - da - sb + sd)),.int .u64 (0),.int .u64 (0),.int .u64 (1)]) ∧ ∃ p,w' = more w p:=by
 obtain ⟨V,hV⟩:∃ V,2 * (ab - da - sb + sd) = V:=⟨_,rfl⟩
 have t2:=g.rest_s h
 rw [hV] at t2 ⊢
 have hd:decide (2 * s ≤ a) = false:=decide_eq_false (by omega)
 exact tlTBlend1
set_option maxHeartbeats 1000000 in
theorem term_5 {s a d b sd sb da ab:Int} (g:Grid s a d b sd sb da ab) (w:World):Calls Tryz.prog 126 #[.int .i64 5,.int .u64 (s),.int .u64 (a),.int .u64 (d),.int .u64 (b)] w fun e w' => e = .returned (.agg #[.int .u64 (0),.int .u64 (min sb da),.int .u64 (0),.int .u64 (0),.int .u64 (1)]) ∧ ∃ p,w' = more w p:=by
 obtain ⟨s0,sa,a1,d0,db,b1,e1,e2,e3,e4,p0,p1,p2,p3,p4,p5,p6⟩:=g
 have w2:=wr e2 (by omega) (by omega)
 have w3:=wr e3 (by omega) (by omega)
 clear e1 e2 e3 e4
 go_enter Tryz.func126,Tryz.ntmps126
 go_wp2_with (first | (go_at_call 138; (with_reducible refine (fraction_call _ _ _).mono ?_); rintro e w' ⟨rfl,rfl⟩))
 exact bodyPost_ret (v:=.agg #[.int .u64 (0),.int .u64 (min sb da),.int .u64 (0),.int .u64 (0),.int .u64 (1)]) (by simp [results,Tryz.results126,go_sem]) rfl ⟨rfl,⟨[_,_],0⟩,rfl⟩
set_option maxHeartbeats 1000000 in
theorem term_6 {s a d b sd sb da ab:Int} (g:Grid s a d b sd sb da ab) (w:World):Calls Tryz.prog 126 #[.int .i64 6,.int .u64 (s),.int .u64 (a),.int .u64 (d),.int .u64 (b)] w fun e w' => e = .returned (.agg #[.int .u64 (0),.int .u64 (max sb da),.int .u64 (0),.int .u64 (0),.int .u64 (1)]) ∧ ∃ p,w' = more w p:=by
 obtain ⟨s0,sa,a1,d0,db,b1,e1,e2,e3,e4,p0,p1,p2,p3,p4,p5,p6⟩:=g
 have w2:=wr e2 (by omega) (by omega)
 have w3:=wr e3 (by omega) (by omega)
 clear e1 e2 e3 e4
 go_enter Tryz.func126,Tryz.ntmps126
 go_wp2_with (first | (go_at_call 138; (with_reducible refine (fraction_call _ _ _).mono ?_); rintro e w' ⟨rfl,rfl⟩))
 exact bodyPost_ret (v:=.agg #[.int .u64 (0),.int .u64 (max sb da),.int .u64 (0),.int .u64 (0),.int .u64 (1)]) (by simp [results,Tryz.results126,go_sem]) rfl ⟨rfl,⟨[_,_],0⟩,rfl⟩
set_option maxHeartbeats 1000000 in
theorem term_11 {s a d b sd sb da ab:Int} (g:Grid s a d b sd sb da ab) (w:World):Calls Tryz.prog 126 #[.int .i64 11,.int .u64 (s),.int .u64 (a),.int .u64 (d),.int .u64 (b)] w fun e w' => e = .returned (.agg #[.int .u64 (0),.int .u64 (max sb da - min sb da),.int .u64 (0),.int .u64 (0),.int .u64 (1)]) ∧ ∃ p,w' = more w p:=by
 obtain ⟨s0,sa,a1,d0,db,b1,e1,e2,e3,e4,p0,p1,p2,p3,p4,p5,p6⟩:=g
 have w2:=wr e2 (by omega) (by omega)
 have w3:=wr e3 (by omega) (by omega)
 clear e1 e2 e3 e4
 go_enter Tryz.func126,Tryz.ntmps126
 go_wp2_with (first | (go_at_call 138; (with_reducible refine (fraction_call _ _ _).mono ?_); rintro e w' ⟨rfl,rfl⟩))
 exact bodyPost_ret (v:=.agg #[.int .u64 (0),.int .u64 (max sb da - min sb da),.int .u64 (0),.int .u64 (0),.int .u64 (1)]) (by simp [results,Tryz.results126,go_sem]) rfl ⟨rfl,⟨[_,_],0⟩,rfl⟩
set_option maxHeartbeats 1000000 in
theorem term_12 {s a d b sd sb da ab:Int} (g:Grid s a d b sd sb da ab) (w:World):Calls Tryz.prog 126 #[.int .i64 12,.int .u64 (s),.int .u64 (a),.int .u64 (d),.int .u64 (b)] w fun e w' => e = .returned (.agg #[.int .u64 (0),.int .u64 (sb + da - 2 * sd),.int .u64 (0),.int .u64 (0),.int .u64 (1)]) ∧ ∃ p,w' = more w p:=by
 obtain ⟨s0,sa,a1,d0,db,b1,e1,e2,e3,e4,p0,p1,p2,p3,p4,p5,p6⟩:=g
 have w2:=wr e2 (by omega) (by omega)
 have w3:=wr e3 (by omega) (by omega)
 have w1:IntKind.u64.wrap (2 * s * d) = 2 * sd:=wr (by rw [Int.mul_assoc,e1]) (by omega) (by omega)
 clear e1 e2 e3 e4
 go_enter Tryz.func126,Tryz.ntmps126
 go_wp2_with (first | (go_at_call 138; (with_reducible refine (fraction_call _ _ _).mono ?_); rintro e w' ⟨rfl,rfl⟩))
 exact bodyPost_ret (v:=.agg #[.int .u64 (0),.int .u64 (sb + da - 2 * sd),.int .u64 (0),.int .u64 (0),.int .u64 (1)]) (by simp [results,Tryz.results126,go_sem]) rfl ⟨rfl,⟨[_,_],0⟩,rfl⟩
theorem tlTBlend2 {p:Prop} (h:p:=by
  exact bodyPost_ret (v:=.agg #[.int .u64 (0),.int .u64 (P),.int .u64 (Q),.int .u64 (R),.int .u64 (D)]) (by simp [results,Tryz.results126,go_sem, *]) rfl ⟨rfl,(((((HE.out.mored p).setCell (by omega) _).setCell (by omega) _).setCell (by omega) _).setCell (by omega) _).setCell (by omega) _⟩):p:=h
set_option maxHeartbeats 1000000 in
theorem term_7 (s a d b P Q R D:Int) (c:∀ w,Calls Tryz.prog 140 #[.int .u64 (s),.int .u64 (a),.int .u64 (d),.int .u64 (b)] w fun e w' => e = .returned (.agg #[.int .u64 (0),.int .u64 (P),.int .u64 (Q),.int .u64 (R),.int .u64 (D)]) ∧ ∃ p,w' = more w p) (w:World):Calls Tryz.prog 126 #[.int .i64 7,.int .u64 (s),.int .u64 (a),.int .u64 (d),.int .u64 (b)] w fun e w' => e = .returned (.agg #[.int .u64 (0),.int .u64 (P),.int .u64 (Q),.int .u64 (R),.int .u64 (D)]) ∧ ∃ p,w' = more w p:=by
 have C:=hd_ @c
 have hE:Ext w (w.alloc (exO 0 0 0 0 0)):=⟨⟨[_],0⟩,rfl⟩
 clear c
 go_enter Tryz.func126,Tryz.ntmps126
 go_upto_region 1 with fail
 refine at_world (fun W => Ext w W ∧ W.heap[w.heap.size]? = some (exO 0 0 0 0 0)) ⟨hE,at_new rfl⟩ ?_
 clear hE
 rintro W ⟨hE,b1⟩
 obtain ⟨z0,z1,z2,z3,z4,z5⟩:=cells5_of b1
 have f0:=froz_cells (i:=0) b1
 have f1:=froz_cells (i:=1) b1
 have f2:=froz_cells (i:=2) b1
 have f3:=froz_cells (i:=3) b1
 have f4:=froz_cells (i:=4) b1
 have HE:=hd_ hE
 clear hE b1
 have hmc:=more_cell
 have hmf:=more_frozen
 go_wp2_with (go_at_call 140; (with_reducible refine (C.out _).mono ?_); rintro e w' ⟨rfl,p,rfl⟩)
 exact tlTBlend2
set_option maxHeartbeats 1000000 in
theorem term_8 (s a d b P Q R D:Int) (c:∀ w,Calls Tryz.prog 141 #[.int .u64 (s),.int .u64 (a),.int .u64 (d),.int .u64 (b)] w fun e w' => e = .returned (.agg #[.int .u64 (0),.int .u64 (P),.int .u64 (Q),.int .u64 (R),.int .u64 (D)]) ∧ ∃ p,w' = more w p) (w:World):Calls Tryz.prog 126 #[.int .i64 8,.int .u64 (s),.int .u64 (a),.int .u64 (d),.int .u64 (b)] w fun e w' => e = .returned (.agg #[.int .u64 (0),.int .u64 (P),.int .u64 (Q),.int .u64 (R),.int .u64 (D)]) ∧ ∃ p,w' = more w p:=by
 have C:=hd_ @c
 have hE:Ext w (w.alloc (exO 0 0 0 0 0)):=⟨⟨[_],0⟩,rfl⟩
 clear c
 go_enter Tryz.func126,Tryz.ntmps126
 go_upto_region 1 with fail
 refine at_world (fun W => Ext w W ∧ W.heap[w.heap.size]? = some (exO 0 0 0 0 0)) ⟨hE,at_new rfl⟩ ?_
 clear hE
 rintro W ⟨hE,b1⟩
 obtain ⟨z0,z1,z2,z3,z4,z5⟩:=cells5_of b1
 have f0:=froz_cells (i:=0) b1
 have f1:=froz_cells (i:=1) b1
 have f2:=froz_cells (i:=2) b1
 have f3:=froz_cells (i:=3) b1
 have f4:=froz_cells (i:=4) b1
 have HE:=hd_ hE
 clear hE b1
 have hmc:=more_cell
 have hmf:=more_frozen
 go_wp2_with (go_at_call 141; (with_reducible refine (C.out _).mono ?_); rintro e w' ⟨rfl,p,rfl⟩)
 exact tlTBlend2
set_option maxHeartbeats 1000000 in
theorem term_10 (s a d b P Q R D:Int) (c:∀ w,Calls Tryz.prog 142 #[.int .u64 (s),.int .u64 (a),.int .u64 (d),.int .u64 (b)] w fun e w' => e = .returned (.agg #[.int .u64 (0),.int .u64 (P),.int .u64 (Q),.int .u64 (R),.int .u64 (D)]) ∧ ∃ p,w' = more w p) (w:World):Calls Tryz.prog 126 #[.int .i64 10,.int .u64 (s),.int .u64 (a),.int .u64 (d),.int .u64 (b)] w fun e w' => e = .returned (.agg #[.int .u64 (0),.int .u64 (P),.int .u64 (Q),.int .u64 (R),.int .u64 (D)]) ∧ ∃ p,w' = more w p:=by
 have C:=hd_ @c
 have hE:Ext w (w.alloc (exO 0 0 0 0 0)):=⟨⟨[_],0⟩,rfl⟩
 clear c
 go_enter Tryz.func126,Tryz.ntmps126
 go_upto_region 1 with fail
 refine at_world (fun W => Ext w W ∧ W.heap[w.heap.size]? = some (exO 0 0 0 0 0)) ⟨hE,at_new rfl⟩ ?_
 clear hE
 rintro W ⟨hE,b1⟩
 obtain ⟨z0,z1,z2,z3,z4,z5⟩:=cells5_of b1
 have f0:=froz_cells (i:=0) b1
 have f1:=froz_cells (i:=1) b1
 have f2:=froz_cells (i:=2) b1
 have f3:=froz_cells (i:=3) b1
 have f4:=froz_cells (i:=4) b1
 have HE:=hd_ hE
 clear hE b1
 have hmc:=more_cell
 have hmf:=more_frozen
 go_wp2_with (go_at_call 142; (with_reducible refine (C.out _).mono ?_); rintro e w' ⟨rfl,p,rfl⟩)
 exact tlTBlend2
theorem valid_mode (k:Int) (h0:1 ≤ k) (h1:k ≤ 12) (w:World):Calls Tryz.prog 83 #[.int .i64 k] w fun e w' => e = .returned (.bool true) ∧ w = w':=by
 go_enter Tryz.func83,Tryz.ntmps83
 go_wp2
 go_ret
 exact ⟨rfl,rfl⟩
theorem term_ex {s a d b sd sb da ab:Int} (g:Grid s a d b sd sb da ab) (k:Int) (h0:1 ≤ k) (h1:k ≤ 12):∃ P Q R D,TermOk a b P Q R D ∧ (k = 1 → P = s * b ∧ Q = 0 ∧ R = 0 ∧ D = 1) ∧ ∀ w,Calls Tryz.prog 126 #[.int .i64 k,.int .u64 (s),.int .u64 (a),.int .u64 (d),.int .u64 (b)] w fun e w' => e = .returned (.agg #[.int .u64 (0),.int .u64 (P),.int .u64 (Q),.int .u64 (R),.int .u64 (D)]) ∧ ∃ p,w' = more w p:=by
 have p0:=g.p0
 have p1:=g.p1
 have p2:=g.p2
 have p3:=g.p3
 have p4:=g.p4
 have p5:=g.p5
 have e2:=g.e2
 have e4:=g.e4
 have hk:k = 1 ∨ k = 2 ∨ k = 3 ∨ k = 4 ∨ k = 5 ∨ k = 6 ∨ k = 7 ∨ k = 8 ∨ k = 9 ∨ k = 10 ∨ k = 11 ∨ k = 12:=by omega
 rcases hk with rfl | rfl | rfl | rfl | rfl | rfl | rfl | rfl | rfl | rfl | rfl | rfl
 ·exact ⟨_,_,_,_,.one (P:=sb) (by omega) (by omega),fun _ => ⟨e2.symm,rfl,rfl,rfl⟩,fun w => term_1 g w⟩
 ·exact ⟨_,_,_,_,.one (P:=sd) (by omega) (by omega),fun h => absurd h (by decide),fun w => term_2 g w⟩
 ·exact ⟨_,_,_,_,.one (P:=sb + da - sd) (by omega) (by omega),fun h => absurd h (by decide),fun w => term_3 g w⟩
 ·by_cases h:2 * d ≤ b
  ·have t:=(g.twice_d h).2
   exact ⟨_,_,_,_,.one (P:=2 * sd) (by omega) (by omega),fun h => absurd h (by decide),fun w => term_4y g h w⟩
  ·have t:=g.rest_d (by omega)
   exact ⟨_,_,_,_,.one (P:=ab - 2 * (ab - da - sb + sd)) (by omega) (by omega),fun h => absurd h (by decide),fun w => term_4n g (by omega) w⟩
 ·exact ⟨_,_,_,_,.one (P:=min sb da) (by omega) (by omega),fun h => absurd h (by decide),fun w => term_5 g w⟩
 ·exact ⟨_,_,_,_,.one (P:=max sb da) (by omega) (by omega),fun h => absurd h (by decide),fun w => term_6 g w⟩
 ·obtain ⟨P,Q,R,D,t,c⟩:=dodge_ex g
  exact ⟨P,Q,R,D,t,fun h => absurd h (by decide),fun w => term_7 s a d b P Q R D c w⟩
 ·obtain ⟨P,Q,R,D,t,c⟩:=burn_ex g
  exact ⟨P,Q,R,D,t,fun h => absurd h (by decide),fun w => term_8 s a d b P Q R D c w⟩
 ·by_cases h:2 * s ≤ a
  ·have t:=(g.twice_s h).2
   exact ⟨_,_,_,_,.one (P:=2 * sd) (by omega) (by omega),fun h => absurd h (by decide),fun w => term_9y g h w⟩
  ·have t:=g.rest_s (by omega)
   exact ⟨_,_,_,_,.one (P:=ab - 2 * (ab - da - sb + sd)) (by omega) (by omega),fun h => absurd h (by decide),fun w => term_9n g (by omega) w⟩
 ·obtain ⟨P,Q,R,D,t,c⟩:=soft_ex g
  exact ⟨P,Q,R,D,t,fun h => absurd h (by decide),fun w => term_10 s a d b P Q R D c w⟩
 ·exact ⟨_,_,_,_,.one (P:=max sb da - min sb da) (by omega) (by omega),fun h => absurd h (by decide),fun w => term_11 g w⟩
 ·exact ⟨_,_,_,_,.one (P:=sb + da - 2 * sd) (by omega) (by omega),fun h => absurd h (by decide),fun w => term_12 g w⟩
set_option maxHeartbeats 1000000 in
theorem exact_ex {s a d b k:Int} (k0:1 ≤ k) (k1:k ≤ 12) (s0:0 ≤ s) (sa:s ≤ a) (a1:a ≤ 65535) (d0:0 ≤ d) (db:d ≤ b) (b1:b ≤ 65535) :
  ∃ P Q R D,TermOk a b P Q R D ∧ (k = 1 → P = s * b ∧ Q = 0 ∧ R = 0 ∧ D = 1) ∧ ∀ w,Calls Tryz.prog 118 #[.int .i64 k,.int .u16 s,.int .u16 a,.int .u16 d,.int .u16 b] w fun e w' => e = .returned (.tuple #[.agg #[.int .u64 (0),.int .u64 (P),.int .u64 (Q),.int .u64 (R),.int .u64 (D)],.bool true]) ∧ ∃ p,w' = more w p:=by
 obtain ⟨sd,sb,da,ab,g⟩:=grid s0 sa a1 d0 db b1
 obtain ⟨P,Q,R,D,t,e,c⟩:=term_ex g k k0 k1
 refine ⟨P,Q,R,D,t,e,fun w => ?_⟩
 have C:=hd_ @c
 have V:=hd_ @(fun w => valid_mode k k0 k1 w)
 have hE:Ext w (w.alloc (exO 0 0 0 0 0)):=⟨⟨[_],0⟩,rfl⟩
 clear c t e g
 go_enter Tryz.func118,Tryz.ntmps118
 go_upto_region 1 with fail
 refine at_world (fun W => Ext w W ∧ W.heap[w.heap.size]? = some (exO 0 0 0 0 0)) ⟨hE,at_new rfl⟩ ?_
 clear hE
 rintro W ⟨hE,b1⟩
 obtain ⟨z0,z1,z2,z3,z4,z5⟩:=cells5_of b1
 have f0:=froz_cells (i:=0) b1
 have f1:=froz_cells (i:=1) b1
 have f2:=froz_cells (i:=2) b1
 have f3:=froz_cells (i:=3) b1
 have f4:=froz_cells (i:=4) b1
 have HE:=hd_ hE
 clear hE b1
 have hmc:=more_cell
 have hmf:=more_frozen
 go_wp2_with (first | (go_at_call 83; (with_reducible refine (V.out _).mono ?_); rintro e w' ⟨rfl,rfl⟩) | (go_at_call 126; (with_reducible refine (C.out _).mono ?_); rintro e w' ⟨rfl,p,rfl⟩))
 exact bodyPost_ret (v:=.tuple #[.agg #[.int .u64 (0),.int .u64 (P),.int .u64 (Q),.int .u64 (R),.int .u64 (D)],.bool true]) (by simp [results,Tryz.results118,go_sem, *]) rfl ⟨rfl,(((((HE.out.mored p).setCell (by omega) _).setCell (by omega) _).setCell (by omega) _).setCell (by omega) _).setCell (by omega) _⟩
theorem isq_le {S β:Int} (S0:0 ≤ S) (S1:S < 340282366920938463463374607431768211456) (b0:0 ≤ β) (h:S ≤ β * β):0 ≤ isq S ∧ isq S ≤ β:=by
 have R:=isq_spec S0 S1
 refine ⟨R.r0,?_⟩
 apply Int.not_lt.1
 intro c
 have h1:(β + 1) * (β + 1) ≤ isq S * isq S:=Int.mul_le_mul c c (by omega) (by have:=R.r0; omega)
 have h2:=R.lo
 rw [Int.add_mul,Int.mul_add] at h1
 omega
theorem halfX_le {P Q R DD β N m E:Int} (P0:0 ≤ P) (Q0:0 ≤ Q) (R0:0 ≤ R) (S1:Q * Q * R < 340282366920938463463374607431768211456) (b0:0 ≤ β) (hR:R ≤ β * β) (m1:1 ≤ m) (E1:1 ≤ E) (hD:DD = m * E) (h:P + Q * β ≤ N * E) :
  0 ≤ floX P Q R DD ∧ floX P Q R DD ≤ halfI N m ∧ 0 ≤ halfX P Q R DD ∧ halfX P Q R DD ≤ halfI N m:=by
 have S0:0 ≤ Q * Q * R:=Int.mul_nonneg (Int.mul_nonneg Q0 Q0) R0
 have S2:Q * Q * R ≤ Q * β * (Q * β):=by
  have e:Q * β * (Q * β) = Q * Q * (β * β):=by rw [Int.mul_assoc,Int.mul_left_comm β Q β,← Int.mul_assoc]
  rw [e]; exact Int.mul_le_mul_of_nonneg_left hR (Int.mul_nonneg Q0 Q0)
 have qb0:0 ≤ Q * β:=Int.mul_nonneg Q0 b0
 obtain ⟨i0,i1⟩:=isq_le S0 S1 qb0 S2
 obtain ⟨A,hA⟩:∃ A,halfI N m = A:=⟨_,rfl⟩
 have hs:=(half_spec N m m1).2
 rw [hA] at hs ⊢
 have D1:1 ≤ DD:=by rw [hD]; exact Int.mul_le_mul (a:=1) (b:=1) m1 E1 (by decide) (by omega)
 -- 2 (P + Q β) < (2 A + 1) DD
 have key:2 * (P + Q * β) < (2 * A + 1) * DD:=by
  have h1:2 * N + 1 ≤ (2 * A + 1) * m:=by rw [Int.add_mul,Int.mul_assoc]; omega
  have h2:=Int.mul_le_mul_of_nonneg_right h1 (show 0 ≤ E by omega)
  rw [Int.add_mul,Int.one_mul,Int.mul_assoc 2 N E,Int.mul_assoc (2 * A + 1),← hD] at h2
  omega
 unfold halfX
 obtain ⟨f,hf⟩:∃ f,floX P Q R DD = f:=⟨_,rfl⟩
 rw [hf]
 unfold floX at hf
 have f0:0 ≤ f:=by rw [← hf]; exact Int.ediv_nonneg (by omega) (by omega)
 have f1:f ≤ A:=by
  have h3:f < A + 1:=by
   rw [← hf]
   refine Int.ediv_lt_of_lt_mul (by omega) ?_
   have e1:(A + 1) * DD = A * DD + DD:=by rw [Int.add_mul,Int.one_mul]
   have e2:(2 * A + 1) * DD = 2 * (A * DD) + DD:=by rw [Int.add_mul,Int.one_mul,Int.mul_assoc]
   omega
  omega
 have up:f = A → upB P Q R DD f = false:=by
  intro e
  rw [e]
  unfold upB
  obtain ⟨K,hK⟩:∃ K,(2 * A + 1) * DD - 2 * P = K:=⟨_,rfl⟩
  have K0:2 * (Q * β) < K:=by omega
  rw [if_neg (by omega),hK]
  split
  ·rfl
  ·split
   ·apply decide_eq_false
    have h4:(Q * β + 1) * (Q * β + 1) ≤ K / 2 * (K / 2):=Int.mul_le_mul (by omega) (by omega) (by omega) (by omega)
    rw [Int.add_mul,Int.mul_add] at h4
    omega
   ·apply decide_eq_false
    have h4:Q * β * (Q * β) ≤ K / 2 * (K / 2):=Int.mul_le_mul (by omega) (by omega) (by omega) (by omega)
    omega
 refine ⟨f0,f1,by split <;> omega,?_⟩
 split
 ·rename_i hu
  by_cases e:f = A
  ·rw [up e] at hu; cases hu
  ·omega
 ·exact f1
theorem isq_zero:isq 0 = 0:=by
 have h:=isq_le (S:=0) (β:=0) (by omega) (by omega) (by omega) (by omega)
 omega
theorem upB_plain {P R D:Int} (D1:1 ≤ D):upB P 0 R D (P / D) = decide (D - P % D ≤ P % D):=by
 unfold upB
 rw [Int.mul_zero,Int.zero_mul]
 have e:=Int.mul_ediv_add_emod P D
 have r0:=Int.emod_nonneg P (b:=D) (by omega)
 have r1:=Int.emod_lt_of_pos P (b:=D) (by omega)
 obtain ⟨f,hf⟩:∃ f,P / D = f:=⟨_,rfl⟩
 rw [hf] at e ⊢
 have e1:(2 * f + 1) * D = 2 * (D * f) + D:=by rw [Int.add_mul,Int.one_mul,Int.mul_assoc,Int.mul_comm f D]
 obtain ⟨K,hK⟩:∃ K,(2 * f + 1) * D - 2 * P = K:=⟨_,rfl⟩
 have eK:K = D - 2 * (P % D):=by omega
 by_cases h:D - P % D ≤ P % D
 ·rw [decide_eq_true h,hK]
  by_cases h2:K < 0
  ·rw [if_pos (by omega)]
  ·rw [if_neg (by omega),if_neg (by omega)]
   obtain rfl:K = 0:=by omega
   rfl
 ·rw [decide_eq_false h,hK,if_neg (by omega)]
  split
  ·rfl
  ·have K1:1 ≤ K:=by omega
   have q0:0 ≤ K / 2 * (K / 2):=sqn _
   split
   ·apply decide_eq_false
    have:1 ≤ K / 2 * (K / 2):=Int.mul_le_mul (a:=1) (b:=1) (by omega) (by omega) (by decide) (by omega)
    omega
   ·apply decide_eq_false
    omega
theorem halfX_plain {P R D:Int} (D1:1 ≤ D):halfX P 0 R D = halfI P D:=by
 have e:floX P 0 R D = P / D:=by unfold floX; rw [Int.mul_zero,Int.zero_mul,isq_zero,Int.add_zero]
 unfold halfX
 rw [e,upB_plain D1]
 unfold halfI
 have hD:¬ D = 0:=by omega
 simp only [decide_eq_true_eq,hD,if_false]
theorem mix_bound {m s a d b fa fb P Q R D:Int} (t:TermOk a b P Q R D) (m1:1 ≤ m) (m2:m ≤ 65535) (s0:0 ≤ s) (sa:s ≤ a) (am:a ≤ m) (d0:0 ≤ d) (db:d ≤ b) (bm:b ≤ m) (fa0:0 ≤ fa) (fam:fa ≤ m) (fb0:0 ≤ fb) (fbm:fb ≤ m) :
  ∃ x y M:Int,(m - b) * s * D + P = x ∧ d * m * D = y ∧ m * m * D = M ∧ 0 ≤ (m - b) * s ∧ (m - b) * s ≤ 4294836225 ∧ 0 ≤ (m - b) * s * D ∧ 0 ≤ d * m ∧ d * m ≤ 4294836225 ∧ 0 ≤ x ∧ x ≤ M ∧ 0 ≤ y ∧ y ≤ M ∧ 1 ≤ M ∧ M ≤ 18445618199572250625 ∧
   0 ≤ x * fa ∧ x * fa ≤ M * 65535 ∧ 0 ≤ y * fb ∧ y * fb ≤ M * 65535 ∧ 0 ≤ fa * Q ∧ fa * Q ≤ 4294836225 ∧ R ≤ 4294836225 ∧ m * m ≤ 4294836225 ∧ 0 ≤ m * m ∧
   x * fa + y * fb + fa * Q * b ≤ (fa * a + fb * b) * (m * D) ∧ M = m * (m * D) ∧ 1 ≤ m * D:=by
 obtain ⟨P0,Q0,Q1,R0,R1,D0,D1,le⟩:=t
 have ms0:0 ≤ (m - b) * s:=Int.mul_nonneg (by omega) s0
 have ms1:(m - b) * s ≤ 65535 * 65535:=Int.mul_le_mul (by omega) (by omega) s0 (by decide)
 have dm0:0 ≤ d * m:=Int.mul_nonneg d0 (by omega)
 have dm1:d * m ≤ 65535 * 65535:=Int.mul_le_mul (by omega) m2 (by omega) (by decide)
 have mm0:1 ≤ m * m:=Int.mul_le_mul (a:=1) (b:=1) m1 m1 (by decide) (by omega)
 have mm1:m * m ≤ 65535 * 65535:=Int.mul_le_mul m2 m2 (by omega) (by decide)
 have M0:1 ≤ m * m * D:=Int.mul_le_mul (a:=1) (b:=1) mm0 D0 (by decide) (by omega)
 have M1:m * m * D ≤ 4294836225 * 4294836225:=Int.mul_le_mul (by omega) D1 (by omega) (by decide)
 have D2:1 ≤ m * D:=Int.mul_le_mul (a:=1) (b:=1) m1 D0 (by decide) (by omega)
 have msD:0 ≤ (m - b) * s * D:=Int.mul_nonneg ms0 (by omega)
 have Qb0:0 ≤ Q * b:=Int.mul_nonneg Q0 (by omega)
 -- x + Q b ≤ m a D
 have h1:(m - b) * s * D ≤ (m - b) * a * D:=Int.mul_le_mul_of_nonneg_right (Int.mul_le_mul_of_nonneg_left sa (by omega)) (by omega)
 have h2:(m - b) * a * D = m * a * D - a * b * D:=by rw [Int.sub_mul,Int.sub_mul,Int.mul_comm b a]
 have h3:(m - b) * s * D + P + Q * b ≤ m * a * D:=by omega
 have h4:m * a * D ≤ m * m * D:=Int.mul_le_mul_of_nonneg_right (Int.mul_le_mul_of_nonneg_left am (by omega)) (by omega)
 have h5:d * m * D ≤ m * m * D:=Int.mul_le_mul_of_nonneg_right (Int.mul_le_mul_of_nonneg_right (by omega) (by omega)) (by omega)
 have x0:0 ≤ (m - b) * s * D + P:=by omega
 have y0:0 ≤ d * m * D:=Int.mul_nonneg dm0 (by omega)
 obtain ⟨x,hx⟩:∃ x,(m - b) * s * D + P = x:=⟨_,rfl⟩
 obtain ⟨y,hy⟩:∃ y,d * m * D = y:=⟨_,rfl⟩
 obtain ⟨M,hM⟩:∃ M,m * m * D = M:=⟨_,rfl⟩
 rw [hx] at h3 x0
 rw [hy] at h5 y0
 have R2:b * b ≤ 65535 * 65535:=Int.mul_le_mul (by omega) (by omega) (by omega) (by decide)
 have k1:x * fa ≤ M * 65535:=Int.mul_le_mul (by omega) (by omega) fa0 (by omega)
 have k2:y * fb ≤ M * 65535:=Int.mul_le_mul (by omega) (by omega) fb0 (by omega)
 have k3:fa * Q ≤ 65535 * 65535:=Int.mul_le_mul (by omega) Q1 Q0 (by decide)
 have k4:fa * (x + Q * b) ≤ fa * (m * a * D):=Int.mul_le_mul_of_nonneg_left (by omega) fa0
 have k5:y * fb ≤ b * m * D * fb:=by
  rw [← hy]
  exact Int.mul_le_mul_of_nonneg_right (Int.mul_le_mul_of_nonneg_right (Int.mul_le_mul_of_nonneg_right db (by omega)) (by omega)) fb0
 have e1:fa * (x + Q * b) = x * fa + fa * Q * b:=by rw [Int.mul_add,Int.mul_comm fa x,Int.mul_assoc]
 have e2:fa * (m * a * D) = fa * a * (m * D):=by rw [Int.mul_comm m a,Int.mul_assoc,← Int.mul_assoc]
 have e3:b * m * D * fb = fb * b * (m * D):=by rw [Int.mul_assoc b m D,Int.mul_comm,← Int.mul_assoc]
 have e4:(fa * a + fb * b) * (m * D) = fa * a * (m * D) + fb * b * (m * D):=Int.add_mul _ _ _
 refine ⟨x,y,M,hx,hy,hM,ms0,by omega,msD,dm0,by omega,x0,by omega,y0,by omega,by omega,by omega,Int.mul_nonneg x0 fa0,k1,Int.mul_nonneg y0 fb0,k2,Int.mul_nonneg fa0 Q0,by omega,by omega,by omega,by omega,?_,?_,D2⟩
 ·omega
 ·rw [← hM,Int.mul_assoc]
end Go.Proofs.YtepfoelgegljbaaGreatDoor
