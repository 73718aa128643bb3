/- Part A14. -/
import Derived.Test.YtepfoelgegljbaaGreatDoorA13
namespace Go.Proofs.YtepfoelgegljbaaGreatDoor
set_option maxRecDepth 100000
open Go.RowKit
set_option linter.unusedVariables false
set_option maxHeartbeats 1000000 in
theorem ksum_call (a b c d e f:Int) (a0:0 ≤ a) (a1:a ≤ 65535) (b0:0 ≤ b) (b1:b ≤ 65535) (c0:0 ≤ c) (c1:c ≤ 65535) (d0:0 ≤ d) (d1:d ≤ 65535) (e0:0 ≤ e) (e1:e ≤ 65535) (f0:0 ≤ f) (f1:f ≤ 65535) (w:World) :
  Calls Tryz.prog 122 #[.int .u16 (a),.int .u16 (b),.int .u16 (c),.int .u16 (d),.int .u16 (e),.int .u16 (f)] w fun x w' => x = .returned (.int .u64 (a * b + c * d + e * f)) ∧ w = w':=by
 obtain ⟨p0,p1⟩:=mul_bound a b 65535 65535 a0 b0 a1 b1
 obtain ⟨q0,q1⟩:=mul_bound c d 65535 65535 c0 d0 c1 d1
 obtain ⟨r0,r1⟩:=mul_bound e f 65535 65535 e0 f0 e1 f1
 obtain ⟨A,hA⟩:∃ A,a * b = A:=⟨_,rfl⟩
 obtain ⟨B,hB⟩:∃ B,c * d = B:=⟨_,rfl⟩
 obtain ⟨C,hC⟩:∃ C,e * f = C:=⟨_,rfl⟩
 rw [hA] at p0 p1 ⊢
 rw [hB] at q0 q1 ⊢
 rw [hC] at r0 r1 ⊢
 have w1:=wr hA (by omega) (by omega)
 have w2:=wr hB (by omega) (by omega)
 have w3:=wr hC (by omega) (by omega)
 clear hA hB hC
 go_enter Tryz.func122,Tryz.ntmps122
 go_wp2
 go_ret
 exact ⟨rfl,rfl⟩
theorem depth_call {m:Int} (hm:m = 255 ∨ m = 65535) (w:World):Calls Tryz.prog 119 #[.int .u16 m] w fun x w' => x = .returned (.bool true) ∧ w = w':=by
 rcases hm with rfl | rfl
 all_goals
  go_enter Tryz.func119,Tryz.ntmps119
  go_wp2
  go_ret
  exact ⟨rfl,rfl⟩
def kalN (m a f c b:Int):Int:=(m - f) * c + (f - a) * b + m * a
def kalI (m a f c b:Int):Int:=halfI (kalN m a f c b) m
theorem kal_bounds {m a f c b:Int} (m1:1 ≤ m) (a0:0 ≤ a) (af:a ≤ f) (fm:f ≤ m) (c0:0 ≤ c) (cm:c ≤ m) (b0:0 ≤ b) (bm:b ≤ m):0 ≤ kalN m a f c b ∧ kalN m a f c b ≤ m * m ∧ 0 ≤ kalI m a f c b ∧ kalI m a f c b ≤ m:=by
 have h1:0 ≤ (m - f) * c:=Int.mul_nonneg (by omega) c0
 have h2:(m - f) * c ≤ (m - f) * m:=Int.mul_le_mul_of_nonneg_left cm (by omega)
 have h3:0 ≤ (f - a) * b:=Int.mul_nonneg (by omega) b0
 have h4:(f - a) * b ≤ (f - a) * m:=Int.mul_le_mul_of_nonneg_left bm (by omega)
 have h5:0 ≤ m * a:=Int.mul_nonneg (by omega) a0
 have e1:(m - f) * m = m * m - f * m:=Int.sub_mul _ _ _
 have e2:(f - a) * m = f * m - a * m:=Int.sub_mul _ _ _
 have e3:a * m = m * a:=Int.mul_comm _ _
 have k:0 ≤ kalN m a f c b ∧ kalN m a f c b ≤ m * m:=by unfold kalN; omega
 exact ⟨k.1,k.2,half_nonneg _ _ k.1 (by omega),half_mul_le _ _ _ m1 k.2⟩
set_option maxHeartbeats 1000000 in
theorem kAlpha_call {m a f c b:Int} (hm:m = 255 ∨ m = 65535) (a0:0 ≤ a) (af:a ≤ f) (fm:f ≤ m) (c0:0 ≤ c) (cm:c ≤ m) (b0:0 ≤ b) (bm:b ≤ m) (w:World) :
  Calls Tryz.prog 112 #[.int .u16 (m),.int .u16 (a),.int .u16 (f),.int .u16 (c),.int .u16 (b)] w fun x w' => x = .returned (.tuple #[.int .u16 (kalI m a f c b),.bool true]) ∧ ∃ p,w' = more w p:=by
 have m2:m ≤ 65535:=by omega
 obtain ⟨k0,k1,k2,k3⟩:=kal_bounds (m:=m) (a:=a) (f:=f) (c:=c) (b:=b) (by omega) a0 af fm c0 cm b0 bm
 have mm:m * m ≤ 65535 * 65535:=Int.mul_le_mul m2 m2 (by omega) (by decide)
 have q1:=fun w => ksum_call (m - f) c (f - a) b m a (by omega) (by omega) c0 (by omega) (by omega) (by omega) b0 (by omega) (by omega) m2 a0 (by omega) w
 have q2:=fun w => half_call (kalN m a f c b) m w k0 (by omega) (by omega) (by omega)
 have q3:=fun w => depth_call hm w
 have e:(m - f) * c + (f - a) * b + m * a = kalN m a f c b:=rfl
 rw [e] at q1
 have e2:halfI (kalN m a f c b) m = kalI m a f c b:=rfl
 rw [e2] at q2
 generalize kalN m a f c b = Nn at *
 generalize kalI m a f c b = V at *
 have M1:=hd_ @q1
 have M2:=hd_ @q2
 have M3:=hd_ @q3
 clear q1 q2 q3 e e2 mm hm
 go_enter Tryz.func112,Tryz.ntmps112
 go_wp2_with (first | (go_at_call 122; (with_reducible refine (M1.out _).mono ?_); rintro e w' ⟨rfl,rfl⟩) | (go_at_call 119; (with_reducible refine (M3.out _).mono ?_); rintro e w' ⟨rfl,rfl⟩) | (go_at_call 103; (with_reducible refine (M2.out _).mono ?_); rintro e w' ⟨rfl,n,rfl⟩))
 go_ret2
 exact ⟨rfl,⟨[],n⟩,rfl⟩
set_option maxHeartbeats 400000 in
theorem kOwn_call {m a f c:Int} (hm:m = 255 ∨ m = 65535) (a0:0 ≤ a) (af:a ≤ f) (fm:f ≤ m) (c0:0 ≤ c) (cm:c ≤ m) (w:World) :
  Calls Tryz.prog 113 #[.int .u16 (m),.int .u16 (a),.int .u16 (f),.int .u16 (c)] w fun x w' => x = .returned (.tuple #[.int .u16 (kalI m a f c 0),.bool true]) ∧ ∃ p,w' = more w p:=by
 have q1:=fun w => kAlpha_call (b:=0) hm a0 af fm c0 cm (by omega) (by omega) w
 have M1:=hd_ @q1
 clear q1 hm
 go_enter Tryz.func113,Tryz.ntmps113
 go_wp2_with (go_at_call 112; (with_reducible refine (M1.out _).mono ?_); rintro e w' ⟨rfl,p,rfl⟩)
 go_ret2
 exact ⟨rfl,p,rfl⟩
set_option maxHeartbeats 4000000 in
theorem kColor_walk {k m s a f c d b P Q R D X PP M V:Int} (hm:m = 255 ∨ m = 65535) (s0:0 ≤ s) (sa:s ≤ a) (af:a ≤ f) (fm:f ≤ m) (c0:0 ≤ c) (cm:c ≤ m) (d0:0 ≤ d) (db:d ≤ b) (bm:b ≤ m) (t:TermOk a b P Q R D)
  (hx:∀ w,Calls Tryz.prog 118 #[.int .i64 k,.int .u16 s,.int .u16 a,.int .u16 d,.int .u16 b] w fun e w' => e = .returned (.tuple #[.agg #[.int .u64 (0),.int .u64 (P),.int .u64 (Q),.int .u64 (R),.int .u64 (D)],.bool true]) ∧ ∃ p,w' = more w p)
  (hX:(m - f) * c + (f - a) * d + (m - b) * s = X) (X0:0 ≤ X) (X1:X ≤ 12884508675) (hP:X * D + P = PP) (P1:P ≤ 18446744073709551615) (hM:m * D = M) (M0:1 ≤ M) (M1':M ≤ 18446744073709551615) (V0:0 ≤ V) (V1:V ≤ 65535)
  (hh:∀ w,Calls Tryz.prog 115 #[.agg #[.int .u64 (PP / 18446744073709551616),.int .u64 (PP % 18446744073709551616),.int .u64 (Q),.int .u64 (R),.int .u64 (M)]] w fun e w' => e = .returned (.tuple #[.int .u64 V,.bool true]) ∧ ∃ p,w' = more w p) (w:World) :
  Calls Tryz.prog 111 #[.int .i64 k,.int .u16 (m),.int .u16 (s),.int .u16 (a),.int .u16 (f),.int .u16 (c),.int .u16 (d),.int .u16 (b)] w fun e w' => e = .returned (.tuple #[.int .u16 V,.bool true]) ∧ ∃ p,w' = more w p:=by
 have m2:m ≤ 65535:=by omega
 obtain ⟨P0,Q0,Q1,R0,R1,D0,D1,le⟩:=t
 have q1:=fun w => ksum_call (m - f) c (f - a) d (m - b) s (by omega) (by omega) c0 (by omega) (by omega) (by omega) d0 (by omega) (by omega) (by omega) s0 (by omega) w
 rw [hX] at q1
 have xd:0 ≤ X * D ∧ X * D ≤ 12884508675 * 4294836225:=mul_bound _ _ _ _ X0 (by omega) X1 D1
 have q2:=fun w => wideMul_call X D w X0 (by omega) (by omega) (by omega)
 obtain ⟨A,hA⟩:∃ A,X * D = A:=⟨_,rfl⟩
 rw [hA] at q2 hP xd
 have q3:=fun w => wideAdd_call (A / 18446744073709551616) (A % 18446744073709551616) 0 P PP (by omega) (by omega) (by omega) P0 (by omega) P1 (by omega) (by omega) w
 have q4:=fun w => depth_call hm w
 have w1:=wr hM (by omega) (by omega)
 have MX:=hd_ @hx
 have MH:=hd_ @hh
 have S1:=hd_ @(fun w => calls_same (q1 w))
 have S2:=hd_ @(fun w => calls_ext1 (q2 w))
 have S3:=hd_ @(fun w => calls_ext3 (q3 w))
 have S4:=hd_ @(fun w => calls_same (q4 w))
 clear hx hh q1 q2 q3 q4 hX hA hP hM xd le R1 hm
 go_enter Tryz.func111,Tryz.ntmps111
 go_upto_region 1 with fail
 refine at_world (fun V => Ext w V) (Ext.refl _) ?_
 rintro wc hE
 have hd0:decide (f < a) = false:=decide_eq_false (by omega)
 have hd1:decide (m < f) = false:=decide_eq_false (by omega)
 have hd2:decide (m < b) = false:=decide_eq_false (by omega)
 have hd3:decide (m < c) = false:=decide_eq_false (by omega)
 go_cut [18,19] (fun s18 s19 Z => ∃ gt:Nat,Ext wc Z ∧ s18 = .pointer (some ⟨gt,0,none⟩) ∧ s19 = .bool true ∧ Z.heap[gt]? = some (.cells #[.int .u64 (0),.int .u64 (P),.int .u64 (Q),.int .u64 (R),.int .u64 (D)] 184))
 case first =>
  go_wp2_with (go_at_call 118; first | ((with_reducible refine (MX.out _).mono ?_); rintro e w' ⟨rfl,q,rfl⟩))
  go_meet
  refine ⟨_,?_,rfl,rfl,?_⟩
  all_goals repeat (first | exact Ext.refl _ | refine Ext.mored ?_ _ | refine Ext.drewN ?_ _ | refine Ext.alloc ?_ _ | (refine at_new ?_; first | rfl | (simp; done)) | refine at_more ?_ | refine at_drew ?_ | refine at_old ?_)
 case rest =>
  obtain ⟨gt,hX,rfl,rfl,et⟩:=hcut
  replace hE:=hE.trans hX
  clear hX
  go_upto_region 2 with fail
  go_cut [58] (fun s58 Z => Ext wc Z ∧ s58 = .bool false)
  case first =>
   go_wp2_with (go_at_call 119; first | ((with_reducible refine (S4.out _).mono ?_); rintro e w' ⟨rfl,q,rfl⟩))
   go_meet
   refine ⟨?_,rfl⟩
   all_goals repeat (first | exact Ext.refl _ | refine Ext.mored ?_ _ | refine Ext.drewN ?_ _ | refine Ext.alloc ?_ _ | (refine at_new ?_; first | rfl | (simp; done)) | refine at_more ?_ | refine at_drew ?_ | refine at_old ?_)
  case rest =>
   obtain ⟨hX,rfl⟩:=hcut
   replace hE:=hE.trans hX
   replace et:=at_ext hX et
   clear hX
   go_upto_region 4 with fail
   go_cut [20,21] (fun s20 s21 Z => ∃ gp:Nat,Ext wc Z ∧ s20 = .pointer (some ⟨gp,0,none⟩) ∧ s21 = .bool true ∧ Z.heap[gp]? = some (.cells #[.int .u64 (PP / 18446744073709551616),.int .u64 (PP % 18446744073709551616)] 182))
   case first =>
    obtain ⟨cts,ct0,ct1,ct2,ct3,ct4⟩:=cells5_of et
    have hmc:=more_cell
    have hmh:=more_heap
    have hmf:=more_frozen
    have hw0:IntKind.u16.wrap (m - f) = m - f:=IntWalk.u16_in _ (by omega)
    have hw1:IntKind.u16.wrap (f - a) = f - a:=IntWalk.u16_in _ (by omega)
    have hw2:IntKind.u16.wrap (m - b) = m - b:=IntWalk.u16_in _ (by omega)
    have qt0:∀ W',Ext wc W' → W'.cell? ⟨gt,0,none⟩ = some (.int .u64 (0)):=fun W' hW => cell_of (at_ext hW et) rfl
    have qt1:∀ W',Ext wc W' → W'.cell? ⟨gt,1,none⟩ = some (.int .u64 (P)):=fun W' hW => cell_of (at_ext hW et) rfl
    have qt2:∀ W',Ext wc W' → W'.cell? ⟨gt,2,none⟩ = some (.int .u64 (Q)):=fun W' hW => cell_of (at_ext hW et) rfl
    have qt3:∀ W',Ext wc W' → W'.cell? ⟨gt,3,none⟩ = some (.int .u64 (R)):=fun W' hW => cell_of (at_ext hW et) rfl
    have qt4:∀ W',Ext wc W' → W'.cell? ⟨gt,4,none⟩ = some (.int .u64 (D)):=fun W' hW => cell_of (at_ext hW et) rfl
    have hms:=more_setCell
    have hlt:∀ (W:World) (p:Extra) (b:Nat),b < W.heap.size → b < (more W p).heap.size:=fun W p b h => by rw [more_size]; omega
    have hlt2:∀ (W:World) (p q:Extra) (b:Nat),b < W.heap.size → b < (more (more W p) q).heap.size:=fun W p q b h => by rw [more_size,more_size]; omega
    have hmz:∀ (X:World) (o:Obj) (q:Extra),(more (X.alloc o) q).heap.size = (more X q).heap.size + 1:=fun X o q => by rw [more_size,more_size]; simp; omega
    have hmz2:∀ (X:World) (o:Obj) (p q:Extra),(more (more (X.alloc o).drew p) q).heap.size = (more (more X.drew p) q).heap.size + 1:=fun X o p q => by simp [more_size]; omega
    have hmz3:∀ (X:World) (o:Obj) (q:Extra),(more (X.alloc o).drew q).heap.size = (more X.drew q).heap.size + 1:=fun X o q => by simp [more_size]; omega
    have hmz4:∀ (X:World) (o:Obj) (p q:Extra),(more (more (X.alloc o) p) q).heap.size = (more (more X p) q).heap.size + 1:=fun X o p q => by simp [more_size]; omega
    have hl3:∀ (W:World) (p:Extra),W.heap.size < (more W.drew p).heap.size + 1:=fun W p => by simp [more_size]; omega
    have hl4:∀ (W:World) (p q:Extra),W.heap.size < (more (more W.drew p) q).heap.size + 1:=fun W p q => by simp [more_size]; omega
    have hl5:∀ (W:World) (p q:Extra),W.heap.size < (more (more W p) q).heap.size + 1:=fun W p q => by simp [more_size]; omega
    have hl2:∀ (W:World) (p:Extra),W.heap.size < (more W p).heap.size + 1:=fun W p => by rw [more_size]; omega
    have hn1:∀ (W:World) (p:Extra),(W.heap.size = (more W p).heap.size + 1) = False:=fun W p => eq_false (by rw [more_size]; omega)
    go_region_held3 (fun w' => Ext wc w') ((repeat (first | assumption | exact Ext.refl _ | exact ext_drew _ | refine ext_drewW ?_ | refine Ext.mored ?_ _ | refine Ext.alloc ?_ _ | refine Ext.drewN ?_ _))) (first | (go_at_call 122; (with_reducible refine (S1.out _).mono ?_); rintro e w2 ⟨rfl,p,rfl⟩) | (go_at_call 121; (with_reducible refine (S2.out _).mono ?_); rintro e w2 ⟨rfl,p,rfl⟩) | (go_at_call 120; (with_reducible refine (S3.out _).mono ?_); rintro e w2 ⟨rfl,p,rfl⟩))
    all_goals go_wp2_with fail
    all_goals
     go_meet
     refine ⟨_,?_,rfl,rfl,?_⟩
     ·repeat (first | exact Ext.refl _ | exact ext_drew _ | refine ext_drewW ?_ | refine Ext.mored ?_ _ | refine Ext.alloc ?_ _)
     all_goals repeat (first | refine at_more ?_ | refine at_drew1 ?_ | (refine at_new ?_; first | with_reducible rfl | (simp [more_size]; done) | (simp [more_size]; omega)) | refine at_old ?_)
   case rest =>
    obtain ⟨gp,hX,rfl,rfl,ep⟩:=hcut
    replace hE:=hE.trans hX
    replace et:=at_ext hX et
    clear hX
    obtain ⟨cts,ct0,ct1,ct2,ct3,ct4⟩:=cells5_of et
    obtain ⟨cps,cp0,cp1⟩:=cells2_of ep
    have HE:=hd_ hE
    clear hE et ep
    go_wp2_with (go_at_call 115; first | ((with_reducible refine (MH.out _).mono ?_); rintro e w' ⟨rfl,q,rfl⟩))
    go_ret2
    exact ⟨rfl,HE.out.mored _⟩
theorem kColor_ex {k m s a f c d b:Int} (k0:1 ≤ k) (k1:k ≤ 12) (hm:m = 255 ∨ m = 65535) (s0:0 ≤ s) (sa:s ≤ a) (af:a ≤ f) (fm:f ≤ m) (c0:0 ≤ c) (cm:c ≤ m) (d0:0 ≤ d) (db:d ≤ b) (bm:b ≤ m) :
  ∃ V,0 ≤ V ∧ (∀ C,c ≤ C → C ≤ m → V ≤ kalI m a f C b) ∧ (k = 1 → c = 0 → d = 0 → b = 0 → V = s) ∧ ∀ w,Calls Tryz.prog 111 #[.int .i64 k,.int .u16 (m),.int .u16 (s),.int .u16 (a),.int .u16 (f),.int .u16 (c),.int .u16 (d),.int .u16 (b)] w fun e w' => e = .returned (.tuple #[.int .u16 V,.bool true]) ∧ ∃ p,w' = more w p:=by
 obtain ⟨P,Q,R,D,t,sp,cx⟩:=exact_ex k0 k1 s0 sa (by omega) d0 db (by omega)
 have m1:1 ≤ m:=by omega
 have m2:m ≤ 65535:=by omega
 obtain ⟨P0,Q0,Q1,R0,R1,D0,D1,le⟩:=t
 have t:TermOk a b P Q R D:=⟨P0,Q0,Q1,R0,R1,D0,D1,le⟩
 obtain ⟨X,hX⟩:∃ X,(m - f) * c + (f - a) * d + (m - b) * s = X:=⟨_,rfl⟩
 have u1:0 ≤ (m - f) * c ∧ (m - f) * c ≤ 65535 * 65535:=mul_bound _ _ _ _ (by omega) c0 (by omega) (by omega)
 have u2:0 ≤ (f - a) * d ∧ (f - a) * d ≤ 65535 * 65535:=mul_bound _ _ _ _ (by omega) d0 (by omega) (by omega)
 have u3:0 ≤ (m - b) * s ∧ (m - b) * s ≤ 65535 * 65535:=mul_bound _ _ _ _ (by omega) s0 (by omega) (by omega)
 obtain ⟨PP,hPP⟩:∃ PP,X * D + P = PP:=⟨_,rfl⟩
 have XD:0 ≤ X * D ∧ X * D ≤ 12884508675 * 4294836225:=mul_bound _ _ _ _ (by omega) (by omega) (by omega) D1
 have AB:0 ≤ a * b ∧ a * b ≤ 65535 * 65535:=mul_bound _ _ _ _ (by omega) (by omega) (by omega) (by omega)
 have ABD:a * b * D ≤ 4294836225 * 4294836225:=Int.mul_le_mul (by omega) D1 (by omega) (by decide)
 have QB:0 ≤ Q * b:=Int.mul_nonneg Q0 (by omega)
 have MD:1 ≤ m * D ∧ m * D ≤ 65535 * 4294836225:=⟨Int.mul_le_mul (a:=1) (b:=1) m1 D0 (by decide) (by omega),Int.mul_le_mul m2 D1 (by omega) (by decide)⟩
 have BB:b * b ≤ 65535 * 65535:=Int.mul_le_mul (by omega) (by omega) (by omega) (by decide)
 have key:∀ C,c ≤ C → PP + Q * b ≤ kalN m a f C b * D:=by
  intro C hC
  have k1:(m - f) * c ≤ (m - f) * C:=Int.mul_le_mul_of_nonneg_left hC (by omega)
  have k2:(f - a) * d ≤ (f - a) * b:=Int.mul_le_mul_of_nonneg_left db (by omega)
  have k3:(m - b) * s ≤ (m - b) * a:=Int.mul_le_mul_of_nonneg_left sa (by omega)
  have k4:(m - b) * a = m * a - a * b:=by rw [Int.sub_mul,Int.mul_comm b a]
  have k5:X + a * b ≤ kalN m a f C b:=by unfold kalN; omega
  have k6:=Int.mul_le_mul_of_nonneg_right k5 (show 0 ≤ D by omega)
  rw [Int.add_mul] at k6
  omega
 have S1:Q * Q * R < 340282366920938463463374607431768211456:=big_sq Q0 (by omega) R0 (by omega)
 have hle:=fun C (h1:c ≤ C) => halfX_le (P:=PP) (Q:=Q) (R:=R) (DD:=m * D) (β:=b) (N:=kalN m a f C b) (m:=m) (E:=D) (by omega) Q0 R0 S1 (by omega) R1 m1 D0 rfl (key C h1)
 obtain ⟨f0,f1,v0,v1⟩:=hle m cm
 have kb:=kal_bounds (m:=m) (a:=a) (f:=f) (c:=m) (b:=b) m1 (by omega) af fm (by omega) (by omega) (by omega) bm
 have kk:halfI (kalN m a f m b) m = kalI m a f m b:=rfl
 rw [kk] at f1 v1
 have ok:ExOk (PP / 18446744073709551616) (PP % 18446744073709551616) Q R (m * D):=⟨by omega,by omega,by omega,by omega,Q0,by omega,R0,by omega,MD.1,by omega⟩
 have hh:=fun w => halfX_call ok PP (by omega) f0 (by omega) w
 refine ⟨halfX PP Q R (m * D),v0,fun C h1 h2 => (hle C h1).2.2.2,?_,fun w => kColor_walk hm s0 sa af fm c0 cm d0 db bm t cx hX (by omega) (by omega) hPP (by omega) rfl MD.1 (by omega) v0 (by omega) hh w⟩
 rintro rfl rfl rfl rfl
 obtain ⟨e1,e2,e3,e4⟩:=sp rfl
 subst e2 e3 e4
 rw [Int.mul_zero] at e1
 rw [Int.mul_zero,Int.mul_zero] at hX
 have e:PP = s * (m * 1):=by
  rw [← hPP,e1,← hX,Int.mul_one,Int.mul_one,Int.mul_comm s m,Int.sub_zero]; omega
 rw [halfX_plain MD.1,e]
 exact half_mul s _ MD.1
end Go.Proofs.YtepfoelgegljbaaGreatDoor
