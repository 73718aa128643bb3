/- Part A13. -/
import Derived.Test.YtepfoelgegljbaaGreatDoorA11
import Derived.Test.YtepfoelgegljbaaGreatDoorA12
namespace Go.Proofs.YtepfoelgegljbaaGreatDoor
set_option maxRecDepth 100000
open Go.RowKit
set_option linter.unusedVariables false
theorem ruled_ext {w W:World} (h:Ruled w) (e:Ext w W):Ruled W:=by obtain ⟨q,rfl⟩:=e; exact ruled_more h q
theorem tlTMix0 {p:Prop} (h:p:=by
  refine ⟨_,?_,rfl,rfl,?_⟩
  all_goals repeat (first | exact Ext.refl _ | refine Ext.mored ?_ _ | refine Ext.drewN ?_ _ | refine Ext.alloc ?_ _ | (refine at_new ?_; first | rfl | (simp; done)) | refine at_more ?_ | refine at_drew ?_ | refine at_old ?_)):p:=h
set_option maxHeartbeats 4000000 in
theorem mixValue_call {k c m s a d b P Q R D PP M:Int} (k0:1 ≤ k) (k1:k ≤ 12) (hm:m = 255 ∨ m = 65535) (s0:0 ≤ s) (sa:s ≤ a) (am:a ≤ m) (d0:0 ≤ d) (db:d ≤ b) (bm:b ≤ m) (t:TermOk a b P Q R D)
  (hx:∀ w,Calls Tryz.prog 118 #[.int .i64 c,.int .u16 s,.int .u16 a,.int .u16 d,.int .u16 b] w fun e w' => e = .returned (.tuple #[.agg #[.int .u64 (0),.int .u64 (P),.int .u64 (Q),.int .u64 (R),.int .u64 (D)],.bool true]) ∧ ∃ p,w' = more w p)
  (hP:((m - b) * s * D + P) * faI k a b m + d * m * D * fbI k a b m = PP) (hM:m * m * D = M) (w:World) (hR:Ruled w) :
  Calls Tryz.prog 114 #[.int .i64 k,.int .i64 c,.int .u16 m,.int .u16 s,.int .u16 a,.int .u16 d,.int .u16 b] w fun e w' => e = .returned (.tuple #[.agg #[.int .u64 (PP / 18446744073709551616),.int .u64 (PP % 18446744073709551616),.int .u64 (faI k a b m * Q),.int .u64 (R),.int .u64 (M)],.bool true]) ∧ ∃ p,w' = more w p:=by
 have m1:1 ≤ m:=by omega
 have m2:m ≤ 65535:=by omega
 have hok:opOk k a b m = true:=decide_eq_true (by omega)
 have hf:=fun w h => factors_call k a b m w h (by omega) (by omega) (by omega) (by omega) (by omega) m2
 have fb1:=fbI_bounds k a b m (by omega) (by omega)
 have fa1:=faI_bounds k a b m (by omega) (by omega)
 rw [hok] at hf
 generalize faI k a b m = fa at *
 generalize fbI k a b m = fb at *
 obtain ⟨fa0,fam⟩:=fa1
 obtain ⟨fb0,fbm⟩:=fb1
 obtain ⟨x,y,M',ex,ey,eM,a1,a2,a3,a4,a5,a6,a7,a8,a9,b1,b2,b3,b4,b5,b6,b7,b8,b9,c1,c2,c3,c4,c5⟩:=mix_bound t m1 m2 s0 sa am d0 db bm fa0 fam fb0 fbm
 rw [hM] at eM
 subst eM
 obtain ⟨P0,Q0,Q1,R0,R1,D0,D1,le⟩:=t
 obtain ⟨A1,hA1⟩:∃ A1,(m - b) * s = A1:=⟨_,rfl⟩
 rw [hA1] at hP ex a1 a2 a3
 obtain ⟨A2,hA2⟩:∃ A2,A1 * D = A2:=⟨_,rfl⟩
 rw [hA2] at hP ex a3
 obtain ⟨B1,hB1⟩:∃ B1,d * m = B1:=⟨_,rfl⟩
 rw [hB1] at hP ey a4 a5
 rw [ex,ey] at hP
 obtain ⟨X,hX⟩:∃ X,x * fa = X:=⟨_,rfl⟩
 obtain ⟨Y,hY⟩:∃ Y,y * fb = Y:=⟨_,rfl⟩
 rw [hX] at hP b3 b4
 rw [hY] at hP b5 b6
 obtain ⟨Zq,hZq⟩:∃ Zq,fa * Q = Zq:=⟨_,rfl⟩
 rw [hZq] at b7 b8 ⊢
 obtain ⟨MM,hMM⟩:∃ MM,m * m = MM:=⟨_,rfl⟩
 rw [hMM] at hM c1 c2
 have w1:=wr hA1 (by omega) (by omega)
 have w2:=wr hA2 (by omega) (by omega)
 have w3:=wr hB1 (by omega) (by omega)
 have w4:=wr ey (by omega) (by omega)
 have w5:=wr hZq (by omega) (by omega)
 have w6:=wr hMM (by omega) (by omega)
 have w7:=wr hM (by omega) (by omega)
 have w8:IntKind.u64.wrap (A2 + P) = x:=wr ex (by omega) (by omega)
 have q1:=fun w => wideMul_call x fa w (by omega) (by omega) fa0 (by omega)
 have q2:=fun w => wideMul_call y fb w (by omega) (by omega) fb0 (by omega)
 rw [hX] at q1
 rw [hY] at q2
 have q3:=fun w => wideAdd_call (X / 18446744073709551616) (X % 18446744073709551616) (Y / 18446744073709551616) (Y % 18446744073709551616) PP (by omega) (by omega) (by omega) (by omega) (by omega) (by omega) (by omega) (by omega) w
 have hd:(m == 255) = decide (m = 255):=rfl
 have MF:=hd_ @hf
 have ME:=hd_ @hx
 have M1:=hd_ @(fun w => calls_ext1 (q1 w))
 have M2:=hd_ @(fun w => calls_ext1 (q2 w))
 have M3:=hd_ @(fun w => calls_ext3 (q3 w))
 clear hf hx q1 q2 q3 hA1 hA2 hB1 ey hZq hMM hM hX hY hP c3 c4 c5 le R1 hok
 go_enter Tryz.func114,Tryz.ntmps114
 go_upto_region 1 with fail
 refine at_world (fun V => Ext w V ∧ V.heap[w.heap.size]? = some (.cells #[.int .u64 (0),.int .u64 (0),.int .u64 (0),.int .u64 (0),.int .u64 (0)] 184)) ⟨⟨⟨[_],0⟩,rfl⟩,at_new (by simp)⟩ ?_
 rintro wc ⟨hE,ez⟩
 have HR:=hd_ (ruled_ext hR hE)
 clear hR
 go_cut [16,17,18] (fun s16 s17 s18 Z => Ext wc Z ∧ s16 = .int .u16 fa ∧ s17 = .int .u16 fb ∧ s18 = .bool true)
 case first =>
  go_wp2_with (go_at_call 116; first | ((with_reducible refine (MF.out _ HR.out).mono ?_); rintro e w' ⟨rfl,q,rfl⟩))
  go_meet
  refine ⟨?_,rfl,rfl,rfl⟩
  all_goals repeat (first | exact Ext.refl _ | refine Ext.mored ?_ _ | refine Ext.drewN ?_ _ | refine Ext.alloc ?_ _ | (refine at_new ?_; first | rfl | (simp; done)) | refine at_more ?_ | refine at_drew ?_ | refine at_old ?_)
 case rest =>
  obtain ⟨hX,rfl,rfl,rfl⟩:=hcut
  replace hE:=hE.trans hX
  replace ez:=at_ext hX ez
  clear hX
  go_upto_region 2 with fail
  go_cut [19,20] (fun s19 s20 Z => ∃ gt:Nat,Ext wc Z ∧ s19 = .pointer (some ⟨gt,0,none⟩) ∧ s20 = .bool true ∧ Z.heap[gt]? = some (.cells #[.int .u64 (0),.int .u64 (P),.int .u64 (Q),.int .u64 (R),.int .u64 (D)] 184))
  case first =>
   go_wp2_with (go_at_call 118; first | ((with_reducible refine (ME.out _).mono ?_); rintro e w' ⟨rfl,q,rfl⟩))
   go_meet
   exact tlTMix0
  case rest =>
   obtain ⟨gt,hX,rfl,rfl,et⟩:=hcut
   replace hE:=hE.trans hX
   replace ez:=at_ext hX ez
   clear hX
   go_upto_region 3 with fail
   go_cut [57] (fun s57 Z => Ext wc Z ∧ s57 = .bool false)
   case first =>
    rcases hm with rfl | rfl
    all_goals go_wp2_with fail
    all_goals
     go_meet
     refine ⟨?_,rfl⟩
     ·repeat (first | exact Ext.refl _ | exact ext_drew _ | refine ext_drewW ?_ | refine Ext.mored ?_ _ | refine Ext.alloc ?_ _)
     all_goals repeat (first | refine at_more ?_ | refine at_drew1 ?_ | (refine at_new ?_; first | with_reducible rfl | (simp [more_size]; done) | (simp [more_size]; omega)) | refine at_old ?_)
   case rest =>
    obtain ⟨hX,rfl⟩:=hcut
    replace hE:=hE.trans hX
    replace ez:=at_ext hX ez
    replace et:=at_ext hX et
    clear hX
    obtain ⟨cts,ct0,ct1,ct2,ct3,ct4⟩:=cells5_of et
    go_upto_region 8 with fail
    go_cut [24,25] (fun s24 s25 Z => ∃ gp:Nat,Ext wc Z ∧ s24 = .pointer (some ⟨gp,0,none⟩) ∧ s25 = .bool true ∧ Z.heap[gp]? = some (.cells #[.int .u64 (PP / 18446744073709551616),.int .u64 (PP % 18446744073709551616)] 182))
    case first =>
     obtain ⟨cts,ct0,ct1,ct2,ct3,ct4⟩:=cells5_of et
     go_wp2_with (first | (go_at_call 121; first | ((with_reducible refine (M1.out _).mono ?_); rintro e w' ⟨rfl,q,rfl⟩) | ((with_reducible refine (M2.out _).mono ?_); rintro e w' ⟨rfl,q,rfl⟩)) | (go_at_call 120; first | ((with_reducible refine (M3.out _).mono ?_); rintro e w' ⟨rfl,q,rfl⟩)))
     go_meet
     exact tlTMix0
    case rest =>
     obtain ⟨gp,hX,rfl,rfl,ep⟩:=hcut
     replace hE:=hE.trans hX
     replace ez:=at_ext hX ez
     replace et:=at_ext hX et
     clear hX
     obtain ⟨cts,ct0,ct1,ct2,ct3,ct4⟩:=cells5_of et
     obtain ⟨czs,cz0,cz1,cz2,cz3,cz4⟩:=cells5_of ez
     obtain ⟨cps,cp0,cp1⟩:=cells2_of ep
     have f0:=froz_cells (i:=0) ez
     have f1:=froz_cells (i:=1) ez
     have f2:=froz_cells (i:=2) ez
     have f3:=froz_cells (i:=3) ez
     have f4:=froz_cells (i:=4) ez
     have HE:=hd_ hE
     clear hE et ez ep
     go_wp2_with fail
     exact bodyPost_ret (v:=.tuple #[.agg #[.int .u64 (PP / 18446744073709551616),.int .u64 (PP % 18446744073709551616),.int .u64 (Zq),.int .u64 (R),.int .u64 (M)],.bool true]) (by simp [results,Tryz.results114,go_sem, *]) rfl ⟨rfl,((((HE.out.setCell (by omega) _).setCell (by omega) _).setCell (by omega) _).setCell (by omega) _).setCell (by omega) _⟩
theorem big_sq {q r:Int} (q0:0 ≤ q) (q1:q ≤ 4294836225) (r0:0 ≤ r) (r1:r ≤ 4294836225):q * q * r < 340282366920938463463374607431768211456:=by
 have h1:q * q ≤ 4294836225 * 4294836225:=Int.mul_le_mul q1 q1 q0 (by decide)
 have h2:q * q * r ≤ 4294836225 * 4294836225 * 4294836225:=Int.mul_le_mul h1 r1 r0 (by decide)
 omega
set_option maxHeartbeats 1000000 in
theorem mixColor_walk {k c m s a d b PP Zq R M V:Int} (V0:0 ≤ V) (V1:V ≤ 65535)
  (hv:∀ w,Ruled w → Calls Tryz.prog 114 #[.int .i64 k,.int .i64 c,.int .u16 m,.int .u16 s,.int .u16 a,.int .u16 d,.int .u16 b] w fun e w' => e = .returned (.tuple #[.agg #[.int .u64 (PP / 18446744073709551616),.int .u64 (PP % 18446744073709551616),.int .u64 (Zq),.int .u64 (R),.int .u64 (M)],.bool true]) ∧ ∃ p,w' = more w p)
  (hh:∀ w,Calls Tryz.prog 115 #[.agg #[.int .u64 (PP / 18446744073709551616),.int .u64 (PP % 18446744073709551616),.int .u64 (Zq),.int .u64 (R),.int .u64 (M)]] w fun e w' => e = .returned (.tuple #[.int .u64 V,.bool true]) ∧ ∃ p,w' = more w p) (w:World) (hR:Ruled w) :
  Calls Tryz.prog 106 #[.int .i64 k,.int .i64 c,.int .u16 m,.int .u16 s,.int .u16 a,.int .u16 d,.int .u16 b] w fun e w' => e = .returned (.tuple #[.int .u16 V,.bool true]) ∧ ∃ p,w' = more w p:=by
 have MV:=hd_ @hv
 have MH:=hd_ @hh
 have HR:=hd_ hR
 clear hv hh hR
 go_enter Tryz.func106,Tryz.ntmps106
 go_upto_region 1 with fail
 refine at_world (fun V => Ext w V) (Ext.refl _) ?_
 rintro wc hE
 replace HR:=hd_ (ruled_ext HR.out hE)
 go_cut [16,17] (fun s16 s17 Z => ∃ gx:Nat,Ext wc Z ∧ s16 = .pointer (some ⟨gx,0,none⟩) ∧ s17 = .bool true ∧ Z.heap[gx]? = some (.cells #[.int .u64 (PP / 18446744073709551616),.int .u64 (PP % 18446744073709551616),.int .u64 (Zq),.int .u64 (R),.int .u64 (M)] 184))
 case first =>
  go_wp2_with (go_at_call 114; first | ((with_reducible refine (MV.out _ HR.out).mono ?_); rintro e w' ⟨rfl,q,rfl⟩))
  go_meet
  exact tlTMix0
 case rest =>
  obtain ⟨gx,hX,rfl,rfl,ex⟩:=hcut
  replace hE:=hE.trans hX
  clear hX
  obtain ⟨cxs,cx0,cx1,cx2,cx3,cx4⟩:=cells5_of ex
  have HE:=hd_ hE
  clear hE ex
  go_wp2_with (go_at_call 115; first | ((with_reducible refine (MH.out _).mono ?_); rintro e w' ⟨rfl,q,rfl⟩))
  go_ret2
  exact ⟨rfl,HE.out.mored _⟩
theorem mix_ex {k c m s a d b:Int} (k0:1 ≤ k) (k1:k ≤ 12) (hm:m = 255 ∨ m = 65535) (s0:0 ≤ s) (sa:s ≤ a) (am:a ≤ m) (d0:0 ≤ d) (db:d ≤ b) (bm:b ≤ m) (c0:1 ≤ c) (c1:c ≤ 12) :
  ∃ V,0 ≤ V ∧ V ≤ alpI k a b m ∧ (c = 1 → k = 4 → d = 0 → b = 0 → V = s) ∧ ∀ w,Ruled w → Calls Tryz.prog 106 #[.int .i64 k,.int .i64 c,.int .u16 m,.int .u16 s,.int .u16 a,.int .u16 d,.int .u16 b] w fun e w' => e = .returned (.tuple #[.int .u16 V,.bool true]) ∧ ∃ p,w' = more w p:=by
 obtain ⟨P,Q,R,D,t,sp,cx⟩:=exact_ex c0 c1 s0 sa (by omega) d0 db (by omega)
 have fb1:=fbI_bounds k a b m (by omega) (by omega)
 have fa1:=faI_bounds k a b m (by omega) (by omega)
 have m1:1 ≤ m:=by omega
 have m2:m ≤ 65535:=by omega
 obtain ⟨x,y,M,ex,ey,eM,a1,a2,a3,a4,a5,a6,a7,a8,a9,b1,b2,b3,b4,b5,b6,b7,b8,b9,c1',c2,c3,c4,c5⟩:=mix_bound t m1 m2 s0 sa am d0 db bm fa1.1 fa1.2 fb1.1 fb1.2
 obtain ⟨PP,hPP⟩:∃ PP,x * faI k a b m + y * fbI k a b m = PP:=⟨_,rfl⟩
 have hv:=fun w h => mixValue_call (PP:=PP) k0 k1 hm s0 sa am d0 db bm t cx (by rw [ex,ey]; exact hPP) eM w h
 have hle:=halfX_le (P:=PP) (Q:=faI k a b m * Q) (R:=R) (DD:=M) (β:=b) (N:=faI k a b m * a + fbI k a b m * b) (m:=m) (E:=m * D) (by omega) b7 t.R0 (big_sq b7 b8 t.R0 b9) (by omega) t.R1 m1 c5 c4 (by omega)
 obtain ⟨f0,f1,v0,v1⟩:=hle
 have al:alpI k a b m = halfI (faI k a b m * a + fbI k a b m * b) m:=rfl
 have alb:=alp_bounds k a b m (by omega) (by omega) (by omega)
 rw [← al] at f1 v1
 have ok:ExOk (PP / 18446744073709551616) (PP % 18446744073709551616) (faI k a b m * Q) R M:=⟨by omega,by omega,by omega,by omega,b7,by omega,t.R0,by omega,b1,by omega⟩
 have hh:=fun w => halfX_call ok PP (by omega) f0 (by omega) w
 refine ⟨halfX PP (faI k a b m * Q) R M,v0,v1,?_,fun w hR => mixColor_walk v0 (by omega) hv hh w hR⟩
 rintro rfl rfl rfl rfl
 obtain ⟨e1,e2,e3,e4⟩:=sp rfl
 subst e2 e3 e4
 have fa:faI 4 a 0 m = m:=by
  unfold faI
  rw [if_pos (show opOk 4 a 0 m = true from decide_eq_true (by omega))]
  rfl
 rw [Int.mul_zero] at e1
 rw [e1] at ex
 rw [Int.zero_mul,Int.zero_mul] at ey
 rw [Int.mul_zero,halfX_plain b1,← hPP,← ey,← eM,← ex,fa]
 have e:((m - 0) * s * 1 + 0) * m + 0 * fbI 4 a 0 m = s * (m * m * 1):=by
  rw [Int.zero_mul,Int.add_zero,Int.add_zero,Int.mul_one,Int.mul_one,Int.sub_zero,Int.mul_comm m s,Int.mul_assoc]
 rw [e]
 exact half_mul s _ (by omega)
end Go.Proofs.YtepfoelgegljbaaGreatDoor
