/- Part N3. -/
import Derived.Test.YtepfoelgegljbaaGreatDoorN02
namespace Go.Proofs.YtepfoelgegljbaaGreatDoor
set_option maxRecDepth 100000
open Go.RowKit
set_option linter.unusedVariables false
set_option linter.unusedSimpArgs false
set_option maxHeartbeats 4000000 in
theorem inside_call (m:Img) (x y:Int) (w:World) :
  Calls Tryz.prog 18 #[m.v,.int .i64 x,.int .i64 y] w fun e w' => e = .returned (.bool (inB m x y)) ∧ Bel w w':=by
 obtain ⟨b,hb⟩:∃ b,b = inB m x y:=⟨_,rfl⟩
 rw [← hb]
 go_enter Tryz.func18,Tryz.ntmps18
 go_upto_region 1 with fail
 refine at_world (fun V => Bel w V ∧ V.heap[w.heap.size]? = some (oIm m)) ⟨(Bel.refl w).al _,at_new (by first | rfl | simp)⟩ ?_
 rintro V ⟨hX,eM⟩
 have Ms:=lt_of_heap eM
 have M_0:=cq0 eM rfl
 have M_1:=cq1 eM rfl
 have fM:=frozA eM
 have HB:=hd_ hb
 clear hb
 cases k0:decide (0 ≤ x)
 ·obtain rfl:b = false:=by rw [HB.out]; unfold inB; rw [k0]; rfl
  go_wp2_with fail
  go_returns
  exact ⟨rfl,hX⟩
 cases k1:decide (x < m.w)
 ·obtain rfl:b = false:=by rw [HB.out]; unfold inB; rw [k0,k1]; rfl
  go_wp2_with fail
  go_returns
  exact ⟨rfl,hX⟩
 cases k2:decide (0 ≤ y)
 ·obtain rfl:b = false:=by rw [HB.out]; unfold inB; rw [k0,k1,k2]; rfl
  go_wp2_with fail
  go_returns
  exact ⟨rfl,hX⟩
 cases k3:decide (y < m.h)
 ·obtain rfl:b = false:=by rw [HB.out]; unfold inB; rw [k0,k1,k2,k3]; rfl
  go_wp2_with fail
  go_returns
  exact ⟨rfl,hX⟩
 ·obtain rfl:b = true:=by rw [HB.out]; unfold inB; rw [k0,k1,k2,k3]; rfl
  go_wp2_with fail
  go_returns
  exact ⟨rfl,hX⟩
structure NiI (W0 W:World) (T:Nat) (s:Scr) (u v:Int) (A:Option Addr) (n c:Nat) (K:List Img):Prop where
 hX:Bel W0 W
 eT:W.heap[T]? = some (.cells (s.wim A n c K).cs.toArray 38)
 im:W.ownsRow W0.heap.size 46 28 (.slice A n c) n (imgs K)
 tb:TbI W W0.heap.size s.mx u v s.ims n K s.ops
 tT:W0.heap.size ≤ T
theorem NiI.bel {W0 W W':World} {T:Nat} {s:Scr} {u v:Int} {A:Option Addr} {n c:Nat} {K:List Img} (h:NiI W0 W T s u v A n c K) (hb:Bel W W'):NiI W0 W' T s u v A n c K:=⟨h.hX.trans hb,hb.heap h.eT,own_ext h.im hb,h.tb.map fun m hm => hm.bel hb,h.tT⟩
theorem NiI.app {W0 W W':World} {T:Nat} {s:Scr} {u v:Int} {A A':Option Addr} {n c c':Nat} {K:List Img} {a b:Img} (h:NiI W0 W T s u v A n c K) (hg:W.grownBy W' (Value.ownBlock (.slice A n c))) (ho:W'.ownsRow W0.heap.size 46 28 (.slice A' (n + 1) c') (n + 1) (imgs (K ++ [b])))
  (ha:s.ims[n]? = some a) (hb:ImgG W W0.heap.size s.mx b) (hag:AgI u v n a b s.ops):W'.heap[T]? = some (.cells (s.wim A n c K).cs.toArray 38) ∧ NiI W0 (W'.setCell ⟨T,8,none⟩ (.slice A' (n + 1) c')) T s u v A' (n + 1) c' (K ++ [b]):=by
 have e3:=grown_heap h.im h.eT (by decide) hg
 have hB:Bel W0 W':=h.hX.grown hg fun q hq => (h.im.lt q hq).1
 have hu:=setCells_upd T [.slice A' (n + 1) c'] 8 W'
 exact ⟨e3,hB.setCell h.tT _,heap_set _ e3,own_upd ho hu (own_ne_heap ho e3 (by decide)),((h.tb.map fun m hm => hm.grown h.im (by decide) hg).snoc ha (hb.grown h.im (by decide) hg) hag).map fun m hm => hm.upd hu e3 (by decide),h.tT⟩
theorem place_nums {a:Img} {N wd ht:Nat} {X Y u ox:Int} (ew:a.w = wd) (eh:a.h = ht) (hN:N = ht * wd) (w5:wd ≤ 5) (h5:ht ≤ 5) (hi:inB a X Y = true) (hX:X = u - ox) (hu:-100 ≤ u ∧ u ≤ 100) (ho:-100 ≤ ox ∧ ox ≤ 100) :
  plN a X Y < N ∧ IntKind.i64.wrap (Y * a.w) = Y * a.w ∧ IntKind.i64.wrap (Y * a.w + u) = Y * a.w + u ∧ IntKind.i64.wrap (Y * a.w + u - ox) = (plN a X Y:Int):=by
 obtain ⟨x0,x1,y0,y1⟩:=inB_iff.1 hi
 have hm0:0 ≤ Y * a.w:=Int.mul_nonneg y0 (by omega)
 have hm1:Y * a.w ≤ ((ht:Int) - 1) * wd:=by
  rw [ew]
  exact Int.mul_le_mul_of_nonneg_right (by omega) (by omega)
 have hm2:((ht:Int) - 1) * wd = (N:Int) - wd:=by
  rw [hN,Int.sub_mul,Int.one_mul]
  push_cast
  rfl
 have hn:N ≤ 25:=by
  rw [hN]
  exact Nat.mul_le_mul h5 w5
 unfold plN
 refine ⟨by omega,wrap_i64 _ (by omega) (by omega),wrap_i64 _ (by omega) (by omega),?_⟩
 rw [wrap_i64 _ (by omega) (by omega)]
 omega
set_option maxHeartbeats 16000000 in
theorem noni_walk (d d2:SceneD) (x y:Int) (w:World) (hd:d.In w) (hd2:d2.In w) (hN:Named w) (hR:Ruled w):Calls Tryz.prog 4 #[d.v,d2.v,.int .i64 x,.int .i64 y] w fun e w' => e = .returned (.bool true) ∧ Bel w w':=by
 obtain ⟨i0,hi,hz0,hz1,hz2⟩:=info_parts info_im
 have HGS:=hd_ (fun (W:World) (hb:Bel w W) => gscript_ex d W (hd.bel hb))
 have HAW:=hd_ (fun (W:World) (hb:Bel w W) => awake_call W (named_bel hN hb) (ruled_bel hR hb))
 have HD2:=hd_ hd2
 have HN:=hd_ hN
 have HR:=hd_ hR
 clear hd hd2 hN hR
 go_enter Tryz.func4,Tryz.ntmps4
 go_upto_region 1 with fail
 refine at_world (fun V => Bel w V ∧ V.heap[w.heap.size]? = some (.cells #[.int .i64 d.bits,.int .i64 d.x,.int .i64 d.y,.int .i64 d.w,.int .i64 d.h,.int .i64 d.tw,.int .i64 d.th,.slice d.oA d.on d.oc,.slice d.pA d.pn d.pc,.slice d.qA d.qn d.qc] 26) ∧ V.heap[w.heap.size + 1]? = some (.cells #[.int .i64 d2.bits,.int .i64 d2.x,.int .i64 d2.y,.int .i64 d2.w,.int .i64 d2.h,.int .i64 d2.tw,.int .i64 d2.th,.slice d2.oA d2.on d2.oc,.slice d2.pA d2.pn d2.pc,.slice d2.qA d2.qn d2.qc] 26)) ⟨((Bel.refl w).al _).al _,at_old (at_new (by first | rfl | simp)),at_new (by first | rfl | simp)⟩ ?_
 rintro V ⟨hX,eD,eE⟩
 have Ds:=lt_of_heap eD
 have Es:=lt_of_heap eE
 have D_0:=cq0 eD rfl
 have E_0:=cq0 eE rfl
 have fD:=frozA eD
 have fE:=frozA eE
 have lscn:=scn_ld eD
 go_upto_region 2 with (first | ((with_reducible show wpList _ _ _ (⟨some 32,_,_,_,_,_⟩ :: _) _ _); refine wpList_ld rfl rfl rfl (lscn) ?_) | (go_at_call 7; (with_reducible refine (HGS.out _ hX).mono ?_); rintro e w2 ⟨s,F,rfl,hG,hb2⟩) | ((with_reducible show wpList _ _ _ (⟨none,.store _ _ _,_,_,_,_⟩ :: _) _ _); refine wpList_st (n:=0) (g:=w2.heap.size) (cells:=s.cs) rfl rfl rfl rfl (at_new rfl) rfl (by kernel_rfl) (scr_one s) ?_; intro Y2 eS2 hU2) | fail)
 have hUB:Bel V Y2:=hU2.bel (hb2.al _) hb2.size'
 have hXY:=hX.trans hUB
 have hGY:=hG.bel (hU2.bel ((Bel.refl w2).al _) (Nat.le_refl _))
 have hcl:s.can.ti:=⟨by have:=hG.fr.x0; omega,hG.fr.u0,by have:=hG.fr.x1; have:=hG.fr.u1; omega,by have:=hG.fr.y0; omega,hG.fr.v0,by have:=hG.fr.y1; have:=hG.fr.v1; omega⟩
 have HPT:=hd_ (fun W => point_ex s.can hcl x y W)
 refine at_world (fun Y => Bel w Y ∧ GScr Y V.heap.size s F ∧ Y.heap[w2.heap.size]? = some (oSc s) ∧ Y.heap[w.heap.size + 1]? = some (.cells #[.int .i64 d2.bits,.int .i64 d2.x,.int .i64 d2.y,.int .i64 d2.w,.int .i64 d2.h,.int .i64 d2.tw,.int .i64 d2.th,.slice d2.oA d2.on d2.oc,.slice d2.pA d2.pn d2.pc,.slice d2.qA d2.qn d2.qc] 26)) ⟨hXY,hGY,eS2,hUB.heap eE⟩ ?_
 clear lscn hX eD eE hG hb2 hU2 eS2 hXY hGY hUB hcl Ds D_0 fD Es E_0 fE
 rintro Y0 ⟨hX,hG,eS,eE⟩
 obtain ⟨T1,hT1⟩:∃ T1,T1 = w2.heap.size:=⟨_,rfl⟩
 rw [← hT1] at eS
 rw [← hT1]
 clear hT1
 obtain ⟨B,hB⟩:∃ B,B = V.heap.size:=⟨_,rfl⟩
 rw [← hB] at hG
 clear hB
 have lcan:=can_ld eS
 go_upto_region 3 with (first | ((with_reducible show wpList _ _ _ (⟨some 36,_,_,_,_,_⟩ :: _) _ _); refine wpList_ld rfl rfl rfl (lcan) ?_) | (go_at_call 15; (with_reducible refine (HPT.out _).mono ?_); rintro e w4 ⟨u,v,rfl,p0,p1,p2,p3,hb4⟩) | fail)
 refine at_world (fun Y => Bel w Y ∧ GScr Y B s F ∧ Y.heap[T1]? = some (oSc s) ∧ Y.heap[w.heap.size + 1]? = some (.cells #[.int .i64 d2.bits,.int .i64 d2.x,.int .i64 d2.y,.int .i64 d2.w,.int .i64 d2.h,.int .i64 d2.tw,.int .i64 d2.th,.slice d2.oA d2.on d2.oc,.slice d2.pA d2.pn d2.pc,.slice d2.qA d2.qn d2.qc] 26)) ⟨hX.trans hb4,hG.bel hb4,hb4.heap eS,hb4.heap eE⟩ ?_
 clear lcan hX hG eS eE hb4 HPT
 rintro Y ⟨hX,hG,eS,eE⟩
 have hMX:=hd_ (show ∀ W,Calls Tryz.prog 13 #[.int .i64 s.bits] W fun e w' => e = .returned (.tuple #[.int .u16 s.mx,.bool true]) ∧ W = w' from fun W => wmax_call s.bits hG.fr.bt W)
 have S_0:=cq0 eS rfl
 have lscr:=scr_ld eS
 go_upto_region 4 with (first | (go_at_call 13; (with_reducible refine (hMX.out _).mono ?_); rintro e w3 ⟨rfl,rfl⟩) | fail)
 have lS:=lt_of_heap eS
 go_upto_region 5 with (first | ((with_reducible show wpList _ _ _ (⟨some 48,_,_,_,_,_⟩ :: _) _ _); refine wpList_ld rfl rfl rfl (lscr) ?_) | ((with_reducible show wpList _ _ _ (⟨none,.store _ _ _,_,_,_,_⟩ :: _) _ _); refine wpList_st (n:=0) (g:=Y.heap.size) (cells:=s.cs) rfl rfl rfl rfl (at_new rfl) rfl (by kernel_rfl) (scr_one s) ?_; intro Y3 eT3 hU3) | fail)
 have hXT:Bel Y Y3:=hU3.bel ((Bel.refl Y).al _) (Nat.le_refl _)
 have T_8:=cq8 eT3 rfl
 have fT:=frozA eT3
 have lT:=lt_of_heap eT3
 have HG:=hd_ hG
 have HX:=hd_ hX
 have HES:=hd_ eS
 have HEE:=hd_ eE
 have HE3:=hd_ (And.intro eT3 hXT)
 clear S_0 lscr hMX eS eE hG hX hU3 eT3 hXT
 go_upto_region 6 with fail
 refine at_world (fun Z => NiI Y Z Y.heap.size s u v none 0 0 []) ⟨HE3.out.2.setCell (Nat.le_refl _) _,heap_set _ HE3.out.1,World.ownsRow_nil _ _ _ _,TbI.nil _ _ _ _ _ _ _,Nat.le_refl _⟩ ?_
 clear T_8 fT lT HE3
 rintro Z I
 obtain ⟨T2,hT2⟩:∃ T2,T2 = Y.heap.size:=⟨_,rfl⟩
 rw [← hT2] at I
 rw [← hT2]
 have hT12:T1 ≠ T2:=by omega
 clear hT2
 have HI:=hd_ I
 have hin4:=HG.out.i4
 have hpn:=HG.out.pn
 have hub:(-20 ≤ u ∧ u ≤ 20) ∧ (-20 ≤ v ∧ v ≤ 20):=by
  have f:=HG.out.fr
  have:=f.x0; have:=f.x1; have:=f.y0; have:=f.y1; have:=f.u0; have:=f.u1; have:=f.v0; have:=f.v1
  omega
 clear I
 go_wp2_with fail
 go_loopg [15] s.inn (fun gk s15 wr => ∃ (i:Nat) (A:Option Addr) (c:Nat) (K:List Img),i + gk = s.inn ∧ s15 = .int .i64 i ∧ NiI Y wr T2 s u v A i c K)
 case atStart => exact ⟨0,none,0,[],by omega,rfl,HI.out⟩
 case round =>
  obtain ⟨i,A,c,K,hgk,rfl,I⟩:=hrel
  clear HI
  have HI:=hd_ I
  clear I
  by_cases hlt:i < s.inn
  case neg => as_aux_lemma =>
   have hio:i = s.inn:=by omega
   subst hio
   have hd:decide ((s.inn:Int) < (s.inn:Int)) = false:=decide_eq_false (by omega)
   have hd':decide (s.inn < s.inn) = false:=decide_eq_false hlt
   have S_8:=cq8 (HI.out.hX.heap HES.out) rfl
   have HRE1:=hd_ (fun (W:World) (hb:Bel Y W) => render_ok s F HG.out.sm HG.out.vb HG.out.src HG.out.pos HG.out.mxc HG.out.chk W (HG.out.In.bel hb) (named_bel HN.out (HX.out.trans hb)) (ruled_bel HR.out (HX.out.trans hb)))
   obtain ⟨r1,r2,r3,r4,r5⟩:=HG.out.other A c HI.out.tb
   have HRE2:=hd_ (show ∀ (W:World) (hb:Bel wr W),Calls Tryz.prog 10 #[(s.wim A s.inn c K).v] W fun e w' => ∃ m:Img,e = .returned (.tuple #[m.v,.int .i64 0,.int .i64 0]) ∧ ImOf w' W.heap.size (s.can.u - s.can.x) (s.can.v - s.can.y) ((s.wim A s.inn c K).img F) (s.ht * s.wd) m ∧ Bel W w' from fun W hb => by
    have hb0:=HI.out.hX.trans hb
    have hi:=HG.out.In.bel hb0
    exact render_ok (s.wim A s.inn c K) F r1 r2 r4 HG.out.pos HG.out.mxc r3 W ⟨hi.on,hi.inn,hi.pn,hi.ord,own_sl' (own_ext HI.out.im hb),hi.ops,fun m hm => ((HI.out.tb.g m hm).bel hb).mem⟩ (named_bel HN.out (HX.out.trans hb0)) (ruled_bel HR.out (HX.out.trans hb0)))
   obtain ⟨I0,hI0⟩:∃ I0:Nat,u - s.can.x = (I0:Int):=⟨(u - s.can.x).toNat,by omega⟩
   obtain ⟨J0,hJ0⟩:∃ J0:Nat,v - s.can.y = (J0:Int):=⟨(v - s.can.y).toNat,by omega⟩
   have hwI:IntKind.i64.wrap (u - s.can.x) = (I0:Int):=by rw [hI0]; exact wrap_i64 _ (by omega) (by have:=HG.out.fr.u1; have:=HG.out.fr.x0; omega)
   have hwJ:IntKind.i64.wrap (v - s.can.y) = (J0:Int):=by rw [hJ0]; exact wrap_i64 _ (by omega) (by have:=HG.out.fr.v1; have:=HG.out.fr.y0; omega)
   have hIw:I0 < s.wd:=by unfold Scr.wd; omega
   have hJh:J0 < s.ht:=by unfold Scr.ht; omega
   have HGF:=hd_ (r5 J0 I0 (by omega) (by omega))
   have HSM:=hd_ (And.intro HG.out.sm r1)
   have HIJ:=hd_ (And.intro hIw hJh)
   clear r1 r2 r3 r4 r5 hI0 hJ0 hIw hJh
   go_upto_region 25 with fail
   clear hd hd' S_8
   have lscr:=scr_ld (HI.out.hX.heap HES.out)
   have hXs:=HI.out.hX
   go_upto_region 26 with (first | ((with_reducible show wpList _ _ _ (⟨some 204,_,_,_,_,_⟩ :: _) _ _); refine wpList_ld rfl rfl rfl (lscr) ?_) | (go_at_call 10; (with_reducible refine (HRE1.out _ hXs).mono ?_); rintro e w5 ⟨m,rfl,hm5,hb5⟩) | ((with_reducible show wpList _ _ _ (⟨none,.store _ _ _,_,_,_,_⟩ :: _) _ _); refine wpList_st (n:=0) (g:=w5.heap.size) (cells:=m.cs) rfl rfl rfl rfl (at_new rfl) rfl (by kernel_rfl) (im_one m) ?_; intro Y6 e6 hU6) | fail)
   have hb6:=hU6.bel (hb5.al _) hb5.size'
   have hm6:=hm5.bel (hU6.bel ((Bel.refl w5).al _) (Nat.le_refl _))
   have hXr:=HX.out.trans (hXs.trans hb6)
   have ltscr:=scr_ld (hb6.heap HI.out.eT)
   have HM6:=hd_ (And.intro hm6 (And.intro hb6 e6))
   clear lscr hm5 hm6 hU6 e6 hb5
   go_upto_region 27 with (first | ((with_reducible show wpList _ _ _ (⟨some 210,_,_,_,_,_⟩ :: _) _ _); refine wpList_ld rfl rfl rfl (ltscr) ?_) | (go_at_call 10; (with_reducible refine (HRE2.out _ hb6).mono ?_); rintro e w7 ⟨m2,rfl,hm7,hb7⟩) | ((with_reducible show wpList _ _ _ (⟨none,.store _ _ _,_,_,_,_⟩ :: _) _ _); refine wpList_st (n:=0) (g:=w7.heap.size) (cells:=m2.cs) rfl rfl rfl rfl (at_new rfl) rfl (by kernel_rfl) (im_one m2) ?_; intro Y8 e8 hU8) | fail)
   have hb8:=hU8.bel (hb7.al _) hb7.size'
   have hm8:=hm7.bel (hU8.bel ((Bel.refl w7).al _) (Nat.le_refl _))
   have e68:=hb8.heap HM6.out.2.2
   have HM8:=hd_ (And.intro hm8 (HM6.out.1.bel hb8))
   have HHX:=hd_ (hXr.trans hb8)
   have eS8:=hb8.heap (hb6.heap (hXs.heap HES.out))
   have S_1:=cq1 eS8 rfl
   have S_2:=cq2 eS8 rfl
   have sx:=fun q:Bw Y8 => q.h.cell S_1
   have sy:=fun q:Bw Y8 => q.h.cell S_2
   have HE8:=hd_ (And.intro e68 e8)
   clear ltscr hm7 hm8 hU8 hb7 hb8 HM6 hb6 hXr hXs e68 e8 eS8 S_1 S_2
   refine region_bel (by kernel_rfl) (by kernel_rfl) ?_
   repeat (go_big_quiet_step (fail))
   refine wpQuiet_nil ?_
   rintro w9 ⟨q9,rfl⟩
   clear sx sy
   go_upto_region 28 with fail
   have hp1:=(im_px HSM.out.1 HM8.out.2 HIJ.out.1 HIJ.out.2)
   have hp2:=(im_px HSM.out.2 HM8.out.1 HIJ.out.1 HIJ.out.2).trans HGF.out
   obtain ⟨R,hR⟩:∃ R,R = s.gF F J0 I0:=⟨_,rfl⟩
   rw [← hR] at hp1 hp2
   have hd1:=im_dims HSM.out.1 HM8.out.2
   have hd2:=im_dims HSM.out.2 HM8.out.1
   have hi1:inB m I0 J0 = true:=inB_iff.2 ⟨by omega,by have:=HIJ.out.1; omega,by omega,by have:=HIJ.out.2; omega⟩
   have hi2:inB m2 I0 J0 = true:=inB_iff.2 ⟨by omega,by have h:=HIJ.out.1; rw [hd2.1]; exact Int.ofNat_lt.2 h,by omega,by have h:=HIJ.out.2; rw [hd2.2.1]; exact Int.ofNat_lt.2 h⟩
   have h1:=hd_ (fun q:Bw q9.W => calls_bq (q:=q) (by have h:=wat_call m I0 J0 (im_form HSM.out.1 HM8.out.2) hi1 q.W ((im_In HSM.out.1 HM8.out.2).bel (q9.h.trans q.h)); rw [hp1] at h; exact h))
   have h2:=hd_ (fun q:Bw q9.W => calls_bq (q:=q) (by have h:=wat_call m2 I0 J0 (im_form HSM.out.2 HM8.out.1) hi2 q.W ((im_In HSM.out.2 HM8.out.1).bel (q9.h.trans q.h)); rw [hp2] at h; exact h))
   have h3:=hd_ (fun q:Bw q9.W => calls_bq (q:=q) (HAW.out q.W (HHX.out.trans (q9.h.trans q.h))))
   have e1:∀ W,(binOp .eql 32 (.agg #[.int .u16 R.x,.int .u16 R.y,.int .u16 R.z,.int .u16 R.a,.int .u16 R.f]) (.agg #[.int .u16 R.x,.int .u16 R.y,.int .u16 R.z,.int .u16 R.a,.int .u16 R.f])).run Tryz.prog W = .ok (.bool true) W:=fun W => eql_pixel_same _ _ _ _ _ W
   have qM:=fun q:Bw q9.W => img_ld ((q9.h.trans q.h).heap HE8.out.1)
   have qN:=fun q:Bw q9.W => img_ld ((q9.h.trans q.h).heap HE8.out.2)
   have HHY:=hd_ (HHX.out.trans q9.h)
   clear hp1 hp2 hR hd1 hd2 hi1 hi2 HE8
   refine region_bel (by kernel_rfl) (by kernel_rfl) ?_
   repeat (first | ((with_reducible show wpQuiet _ _ _ _ (⟨some 235,_,_,_,_,_⟩ :: _) _); refine wpQuiet_ldg (op:=⟨some 235,_,_,_,_,_⟩) (by rfl) rfl rfl (fun w2 hw => by obtain ⟨q,rfl⟩:=hw; exact qM q) ?_; simp only [Act.put,List.setIfInBounds_toArray,List.set_cons_zero,List.set_cons_succ]) | ((with_reducible show wpQuiet _ _ _ _ (⟨some 239,_,_,_,_,_⟩ :: _) _); refine wpQuiet_ldg (op:=⟨some 239,_,_,_,_,_⟩) (by rfl) rfl rfl (fun w2 hw => by obtain ⟨q,rfl⟩:=hw; exact qN q) ?_; simp only [Act.put,List.setIfInBounds_toArray,List.set_cons_zero,List.set_cons_succ]) | go_big_quiet_step (first | (go_at_call 20; with_reducible exact h1.out _) | (go_at_call 20; with_reducible exact h2.out _) | (go_at_call 11; with_reducible exact h3.out _)))
   refine wpQuiet_nil ?_
   rintro w5 ⟨q,rfl⟩
   go_wp2_with fail
   go_returns
   exact ⟨rfl,HHY.out.trans q.h⟩
  case pos =>
   have hd:decide ((i:Int) < (s.inn:Int)) = true:=decide_eq_true (by omega)
   have hd':decide (i < s.inn) = true:=decide_eq_true hlt
   have hin:=HG.out.In.bel HI.out.hX
   obtain ⟨a,ha⟩:∃ a,s.ims[i]? = some a:=⟨s.ims[i]'(by rw [hin.lims]; exact hlt),List.getElem?_eq_getElem _⟩
   obtain ⟨g,off,eA,lg,hLD⟩:=hin.ims.imld ha hlt
   have S_8:wr.cell? ⟨T1,8,none⟩ = some (.slice (some ⟨g,off,none⟩) s.inn s.ic):=by rw [← eA]; exact cq8 (HI.out.hX.heap HES.out) rfl
   have hld:=hLD _ (Bel.refl wr)
   have HA:=hd_ ha
   have HGA:=hd_ (HG.out.g a (List.mem_of_getElem? ha))
   obtain ⟨wd,hwd⟩:∃ wd:Nat,a.w = (wd:Int):=⟨a.w.toNat,by have:=HGA.out.w0; omega⟩
   obtain ⟨ht,hht⟩:∃ ht:Nat,a.h = (ht:Int):=⟨a.h.toNat,by have:=HGA.out.h0; omega⟩
   have hw5:1 ≤ wd ∧ wd ≤ 5:=by have:=HGA.out.w0; have:=HGA.out.w1; omega
   have hh5:1 ≤ ht ∧ ht ≤ 5:=by have:=HGA.out.h0; have:=HGA.out.h1; omega
   have hfa:formB a = true:=(validI_parts HGA.out.ok).1
   have HDM:=hd_ (And.intro hwd (And.intro hht hfa))
   have HPP:=hd_ (fun (W:World) (hb:Bel Y W) => wpixels_call a wd ht hwd hht (by omega) (by omega) hfa W (HGA.out.mem.bel hb))
   obtain ⟨N,hNN⟩:∃ N,N = ht * wd:=⟨_,rfl⟩
   rw [← hNN] at HPP
   obtain ⟨L,hL⟩:∃ L,L = imgL a wd ht 0:=⟨_,rfl⟩
   rw [← hL] at HPP
   have HNL:=hd_ (And.intro hNN hL)
   have hN25:N ≤ 25:=by rw [hNN]; exact Nat.mul_le_mul hh5.2 hw5.2
   have hN1:1 ≤ N:=by rw [hNN]; exact Nat.mul_pos hh5.1 hw5.1
   clear hin ha eA hLD hwd hht hfa hNN hL
   go_upto_region 10 with (first | ((with_reducible show wpList _ _ _ (⟨some 61,_,_,_,_,_⟩ :: _) _ _); refine wpList_ld rfl rfl rfl (hld) ?_) | ((with_reducible show wpList _ _ _ (⟨none,.store _ _ _,_,_,_,_⟩ :: _) _ _); refine wpList_st (n:=0) (g:=wr.heap.size) (cells:=a.cs) rfl rfl rfl rfl (at_new rfl) rfl (by kernel_rfl) (im_one a) ?_; intro Q eA hU) | fail)
   have hWQ:Bel wr Q:=hU.bel ((Bel.refl wr).al _) (Nat.le_refl _)
   have hYQ:Bel Y Q:=HI.out.hX.trans hWQ
   have HI2:=hd_ (HI.out.bel hWQ)
   have hT3:=lt_of_heap eA
   obtain ⟨T3,hT3'⟩:∃ T3,T3 = wr.heap.size:=⟨_,rfl⟩
   rw [← hT3'] at eA hT3
   rw [← hT3']
   clear hd hd' S_8 hld hU hWQ HI hT3' lg
   have limg:=img_ld eA
   go_upto_region 11 with (first | ((with_reducible show wpList _ _ _ (⟨some 62,_,_,_,_,_⟩ :: _) _ _); refine wpList_ld rfl rfl rfl (limg) ?_) | (go_at_call 16; (with_reducible refine (HPP.out _ hYQ).mono ?_); rintro e w5 ⟨v5,rfl,hown5,hb5⟩) | fail)
   obtain ⟨g5,c5,rfl,hg5b,hg5s,-⟩:=own_at hown5 (by omega) (by decide)
   have HI3:=hd_ (HI2.out.bel hb5)
   have HA5:=hd_ (And.intro (hb5.heap eA) (And.intro hown5 (hYQ.trans hb5)))
   have hT35:T3 < w5.heap.size:=Nat.lt_of_lt_of_le hT3 hb5.size'
   clear limg HPP eA hT3 hown5 hb5 hYQ HI2 hg5b
   go_upto_region 12 with fail
   refine at_world (fun Z => Bel w5 Z ∧ Z.heap[w5.heap.size]? = some (.cells #[.int .i64 0,.slice none 0 0] 64)) ⟨(Bel.refl w5).al _,at_new (by first | rfl | simp)⟩ ?_
   rintro Z4 ⟨hb4,eR⟩
   obtain ⟨T4,hT4⟩:∃ T4,T4 = w5.heap.size:=⟨_,rfl⟩
   rw [← hT4] at eR hT35 hg5s
   rw [← hT4]
   have hT4':w5.heap.size ≤ T4:=by omega
   clear hT4
   have E_8:=cq8 (hb4.heap (HA5.out.2.2.heap HEE.out)) rfl
   have HB4:=hd_ hb4
   have HER:=hd_ eR
   clear hb4 eR
   go_upto_if 68 with fail
   go_cut [] (fun Z => ∃ (mood:Int) (RA:Option Addr) (rm rc:Nat) (l5:List Q5),Bel w5 Z ∧ Z.heap[T4]? = some (.cells #[.int .i64 mood,.slice RA rm rc] 64) ∧ Sl w 5 rm RA (q5s l5) ∧ l5.length = rm ∧ ∀ q ∈ l5,q.ok)
   case first =>
    have fR:=frozA HER.out
    have R_0:=cq0 HER.out rfl
    have R_1:=cq1 HER.out rfl
    by_cases hp:i < d2.pn
    ·have k0:decide ((i:Int) < (d2.pn:Int)) = true:=decide_eq_true (by omega)
     have k1:decide (i < d2.pn) = true:=decide_eq_true hp
     obtain ⟨p,hpp⟩:∃ p,d2.pics[i]? = some p:=⟨d2.pics[i]'(by rw [HD2.out.lp]; exact hp),List.getElem?_eq_getElem _⟩
     obtain ⟨gp,op,eP,-,-,-,f3,f4⟩:=(HD2.out.pics.bel (HX.out.trans (HA5.out.2.2.trans HB4.out))).pic hpp hp
     rw [eP] at E_8
     have HP:=hd_ (HD2.out.pic p (List.mem_of_getElem? hpp))
     clear eP hpp
     go_wp2_with fail
     go_meet
     exact ⟨p.mood,p.A,p.n,p.c,p.l,(HB4.out.setCell hT4' _).setCell hT4' _,heap_set _ (heap_set _ HER.out),HP.out.sl,HP.out.ll,HP.out.ok⟩
    ·have k0:decide ((i:Int) < (d2.pn:Int)) = false:=decide_eq_false (by omega)
     have k1:decide (i < d2.pn) = false:=decide_eq_false hp
     go_wp2_with fail
     go_meet
     exact ⟨0,none,0,0,[],HB4.out,HER.out,⟨rfl,fun h => absurd h (Nat.lt_irrefl 0)⟩,rfl,by simp⟩
   case rest =>
    obtain ⟨mood,RA,rm,rc,l5,hb6,eR,hsl,hll,hok5⟩:=hcut
    clear HB4 HER E_8
    have R_0:=cq0 eR rfl
    have R_1:=cq1 eR rfl
    obtain ⟨Z,rfl⟩:∃ W:World,W = wc:=⟨_,rfl⟩
    have HGX:=hd_ (gpixels_ex mood RA rm rc l5 N (by omega) s.mx HG.out.mxc Z (hsl.bel (HX.out.trans (HA5.out.2.2.trans hb6))) hll hok5)
    clear hsl hll hok5
    go_upto_region 15 with (first | (go_at_call 17; (with_reducible refine (HGX.out).mono ?_); rintro e w6 ⟨v6,k0,rfl,hlk,hok,hown6,hb7⟩) | fail)
    obtain ⟨g6,c6,rfl,hg6b,hg6s,-⟩:=own_at hown6 (by omega) (by decide)
    have HK0:=hd_ (And.intro hlk (And.intro hok (And.intro hown6 hb7)))
    have HIZ:=hd_ (HI3.out.bel hb6)
    have HLZ:=hd_ (own_ext HA5.out.2.1 hb6)
    have HAZ:=hd_ (And.intro (hb6.heap HA5.out.1) (HA5.out.2.2.trans hb6))
    have hT3Z:T3 < Z.heap.size:=Nat.lt_of_lt_of_le (by have:=hT4'; have:=lt_of_heap HA5.out.1; omega) hb6.size'
    clear R_0 R_1 hlk hok hown6 hb7 HGX HI3 HA5 eR hb6 hT4' hT35
    go_wp2_with fail
    obtain ⟨gk5,rfl⟩:∃ x:Nat,x = gk:=⟨_,rfl⟩
    go_loopg [20] s.pn (fun gk s20 wr => ∃ (q:Nat) (k:List Px),q + gk = s.pn ∧ s20 = .int .i64 q ∧ Bel Z wr ∧ wr.ownsRow Z.heap.size 32 5 (.slice (some ⟨g6,0,none⟩) N c6) N (pxs k) ∧ KpI s.mx a i u v N L k (s.ops.take q))
    case atStart => exact ⟨0,k0,by omega,rfl,HK0.out.2.2.2,HK0.out.2.2.1,HK0.out.1,HK0.out.2.1,by simp,by simp⟩
    case round =>
     obtain ⟨q,k,hgk6,rfl,hq,hown,hKP⟩:=hrel
     clear HK0
     have HKP:=hd_ hKP
     have HQ0:=hd_ hq
     have HOWN0:=hd_ hown
     clear hKP hq hown
     by_cases hlt2:q < s.pn
     case neg =>
      have hd:decide ((q:Int) < (s.pn:Int)) = false:=decide_eq_false (by omega)
      have hd':decide (q < s.pn) = false:=decide_eq_false hlt2
      have hops:s.ops.take q = s.ops:=List.take_of_length_le (by have:=HG.out.In.lops; omega)
      rw [hops] at HKP
      have S_9:=cq9 (HQ0.out.heap (HAZ.out.2.heap HES.out)) rfl
      have A_0:=cq0 (HQ0.out.heap HAZ.out.1) rfl
      have A_1:=cq1 (HQ0.out.heap HAZ.out.1) rfl
      have hmul:a.w * a.h = (N:Int):=by
       rw [HDM.out.1,HDM.out.2.1,HNL.out.1]
       push_cast
       exact Int.mul_comm _ _
      have HIO:=hd_ (wof_call a.w a.h HGA.out.w0 (by have:=HGA.out.w1; omega) HGA.out.h0 (by have:=HGA.out.h1; omega) N hmul hN1 (by omega) k HKP.out.len (some ⟨g6,0,none⟩) c6 wr (own_sl' HOWN0.out))
      have hqs:=HQ0.out.size'
      have hYW:=(HAZ.out.2.trans HQ0.out).size'
      have HQ:=hd_ HQ0.out
      clear hops hmul HOWN0 HQ0
      go_upto_region 24 with (first | (go_at_call 19; (with_reducible refine (HIO.out).mono ?_); rintro e w9 ⟨b,rfl,hbm,hb9⟩) | ((with_reducible show wpList _ _ _ (⟨none,.store _ _ _,_,_,_,_⟩ :: _) _ _); refine wpList_st (n:=0) (g:=w9.heap.size) (cells:=b.cs) rfl rfl rfl rfl (at_new rfl) rfl (by kernel_rfl) (im_one b) ?_; intro U eB hUB) | fail)
      have hbU:Bel wr U:=hUB.bel (hb9.al _) hb9.size'
      have hbm2:=hbm.bel (hUB.bel ((Bel.refl w9).al _) (Nat.le_refl _))
      have hIG:=(lk_img HDM.out.1 HDM.out.2.1 HNL.out.1 hw5 hh5 hbm2 (by rw [← HNL.out.2]; exact HKP.out) (by have:=HG.out.mxc; omega)).lower hYW
      have hAG:=lk_agr HDM.out.1 HDM.out.2.1 HNL.out.1 hw5 hh5 HDM.out.2.2 hbm2 (by rw [← HNL.out.2]; exact HKP.out)
      have HIU:=hd_ (HIZ.out.bel (HQ.out.trans hbU))
      have limb:=img_ld eB
      have T_8:=cq8 HIU.out.eT rfl
      have fT:=frozA HIU.out.eT
      have lT:=lt_of_heap HIU.out.eT
      have hbs:=HIU.out.hX.size'
      have hpc:i + 1 ≤ maxLen:=by unfold maxLen; omega
      have hpd:(i + 1) * 272 ≤ 140737488355328:=by omega
      have HGB:=hd_ (And.intro hIG hAG)
      clear hd hd' S_9 A_0 A_1 HIO hbm hb9 hUB hbU hbm2 hIG hAG HIZ eB hqs hYW HQ
      go_upto_region 8 with (first | ((with_reducible show wpList _ _ _ (⟨some 199,_,_,_,_,_⟩ :: _) _ _); refine wpList_ld rfl rfl rfl (limb) ?_) | (at_builtin; refine wpList_append_own _ rfl _ _ 35 rfl Y.heap.size 46 i0 (.agg #[.int .i64 0,.int .i64 0,.bool false,.int .u16 0,.int .u16 0,.int .u16 0,.int .u16 0,.int .u16 0,.int .i64 0,.int .i64 0,.int .i64 0,.slice none 0 0,.int .i64 0,.int .i64 0,.int .i64 0,.slice none 0 0,.int .i64 0,.int .i64 0,.int .i64 0,.slice none 0 0,.int .i64 0,.int .i64 0,.int .i64 0,.slice none 0 0,.int .i64 0,.int .i64 0,.int .i64 0,.slice none 0 0]) 28 272 Tryz.underlying35 hi hz0 hz1 hz2 rfl (by decide) _ _ _ rfl (own_ext HIU.out.im ((Bel.refl U).al _)) ⟨U.heap.size,0,none⟩ 1 1 b.cs rfl rfl (new_row U b.cs _) (im_one b) hpc hpd (Nat.le_trans hbs ((Bel.refl U).al _).size') ?_) | fail)
      intro v3 W3 hown3 hgr3 _
      obtain ⟨A3,c3,rfl,-⟩:=own_sl hown3
      obtain ⟨e3,I3⟩:=(HIU.out.bel ((Bel.refl U).al (.cells b.cs.toArray 46))).app hgr3 (by rw [imgs_snoc]; exact hown3) HA.out (HGB.out.1.bel ((Bel.refl U).al (.cells b.cs.toArray 46))) HGB.out.2
      have H3:=hd_ I3
      clear T_8 fT lT limb hbs hpc hpd hown3 hgr3 I3 HGB
      have T_8:=cq8 e3 rfl
      have fT:=frozA e3
      have lT:=lt_of_heap e3
      clear e3
      go_wp2_with fail
      go_roundg (gk5 - 1)
      case measure => omega
      case rel => exact ⟨i + 1,A3,c3,K ++ [b],by omega,by go_num,H3.out⟩
     case pos => as_aux_lemma =>
      have hd:decide ((q:Int) < (s.pn:Int)) = true:=decide_eq_true (by omega)
      have hd':decide (q < s.pn) = true:=decide_eq_true hlt2
      have hin2:=HG.out.In.bel (HAZ.out.2.trans HQ0.out)
      obtain ⟨o,ho⟩:∃ o,s.ops[q]? = some o:=⟨s.ops[q]'(by rw [hin2.lops]; exact hlt2),List.getElem?_eq_getElem _⟩
      obtain ⟨go,oo,eO,lgo,hLD⟩:=hin2.ops.opld ho hlt2
      have S_9:wr.cell? ⟨T1,9,none⟩ = some (.slice (some ⟨go,oo,none⟩) s.pn s.pc):=by rw [← eO]; exact cq9 (HQ0.out.heap (HAZ.out.2.heap HES.out)) rfl
      have hld:=hLD _ (Bel.refl wr)
      have hnr:=HG.out.nr o (List.mem_of_getElem? ho)
      have HO:=hd_ ho
      clear hin2 ho eO hLD
      go_upto_region 19 with (first | ((with_reducible show wpList _ _ _ (⟨some 91,_,_,_,_,_⟩ :: _) _ _); refine wpList_ld rfl rfl rfl (hld) ?_) | fail)
      refine at_world (fun Q => Bel Z Q ∧ Q.ownsRow Z.heap.size 32 5 (.slice (some ⟨g6,0,none⟩) N c6) N (pxs k) ∧ Q.heap[wr.heap.size]? = some (oOp o)) ⟨HQ0.out.al _,own_ext HOWN0.out ((Bel.refl wr).al _),at_new (by first | rfl | simp)⟩ ?_
      clear hd hd' S_9 hld lgo HOWN0 HQ0
      rintro Q ⟨hq,hown,eO⟩
      obtain ⟨T6,hT6⟩:∃ T6,T6 = wr.heap.size:=⟨_,rfl⟩
      rw [← hT6] at eO
      rw [← hT6]
      clear hT6
      have HQ:=hd_ hq
      have HOWN:=hd_ hown
      have HEO:=hd_ eO
      clear hq hown eO
      have hs1:IntKind.i64.wrap (u - o.x) = u - o.x:=wrap_i64 _ (by omega) (by omega)
      have hs2:IntKind.i64.wrap (v - o.y) = v - o.y:=wrap_i64 _ (by omega) (by omega)
      have hs3:IntKind.i64.wrap (u - o.mx) = u - o.mx:=wrap_i64 _ (by omega) (by omega)
      have hs4:IntKind.i64.wrap (v - o.my) = v - o.my:=wrap_i64 _ (by omega) (by omega)
      obtain ⟨kb,hkb⟩:∃ kb:Bool,kb = (decide (o.k = 1) && (decide (o.im = i) && inB a (u - o.x) (v - o.y))):=⟨_,rfl⟩
      have HKB:=hd_ hkb
      clear hkb
      go_cut [112] (fun sT Z9 => sT = .bool kb ∧ Bel Q Z9)
      case first =>
       have O_0:=cq0 HEO.out rfl
       have O_1:=cq1 HEO.out rfl
       by_cases hk:o.k = 1
       ·have kk:(o.k == 1) = true:=beq_iff_eq.2 hk
        by_cases hm:o.im = i
        ·have km:(o.im == (i:Int)) = true:=beq_iff_eq.2 hm
         have O_2:=cq2 HEO.out rfl
         have O_3:=cq3 HEO.out rfl
         have limg:=img_ld (HQ.out.heap HAZ.out.1)
         have hns:=inside_call a (u - o.x) (v - o.y) Q
         rw [show inB a (u - o.x) (v - o.y) = kb by rw [HKB.out,decide_eq_true hk,decide_eq_true hm]; rfl] at hns
         have HNS:=hd_ hns
         clear hk hm hns
         go_wp2_with (first | ((with_reducible show wpList _ _ _ (⟨some 102,_,_,_,_,_⟩ :: _) _ _); refine wpList_ldg (op:=⟨some 102,_,_,_,_,_⟩) (by rfl) rfl rfl (limg) ?_) | (go_at_call 18; (with_reducible refine HNS.out.mono ?_); rintro e w7 ⟨rfl,hb7⟩) | fail)
         go_meet
         exact ⟨rfl,hb7⟩
        ·have km:(o.im == (i:Int)) = false:=beq_eq_false_iff_ne.2 hm
         obtain rfl:kb = false:=by rw [HKB.out,decide_eq_false hm,Bool.false_and,Bool.and_false]
         clear hm hk
         go_wp2_with fail
         go_meet
         exact ⟨rfl,Bel.refl _⟩
       ·have kk:(o.k == 1) = false:=beq_eq_false_iff_ne.2 hk
        obtain rfl:kb = false:=by rw [HKB.out,decide_eq_false hk,Bool.false_and]
        clear hk
        go_wp2_with fail
        go_meet
        exact ⟨rfl,Bel.refl _⟩
      case rest =>
       obtain ⟨rfl,hQU⟩:=hcut
       obtain ⟨U,rfl⟩:∃ W:World,W = wc:=⟨_,rfl⟩
       have HU:=hd_ (And.intro (HQ.out.trans hQU) (And.intro (own_ext HOWN.out hQU) (hQU.heap HEO.out)))
       clear HQ HOWN HEO hQU
       go_upto_if 112 with fail
       go_cut [] (fun Z9 => ∃ k':List Px,Bel Z Z9 ∧ Z9.ownsRow Z.heap.size 32 5 (.slice (some ⟨g6,0,none⟩) N c6) N (pxs k') ∧ Z9.heap[T6]? = some (oOp o) ∧ KpI s.mx a i u v N L k' (s.ops.take q) ∧ LkD a i u v L k' o)
       case first =>
        cases kb with
        | false =>
         go_wp2_with fail
         go_meet
         exact ⟨k,HU.out.1,HU.out.2.1,HU.out.2.2,HKP.out,⟨fun h1 h2 h3 => by have h:=HKB.out; rw [decide_eq_true h1,decide_eq_true h2,h3] at h; cases h⟩⟩
        | true =>
         have hB:inB a (u - o.x) (v - o.y) = true:=by
          have h:=HKB.out.symm
          simp only [Bool.and_eq_true] at h
          exact h.2.2
         obtain ⟨hPN,hs2',hs3',hs4'⟩:=place_nums HDM.out.1 HDM.out.2.1 HNL.out.1 hw5.2 hh5.2 hB rfl (by omega) (u:=u) (ox:=o.x) (by omega)
         have hLP:=imgL_get HDM.out.1 HDM.out.2.1 hB
         rw [← HNL.out.2] at hLP
         have hpk:Px.ok s.mx (pxF a (u - o.x) (v - o.y)):=by
          have h:=HGA.out.px (u - o.x) (v - o.y)
          unfold atF at h
          rw [HDM.out.2.2,hB] at h
          exact h
         obtain ⟨P,hP⟩:∃ P,P = plN a (u - o.x) (v - o.y):=⟨_,rfl⟩
         rw [← hP] at hPN hs4' hLP
         obtain ⟨p,hp⟩:∃ p,p = pxF a (u - o.x) (v - o.y):=⟨_,rfl⟩
         rw [← hp] at hLP hpk
         have HP:=hd_ hP
         have HLP:=hd_ hLP
         have HPK:=hd_ hpk
         clear hP hp hpk hB
         have hZU:=HU.out.1
         have hLU:=own_ext HLZ.out hZU
         have hLl:L.length = N:=by
          have h:=hLU.1
          rw [pxs_len] at h
          omega
         obtain ⟨l0,l1,l2,l3,l4⟩:=own_px hLU hLl hLP
         have a0:=cq0 (hZU.heap HAZ.out.1) rfl
         have ox:=cq2 HU.out.2.2 rfl
         have oy:=cq3 HU.out.2.2 rfl
         have qa:=fun q:Bw U => q.h.cell a0
         have qx:=fun q:Bw U => q.h.cell ox
         have qy:=fun q:Bw U => q.h.cell oy
         have q0:=fun q:Bw U => q.h.cell l0
         have q1:=fun q:Bw U => q.h.cell l1
         have q2:=fun q:Bw U => q.h.cell l2
         have q3:=fun q:Bw U => q.h.cell l3
         have q4:=fun q:Bw U => q.h.cell l4
         have i1:=decide_eq_true (show (P:Int) < (N:Int) by omega)
         have i2:=decide_eq_true hPN
         have i3:(P:Int) < (N:Int):=by omega
         have HPN:=hd_ hPN
         clear hLP hLl l0 l1 l2 l3 l4 a0 ox oy hLU hZU
         go_upto_region 20 with fail
         refine region_btail 29 (by kernel_rfl) (by kernel_rfl) ?_
         simp only [List.take_succ_cons,List.take_zero]
         repeat (go_big_quiet_step (fail))
         refine wpQuiet_nil ?_
         rintro w8 ⟨q8,rfl⟩
         simp only [List.drop_succ_cons,List.drop_zero]
         have hrq:=own_ext HU.out.2.1 q8.h
         go_wp2_with (first | ((with_reducible show wpList _ _ _ (⟨none,.store _ _ _,_,_,_,_⟩ :: _) _ _); refine wpList_so (f:=Px.cs) p (fun _ => rfl) rfl rfl rfl rfl hrq (by first | rfl | omega) HPN.out (by kernel_rfl) (px_one p) ?_; intro W9 hown9 hU9) | fail)
         go_meet
         exact ⟨k.set P p,hU9.bel (HU.out.1.trans q8.h) hg6b,hown9,hU9.heap (q8.h.heap HU.out.2.2) (fun e => own_ne_heap hrq (q8.h.heap HU.out.2.2) (by decide) (congrArg some e.symm)),HKP.out.set HLP.out HPK.out,⟨fun _ _ _ => by rw [← HP.out]; exact set_here HLP.out (by rw [HKP.out.len]; exact HPN.out)⟩⟩
       case rest =>
        obtain ⟨k',hq,hown,eO,hKP,hDD⟩:=hcut
        obtain ⟨Q,rfl⟩:∃ W:World,W = wc:=⟨_,rfl⟩
        clear HKP HU HKB
        obtain ⟨k,rfl⟩:∃ x:List Px,x = k':=⟨_,rfl⟩
        have HKP:=hd_ hKP
        have HDD:=hd_ hDD
        have HQ:=hd_ hq
        have HOWN:=hd_ hown
        have HEO:=hd_ eO
        clear hq hown eO hKP hDD
        go_upto_region 21 with fail
        obtain ⟨kb,hkb⟩:∃ kb:Bool,kb = (decide (o.ms = i + 1) && inB a (u - o.mx) (v - o.my)):=⟨_,rfl⟩
        have HKB:=hd_ hkb
        clear hkb
        go_cut [158] (fun sT Z9 => sT = .bool kb ∧ Bel Q Z9)
        case first =>
         have O_4:=cq4 HEO.out rfl
         have hwi:IntKind.i64.wrap ((i:Int) + 1) = (i:Int) + 1:=wrap_i64 _ (by omega) (by omega)
         by_cases hm:o.ms = i + 1
         ·have km:(o.ms == (i:Int) + 1) = true:=beq_iff_eq.2 hm
          have O_5:=cq5 HEO.out rfl
          have O_6:=cq6 HEO.out rfl
          have limg:=img_ld (HQ.out.heap HAZ.out.1)
          have hns:=inside_call a (u - o.mx) (v - o.my) Q
          rw [show inB a (u - o.mx) (v - o.my) = kb by rw [HKB.out,decide_eq_true hm]; rfl] at hns
          have HNS:=hd_ hns
          clear hm hns
          go_wp2_with (first | ((with_reducible show wpList _ _ _ (⟨some 148,_,_,_,_,_⟩ :: _) _ _); refine wpList_ldg (op:=⟨some 148,_,_,_,_,_⟩) (by rfl) rfl rfl (limg) ?_) | (go_at_call 18; (with_reducible refine HNS.out.mono ?_); rintro e w7 ⟨rfl,hb7⟩) | fail)
          go_meet
          exact ⟨rfl,hb7⟩
         ·have km:(o.ms == (i:Int) + 1) = false:=beq_eq_false_iff_ne.2 hm
          obtain rfl:kb = false:=by rw [HKB.out,decide_eq_false hm,Bool.false_and]
          clear hm
          go_wp2_with fail
          go_meet
          exact ⟨rfl,Bel.refl _⟩
        case rest =>
         obtain ⟨rfl,hQU⟩:=hcut
         obtain ⟨U,rfl⟩:∃ W:World,W = wc:=⟨_,rfl⟩
         have HU:=hd_ (And.intro (HQ.out.trans hQU) (And.intro (own_ext HOWN.out hQU) (hQU.heap HEO.out)))
         clear HQ HOWN HEO hQU
         cases kb with
         | false =>
          go_wp2_with fail
          go_roundg (gk - 1)
          case measure => omega
          case rel => exact ⟨q + 1,k,by omega,by go_num,HU.out.1,HU.out.2.1,by rw [take_snoc HO.out]; exact HKP.out.snoc HDD.out ⟨fun h1 h3 => by have h:=HKB.out; rw [decide_eq_true h1,h3] at h; cases h⟩⟩
         | true =>
          have hB:inB a (u - o.mx) (v - o.my) = true:=by
           have h:=HKB.out.symm
           simp only [Bool.and_eq_true] at h
           exact h.2
          obtain ⟨hPN,hs2',hs3',hs4'⟩:=place_nums HDM.out.1 HDM.out.2.1 HNL.out.1 hw5.2 hh5.2 hB rfl (by omega) (u:=u) (ox:=o.mx) (by omega)
          have hLP:=imgL_get HDM.out.1 HDM.out.2.1 hB
          rw [← HNL.out.2] at hLP
          have hpk:Px.ok s.mx (pxF a (u - o.mx) (v - o.my)):=by
           have h:=HGA.out.px (u - o.mx) (v - o.my)
           unfold atF at h
           rw [HDM.out.2.2,hB] at h
           exact h
          obtain ⟨P,hP⟩:∃ P,P = plN a (u - o.mx) (v - o.my):=⟨_,rfl⟩
          rw [← hP] at hPN hs4' hLP
          obtain ⟨p,hp⟩:∃ p,p = pxF a (u - o.mx) (v - o.my):=⟨_,rfl⟩
          rw [← hp] at hLP hpk
          have HP:=hd_ hP
          have HLP:=hd_ hLP
          have HPK:=hd_ hpk
          clear hP hp hpk hB
          have hZU:=HU.out.1
          have hLU:=own_ext HLZ.out hZU
          have hLl:L.length = N:=by
           have h:=hLU.1
           rw [pxs_len] at h
           omega
          obtain ⟨l0,l1,l2,l3,l4⟩:=own_px hLU hLl hLP
          have a0:=cq0 (hZU.heap HAZ.out.1) rfl
          have ox:=cq5 HU.out.2.2 rfl
          have oy:=cq6 HU.out.2.2 rfl
          have qa:=fun q:Bw U => q.h.cell a0
          have qx:=fun q:Bw U => q.h.cell ox
          have qy:=fun q:Bw U => q.h.cell oy
          have q0:=fun q:Bw U => q.h.cell l0
          have q1:=fun q:Bw U => q.h.cell l1
          have q2:=fun q:Bw U => q.h.cell l2
          have q3:=fun q:Bw U => q.h.cell l3
          have q4:=fun q:Bw U => q.h.cell l4
          have i1:=decide_eq_true (show (P:Int) < (N:Int) by omega)
          have i2:=decide_eq_true hPN
          have i3:(P:Int) < (N:Int):=by omega
          have HPN:=hd_ hPN
          clear hLP hLl l0 l1 l2 l3 l4 a0 ox oy hLU hZU
          go_upto_region 22 with fail
          refine region_btail 29 (by kernel_rfl) (by kernel_rfl) ?_
          simp only [List.take_succ_cons,List.take_zero]
          repeat (go_big_quiet_step (fail))
          refine wpQuiet_nil ?_
          rintro w8 ⟨q8,rfl⟩
          simp only [List.drop_succ_cons,List.drop_zero]
          have hrq:=own_ext HU.out.2.1 q8.h
          go_wp2_with (first | ((with_reducible show wpList _ _ _ (⟨none,.store _ _ _,_,_,_,_⟩ :: _) _ _); refine wpList_so (f:=Px.cs) p (fun _ => rfl) rfl rfl rfl rfl hrq (by first | rfl | omega) HPN.out (by kernel_rfl) (px_one p) ?_; intro W9 hown9 hU9) | fail)
          go_roundg (gk - 1)
          case measure => omega
          case rel => exact ⟨q + 1,k.set P p,by omega,by go_num,hU9.bel (HU.out.1.trans q8.h) hg6b,hown9,by rw [take_snoc HO.out]; exact (HKP.out.set HLP.out HPK.out).snoc (HDD.out.set HLP.out) ⟨fun _ _ => by rw [← HP.out]; exact set_here HLP.out (by rw [HKP.out.len]; exact HPN.out)⟩⟩
end Go.Proofs.YtepfoelgegljbaaGreatDoor
