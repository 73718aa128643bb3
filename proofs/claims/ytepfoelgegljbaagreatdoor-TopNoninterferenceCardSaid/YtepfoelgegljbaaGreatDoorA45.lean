/- Part A45. -/
import Derived.Test.YtepfoelgegljbaaGreatDoorA44
namespace Go.Proofs.YtepfoelgegljbaaGreatDoor
set_option maxRecDepth 100000
open Go.RowKit
set_option linter.unusedVariables false
set_option linter.unusedSimpArgs false
theorem tlWScr0 {p:Prop} (h:p:=by
  rw [imgs_snoc]
  exact own_upd H8.out.2.2.2 hu (own_ne_heap H8.out.2.2.2 H8.out.1.eO (by decide))):p:=h
set_option maxHeartbeats 16000000 in
theorem gscript_ex (d:SceneD) (w:World) (hd:d.In w) :
  Calls Tryz.prog 7 #[d.v] w fun e w' => ∃ (s:Scr) (F:Fo),e = .returned s.v ∧ GScr w' w.heap.size s F ∧ Bel w w':=by
 have hM:=hd_ (fun (x k:Int) (h0:1 ≤ k) (h1:k ≤ 4611686018427387903) (W:World) => mod_call x k W h0 h1)
 have hMX:=hd_ (fun W => calls_bs (max_call d.bits W))
 have HD:=hd_ hd
 obtain ⟨mx,hmx⟩:∃ mx,mx = gmax d.bits:=⟨_,rfl⟩
 have hmc:mx = 255 ∨ mx = 65535:=by rw [hmx]; exact gmax_cases _
 rw [← hmx] at hMX
 have HMC:=hd_ hmc
 clear hmx hmc hd
 go_enter Tryz.func7,Tryz.ntmps7
 go_upto_region 1 with fail
 refine at_world (fun V => Bel w V ∧ V.heap[w.heap.size]? = some (.cells #[.int .i64 d.bits,.int .i64 d.x,.int .i64 d.y,.int .i64 d.w,.int .i64 d.h,.int .i64 d.tw,.int .i64 d.th,.slice d.oA d.on d.oc,.slice d.pA d.pn d.pc,.slice d.qA d.qn d.qc] 26) ∧ V.heap[w.heap.size + 1]? = some (.cells #[.int .i64 0,.int .i64 0,.int .i64 0,.int .i64 0,.int .i64 0,.int .i64 0,.int .i64 0,.slice none 0 0,.slice none 0 0,.slice none 0 0] 38)) ⟨((Bel.refl w).al _).al _,at_old (at_new (by first | rfl | simp)),at_new (by first | rfl | simp)⟩ ?_
 rintro V ⟨hX,eD,eR⟩
 have Ds:=lt_of_heap eD
 have Rs:=lt_of_heap eR
 have D_0:=cq0 eD rfl
 have fD:=frozA eD
 have fR:=frozA eR
 go_upto_region 2 with (first | (go_at_call 22; (with_reducible refine (hMX.out _).mono ?_); rintro e w1 ⟨rfl,hb⟩; replace hX:=hX.trans hb; replace eD:=hb.heap eD; replace eR:=hb.heap eR; clear Ds D_0 fD Rs fR; have Ds:=lt_of_heap eD; have Rs:=lt_of_heap eR; have D_0:=cq0 eD rfl; have fD:=frozA eD; have fR:=frozA eR; clear hb) | fail)
 have HX2:=hd_ (And.intro hX (And.intro eD eR))
 have lR:=lt_of_heap eR
 clear Ds D_0 fD Rs fR hX eD eR
 go_upto_if 25 with (first | ((with_reducible show wpList _ _ _ (⟨none,.store _ _ _,_,_,_,_⟩ :: _) _ _); refine wpList_st (n:=0) (g:=w1.heap.size) (cells:=(s0 8).cs) rfl rfl rfl rfl (at_new rfl) rfl (by kernel_rfl) (by decide) ?_; intro Y4 e4 hU4) | fail)
 refine at_world (fun Y => ScI w w1.heap.size d Y (s0 8)) ⟨hU4.bel (HX2.out.1.al _) (by omega),hU4.heap (at_old HX2.out.2.1) (by omega),hU4.heap (at_old HX2.out.2.2) (by omega),e4,lR⟩ ?_
 clear e4 hU4 HX2
 rintro Y I
 go_cut [] (fun Z => ∃ b,ScI w w1.heap.size d Z (s0 b) ∧ (b = 8 ∨ b = 16) ∧ maxI b = mx)
 case first =>
  have O_0:=cq0 I.eO rfl
  have fO:=frozA I.eO
  rcases HMC.out with hc | hc
  ·have kk:decide (255 < mx) = false:=decide_eq_false (by omega)
   go_wp2_with fail
   go_meet
   exact ⟨8,I,.inl rfl,by rw [hc]; rfl⟩
  ·have kk:decide (255 < mx) = true:=decide_eq_true (by omega)
   go_wp2_with fail
   go_meet
   exact ⟨16,I.upd ((Upd.refl _ _).set 0 _) (heap_set _ I.eO),.inr rfl,by rw [hc]; rfl⟩
 case rest =>
  obtain ⟨b,I,hb,hbm⟩:=hcut
  have HB:=hd_ (And.intro hb hbm)
  clear hb hbm
  have qD1:=fun q:Bw wc => q.h.cell (cq1 I.eD rfl)
  have qD2:=fun q:Bw wc => q.h.cell (cq2 I.eD rfl)
  have hx:=hd_ (fun q:Bw wc => calls_bq (q:=q) (calls_bs (hM.out d.x 13 (by decide) (by decide) q.W)))
  have hy:=hd_ (fun q:Bw wc => calls_bq (q:=q) (calls_bs (hM.out d.y 13 (by decide) (by decide) q.W)))
  have wx:IntKind.i64.wrap (d.x % 13 - 6) = d.x % 13 - 6:=wrap_i64 _ (by omega) (by omega)
  have wy:IntKind.i64.wrap (d.y % 13 - 6) = d.y % 13 - 6:=wrap_i64 _ (by omega) (by omega)
  have HI:=hd_ I
  clear I
  go_upto_region 5 with fail
  refine region_bel (by kernel_rfl) (by kernel_rfl) ?_
  repeat (go_big_quiet_step (first | (go_at_call 8; with_reducible exact hx.out _) | (go_at_call 8; with_reducible exact hy.out _)))
  refine wpQuiet_nil ?_
  rintro w5 ⟨q,rfl⟩
  have HI5:=hd_ (HI.out.bel q.h)
  obtain ⟨X,hX⟩:∃ X,X = d.x % 13 - 6:=⟨_,rfl⟩
  obtain ⟨Y2,hY⟩:∃ Y2,Y2 = d.y % 13 - 6:=⟨_,rfl⟩
  have X0:-6 ≤ X:=by omega
  have X1:X ≤ 6:=by omega
  have Y0:-6 ≤ Y2:=by omega
  have Y1:Y2 ≤ 6:=by omega
  rw [← hX,← hY]
  go_upto_region 6 with fail
  refine at_world (fun Z => ScI w w1.heap.size d Z (s0 b)) HI5.out ?_
  clear qD1 qD2 hx hy wx wy hX hY HI HI5
  rintro Z6 I
  have qD3:=fun q:Bw Z6 => q.h.cell (cq3 I.eD rfl)
  have qD4:=fun q:Bw Z6 => q.h.cell (cq4 I.eD rfl)
  have hx:=hd_ (fun q:Bw Z6 => calls_bq (q:=q) (calls_bs (hM.out d.w 5 (by decide) (by decide) q.W)))
  have hy:=hd_ (fun q:Bw Z6 => calls_bq (q:=q) (calls_bs (hM.out d.h 4 (by decide) (by decide) q.W)))
  have wx:IntKind.i64.wrap (1 + d.w % 5) = 1 + d.w % 5:=wrap_i64 _ (by omega) (by omega)
  have wy:IntKind.i64.wrap (1 + d.h % 4) = 1 + d.h % 4:=wrap_i64 _ (by omega) (by omega)
  have HI:=hd_ I
  clear I
  refine region_bel (by kernel_rfl) (by kernel_rfl) ?_
  repeat (go_big_quiet_step (first | (go_at_call 8; with_reducible exact hx.out _) | (go_at_call 8; with_reducible exact hy.out _)))
  refine wpQuiet_nil ?_
  rintro w5 ⟨q6,rfl⟩
  have HI5:=hd_ (HI.out.bel q6.h)
  obtain ⟨WW,hW⟩:∃ X,X = 1 + d.w % 5:=⟨_,rfl⟩
  obtain ⟨HH,hH⟩:∃ Y2,Y2 = 1 + d.h % 4:=⟨_,rfl⟩
  have W0:1 ≤ WW:=by omega
  have W5:WW ≤ 5:=by omega
  have H0:1 ≤ HH:=by omega
  have H4:HH ≤ 4:=by omega
  rw [← hW,← hH]
  clear wx wy qD3 qD4 hx hy hW hH HI
  have wx:IntKind.i64.wrap (X + WW) = X + WW:=wrap_i64 _ (by omega) (by omega)
  have wy:IntKind.i64.wrap (Y2 + HH) = Y2 + HH:=wrap_i64 _ (by omega) (by omega)
  have O_1:=cq1 HI5.out.eO rfl
  have O_2:=cq2 HI5.out.eO rfl
  have O_3:=cq3 HI5.out.eO rfl
  have O_4:=cq4 HI5.out.eO rfl
  have fO:=frozA HI5.out.eO
  go_upto_region 8 with fail
  refine at_world (fun Z => ScI w w1.heap.size d Z ⟨b,⟨X,Y2,X + WW,Y2 + HH⟩,0,0,none,0,0,[],none,0,0,[],none,0,0,[]⟩) (HI5.out.upd ((((((Upd.refl _ _).set 1 _).set 2 _).set 3 _).set 4 _)) (heap_set _ (heap_set _ (heap_set _ (heap_set _ HI5.out.eO))))) ?_
  clear O_1 O_2 O_3 O_4 fO wx wy HI5
  rintro Z8 I
  have t0:0 ≤ d.tw % WW:=Int.emod_nonneg _ (by omega)
  have t1:d.tw % WW < WW:=Int.emod_lt_of_pos _ (by omega)
  have t2:0 ≤ d.th % HH:=Int.emod_nonneg _ (by omega)
  have t3:d.th % HH < HH:=Int.emod_lt_of_pos _ (by omega)
  have wx:IntKind.i64.wrap (1 + d.tw % WW) = 1 + d.tw % WW:=wrap_i64 _ (by omega) (by omega)
  have wy:IntKind.i64.wrap (1 + d.th % HH) = 1 + d.th % HH:=wrap_i64 _ (by omega) (by omega)
  have D_5:=fun (W:World) (h:Kp w1.heap.size Z8 W) => h.cell (cq5 I.eD rfl) (by show w.heap.size ≠ w1.heap.size; have:=I.tT; omega)
  have D_6:=fun (W:World) (h:Kp w1.heap.size Z8 W) => h.cell (cq6 I.eD rfl) (by show w.heap.size ≠ w1.heap.size; have:=I.tT; omega)
  have O_5:=cq5 I.eO rfl
  have O_6:=cq6 I.eO rfl
  have fO:=frozA I.eO
  have hS0:Kp w1.heap.size Z8 Z8.drew:=Kp.of_bel (Bel.refl Z8).dr
  have HII:=hd_ I
  clear I
  go_cut [] (fun Z => ScI w w1.heap.size d Z ⟨b,⟨X,Y2,X + WW,Y2 + HH⟩,1 + d.tw % WW,1 + d.th % HH,none,0,0,[],none,0,0,[],none,0,0,[]⟩)
  case first =>
   go_region_held3 (fun W => Kp w1.heap.size Z8 W) ((repeat (with_reducible first | assumption | exact Kp.refl _ _ | refine Kp.st ?_ _ _ | refine Kp.dr ?_))) (first | (go_at_call 8; (with_reducible refine (hM.out _ _ (by first | decide | omega) (by first | decide | omega) _).mono ?_); rintro e w9 ⟨rfl,rfl⟩))
   all_goals go_wp2_with fail
   all_goals go_meet
   all_goals exact HII.out.upd (by (repeat (with_reducible first | exact Upd.refl _ _ | refine Upd.dr ?_ | refine Upd.set ?_ _ _))) (by (first | exact heap_set _ (heap_set _ HII.out.eO) | (refine (heap_set _ (heap_set _ HII.out.eO)).trans ?_; rfl) | exact at_drew1 (heap_set _ (heap_set _ HII.out.eO))))
  case rest =>
   have I:=hcut
   clear hcut D_5 D_6 O_5 O_6 fO hS0 HII wx wy
   obtain ⟨TW,hTW⟩:∃ x,x = 1 + d.tw % WW:=⟨_,rfl⟩
   obtain ⟨TH,hTH⟩:∃ x,x = 1 + d.th % HH:=⟨_,rfl⟩
   have a0:1 ≤ TW:=by omega
   have a1:TW ≤ WW:=by omega
   have a2:1 ≤ TH:=by omega
   have a3:TH ≤ HH:=by omega
   rw [← hTW,← hTH] at I
   clear hTW hTH t0 t1 t2 t3
   have hti:(⟨X,Y2,X + WW,Y2 + HH⟩:Rc).ti:=⟨by show -4194304 ≤ X; omega,by show X < X + WW; omega,by show X + WW ≤ 4194304; omega,by show -4194304 ≤ Y2; omega,by show Y2 < Y2 + HH; omega,by show Y2 + HH ≤ 4194304; omega⟩
   have HT:=hd_ (fun W => wtiles_call ⟨X,Y2,X + WW,Y2 + HH⟩ hti TW TH a0 (by show TW ≤ X + WW - X; omega) a2 (by show TH ≤ Y2 + HH - Y2; omega) W)
   dsimp only at HT
   rw [show X + WW - X = WW by omega,show Y2 + HH - Y2 = HH by omega] at HT
   obtain ⟨nx,hnx⟩:∃ x,x = (WW + TW - 1) / TW:=⟨_,rfl⟩
   obtain ⟨ny,hny⟩:∃ x,x = (HH + TH - 1) / TH:=⟨_,rfl⟩
   obtain ⟨n0,n1⟩:=div_ceil a0 a1
   obtain ⟨m0,m1⟩:=div_ceil a2 a3
   rw [← hnx] at HT n0 n1
   rw [← hny] at HT m0 m1
   have hmul0:1 * 1 ≤ nx * ny:=Int.mul_le_mul n0 m0 (by decide) (by omega)
   have hmul1:nx * ny ≤ 5 * 4:=Int.mul_le_mul (by omega) (by omega) (by omega) (by decide)
   obtain ⟨N,hN⟩:∃ N:Nat,nx * ny = (N:Int):=⟨(nx * ny).toNat,by omega⟩
   have hwN:IntKind.i64.wrap (nx * ny) = (N:Int):=by rw [hN]; exact wrap_i64 _ (by omega) (by omega)
   have HP:=hd_ (fun (W:World) (hb:Bel w W) => gperm_ex d.ord d.on d.oA d.oc N (by omega) (by omega) W ((HD.out.bel hb).ord) HD.out.ordR)
   have hcan:(⟨b,⟨X,Y2,X + WW,Y2 + HH⟩,TW,TH,none,0,0,[],none,0,0,[],none,0,0,[]⟩:Scr).nt = N:=by
    have hok:cntOk ⟨X,Y2,X + WW,Y2 + HH⟩ TW TH = true:=by
     refine cntOk_iff.2 ⟨(emp_iff _).2 ⟨(good_iff _).2 ?_,?_,?_⟩,a0,?_,a2,?_⟩
     ·dsimp only
      omega
     ·show X < X + WW; omega
     ·show Y2 < Y2 + HH; omega
     ·show TW ≤ X + WW - X; omega
     ·show TH ≤ Y2 + HH - Y2; omega
    unfold Scr.nt cntX cntY
    dsimp only
    rw [hok]
    simp only [if_true]
    rw [show X + WW - X = WW by omega,show Y2 + HH - Y2 = HH by omega,← hnx,← hny,hN]
    omega
   have HNT:=hd_ hcan
   clear hcan hnx hny hN hti
   have O_1:=cq1 I.eO rfl
   have O_2:=cq2 I.eO rfl
   have O_3:=cq3 I.eO rfl
   have O_4:=cq4 I.eO rfl
   have O_5:=cq5 I.eO rfl
   have O_6:=cq6 I.eO rfl
   go_upto_region 11 with (first | (go_at_call 23; (with_reducible refine (HT.out _).mono ?_); rintro e w3 ⟨rfl,hb3⟩; replace I:=I.bel hb3; clear O_1 O_2 O_3 O_4 O_5 O_6; have D_7:=cq7 I.eD rfl) | (go_at_call 24; (with_reducible refine (HP.out _ I.hX).mono ?_); rintro e w4 ⟨v4,ol,rfl,hown4,hok4,hb4⟩; obtain ⟨oA,oc2,rfl,-⟩:=own_sl hown4; have hbo:=I.hX.size'; replace I:=I.bel hb4; clear D_7; have O_7:=cq7 I.eO rfl; have fO:=frozA I.eO) | fail)
   have hup:=setCells_upd w1.heap.size [.slice oA ol.length oc2] 7 w4
   have hor:=own_upd (own_base hown4 hbo) hup (own_ne_heap hown4 I.eO (by decide))
   refine at_world (fun Z => ScI w w1.heap.size d Z ⟨b,⟨X,Y2,X + WW,Y2 + HH⟩,TW,TH,oA,ol.length,oc2,ol,none,0,0,[],none,0,0,[]⟩ ∧ Z.ownsRow w.heap.size 3 1 (.slice oA ol.length oc2) ol.length (ints64 ol)) ⟨I.upd hup (heap_set _ I.eO),hor⟩ ?_
   have HOK:=hd_ hok4
   clear O_7 fO hup hor hown4 hok4 I hbo hwN HT HP
   rintro Z11 ⟨I,hor⟩
   obtain ⟨M,hM⟩:∃ M,M = min d.pn 4:=⟨_,rfl⟩
   have HI0:=hd_ (And.intro I hor)
   have hbase:=I.hX.size'
   clear I hor
   go_wp2_with fail
   obtain ⟨i0,hi,hz0,hz1,hz2⟩:=info_parts info_im
   go_loopg [12] M (fun gk s12 wr => ∃ (i:Nat) (l:List Img) (A:Option Addr) (c:Nat),i + gk = M ∧ s12 = .int .i64 i ∧ l.length = i ∧ ScI w w1.heap.size d wr ⟨b,⟨X,Y2,X + WW,Y2 + HH⟩,TW,TH,oA,ol.length,oc2,ol,A,i,c,l,none,0,0,[]⟩ ∧ wr.ownsRow w.heap.size 3 1 (.slice oA ol.length oc2) ol.length (ints64 ol) ∧ wr.ownsRow w.heap.size 46 28 (.slice A i c) i (imgs l) ∧ ∀ m ∈ l,ImgG wr w.heap.size mx m)
   case atStart => exact ⟨0,[],none,0,by omega,rfl,rfl,HI0.out.1,HI0.out.2,World.ownsRow_nil _ _ _ _,by simp⟩
   case round =>
    obtain ⟨i,l,A5,c5,hgk,rfl,hll,I,hor,him,hG⟩:=hrel
    clear HI0
    have D_8:=cq8 I.eD rfl
    have hX0:=I.hX
    by_cases hlt:i < M
    case neg =>
     obtain rfl:i = M:=by omega
     have HM:=hd_ hM
     have HI:=hd_ (And.intro I (And.intro hor (And.intro him hG)))
     have HLL:=hd_ hll
     have HFR:=hd_ (fun (A:Option Addr) (n c:Nat) (l:List Img) => (⟨HB.out.1,HB.out.2,X0,X1,Y0,Y1,by show X < X + WW; omega,by show X + WW ≤ X + 5; omega,by show Y2 < Y2 + HH; omega,by show Y2 + HH ≤ Y2 + 4; omega,a0,by show TW ≤ X + WW - X; omega,a2,by show TH ≤ Y2 + HH - Y2; omega⟩:FrG mx ⟨b,⟨X,Y2,X + WW,Y2 + HH⟩,TW,TH,oA,ol.length,oc2,ol,A,n,c,l,none,0,0,[]⟩))
     clear hM I hor him hG hll hX0
     go_upto_region 12 with fail
     go_cut [91] (fun s91 Z => s91 = .bool false ∧ Z = wr)
     case first =>
      by_cases hp4:d.pn ≤ 4
      ·have k1:decide ((i:Int) < (d.pn:Int)) = false:=decide_eq_false (by have:=HM.out; omega)
       have k1':decide (i < d.pn) = false:=decide_eq_false (by have:=HM.out; omega)
       go_wp2_with fail
       go_meet
       exact ⟨rfl,rfl⟩
      ·have k1:decide ((i:Int) < (d.pn:Int)) = true:=decide_eq_true (by have:=HM.out; omega)
       have k1':decide (i < d.pn) = true:=decide_eq_true (by have:=HM.out; omega)
       have k2:decide ((i:Int) < 4) = false:=decide_eq_false (by have:=HM.out; omega)
       go_wp2_with fail
       go_meet
       exact ⟨rfl,rfl⟩
     case rest =>
      obtain ⟨rfl,hZ⟩:=hcut
      subst hZ
      clear D_8
      obtain ⟨V15,rfl⟩:∃ W:World,W = wc:=⟨_,rfl⟩
      have O_8:=cq8 HI.out.1.eO rfl
      go_upto_if 111 with fail
      go_cut [] (fun Z => ∃ s1:Scr,ScJ w Z w1.heap.size d mx (s1.wo none 0 0 []) ∧ FrG mx s1 ∧ orderOk s1.ord s1.nt ∧ 1 ≤ s1.inn ∧ s1.inn ≤ 4)
      case first =>
       by_cases hz:i = 0
       ·have kk:((i:Int) == 0) = true:=beq_iff_eq.2 (by omega)
        obtain ⟨m,hmc,hmg⟩:∃ m,(∀ W,Calls Tryz.prog 26 #[.int .i64 WW,.int .i64 HH,(⟨mx,0,0,mx,mx⟩:Px).v] W fun e w' => e = .returned (Img.v m) ∧ Bel W w') ∧ (∀ (W:World) (B:Nat),ImgG W B mx m):=by
         have m0:0 ≤ mx:=by have:=HMC.out; omega
         have hp:Px.ok mx ⟨mx,0,0,mx,mx⟩:=⟨m0,Int.le_refl _,Int.le_refl _,Int.le_refl _,m0,m0,Int.le_refl _,Int.le_refl _⟩
         have hww:1 * 1 ≤ WW * HH:=Int.mul_le_mul W0 H0 (by decide) (by omega)
         have hww2:WW * HH ≤ 5 * 4:=Int.mul_le_mul W5 H4 (by omega) (by decide)
         refine ⟨solidF WW HH ⟨mx,0,0,mx,mx⟩,fun W => wsolid_call WW HH ⟨mx,0,0,mx,mx⟩ W,fun W B => ⟨fun i hi => solid_R _ _ _ _ _ i hi,W0,W5,H0,by show HH ≤ 5; omega,?_,?_⟩⟩
         ·exact solid_ok _ _ _ _ (sizeB_iff.2 ⟨by omega,by omega,by omega⟩) hp
         ·exact solid_px _ _ _ _ m0 hp
        have HZ:=hd_ hz
        have hSO:=hd_ hmc
        have HMG:=hd_ hmg
        clear hz hmc hmg
        go_upto_region 16 with fail
        clear kk O_8
        have e8:=fun (W:World) (h:Bel V15 W) => h.cell (cq8 HI.out.1.eO rfl)
        have hYd:=(Bel.refl V15).dr
        have hbase':=HI.out.1.hX.size'
        refine C_region 11 (fun W => Bel V15 W) (by kernel_rfl) ?_
        refine C_take0a (i:=0) (v:=?_) rfl hYd (Or.inl ⟨by rfl,?_⟩) ?_
        rotate_left
        ·(intro W hW; go_simp; try with_reducible rfl)
        simp only [Act.put,lA_,l0_,lS_]
        refine C_takea (i:=1) (v:=?_) rfl hYd (Or.inl ⟨by rfl,?_⟩) ?_
        rotate_left
        ·(intro W hW; (try dsimp only at hW); go_simp; try with_reducible rfl)
        simp only [Act.put,lA_,l0_,lS_]
        refine C_take0a (i:=2) (v:=?_) rfl hYd (Or.inl ⟨by rfl,?_⟩) ?_
        rotate_left
        ·(intro W hW; go_simp; try with_reducible rfl)
        simp only [Act.put,lA_,l0_,lS_]
        refine C_take0a (i:=3) (v:=?_) rfl hYd (Or.inl ⟨by rfl,?_⟩) ?_
        rotate_left
        ·(intro W hW; go_simp; try with_reducible rfl)
        simp only [Act.put,lA_,l0_,lS_]
        refine C_take0a (i:=4) (v:=?_) rfl hYd (Or.inl ⟨by rfl,?_⟩) ?_
        rotate_left
        ·(intro W hW; go_simp; try with_reducible rfl)
        simp only [Act.put,lA_,l0_,lS_]
        refine C_take0a (i:=5) (v:=?_) rfl hYd (Or.inl ⟨by rfl,?_⟩) ?_
        rotate_left
        ·(intro W hW; go_simp; try with_reducible rfl)
        simp only [Act.put,lA_,l0_,lS_]
        refine C_take0a (i:=6) (v:=?_) rfl hYd (Or.inl ⟨by rfl,?_⟩) ?_
        rotate_left
        ·(intro W hW; go_simp; try with_reducible rfl)
        simp only [Act.put,lA_,l0_,lS_]
        refine C_take0a (i:=7) (v:=?_) rfl hYd (Or.inl ⟨by rfl,?_⟩) ?_
        rotate_left
        ·(intro W hW; go_simp; try with_reducible rfl)
        simp only [Act.put,lA_,l0_,lS_]
        refine C_take0a (i:=8) (v:=?_) rfl hYd (Or.inl ⟨by rfl,?_⟩) ?_
        rotate_left
        ·(intro W hW; go_simp; try with_reducible rfl)
        simp only [Act.put,lA_,l0_,lS_]
        refine C_do (i:=9) (by kernel_rfl) rfl (by rfl) fun KK hKK => ?_
        go_simp
        go_at_call 26
        with_reducible refine (hSO.out _).mono ?_
        rintro e w6 ⟨rfl,hb6⟩
        have hS6:Bel V15 w6:=hYd.trans hb6
        refine hKK.out _ _ hS6 ?_
        clear hKK KK
        refine C_do (i:=10) (by kernel_rfl) rfl (by rfl) fun KK hKK => ?_
        go_simp
        have hS7:=hS6.al (.cells m.cs.toArray 46)
        refine hKK.out _ _ hS7 ?_
        clear hKK KK
        refine C_step (by kernel_rfl) rfl (by kernel_rfl) (by rfl) fun KK hKK => ?_
        refine wp_append_own _ (.tmp 113) (.tmp 122) 35 rfl w.heap.size 46 i0 (.agg #[.int .i64 0,.int .i64 0,.bool false,.int .u16 0,.int .u16 0,.int .u16 0,.int .u16 0,.int .u16 0,.int .i64 0,.int .i64 0,.int .i64 0,.slice none 0 0,.int .i64 0,.int .i64 0,.int .i64 0,.slice none 0 0,.int .i64 0,.int .i64 0,.int .i64 0,.slice none 0 0,.int .i64 0,.int .i64 0,.int .i64 0,.slice none 0 0,.int .i64 0,.int .i64 0,.int .i64 0,.slice none 0 0]) 28 272 Tryz.underlying35 hi hz0 hz1 hz2 rfl (by decide) _ _ _ rfl (own_ext HI.out.2.2.1 hS7) ⟨w6.heap.size,0,none⟩ 1 1 m.cs rfl rfl ?gqa (im_one m) ?gqc ?gqd ?gqe ?_
        case gqa => exact new_row w6 m.cs _
        case gqc => have:=HZ.out; unfold maxLen; omega
        case gqd => have:=HZ.out; omega
        case gqe => exact Nat.le_trans hbase' hS7.size'
        intro v8 W8 hown8 hgr8 _
        refine hKK.out _ _ ?_
        clear hKK KK
        have h7:=own_ext HI.out.2.2.1 hS7
        have I8:=(HI.out.1.bel hS7).grown h7 (Nat.le_refl _) (by decide) (by decide) hgr8
        have hor8:=own_grown (own_ext HI.out.2.1 hS7) h7 (by decide) hgr8
        have hG8:∀ q ∈ l ++ [m],ImgG W8 w.heap.size mx q:=fun q hq => by
         rcases List.mem_append.1 hq with hq | hq
         ·exact ((HI.out.2.2.2 q hq).bel hS7).grown h7 (by decide) hgr8
         ·rw [List.mem_singleton.1 hq]
          exact HMG.out _ _
        obtain ⟨A8,c8,rfl,-⟩:=own_sl hown8
        have O_8:=cq8 I8.eO rfl
        have fO:=frozA I8.eO
        have H8:=hd_ (And.intro I8 (And.intro hor8 (And.intro hG8 hown8)))
        clear I8 hor8 hG8 hown8 hgr8 h7 hS7 hS6 hb6 hYd e8
        refine any_of_C (c:=12) (S:=fun _ => True) _ _ _ _ ?_
        refine C_tail (c:=12) (g:=1) (l:=_) rfl rfl (by kernel_rfl) (by kernel_rfl) ?_
        simp only [List.drop_succ_cons,List.drop_zero]
        go_wp2_with fail
        go_meet
        have hu:=setCells_upd w1.heap.size [.slice A8 (i + 1) c8] 8 W8
        have hz:=HZ.out
        refine ⟨⟨b,⟨X,Y2,X + WW,Y2 + HH⟩,TW,TH,oA,ol.length,oc2,ol,A8,i + 1,c8,l ++ [m],none,0,0,[]⟩,⟨H8.out.1.upd hu (heap_set _ H8.out.1.eO),own_upd H8.out.2.1 hu (own_ne_heap H8.out.2.1 H8.out.1.eO (by decide)),?_,fun q hq => (H8.out.2.2.1 q hq).upd hu H8.out.1.eO (by decide),World.ownsRow_nil _ _ _ _⟩,HFR.out _ _ _ _,HNT.out.symm ▸ HOK.out,Nat.le_add_left 1 i,by show i + 1 ≤ 4; omega⟩
        exact tlWScr0
       ·have kk:((i:Int) == 0) = false:=beq_eq_false_iff_ne.2 (by omega)
        go_wp2_with fail
        go_meet
        exact ⟨⟨b,⟨X,Y2,X + WW,Y2 + HH⟩,TW,TH,oA,ol.length,oc2,ol,A5,i,c5,l,none,0,0,[]⟩,⟨HI.out.1,HI.out.2.1,HI.out.2.2.1,HI.out.2.2.2,World.ownsRow_nil _ _ _ _⟩,HFR.out _ _ _ _,HNT.out.symm ▸ HOK.out,by show 1 ≤ i; omega,by have:=HM.out; show i ≤ 4; omega⟩
      case rest =>
       obtain ⟨s1,J,hFR,hOK,k1,k4⟩:=hcut
       refine (‹∀ (a:Act) (w:World),Code.wp Tryz.prog _ _ a w → _›) _ _ ?_
       exact scr2 d w w1.heap.size mx HMC.out HD.out s1 hFR hOK k1 k4 _ J
    case pos =>
     have hd1:decide ((i:Int) < (d.pn:Int)) = true:=decide_eq_true (by omega)
     have hd2:decide ((i:Int) < 4) = true:=decide_eq_true (by omega)
     obtain ⟨p,hp⟩:∃ p,d.pics[i]? = some p:=⟨_,List.getElem?_eq_getElem (by rw [HD.out.lp]; omega)⟩
     obtain ⟨gp,offp,hpe,f0,f1,f2,f3,f4⟩:=(HD.out.pics.bel hX0).pic hp (by omega)
     have HI:=hd_ I
     have HOR:=hd_ hor
     have HIM:=hd_ him
     have HG:=hd_ hG
     have HLL:=hd_ hll
     have hip:i < d.pn:=by omega
     have hi4:i < 4:=by omega
     clear hM
     go_upto_region 14 with fail
     clear hd1 hd2 D_8
     have e8:=fun (W:World) (h:Bel wr W) => h.cell (cq8 I.eO rfl)
     have e1:=fun (W:World) (h:Bel wr W) => h.cell (cq1 I.eO rfl)
     have e2:=fun (W:World) (h:Bel wr W) => h.cell (cq2 I.eO rfl)
     have e3:=fun (W:World) (h:Bel wr W) => h.cell (cq3 I.eO rfl)
     have e4:=fun (W:World) (h:Bel wr W) => h.cell (cq4 I.eO rfl)
     have d8:=fun (W:World) (h:Bel wr W) => h.cell (show wr.cell? ⟨w.heap.size,8,none⟩ = some (.slice (some ⟨gp,offp,none⟩) d.pn d.pc) by rw [← hpe]; exact cq8 I.eD rfl)
     have g0:=fun (W:World) (h:Bel wr W) => h.cell f0
     have g1:=fun (W:World) (h:Bel wr W) => h.cell f1
     have g2:=fun (W:World) (h:Bel wr W) => h.cell f2
     have g3:=fun (W:World) (h:Bel wr W) => h.cell f3
     have g4:=fun (W:World) (h:Bel wr W) => h.cell f4
     have hGI:=hd_ (fun (W:World) (hb:Bel wr W) => gimage_ex p ⟨X,Y2,X + WW,Y2 + HH⟩ (by show X < X + WW; omega) (by show X + WW ≤ X + 5; omega) (by show Y2 < Y2 + HH; omega) (by show Y2 + HH ≤ Y2 + 5; omega) (by show -1000 ≤ X; omega) (by show X ≤ 1000; omega) (by show -1000 ≤ Y2; omega) (by show Y2 ≤ 1000; omega) mx HMC.out W (HD.out.pic p (List.mem_of_getElem? hp) |>.bel (hX0.trans hb)))
     have hYd:=(Bel.refl wr).dr
     have hbase':=hX0.size'
     clear I hor him hG hll hp hpe f0 f1 f2 f3 f4 hX0
     refine C_region 12 (fun W => Bel wr W) (by kernel_rfl) ?_
     refine C_take0a (i:=0) (v:=?_) rfl hYd (Or.inl ⟨by rfl,?_⟩) ?_
     rotate_left
     ·(intro W hW; go_simp; try with_reducible rfl)
     simp only [Act.put,lA_,l0_,lS_]
     refine C_takea (i:=1) (v:=?_) rfl hYd (Or.inl ⟨by rfl,?_⟩) ?_
     rotate_left
     ·(intro W hW; (try dsimp only at hW); go_simp; try with_reducible rfl)
     simp only [Act.put,lA_,l0_,lS_]
     refine C_take0a (i:=2) (v:=?_) rfl hYd (Or.inl ⟨by rfl,?_⟩) ?_
     rotate_left
     ·(intro W hW; go_simp; try with_reducible rfl)
     simp only [Act.put,lA_,l0_,lS_]
     refine C_takeUa (i:=3) (v:=?_) [5,6,10,11,12] rfl hYd (Or.inl ⟨by rfl,?_⟩) ?_
     rotate_left
     ·(intro W hW; (try dsimp only at hW); go_simp; try with_reducible rfl)
     simp only [Act.put,lA_,l0_,lS_]
     refine C_take0a (i:=4) (v:=?_) rfl hYd (Or.inl ⟨by rfl,?_⟩) ?_
     rotate_left
     ·(intro W hW; go_simp; try with_reducible rfl)
     simp only [Act.put,lA_,l0_,lS_]
     refine C_take0a (i:=5) (v:=?_) rfl hYd (Or.inl ⟨by rfl,?_⟩) ?_
     rotate_left
     ·(intro W hW; go_simp; try with_reducible rfl)
     simp only [Act.put,lA_,l0_,lS_]
     refine C_takeUa (i:=6) (v:=?_) [10,11,12] rfl hYd (Or.inl ⟨by rfl,?_⟩) ?_
     rotate_left
     ·(intro W hW; (try dsimp only at hW); go_simp; try with_reducible rfl)
     simp only [Act.put,lA_,l0_,lS_]
     refine C_take0a (i:=7) (v:=?_) rfl hYd (Or.inl ⟨by rfl,?_⟩) ?_
     rotate_left
     ·(intro W hW; go_simp; try with_reducible rfl)
     simp only [Act.put,lA_,l0_,lS_]
     refine C_takeUa (i:=8) (v:=?_) [10,11,12] rfl hYd (Or.inl ⟨by rfl,?_⟩) ?_
     rotate_left
     ·(intro W hW; (try dsimp only at hW); go_simp; try with_reducible rfl)
     simp only [Act.put,lA_,l0_,lS_]
     refine C_take0a (i:=9) (v:=?_) rfl hYd (Or.inl ⟨by rfl,?_⟩) ?_
     rotate_left
     ·(intro W hW; go_simp; try with_reducible rfl)
     simp only [Act.put,lA_,l0_,lS_]
     refine C_do (i:=10) (by kernel_rfl) rfl (by rfl) fun KK hKK => ?_
     go_simp
     go_at_call 25
     with_reducible refine (hGI.out _ hYd).mono ?_
     rintro e w6 ⟨m,rfl,hm6,hb6⟩
     have hS6:Bel wr w6:=hYd.trans hb6
     refine hKK.out _ _ hS6 ?_
     clear hKK KK
     refine C_do (i:=11) (by kernel_rfl) rfl (by rfl) fun KK hKK => ?_
     go_simp
     have hS7:=hS6.al (.cells m.cs.toArray 46)
     refine hKK.out _ _ hS7 ?_
     clear hKK KK
     refine C_step (by kernel_rfl) rfl (by kernel_rfl) (by rfl) fun KK hKK => ?_
     refine wp_append_own _ (.tmp 95) (.tmp 105) 35 rfl w.heap.size 46 i0 (.agg #[.int .i64 0,.int .i64 0,.bool false,.int .u16 0,.int .u16 0,.int .u16 0,.int .u16 0,.int .u16 0,.int .i64 0,.int .i64 0,.int .i64 0,.slice none 0 0,.int .i64 0,.int .i64 0,.int .i64 0,.slice none 0 0,.int .i64 0,.int .i64 0,.int .i64 0,.slice none 0 0,.int .i64 0,.int .i64 0,.int .i64 0,.slice none 0 0,.int .i64 0,.int .i64 0,.int .i64 0,.slice none 0 0]) 28 272 Tryz.underlying35 hi hz0 hz1 hz2 rfl (by decide) _ _ _ rfl (own_ext HIM.out hS7) ⟨w6.heap.size,0,none⟩ 1 1 m.cs rfl rfl ?ga (im_one m) ?gc ?gd ?ge ?_
     case ga => exact new_row w6 m.cs _
     case gc => unfold maxLen; omega
     case gd => omega
     case ge => exact Nat.le_trans hbase' hS7.size'
     intro v8 W8 hown8 hgr8 _
     refine hKK.out _ _ ?_
     clear hKK KK
     have h7:=own_ext HIM.out hS7
     have I8:=(HI.out.bel hS7).grown h7 (Nat.le_refl _) (by decide) (by decide) hgr8
     have hor8:=own_grown (own_ext HOR.out hS7) h7 (by decide) hgr8
     have hG8:∀ q ∈ l ++ [m],ImgG W8 w.heap.size mx q:=fun q hq => by
      rcases List.mem_append.1 hq with hq | hq
      ·exact ((HG.out q hq).bel hS7).grown h7 (by decide) hgr8
      ·rw [List.mem_singleton.1 hq]
       exact (((hm6.lower (Nat.le_trans hbase' hYd.size')).bel ((Bel.refl w6).al _))).grown h7 (by decide) hgr8
     obtain ⟨A8,c8,rfl,-⟩:=own_sl hown8
     have O_8:=cq8 I8.eO rfl
     have fO:=frozA I8.eO
     have H8:=hd_ (And.intro I8 (And.intro hor8 (And.intro hG8 hown8)))
     clear I8 hor8 hG8 hown8 hgr8 h7 hS7 hS6 hb6 hm6 hYd e8 e1 e2 e3 e4 d8 g0 g1 g2 g3 g4
     refine any_of_C (c:=13) (S:=fun _ => True) _ _ _ _ ?_
     refine C_tail (c:=13) (g:=1) (l:=_) rfl rfl (by kernel_rfl) (by kernel_rfl) ?_
     simp only [List.drop_succ_cons,List.drop_zero]
     go_wp2_with fail
     go_roundg (gk - 1)
     case measure => omega
     case rel =>
      have hu:=setCells_upd w1.heap.size [.slice A8 (i + 1) c8] 8 W8
      refine ⟨i + 1,l ++ [m],A8,c8,by omega,by go_num,by simp [HLL.out],H8.out.1.upd hu (heap_set _ H8.out.1.eO),own_upd H8.out.2.1 hu (own_ne_heap H8.out.2.1 H8.out.1.eO (by decide)),?_,fun q hq => (H8.out.2.2.1 q hq).upd hu H8.out.1.eO (by decide)⟩
      exact tlWScr0
end Go.Proofs.YtepfoelgegljbaaGreatDoor
