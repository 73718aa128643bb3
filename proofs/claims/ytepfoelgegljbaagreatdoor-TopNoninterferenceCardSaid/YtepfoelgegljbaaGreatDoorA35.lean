/- Part A35. -/
import Derived.Test.YtepfoelgegljbaaGreatDoorA34
namespace Go.Proofs.YtepfoelgegljbaaGreatDoor
set_option maxRecDepth 100000
open Go.RowKit
set_option linter.unusedVariables false
set_option linter.unusedSimpArgs false
theorem rows_at (s:Scr) (R:Rc) (F:Fo) (n q:Nat):∀ h:Nat,q < h → ∃ rest,rowsF s R F n h = rowsF s R F n q ++ (rowF s R F n (R.y + q) ++ rest):=by
 intro h
 induction h with
 | zero => intro h; omega
 | succ h ih =>
  intro hq
  have e:rowsF s R F n (h + 1) = rowsF s R F n h ++ rowF s R F n (R.y + h):=by
   unfold rowsF
   rw [List.range_succ,List.flatMap_append]
   simp
  by_cases hqh:q < h
  ·obtain ⟨rest,hr⟩:=ih hqh
   exact ⟨rest ++ rowF s R F n (R.y + h),by rw [e,hr]; simp⟩
  ·obtain rfl:q = h:=by omega
   exact ⟨[],by rw [e]; simp⟩
theorem rowsF_len (s:Scr) (R:Rc) (F:Fo) (n h:Nat):(rowsF s R F n h).length = h * n:=flat_rows_len n h _ (fun j => rowF_len s R F n _)
theorem pxs_append (a b:List Px):pxs (a ++ b) = pxs a ++ pxs b:=by unfold pxs; rw [List.flatMap_append]
theorem rows_cell (s:Scr) (R:Rc) (F:Fo) (n q h j:Nat) (hq:q < h) {u:Value} (hj:(pxs (rowF s R F n (R.y + q)))[j]? = some u):(pxs (rowsF s R F n h))[q * n * 5 + j]? = some u:=by
 obtain ⟨rest,e⟩:=rows_at s R F n q h hq
 have hl:(pxs (rowsF s R F n q)).length = q * n * 5:=by rw [pxs_len,rowsF_len]
 rw [e,pxs_append,pxs_append,List.getElem?_append_right (by rw [hl]; omega),hl,Nat.add_sub_cancel_left,List.getElem?_append_left (List.getElem?_eq_some_iff.1 hj).1]
 exact hj
theorem ImOf.upd {W W':World} {base g:Nat} {w h:Int} {l:List Px} {n:Nat} {m:Img} {cs:Array Value} (H:ImOf W base w h l n m) (hu:Upd g W W') (e:W.heap[g]? = some (.cells cs 46)):ImOf W' base w h l n m :=
 ⟨H.ew,H.eh,H.es,H.ec,fun i hi => let P:=H.pl i hi; ⟨P.ew,P.eh,P.es,P.en,P.ec,P.ex,own_upd P.own hu (own_ne_heap P.own e (by decide))⟩⟩
theorem ImOf.lower {W:World} {base b:Nat} {w h:Int} {l:List Px} {n:Nat} {m:Img} (H:ImOf W base w h l n m) (hb:b ≤ base):ImOf W b w h l n m :=
 ⟨H.ew,H.eh,H.es,H.ec,fun i hi => let P:=H.pl i hi; ⟨P.ew,P.eh,P.es,P.en,P.ec,P.ex,own_base P.own hb⟩⟩
theorem imgG_const (wd ht:Nat) (z:Px):imgG wd ht (fun _ _ => z) = List.replicate (ht * wd) z:=by
 apply List.ext_getElem?
 intro q
 by_cases hq:q < ht * wd
 ·have hw0:0 < wd:=by
   rcases Nat.eq_zero_or_pos wd with h | h
   ·rw [h,Nat.mul_zero] at hq; omega
   ·exact h
  obtain ⟨j,i,hi,rfl⟩:∃ j i,i < wd ∧ q = j * wd + i:=⟨q / wd,q % wd,Nat.mod_lt _ hw0,by rw [Nat.mul_comm]; exact (Nat.div_add_mod q wd).symm⟩
  have hjh:j < ht:=by
   rcases Nat.lt_or_ge j ht with h | h
   ·exact h
   ·have:=Nat.mul_le_mul_right wd h; omega
  rw [imgG_get wd ht _ hjh hi,List.getElem?_replicate,if_pos hq]
 ·rw [List.getElem?_eq_none (by rw [imgG_len]; omega),List.getElem?_eq_none (by simp; omega)]
noncomputable def gI (s:Scr) (F:Fo) (i:Nat):Nat → Nat → Px:=(s.tls.take i).foldl (tileW s.can s.ims s.mx F) (fun _ _ => pxz)
set_option maxHeartbeats 8000000 in
theorem render_ok (s:Scr) (F:Fo) (hm:s.Sm) (hV:s.Vb F) (hS:SrcOk s.ims s.mx) (hpos:F.pos) (hmx:s.mx = 255 ∨ s.mx = 65535) (hck:checkE s = (0,0)) (w:World) (hs:s.In w) (hN:Named w) (hR:Ruled w) :
  Calls Tryz.prog 10 #[s.v] w fun e w' => ∃ m:Img,e = .returned (.tuple #[m.v,.int .i64 0,.int .i64 0]) ∧ ImOf w' w.heap.size (s.can.u - s.can.x) (s.can.v - s.can.y) (s.img F) (s.ht * s.wd) m ∧ Bel w w':=by
 obtain ⟨j0,ji,jz0,jz1,jz2⟩:=info_parts info_px
 have ho:orderOk s.ord s.nt:=by
  have h:=hV.fr
  unfold frameE at h
  split at h
  ·cases h
  ·split at h
   ·assumption
   ·cases h
 have HCH:=hd_ (fun (W:World) (hb:Bel w W) => check_call s hm W (hs.bel hb) (named_bel hN hb) (ruled_bel hR hb))
 rw [hck] at HCH
 have HST:=hd_ (fun (W:World) (hb:Bel w W) => start_call s F hV hm.p0 W (hs.bel hb))
 have HTL:=hd_ (fun (W:World) (hb:Bel w W) => tiles_call s hm ho W (hs.bel hb))
 have hen:endsOk (endsF F 0 (List.replicate s.pn 0)) F 0:=endsF_ok F 0 _ (by rw [List.length_replicate,Nat.zero_add,← F.len,← hV.fo,hs.lops]; exact Nat.le_refl _)
 have HPT:=hd_ (fun (RR:Rc) (n h:Nat) (a1:RR.u = RR.x + n) (a2:RR.v = RR.y + h) (a3:1 ≤ n) (a4:n ≤ 100) (a5:h ≤ 100) (x0:-1049000 ≤ RR.x) (x1:RR.x ≤ 1049000) (y0:-1049000 ≤ RR.y) (y1:RR.y ≤ 1049000) (gp:Nat) (ev sv:Value) (W:World) (Z:PnZ w s (endsF F 0 (List.replicate s.pn 0)) gp ev W sv) => part_call w s hs hm hR hN F hV hS hpos hmx RR n h a1 a2 a3 a4 a5 x0 x1 y0 y1 _ hen gp ev sv W Z)
 obtain ⟨el,hel⟩:∃ el,endsF F 0 (List.replicate s.pn 0) = el:=⟨_,rfl⟩
 rw [hel] at HST HPT
 obtain ⟨c1,c2,c3,c4,c5,c6,c7,c8,c9,c10,c11,c12,-,-⟩:=id hm
 have hwd:s.can.u - s.can.x = (s.wd:Int):=by unfold Scr.wd; omega
 have hht:s.can.v - s.can.y = (s.ht:Int):=by unfold Scr.ht; omega
 have w1':1 ≤ s.wd:=by omega
 have w5:s.wd ≤ 5:=by omega
 have h1':1 ≤ s.ht:=by omega
 have h5:s.ht ≤ 5:=by omega
 obtain ⟨N,hNN⟩:∃ N,N = s.ht * s.wd:=⟨_,rfl⟩
 have n25:N ≤ 25:=by rw [hNN]; exact Nat.mul_le_mul h5 w5
 have n1:1 ≤ N:=by rw [hNN]; exact Nat.mul_le_mul h1' w1'
 have hmul:(s.wd:Int) * (s.ht:Int) = (N:Int):=by rw [hNN,Nat.mul_comm]; push_cast; rfl
 have hw1:IntKind.i64.wrap (s.wd:Int) = (s.wd:Int):=wrap_i64 _ (by omega) (by omega)
 have hw2:IntKind.i64.wrap (s.ht:Int) = (s.ht:Int):=wrap_i64 _ (by omega) (by omega)
 have hw3:IntKind.i64.wrap (N:Int) = (N:Int):=wrap_i64 _ (by omega) (by omega)
 obtain ⟨nt1,nt2,nt3⟩:=sm_nt hm
 have HTB:=hd_ (fun (i:Nat) (hi:i < s.nt) => (show ∃ RR,s.tls[i]? = some RR ∧ s.can.x ≤ RR.x ∧ RR.x < RR.u ∧ RR.u ≤ s.can.u ∧ s.can.y ≤ RR.y ∧ RR.y < RR.v ∧ RR.v ≤ s.can.v by
  obtain ⟨k,hk⟩:∃ k,(orderF s.ord s.nt)[i]? = some k:=⟨_,List.getElem?_eq_getElem (by rw [orderF_len ho]; exact hi)⟩
  have hkb:=orderF_bd ho hk
  exact ⟨_,by unfold Scr.tls; rw [List.getElem?_map,hk]; rfl,tRect_in (sm_cnt hm) hkb.1 (by rw [← nt1]; exact hkb.2)⟩))
 have HTLL:=hd_ (show s.tls.length = s.nt by unfold Scr.tls; rw [List.length_map,orderF_len ho])
 have HNN:=hd_ hNN
 have HCAN:=hd_ (And.intro hwd (And.intro hht (And.intro c5 (And.intro c6 (And.intro c7 c8)))))
 have HEQ:=hd_ (show s.img F = imgG s.wd s.ht (gI s F s.nt) by
  unfold gI
  rw [List.take_of_length_le (by rw [HTLL.out]; exact Nat.le_refl _)]
  rfl)
 clear hm hV hS hpos hmx hck hs hN hR ho hen hel c1 c2 c3 c4 c5 c6 c7 c8 c9 c10 c11 c12 nt1 hNN
 rw [HEQ.out]
 go_enter Tryz.func10,Tryz.ntmps10
 go_upto_region 1 with fail
 refine at_world (fun V => Bel w V ∧ V.heap[w.heap.size]? = some (oSc s) ∧ V.heap[w.heap.size + 1]? = some (.cells #[.int .i64 0,.int .i64 0,.bool false,.int .u16 0,.int .u16 0,.int .u16 0,.int .u16 0,.int .u16 0,.int .i64 0,.int .i64 0,.int .i64 0,.slice none 0 0,.int .i64 0,.int .i64 0,.int .i64 0,.slice none 0 0,.int .i64 0,.int .i64 0,.int .i64 0,.slice none 0 0,.int .i64 0,.int .i64 0,.int .i64 0,.slice none 0 0,.int .i64 0,.int .i64 0,.int .i64 0,.slice none 0 0] 46)) ⟨((Bel.refl w).al _).al _,at_old (at_new (by first | rfl | simp)),at_new (by first | rfl | simp)⟩ ?_
 rintro V ⟨hX,eS,eR⟩
 have Ss:=lt_of_heap eS
 have Rs:=lt_of_heap eR
 have S_1:=cq1 eS rfl
 have S_2:=cq2 eS rfl
 have S_3:=cq3 eS rfl
 have S_4:=cq4 eS rfl
 have fS:=frozA eS
 have fR:=frozA eR
 have lscr:=scr_ld eS
 go_upto_region 5 with (first | (go_at_call 9; (with_reducible refine (HCH.out _ hX).mono ?_); rintro e w1 ⟨rfl,hb⟩; replace hX:=hX.trans hb; replace eS:=hb.heap eS; replace eR:=hb.heap eR; clear Ss S_1 S_2 S_3 S_4 fS Rs fR lscr; have lscr:=scr_ld eS; have Ss:=lt_of_heap eS; have Rs:=lt_of_heap eR; have S_1:=cq1 eS rfl; have S_2:=cq2 eS rfl; have S_3:=cq3 eS rfl; have S_4:=cq4 eS rfl; have fS:=frozA eS; have fR:=frozA eR; clear hb) | ((with_reducible show wpList _ _ _ (⟨some 21,_,_,_,_,_⟩ :: _) _ _); refine wpList_ld rfl rfl rfl (lscr) ?_) | fail)
 obtain ⟨wc,rfl⟩:∃ W:World,W = w1:=⟨_,rfl⟩
 refine at_world (fun Y => Bel w Y ∧ Y.heap[w.heap.size]? = some (oSc s) ∧ Y.heap[w.heap.size + 1]? = some (.cells #[.int .i64 0,.int .i64 0,.bool false,.int .u16 0,.int .u16 0,.int .u16 0,.int .u16 0,.int .u16 0,.int .i64 0,.int .i64 0,.int .i64 0,.slice none 0 0,.int .i64 0,.int .i64 0,.int .i64 0,.slice none 0 0,.int .i64 0,.int .i64 0,.int .i64 0,.slice none 0 0,.int .i64 0,.int .i64 0,.int .i64 0,.slice none 0 0,.int .i64 0,.int .i64 0,.int .i64 0,.slice none 0 0] 46) ∧ Y.heap[wc.heap.size]? = some (.cells #[.int .i64 s.can.x,.int .i64 s.can.y,.int .i64 s.can.u,.int .i64 s.can.v] 34)) ⟨hX.al _,at_old eS,at_old eR,at_new (by first | rfl | simp)⟩ ?_
 clear Ss S_1 S_2 S_3 S_4 fS Rs fR lscr hX eS eR
 rintro Y ⟨hX,eS,eR,eC⟩
 have Cs:=lt_of_heap eC
 have C_0:=cq0 eC rfl
 have C_1:=cq1 eC rfl
 have C_2:=cq2 eC rfl
 have C_3:=cq3 eC rfl
 have fC:=frozA eC
 have HX5:=hd_ hX
 have HE5:=hd_ (And.intro eS (And.intro eR eC))
 have q0:=fun q:Bw Y => q.h.cell C_0
 have q1:=fun q:Bw Y => q.h.cell C_1
 have q2:=fun q:Bw Y => q.h.cell C_2
 have q3:=fun q:Bw Y => q.h.cell C_3
 clear Cs C_0 C_1 C_2 C_3 fC hX eS eR eC
 refine region_bel (by kernel_rfl) (by kernel_rfl) ?_
 repeat (go_big_quiet_step (fail))
 refine wpQuiet_nil ?_
 rintro w3 ⟨q,rfl⟩
 clear q0 q1 q2 q3
 go_wp2_with (first | (refine wpList_make_full _ rfl _ _ 60 rfl w.heap.size 32 j0 (.agg #[.int .u16 0,.int .u16 0,.int .u16 0,.int .u16 0,.int .u16 0]) 5 Tryz.underlying60 ji jz0 jz1 .i64 .i64 N N N rfl rfl rfl rfl (by rw [jz2]; omega) (by unfold maxLen; omega) (HX5.out.trans q.h).size' ?_) | fail)
 intro w4 hmade hgrown
 rw [madeN (k:=5) pxz #[.int .u16 0,.int .u16 0,.int .u16 0,.int .u16 0,.int .u16 0] (f:=Px.cs) (fun _ => rfl) rfl N] at hmade
 have hB4:Bel q.W w4:=(Bel.refl _).grown hgrown (by simp)
 have hX:=HX5.out.trans (q.h.trans hB4)
 have hX2:=Bel.refl w4
 have eS:=(q.h.trans hB4).heap HE5.out.1
 have HAL4:=hd_ hmade
 have HE4:=hd_ (And.intro ((q.h.trans hB4).heap HE5.out.2.1) (And.intro ((q.h.trans hB4).heap HE5.out.2.2) hX))
 clear hmade hgrown hB4 HX5 HE5
 have Ss:=lt_of_heap eS
 have fS:=frozA eS
 have lscr:=scr_ld eS
 go_wp2_with (first | (go_at_call 32; (with_reducible refine (HST.out _ hX).mono ?_); rintro e w1 ⟨gp,ev,sv,rfl,Z1⟩; have hb:=Z1.hB; have HBZ:=hd_ hX; replace hX:=hX.trans hb; replace eS:=hb.heap eS; replace hX2:=hX2.trans hb; clear Ss fS lscr; have lscr:=scr_ld eS; have Ss:=lt_of_heap eS; have fS:=frozA eS; clear hb) | (go_at_call 33; (with_reducible refine (HTL.out _ hX).mono ?_); rintro e w1 ⟨tv,rfl,htv,hb⟩; obtain ⟨tA,tc,rfl,-⟩:=own_sl htv; have hszT:=hX.size'; replace hX:=hX.trans hb; replace eS:=hb.heap eS; replace hX2:=hX2.trans hb; replace Z1:=Z1.bel hb; clear Ss fS lscr; have lscr:=scr_ld eS; have Ss:=lt_of_heap eS; have fS:=frozA eS; clear hb) | ((with_reducible show wpList _ _ _ (⟨some 46,_,_,_,_,_⟩ :: _) _ _); refine wpList_ld rfl rfl rfl (lscr) ?_) | ((with_reducible show wpList _ _ _ (⟨some 48,_,_,_,_,_⟩ :: _) _ _); refine wpList_ld rfl rfl rfl (lscr) ?_) | fail)
 obtain ⟨wt,rfl⟩:∃ W:World,W = w1:=⟨_,rfl⟩
 have I0:RnI w s el gp q.W.heap.size wc.heap.size ev tA tc N wt sv (gI s F 0) :=
  ⟨Z1.lower HBZ.out,eS,hX2.heap HE4.out.1,hX2.heap HE4.out.2.1,own_base htv hszT,by
   rw [show gI s F 0 = fun _ _ => pxz from rfl,imgG_const,← HNN.out]
   exact own_ext HAL4.out hX2⟩
 have HI0:=hd_ I0
 clear I0 Z1 HBZ eS hX2 htv hX Ss fS lscr HAL4 HE4
 generalize q.W.heap.size = ga at *
 generalize wc.heap.size = T7 at *
 go_wp2_with fail
 go_loopg [51] s.nt (fun gk s51 wr => ∃ (i:Nat) (sv1:Value),i + gk = s.nt ∧ s51 = .int .i64 i ∧ RnI w s el gp ga T7 ev tA tc N wr sv1 (gI s F i))
 case atStart => exact ⟨0,sv,by omega,rfl,HI0.out⟩
 case round =>
  obtain ⟨i,sv1,hgk,rfl,I⟩:=hrel
  clear HI0
  obtain ⟨w8,rfl⟩:∃ W:World,W = wr:=⟨_,rfl⟩
  have HI:=hd_ I
  by_cases hlt:i < s.nt
  case neg =>
   obtain rfl:i = s.nt:=by omega
   have hsl:=own_sl' HI.out.al
   have HOFF:=hd_ (of_call (s.wd:Int) (s.ht:Int) (by omega) (by omega) (by omega) (by omega) N hmul n1 (by omega) (imgG s.wd s.ht (gI s F s.nt)) (by rw [imgG_len,← HNN.out]) (some ⟨ga,0,none⟩) N w8 hsl)
   have HIB:=hd_ I.Z.hB
   clear I hsl
   go_upto_region 20 with (first | (go_at_call 35; (with_reducible refine HOFF.out.mono ?_); rintro e w9 ⟨m,rfl,hIm,hb9⟩) | ((with_reducible show wpList _ _ _ (⟨none,.store _ _ _,_,_,_,_⟩ :: _) _ _); refine wpList_st (n:=0) (g:=w9.heap.size) (cells:=m.cs) rfl rfl rfl rfl (at_new rfl) rfl (by kernel_rfl) (im_one m) ?_; intro Y9 eM hUM))
   have hld:=img_ld eM
   have eR:=hUM.heap (at_old (hb9.heap HI.out.eR)) (by have:=hb9.size'; have:=lt_of_heap HI.out.eR; omega)
   have hX9:=hUM.bel ((HI.out.Z.hB.trans hb9).al _) (by have:=hb9.size'; have:=HI.out.Z.hB.size'; omega)
   have hIm9:ImOf Y9 w8.heap.size (s.wd:Int) (s.ht:Int) (imgG s.wd s.ht (gI s F s.nt)) N m:=ImOf.upd (hIm.bel ((Bel.refl w9).al _)) hUM (at_new rfl)
   have HIM:=hd_ hIm9
   clear hIm hb9 hUM hIm9 HI
   go_wp2_with (first | ((with_reducible show wpList _ _ _ (⟨some 106,_,_,_,_,_⟩ :: _) _ _); refine wpList_ld rfl rfl rfl (hld) ?_) | ((with_reducible show wpList _ _ _ (⟨none,.store _ _ _,_,_,_,_⟩ :: _) _ _); refine wpList_st (n:=0) (g:=w.heap.size + 1) (cells:=m.cs) rfl rfl rfl rfl eR rfl (by kernel_rfl) (im_one m) ?_; intro W6 eR6 hU6; have hX6:=hU6.bel hX9 (Nat.le_succ _)) | fail)
   refine bodyPost_ret (v:=.tuple #[m.v,_,_]) (results_row_tmp2 (fn:=Tryz.f10) rfl _ _ (w.heap.size + 1) 46 _ (0,0) _ _ _ rfl rfl rfl eR6 Tryz.underlying46 rfl (by kernel_rfl)) rfl ⟨m,rfl,?_,hX6⟩
   have h:=HIM.out.upd hU6 eR
   rw [HCAN.out.1,HCAN.out.2.1,← HNN.out]
   exact h.lower (by have:=HIB.out.size'; omega)
  case pos =>
   obtain ⟨RR,hRR,r1,r2,r3,r4,r5,r6⟩:=HTB.out i hlt
   obtain ⟨n,hn⟩:∃ n:Nat,RR.u - RR.x = (n:Int):=⟨(RR.u - RR.x).toNat,by omega⟩
   obtain ⟨h,hh⟩:∃ h:Nat,RR.v - RR.y = (h:Int):=⟨(RR.v - RR.y).toNat,by omega⟩
   obtain ⟨d1,d2,d3,d4,d5,d6⟩:=HCAN.out
   obtain ⟨off,hoff⟩:∃ off:Nat,(off:Int) = RR.x - s.can.x:=⟨(RR.x - s.can.x).toNat,by omega⟩
   have hnb:off + n ≤ s.wd:=by omega
   have hn0:1 ≤ n:=by omega
   have hh5:h ≤ 5:=by omega
   have hh0:1 ≤ h:=by omega
   obtain ⟨gt,ct,hta,-,-,-⟩:=own_at I.tl (by omega) (by decide)
   cases hta
   obtain ⟨t0,t1,t2,t3⟩:=own_rc I.tl HTLL.out hRR
   have HP:=hd_ (HPT.out RR n h (by omega) (by omega) hn0 (by omega) (by omega) (by omega) (by omega) (by omega) (by omega))
   have HRR:=hd_ hRR
   have HRB:=hd_ (And.intro hn (And.intro hh (And.intro hoff (And.intro r4 (And.intro r6 (And.intro d5 d6))))))
   have hwn:IntKind.i64.wrap (n:Int) = (n:Int):=wrap_i64 _ (by omega) (by omega)
   obtain ⟨M,hM⟩:∃ M,M = h * n:=⟨_,rfl⟩
   have HMM:=hd_ hM
   have M0:1 ≤ M:=by rw [hM]; exact Nat.mul_le_mul hh0 hn0
   have M25:M ≤ 25:=by rw [hM]; exact Nat.mul_le_mul hh5 (show n ≤ 5 by omega)
   clear I hRR hh hoff r1 r2 r3 r4 r5 r6 d1 d2 d3 d4 d5 d6 hM
   go_upto_region 11 with fail
   refine at_world (fun Y => RnI w s el gp ga T7 ev (some ⟨gt,0,none⟩) tc N Y sv1 (gI s F i) ∧ Y.heap[w8.heap.size]? = some (.cells #[.int .i64 RR.x,.int .i64 RR.y,.int .i64 RR.u,.int .i64 RR.v] 34)) ⟨HI.out.bel ((Bel.refl w8).al _),at_new (by first | rfl | simp)⟩ ?_
   clear t0 t1 t2 t3
   rintro Y9 ⟨I,eT⟩
   have T_0:=cq0 eT rfl
   have T_1:=cq1 eT rfl
   have T_2:=cq2 eT rfl
   have T_3:=cq3 eT rfl
   have HI9:=hd_ I
   have HT9:=hd_ eT
   have HP9:=hd_ (HP.out gp ev sv1 Y9 I.Z)
   rw [← HMM.out] at HP9
   clear I eT HI
   go_upto_region 12 with (first | (go_at_call 34; (with_reducible refine HP9.out.mono ?_); rintro e w4 ⟨v4,rfl,⟨sv4,Z4⟩,hv4,hK4⟩; obtain ⟨g4,c4,rfl,hg4,hg4s,hcap4⟩:=own_at hv4 (by omega) (by decide)) | fail)
   have I4:=HI9.out.kept hK4 Z4
   have eT:=hK4.2 _ _ _ _ HT9.out (by decide) (by decide)
   have hgag:ga < g4:=Nat.lt_of_lt_of_le (HI9.out.al.lt ga rfl).2 hg4
   have HI4:=hd_ I4
   have HT4:=hd_ eT
   have HV4:=hd_ hv4
   clear T_0 T_1 T_2 T_3 Z4 hv4 hK4 HI9 HT9 HP9 I4
   have T_0:=cq0 eT rfl
   have T_1:=cq1 eT rfl
   have T_2:=cq2 eT rfl
   clear eT
   go_wp2_with fail
   clear T_0 T_1 T_2
   obtain ⟨g8,rfl⟩:∃ x:Nat,x = gk:=⟨_,rfl⟩
   go_loopg [16] h (fun gk s16 wr => ∃ q5:Nat,q5 + gk = h ∧ s16 = .int .i64 (RR.y + q5) ∧ RnI w s el gp ga T7 ev (some ⟨gt,0,none⟩) tc N wr sv4 (tileP s.can s.ims s.mx F (gI s F i) RR q5) ∧ wr.heap[w8.heap.size]? = some (.cells #[.int .i64 RR.x,.int .i64 RR.y,.int .i64 RR.u,.int .i64 RR.v] 34) ∧ wr.ownsRow Y9.heap.size 32 5 (.slice (some ⟨g4,0,none⟩) M c4) M (pxs (rowsF s RR F n h)))
   case atStart => exact ⟨0,by omega,by simp,by rw [tileP_zero]; exact HI4.out,HT4.out,HV4.out⟩
   case round =>
    obtain ⟨q5,hgk2,rfl,I,eT,hrow⟩:=hrel
    clear HI4 HT4 HV4
    have T_0:=cq0 eT rfl
    have T_1:=cq1 eT rfl
    have T_3:=cq3 eT rfl
    by_cases hq:q5 < h
    case neg =>
     obtain rfl:q5 = h:=by omega
     have hd:decide (RR.y + (q5:Int) < RR.v) = false:=decide_eq_false (by have:=HRB.out.2.1; omega)
     have HI5:=hd_ I
     clear I eT hrow
     go_wp2_with fail
     go_roundg (g8 - 1)
     case measure => omega
     case rel =>
      refine ⟨i + 1,sv4,by omega,by go_num,?_⟩
      have h1:=HI5.out
      rw [tileP_all _ _ _ _ _ _ _ (show RR.v = RR.y + (q5:Int) by have:=HRB.out.2.1; omega)] at h1
      rw [show gI s F (i + 1) = tileW s.can s.ims s.mx F (gI s F i) RR by unfold gI; rw [take_snoc HRR.out,List.foldl_append]; rfl]
      exact h1
    case pos =>
     have hd:decide (RR.y + (q5:Int) < RR.v) = true:=decide_eq_true (by have:=HRB.out.2.1; omega)
     have eC:=I.eC
     have C_0:=cq0 eC rfl
     have C_1:=cq1 eC rfl
     obtain ⟨z1,z2,z3,z4,z5,z6,z7⟩:=HRB.out
     obtain ⟨e1,e2,e3,e4,e5',e6⟩:=HCAN.out
     obtain ⟨jj,hjj⟩:∃ jj:Nat,(jj:Int) = RR.y + q5 - s.can.y:=⟨(RR.y + q5 - s.can.y).toNat,by omega⟩
     have hjh:jj < s.ht:=by omega
     obtain ⟨P,hP⟩:∃ P,P = jj * s.wd:=⟨_,rfl⟩
     have hPm:(jj:Int) * (s.wd:Int) = (P:Int):=by rw [hP]; push_cast; rfl
     have hPN:P + s.wd ≤ N:=by
      rw [hP,HNN.out,← Nat.succ_mul]
      exact Nat.mul_le_mul_right _ hjh
     obtain ⟨qn,hqn⟩:∃ x,x = q5 * n:=⟨_,rfl⟩
     have hqm:(q5:Int) * (n:Int) = (qn:Int):=by rw [hqn]; push_cast; rfl
     have hqN:qn + n ≤ M:=by
      rw [hqn,HMM.out,← Nat.succ_mul]
      exact Nat.mul_le_mul_right _ hq
     obtain ⟨ax,hax⟩:∃ x,x = P + off:=⟨_,rfl⟩
     obtain ⟨en,hen⟩:∃ x,x = ax + n:=⟨_,rfl⟩
     have u1:IntKind.i64.wrap (RR.y + (q5:Int) - s.can.y) = (jj:Int):=by rw [← hjj]; exact wrap_i64 _ (by omega) (by omega)
     have u2:IntKind.i64.wrap ((jj:Int) * (s.wd:Int)) = (P:Int):=by rw [hPm]; exact wrap_i64 _ (by omega) (by omega)
     have u3:IntKind.i64.wrap ((P:Int) + RR.x) = (P:Int) + RR.x:=wrap_i64 _ (by omega) (by omega)
     have u4:IntKind.i64.wrap ((P:Int) + RR.x - s.can.x) = (ax:Int):=by rw [show (P:Int) + RR.x - s.can.x = (ax:Int) by omega]; exact wrap_i64 _ (by omega) (by omega)
     have u5:IntKind.i64.wrap ((ax:Int) + (n:Int)) = (en:Int):=by rw [show (ax:Int) + (n:Int) = (en:Int) by omega]; exact wrap_i64 _ (by omega) (by omega)
     have u6:IntKind.i64.wrap (RR.y + (q5:Int) - RR.y) = (q5:Int):=by rw [show RR.y + (q5:Int) - RR.y = (q5:Int) by omega]; exact wrap_i64 _ (by omega) (by omega)
     have u6b:IntKind.i64.wrap (q5:Int) = (q5:Int):=wrap_i64 _ (by omega) (by omega)
     have u7:IntKind.i64.wrap ((q5:Int) * (n:Int)) = (qn:Int):=by rw [hqm]; exact wrap_i64 _ (by omega) (by omega)
     have HJ:=hd_ (And.intro hjj (And.intro z3 (And.intro hP hax)))
     have HQN:=hd_ hqn
     have b1:ax ≤ en:=by omega
     have b2:en ≤ N:=by omega
     have b3:qn ≤ M:=by omega
     have b4:qn ≤ c4:=by omega
     have b5:en - ax = n:=by omega
     have b6:n ≤ M - qn:=by omega
     have HIq:=hd_ I
     have HTq:=hd_ eT
     have HROW:=hd_ hrow
     clear z1 z2 z3 z4 z5 z6 z7 e1 e2 e3 e4 e5' e6 hP hPm hqn hqm hax I eC eT hrow hjj
     go_upto_region 17 with fail
     clear C_0 C_1 u1 u2 u3 u4
     have qT1:=fun q:Bw wr => q.h.cell T_1
     refine region_btail 14 (by kernel_rfl) (by kernel_rfl) ?_
     simp only [List.take_succ_cons,List.take_zero]
     repeat (go_big_quiet_step (fail))
     refine wpQuiet_nil ?_
     rintro w6 ⟨q6,rfl⟩
     simp only [List.drop_succ_cons,List.drop_zero]
     clear qT1
     refine wpList_copy_mid rfl (.tmp 88) (.tmp 96) 60 60 rfl 32 5 Tryz.underlying60 (by kernel_rfl) ga _ _ _ _ _ _ rfl rfl (pxs (rowF s RR F n (RR.y + q5))) ?hn ?hsrc ?hc ?hf (pxs_one _) ?_
     case hn => rw [pxs_len,rowF_len,show (M - qn).min (ax + n - ax) = n by rw [Nat.add_sub_cancel_left]; exact Nat.min_eq_right b6]
     case hsrc =>
      intro j u hj
      have hjn:j < n * 5:=by rw [← rowF_len s RR F n (RR.y + q5),← pxs_len]; exact (List.getElem?_eq_some_iff.1 hj).1
      rw [Addr.add_mid,(own_ext HROW.out q6.h).cellAt _ (by omega),HQN.out]
      exact rows_cell s RR F n q5 h j hq hj
     case hc =>
      intro j hj
      rw [pxs_len,rowF_len] at hj
      have h1:=(HIq.out.bel q6.h).al
      rw [h1.cellAt _ (by omega),List.getElem?_eq_getElem (by rw [pxs_len,imgG_len,← HNN.out]; omega)]
      rfl
     case hf => exact fun j _ => (HIq.out.bel q6.h).al.frozenAt _
     obtain ⟨zz1,zz2,zz3,zz4⟩:=HJ.out
     have hax2:ax = jj * s.wd + off:=by rw [← zz3]; exact zz4
     have hseg:=tileP_succ s F (gI s F i) RR q5 n s.wd s.ht jj off zz1 zz2 (by have:=HRB.out.1; omega) hjh hnb
     rw [← hax2] at hseg
     have I7:=(HIq.out.bel q6.h).seg HNN.out (o:=ax) (by rw [rowF_len]; omega) hseg
     have hup:=setCells_upd ga (pxs (rowF s RR F n (RR.y + q5))) (ax * 5) q6.W
     have h7t:=hup.heap (q6.h.heap HTq.out) (fun e => own_ne_heap (HIq.out.bel q6.h).al (q6.h.heap HTq.out) (by decide) (congrArg some e.symm))
     have h7r:=own_upd (own_ext HROW.out q6.h) hup (show some g4 ≠ some ga from fun e => Nat.ne_of_gt hgag (Option.some.inj e))
     have H7:=hd_ (And.intro I7 (And.intro h7t h7r))
     clear I7 hup h7t h7r hseg zz1 zz2 zz3 zz4 hax2
     go_wp2_with fail
     go_roundg (gk - 1)
     case measure => omega
     case rel =>
      obtain ⟨x1,x2,x3,x4,x5,x6,x7⟩:=HRB.out
      obtain ⟨y1,y2,y3,y4,y5,y6⟩:=HCAN.out
      have zy1:-1049000 ≤ RR.y:=by omega
      have zy2:RR.y ≤ 1049000:=by omega
      have zq:(q5:Int) ≤ 5:=by omega
      clear x1 x2 x3 x4 x5 x6 x7 y1 y2 y3 y4 y5 y6
      exact ⟨q5 + 1,by omega,by rw [show wrap64 (RR.y + (q5:Int) + 1) = RR.y + ((q5 + 1:Nat):Int) from (IntWalk.wrap64_in _ (by omega)).trans (by omega)],H7.out.1,H7.out.2.1,H7.out.2.2⟩
def inR (v:Int):Prop:=-9223372036854775808 ≤ v ∧ v ≤ 9223372036854775807
structure Q5 where
 a:Int
 b:Int
 c:Int
 d:Int
 e:Int
abbrev Q5.cs (q:Q5):List Value:=[.int .i64 q.a,.int .i64 q.b,.int .i64 q.c,.int .i64 q.d,.int .i64 q.e]
def q5s (l:List Q5):List Value:=l.flatMap Q5.cs
structure Q5.ok (q:Q5):Prop where
 a:inR q.a
 b:inR q.b
 c:inR q.c
 d:inR q.d
 e:inR q.e
theorem Sl.q5 {W:World} {n i:Nat} {A:Option Addr} {l:List Q5} {p:Q5} (h:Sl W 5 n A (q5s l)) (hi:l[i]? = some p) (hn:i < n) :
  ∃ g off,A = some ⟨g,off,none⟩ ∧ W.cell? ⟨g,off + i * 5,none⟩ = some (.int .i64 p.a) ∧ W.cell? ⟨g,off + i * 5 + 1,none⟩ = some (.int .i64 p.b) ∧ W.cell? ⟨g,off + i * 5 + 2,none⟩ = some (.int .i64 p.c) ∧ W.cell? ⟨g,off + i * 5 + 3,none⟩ = some (.int .i64 p.d) ∧ W.cell? ⟨g,off + i * 5 + 4,none⟩ = some (.int .i64 p.e):=by
 obtain ⟨g,off,rfl,hc⟩:=h.2 (by omega)
 have k:∀ j u,j < 5 → p.cs[j]? = some u → W.cell? ⟨g,off + i * 5 + j,none⟩ = some u:=fun j u hj hu => by
  rw [Nat.add_assoc]
  exact hc _ u ((flat_get (f:=Q5.cs) (fun _ => rfl) l i j p hi hj).trans hu)
 exact ⟨g,off,rfl,k 0 _ (by decide) rfl,k 1 _ (by decide) rfl,k 2 _ (by decide) rfl,k 3 _ (by decide) rfl,k 4 _ (by decide) rfl⟩
theorem grown_heap {W W':World} {b k n g:Nat} {t t2:TypeId} {v:Value} {xs:List Value} {cs:Array Value} (hown:W.ownsRow b t k v n xs) (e:W.heap[g]? = some (.cells cs t2)) (hne:t ≠ t2) (hg:W.grownBy W' v.ownBlock):W'.heap[g]? = some (.cells cs t2) :=
 (hg.block g (lt_of_heap e) (fun h => own_ne_heap hown e hne h.symm)).trans e
theorem own_px {w:World} {base g n c i:Nat} {l:List Px} {r:Px} {t:TypeId} (h:w.ownsRow base t 5 (.slice (some ⟨g,0,none⟩) n c) n (pxs l)) (hl:l.length = n) (hi:l[i]? = some r) :
  w.cell? ⟨g,i * 5,none⟩ = some (.int .u16 r.x) ∧ w.cell? ⟨g,i * 5 + 1,none⟩ = some (.int .u16 r.y) ∧ w.cell? ⟨g,i * 5 + 2,none⟩ = some (.int .u16 r.z) ∧ w.cell? ⟨g,i * 5 + 3,none⟩ = some (.int .u16 r.a) ∧ w.cell? ⟨g,i * 5 + 4,none⟩ = some (.int .u16 r.f):=by
 have hlt:i < n:=by rw [← hl]; exact (List.getElem?_eq_some_iff.1 hi).1
 have k:∀ j u,j < 5 → r.cs[j]? = some u → w.cell? ⟨g,i * 5 + j,none⟩ = some u:=fun j u hj hu => by
  rw [h.cellAt (i * 5 + j) (by omega)]
  exact (flat_get (f:=Px.cs) (fun _ => rfl) l i j r hi hj).trans hu
 exact ⟨k 0 _ (by decide) rfl,k 1 _ (by decide) rfl,k 2 _ (by decide) rfl,k 3 _ (by decide) rfl,k 4 _ (by decide) rfl⟩
theorem pxz_ok {m:Int} (hm:0 ≤ m):Px.ok m pxz:=⟨Int.le_refl _,Int.le_refl _,Int.le_refl _,Int.le_refl _,Int.le_refl _,Int.le_refl _,Int.le_refl _,hm⟩
theorem px_mem {l:List Px} {m:Int} (h:∀ p ∈ l,Px.ok m p) {p:Px} (hp:Px.ok m p):∀ q ∈ l ++ [p],Px.ok m q:=fun q hq => by
 rcases List.mem_append.1 hq with h1 | h1
 ·exact h q h1
 ·rw [List.mem_singleton.1 h1]; exact hp
theorem gpixel_ex (q:Q5) (hq:q.ok) (m:Int) (hm:m = 255 ∨ m = 65535) (w:World) :
  Calls Tryz.prog 42 #[.agg #[.int .i64 q.a,.int .i64 q.b,.int .i64 q.c,.int .i64 q.d,.int .i64 q.e],.int .u16 m] w fun e w' => ∃ p:Px,e = .returned p.v ∧ Px.ok m p ∧ Bel w w':=by
 refine (genPixel_ex q.a q.b q.c q.d q.e m w (by omega) (by omega) hq.a.1 hq.a.2 hq.b.1 hq.b.2 hq.c.1 hq.c.2 hq.d.1 hq.d.2 hq.e.1 hq.e.2).mono ?_
 rintro e w' ⟨x,y,z,a,f,rfl,hv,x0,y0,z0,o1,o2,n,rfl⟩
 obtain ⟨v0,v1,v2,v3,v4⟩:=valid_parts hv
 exact ⟨⟨x,y,z,a,f⟩,rfl,⟨x0,y0,z0,v0,v1,v2,v3,v4⟩,(((Bel.refl w).al _).al _).dn _⟩
theorem tlWPix0 {p:Prop} (h:p:=by
  intro v8 w8 hown8 hgrow8 _
  have hgr:=(Bel.refl Z).al (.cells (p).cs.toArray 32)
  have H8:=hd_ (And.intro (HX.out.app (Nat.le_refl _) HOW.out hgrow8) (And.intro (grown_heap (own_ext HOW.out hgr) (at_old HB2.out) (by decide) hgrow8) hown8))
  clear hown8 hgrow8 hgr P_0 P_1 P_2 P_3 P_4
  go_wp2_with fail
  go_roundg (gk - 1)
  case measure => omega
  case rel => exact ⟨j + 1,l ++ [p],by omega,by go_num,by simp [HLJ.out],px_mem HOK.out hpk,H8.out.1,H8.out.2.1,by rw [pxs_append]; simpa [pxs] using H8.out.2.2⟩):p:=h
theorem tlWPix1 {p:Prop} (h:p:=by
  intro v8 w8 hown8 hgrow8 _
  have hgr:=(Bel.refl Z).al (.cells (p0).cs.toArray 32)
  have H8:=hd_ (And.intro (HX.out.app (Nat.le_refl _) HOW.out hgrow8) (And.intro (grown_heap (own_ext HOW.out hgr) (at_old HB2.out) (by decide) hgrow8) hown8))
  clear hown8 hgrow8 hgr P_0 P_1 P_2 P_3 P_4
  go_wp2_with fail
  go_roundg (gk - 1)
  case measure => omega
  case rel => exact ⟨j + 1,l ++ [p0],by omega,by go_num,by simp [HLJ.out],px_mem HOK.out hpk0,H8.out.1,H8.out.2.1,by rw [pxs_append]; simpa [pxs] using H8.out.2.2⟩):p:=h
theorem tlWPix2 {p:Prop} (h:p:=by
  intro v8 w8 hown8 hgrow8 _
  have hgr:=(Bel.refl Z).al (.cells (pxz).cs.toArray 32)
  have H8:=hd_ (And.intro (HX.out.app (Nat.le_refl _) HOW.out hgrow8) (And.intro (grown_heap (own_ext HOW.out hgr) (at_old HB2.out) (by decide) hgrow8) hown8))
  clear hown8 hgrow8 hgr P_0 P_1 P_2 P_3 P_4
  go_wp2_with fail
  go_roundg (gk - 1)
  case measure => omega
  case rel => exact ⟨j + 1,l ++ [pxz],by omega,by go_num,by simp [HLJ.out],px_mem HOK.out (pxz_ok hm0),H8.out.1,H8.out.2.1,by rw [pxs_append]; simpa [pxs] using H8.out.2.2⟩):p:=h
theorem tlWPix3 {p:Prop} (h:p:=by
  intro v8 w8 hown8 hgrow8 _
  have hgr:=(Bel.refl Z).al (.cells (pp).cs.toArray 32)
  have H8:=hd_ (And.intro (HX.out.app (Nat.le_refl _) HOW.out hgrow8) (And.intro (grown_heap (own_ext HOW.out hgr) (at_old HB2.out) (by decide) hgrow8) hown8))
  clear hown8 hgrow8 hgr P_0 P_1 P_2 P_3 P_4
  go_wp2_with fail
  go_roundg (gk - 1)
  case measure => omega
  case rel => exact ⟨j + 1,l ++ [pp],by omega,by go_num,by simp [HLJ.out],px_mem HOK.out hppk,H8.out.1,H8.out.2.1,by rw [pxs_append]; simpa [pxs] using H8.out.2.2⟩):p:=h
set_option maxHeartbeats 8000000 in
theorem gpixels_ex (mood:Int) (A:Option Addr) (m c:Nat) (l5:List Q5) (n:Nat) (n100:n ≤ 100) (mx:Int) (hmx:mx = 255 ∨ mx = 65535) (w:World) (h:Sl w 5 m A (q5s l5)) (hl5:l5.length = m) (hb:∀ q ∈ l5,q.ok) :
  Calls Tryz.prog 17 #[.agg #[.int .i64 mood,.slice A m c],.int .i64 n,.int .u16 mx] w fun e w' => ∃ v l,e = .returned v ∧ l.length = n ∧ (∀ p ∈ l,Px.ok mx p) ∧ w'.ownsRow w.heap.size 32 5 v n (pxs l) ∧ Bel w w':=by
 obtain ⟨j0,ji,jz0,jz1,jz2⟩:=info_parts info_px
 have HL:=hd_ h
 have HL5:=hd_ hl5
 have HB:=hd_ hb
 have hMo:=hd_ (fun W => calls_bs (mod_call mood 6 W (by decide) (by decide)))
 have hGP:=hd_ (fun (q:Q5) (hq:q.ok) W => gpixel_ex q hq mx hmx W)
 have hm0:0 ≤ mx:=by omega
 have HMX:=hd_ hmx
 have e0:0 ≤ mood % 6:=Int.emod_nonneg _ (by decide)
 have e6:mood % 6 < 6:=Int.emod_lt_of_pos _ (by decide)
 obtain ⟨md,hmd⟩:∃ md,md = mood % 6:=⟨_,rfl⟩
 rw [← hmd] at hMo e0 e6
 clear h hl5 hb hmd hmx
 go_enter Tryz.func17,Tryz.ntmps17
 go_upto_region 1 with fail
 refine at_world (fun V => Bel w V ∧ V.heap[w.heap.size]? = some (.cells #[.int .i64 mood,.slice A m c] 64)) ⟨(Bel.refl w).al _,at_new (by first | rfl | simp)⟩ ?_
 rintro V ⟨hX,eB⟩
 have Bs:=lt_of_heap eB
 have B_0:=cq0 eB rfl
 have B_1:=cq1 eB rfl
 have fB:=frozA eB
 go_wp2_with fail
 have HX0:=hd_ hX
 have HE0:=hd_ eB
 clear hX eB Bs B_0 B_1 fB
 go_loopg [7,8] n (fun gk s7 s8 wr => ∃ (j:Nat) (l:List Px),j + gk = n ∧ s8 = .int .i64 j ∧ l.length = j ∧ (∀ p ∈ l,Px.ok mx p) ∧ Bel w wr ∧ wr.heap[w.heap.size]? = some (.cells #[.int .i64 mood,.slice A m c] 64) ∧ wr.ownsRow w.heap.size 32 5 s7 j (pxs l))
 case atStart => exact ⟨0,[],by omega,rfl,rfl,by simp,HX0.out,HE0.out,World.ownsRow_nil _ _ _ _⟩
 case round =>
  obtain ⟨j,l,hgk,rfl,hlj,hok,hX,eB,hown⟩:=hrel
  have HLJ:=hd_ hlj
  have HOK:=hd_ hok
  have HOWN:=hd_ hown
  clear HX0 HE0 hlj hok
  by_cases hlt:j < n
  case neg =>
   obtain rfl:j = n:=by omega
   have hd:decide ((j:Int) < (j:Int)) = false:=decide_eq_false (by omega)
   obtain ⟨A7,c7,rfl,-⟩:=own_sl hown
   have HX:=hd_ hX
   clear hown hX eB
   go_wp2_with fail
   go_returns
   exact ⟨_,l,rfl,HLJ.out,HOK.out,HOWN.out,HX.out⟩
  case pos =>
   have hd:decide ((j:Int) < (n:Int)) = true:=decide_eq_true (by omega)
   obtain ⟨A7,c7,rfl,-⟩:=own_sl hown
   clear hown
   have Bs:=lt_of_heap eB
   have B_0:=cq0 eB rfl
   have B_1:=cq1 eB rfl
   have fB:=frozA eB
   rcases Nat.eq_zero_or_pos m with hm | hm
   ·have k0:decide (0 < (m:Int)) = false:=decide_eq_false (by omega)
    have k1:decide ((j:Int) < (m:Int)) = false:=decide_eq_false (by omega)
    have k2:(0 < m) = False:=eq_false (by omega)
    have k3:(j < m) = False:=eq_false (by omega)
    have hq:=hGP.out ⟨0,0,0,0,0⟩ ⟨⟨by decide,by decide⟩,⟨by decide,by decide⟩,⟨by decide,by decide⟩,⟨by decide,by decide⟩,⟨by decide,by decide⟩⟩
    have HQ:=hd_ hq
    clear hq hm
    go_upto_region 12 with (first | (go_at_call 42; (with_reducible refine (HQ.out _).mono ?_); rintro e w4 ⟨p,rfl,hpk,hb4⟩) | fail)
    have hX4:=(hX.al _).trans hb4
    have eB4:=hb4.heap (at_old eB)
    have hgw:=lt_of_heap eB4
    refine at_world (fun Y => Bel w Y ∧ Y.heap[w.heap.size]? = some (.cells #[.int .i64 mood,.slice A m c] 64) ∧ Y.ownsRow w.heap.size 32 5 (.slice A7 j c7) j (pxs l) ∧ Y.heap[w4.heap.size]? = some (.cells #[.int .u16 p.x,.int .u16 p.y,.int .u16 p.z,.int .u16 p.a,.int .u16 p.f] 32) ∧ w4.heap.size ≥ wr.heap.size) ⟨hX4.al _,at_old eB4,own_ext HOWN.out ((((Bel.refl wr).al _).trans hb4).al _),at_new (by first | rfl | simp),Nat.le_trans (Nat.le_succ _) (by simpa using hb4.size')⟩ ?_
    clear Bs B_0 B_1 fB hX4 eB4 hX eB hb4
    rintro Y ⟨hX,eB,hown,eP,hge⟩
    have Bs:=lt_of_heap eB
    have Ps:=lt_of_heap eP
    have B_0:=cq0 eB rfl
    have P_0:=cq0 eP rfl
    have P_1:=cq1 eP rfl
    have P_2:=cq2 eP rfl
    have P_3:=cq3 eP rfl
    have P_4:=cq4 eP rfl
    have fB:=frozA eB
    have fP:=frozA eP
    have hrl:=fun (g2:Nat) (h2:Value.ownBlock (.slice A7 j c7) = some g2) => (HOWN.out.lt g2 h2).2
    have h4:md = 0 ∨ md = 1 ∨ md = 2 ∨ 3 ≤ md:=by omega
    rcases h4 with h4 | h4 | h4 | h4
    ·have m0:(md == 0) = true:=by simp; omega
     have m1:(md == 1) = false:=by simp; omega
     have m2:(md == 2) = false:=by simp; omega
     go_upto_region 20 with (first | (go_at_call 8; (with_reducible refine (hMo.out _).mono ?_); rintro e w1 ⟨rfl,hb⟩; replace hX:=hX.trans hb; replace eB:=hb.heap eB; replace eP:=hb.heap eP; replace hown:=own_ext hown hb; clear Bs B_0 fB Ps P_0 P_1 P_2 P_3 P_4 fP; have Bs:=lt_of_heap eB; have Ps:=lt_of_heap eP; have B_0:=cq0 eB rfl; have P_0:=cq0 eP rfl; have P_1:=cq1 eP rfl; have P_2:=cq2 eP rfl; have P_3:=cq3 eP rfl; have P_4:=cq4 eP rfl; have fB:=frozA eB; have fP:=frozA eP; clear hb) | ((with_reducible show wpList _ _ _ (⟨none,.store _ _ _,_,_,_,_⟩ :: _) _ _); refine wpList_st (n:=0) (g:=w4.heap.size) (cells:=(pxz).cs) rfl rfl rfl rfl eP rfl (by kernel_rfl) (px_one (pxz)) ?_; intro Z3 eP3 hU3) | fail)
     refine at_world (fun Z => Bel w Z ∧ Z.heap[w.heap.size]? = some (.cells #[.int .i64 mood,.slice A m c] 64) ∧ Z.ownsRow w.heap.size 32 5 (.slice A7 j c7) j (pxs l) ∧ Z.heap[w4.heap.size]? = some (.cells #[.int .u16 (pxz).x,.int .u16 (pxz).y,.int .u16 (pxz).z,.int .u16 (pxz).a,.int .u16 (pxz).f] 32)) ⟨hU3.bel hX (by omega),hU3.heap eB (by omega),own_upd hown hU3 (fun e => by have:=hrl _ e; omega),eP3⟩ ?_
     clear eP3 hU3 hX eB hown eP Bs B_0 fB Ps P_0 P_1 P_2 P_3 P_4 fP
     rintro Z ⟨hX,eB,hown,eP⟩
     have P_0:=cq0 eP rfl
     have P_1:=cq1 eP rfl
     have P_2:=cq2 eP rfl
     have P_3:=cq3 eP rfl
     have P_4:=cq4 eP rfl
     have HX:=hd_ hX
     have HB2:=hd_ eB
     have HOW:=hd_ hown
     have hsz:=hX.size'
     clear hX eB hown eP
     go_wp2_with (at_builtin; refine wpList_append_own _ rfl _ _ 60 rfl w.heap.size 32 j0 (.agg #[.int .u16 0,.int .u16 0,.int .u16 0,.int .u16 0,.int .u16 0]) 5 10 Tryz.underlying60 ji jz0 jz1 jz2 rfl (by decide) _ _ _ rfl (own_ext HOW.out ((Bel.refl _).al _)) ⟨Z.heap.size,0,none⟩ 1 1 (pxz).cs rfl rfl ?d1a ?d1b ?d1c ?d1d ?d1e ?_)
     case d1a => exact new_row Z (pxz).cs _
     case d1b => exact px_one (pxz)
     case d1c => unfold maxLen; omega
     case d1d => omega
     case d1e => simp; omega
     exact tlWPix2
    ·have m0:(md == 0) = false:=by simp; omega
     have m1:(md == 1) = true:=by simp; omega
     have m2:(md == 2) = false:=by simp; omega
     go_upto_region 20 with (first | (go_at_call 8; (with_reducible refine (hMo.out _).mono ?_); rintro e w1 ⟨rfl,hb⟩; replace hX:=hX.trans hb; replace eB:=hb.heap eB; replace eP:=hb.heap eP; replace hown:=own_ext hown hb; clear Bs B_0 fB Ps P_0 P_1 P_2 P_3 P_4 fP; have Bs:=lt_of_heap eB; have Ps:=lt_of_heap eP; have B_0:=cq0 eB rfl; have P_0:=cq0 eP rfl; have P_1:=cq1 eP rfl; have P_2:=cq2 eP rfl; have P_3:=cq3 eP rfl; have P_4:=cq4 eP rfl; have fB:=frozA eB; have fP:=frozA eP; clear hb) | fail)
     have hU3:=setCells_upd w4.heap.size [.int .u16 mx,.int .u16 mx] 3 w1
     obtain ⟨pp,hpp⟩:∃ pp:Px,pp = ⟨p.x,p.y,p.z,mx,mx⟩:=⟨_,rfl⟩
     have hppk:Px.ok mx pp:=by rw [hpp]; exact ⟨hpk.x0,hpk.y0,hpk.z0,Int.le_trans hpk.xa (Int.le_trans hpk.af hpk.fm),Int.le_trans hpk.ya (Int.le_trans hpk.af hpk.fm),Int.le_trans hpk.za (Int.le_trans hpk.af hpk.fm),Int.le_refl _,Int.le_refl _⟩
     refine at_world (fun Z => Bel w Z ∧ Z.heap[w.heap.size]? = some (.cells #[.int .i64 mood,.slice A m c] 64) ∧ Z.ownsRow w.heap.size 32 5 (.slice A7 j c7) j (pxs l) ∧ Z.heap[w4.heap.size]? = some (.cells #[.int .u16 (pp).x,.int .u16 (pp).y,.int .u16 (pp).z,.int .u16 (pp).a,.int .u16 (pp).f] 32)) ⟨hU3.bel hX (by omega),hU3.heap eB (by omega),own_upd hown hU3 (fun e => by have:=hrl _ e; omega),(by rw [hpp]; exact heap_set _ (heap_set _ eP))⟩ ?_
     clear hpp hU3 hX eB hown eP Bs B_0 fB Ps P_0 P_1 P_2 P_3 P_4 fP
     rintro Z ⟨hX,eB,hown,eP⟩
     have P_0:=cq0 eP rfl
     have P_1:=cq1 eP rfl
     have P_2:=cq2 eP rfl
     have P_3:=cq3 eP rfl
     have P_4:=cq4 eP rfl
     have HX:=hd_ hX
     have HB2:=hd_ eB
     have HOW:=hd_ hown
     have hsz:=hX.size'
     clear hX eB hown eP
     go_wp2_with (at_builtin; refine wpList_append_own _ rfl _ _ 60 rfl w.heap.size 32 j0 (.agg #[.int .u16 0,.int .u16 0,.int .u16 0,.int .u16 0,.int .u16 0]) 5 10 Tryz.underlying60 ji jz0 jz1 jz2 rfl (by decide) _ _ _ rfl (own_ext HOW.out ((Bel.refl _).al _)) ⟨Z.heap.size,0,none⟩ 1 1 (pp).cs rfl rfl ?d2a ?d2b ?d2c ?d2d ?d2e ?_)
     case d2a => exact new_row Z (pp).cs _
     case d2b => exact px_one (pp)
     case d2c => unfold maxLen; omega
     case d2d => omega
     case d2e => simp; omega
     exact tlWPix3
    ·have m0:(md == 0) = false:=by simp; omega
     have m1:(md == 1) = false:=by simp; omega
     have m2:(md == 2) = true:=by simp; omega
     rcases Nat.eq_zero_or_pos j with hj0 | hj0
     ·have kj:decide (0 < (j:Int)) = false:=decide_eq_false (by omega)
      have kj2:(0 < j) = False:=eq_false (by omega)
      clear hj0
      go_upto_region 20 with (first | (go_at_call 8; (with_reducible refine (hMo.out _).mono ?_); rintro e w1 ⟨rfl,hb⟩; replace hX:=hX.trans hb; replace eB:=hb.heap eB; replace eP:=hb.heap eP; replace hown:=own_ext hown hb; clear Bs B_0 fB Ps P_0 P_1 P_2 P_3 P_4 fP; have Bs:=lt_of_heap eB; have Ps:=lt_of_heap eP; have B_0:=cq0 eB rfl; have P_0:=cq0 eP rfl; have P_1:=cq1 eP rfl; have P_2:=cq2 eP rfl; have P_3:=cq3 eP rfl; have P_4:=cq4 eP rfl; have fB:=frozA eB; have fP:=frozA eP; clear hb) | fail)
      refine at_world (fun Z => Bel w Z ∧ Z.heap[w.heap.size]? = some (.cells #[.int .i64 mood,.slice A m c] 64) ∧ Z.ownsRow w.heap.size 32 5 (.slice A7 j c7) j (pxs l) ∧ Z.heap[w4.heap.size]? = some (.cells #[.int .u16 (p).x,.int .u16 (p).y,.int .u16 (p).z,.int .u16 (p).a,.int .u16 (p).f] 32)) ⟨hX,eB,hown,eP⟩ ?_
      clear hX eB hown eP Bs B_0 fB Ps P_0 P_1 P_2 P_3 P_4 fP
      rintro Z ⟨hX,eB,hown,eP⟩
      have P_0:=cq0 eP rfl
      have P_1:=cq1 eP rfl
      have P_2:=cq2 eP rfl
      have P_3:=cq3 eP rfl
      have P_4:=cq4 eP rfl
      have HX:=hd_ hX
      have HB2:=hd_ eB
      have HOW:=hd_ hown
      have hsz:=hX.size'
      clear hX eB hown eP
      go_wp2_with (at_builtin; refine wpList_append_own _ rfl _ _ 60 rfl w.heap.size 32 j0 (.agg #[.int .u16 0,.int .u16 0,.int .u16 0,.int .u16 0,.int .u16 0]) 5 10 Tryz.underlying60 ji jz0 jz1 jz2 rfl (by decide) _ _ _ rfl (own_ext HOW.out ((Bel.refl _).al _)) ⟨Z.heap.size,0,none⟩ 1 1 (p).cs rfl rfl ?d3a ?d3b ?d3c ?d3d ?d3e ?_)
      case d3a => exact new_row Z (p).cs _
      case d3b => exact px_one (p)
      case d3c => unfold maxLen; omega
      case d3d => omega
      case d3e => simp; omega
      exact tlWPix0
     ·have kj:decide (0 < (j:Int)) = true:=decide_eq_true (by omega)
      obtain ⟨p0,hp0⟩:∃ p0,l[0]? = some p0:=⟨_,List.getElem?_eq_getElem (by rw [HLJ.out]; exact hj0)⟩
      have hpk0:=HOK.out p0 (List.mem_of_getElem? hp0)
      obtain ⟨g7,c7x,h7x,-,-,-⟩:=own_at hown hj0 (by decide)
      cases h7x
      go_upto_region 18 with (first | (go_at_call 8; (with_reducible refine (hMo.out _).mono ?_); rintro e w1 ⟨rfl,hb⟩; replace hX:=hX.trans hb; replace eB:=hb.heap eB; replace eP:=hb.heap eP; replace hown:=own_ext hown hb; clear Bs B_0 fB Ps P_0 P_1 P_2 P_3 P_4 fP; have Bs:=lt_of_heap eB; have Ps:=lt_of_heap eP; have B_0:=cq0 eB rfl; have P_0:=cq0 eP rfl; have P_1:=cq1 eP rfl; have P_2:=cq2 eP rfl; have P_3:=cq3 eP rfl; have P_4:=cq4 eP rfl; have fB:=frozA eB; have fP:=frozA eP; clear hb) | fail)
      obtain ⟨o0,o1,o2,o3,o4⟩:=own_px hown HLJ.out hp0
      simp only [Nat.zero_mul,Nat.zero_add] at o0 o1 o2 o3 o4
      have l7:=(hown.lt g7 rfl).2
      go_upto_region 20 with (first | ((with_reducible show wpList _ _ _ (⟨none,.store _ _ _,_,_,_,_⟩ :: _) _ _); refine wpList_st (n:=0) (g:=w4.heap.size) (cells:=(p0).cs) rfl rfl rfl rfl eP rfl (by kernel_rfl) (px_one (p0)) ?_; intro Z3 eP3 hU3) | fail)
      refine at_world (fun Z => Bel w Z ∧ Z.heap[w.heap.size]? = some (.cells #[.int .i64 mood,.slice A m c] 64) ∧ Z.ownsRow w.heap.size 32 5 (.slice (some ⟨g7,0,none⟩) j c7) j (pxs l) ∧ Z.heap[w4.heap.size]? = some (.cells #[.int .u16 (p0).x,.int .u16 (p0).y,.int .u16 (p0).z,.int .u16 (p0).a,.int .u16 (p0).f] 32)) ⟨hU3.bel hX (by omega),hU3.heap eB (by omega),own_upd hown hU3 (fun e => by have:=hrl _ e; omega),eP3⟩ ?_
      clear o0 o1 o2 o3 o4 eP3 hU3 hX eB hown eP Bs B_0 fB Ps P_0 P_1 P_2 P_3 P_4 fP
      rintro Z ⟨hX,eB,hown,eP⟩
      have P_0:=cq0 eP rfl
      have P_1:=cq1 eP rfl
      have P_2:=cq2 eP rfl
      have P_3:=cq3 eP rfl
      have P_4:=cq4 eP rfl
      have HX:=hd_ hX
      have HB2:=hd_ eB
      have HOW:=hd_ hown
      have hsz:=hX.size'
      clear hX eB hown eP
      go_wp2_with (at_builtin; refine wpList_append_own _ rfl _ _ 60 rfl w.heap.size 32 j0 (.agg #[.int .u16 0,.int .u16 0,.int .u16 0,.int .u16 0,.int .u16 0]) 5 10 Tryz.underlying60 ji jz0 jz1 jz2 rfl (by decide) _ _ _ rfl (own_ext HOW.out ((Bel.refl _).al _)) ⟨Z.heap.size,0,none⟩ 1 1 (p0).cs rfl rfl ?d4a ?d4b ?d4c ?d4d ?d4e ?_)
      case d4a => exact new_row Z (p0).cs _
      case d4b => exact px_one (p0)
      case d4c => unfold maxLen; omega
      case d4d => omega
      case d4e => simp; omega
      exact tlWPix1
    ·have m0:(md == 0) = false:=by simp; omega
     have m1:(md == 1) = false:=by simp; omega
     have m2:(md == 2) = false:=by simp; omega
     go_upto_region 20 with (first | (go_at_call 8; (with_reducible refine (hMo.out _).mono ?_); rintro e w1 ⟨rfl,hb⟩; replace hX:=hX.trans hb; replace eB:=hb.heap eB; replace eP:=hb.heap eP; replace hown:=own_ext hown hb; clear Bs B_0 fB Ps P_0 P_1 P_2 P_3 P_4 fP; have Bs:=lt_of_heap eB; have Ps:=lt_of_heap eP; have B_0:=cq0 eB rfl; have P_0:=cq0 eP rfl; have P_1:=cq1 eP rfl; have P_2:=cq2 eP rfl; have P_3:=cq3 eP rfl; have P_4:=cq4 eP rfl; have fB:=frozA eB; have fP:=frozA eP; clear hb) | fail)
     refine at_world (fun Z => Bel w Z ∧ Z.heap[w.heap.size]? = some (.cells #[.int .i64 mood,.slice A m c] 64) ∧ Z.ownsRow w.heap.size 32 5 (.slice A7 j c7) j (pxs l) ∧ Z.heap[w4.heap.size]? = some (.cells #[.int .u16 (p).x,.int .u16 (p).y,.int .u16 (p).z,.int .u16 (p).a,.int .u16 (p).f] 32)) ⟨hX,eB,hown,eP⟩ ?_
     clear hX eB hown eP Bs B_0 fB Ps P_0 P_1 P_2 P_3 P_4 fP
     rintro Z ⟨hX,eB,hown,eP⟩
     have P_0:=cq0 eP rfl
     have P_1:=cq1 eP rfl
     have P_2:=cq2 eP rfl
     have P_3:=cq3 eP rfl
     have P_4:=cq4 eP rfl
     have HX:=hd_ hX
     have HB2:=hd_ eB
     have HOW:=hd_ hown
     have hsz:=hX.size'
     clear hX eB hown eP
     go_wp2_with (at_builtin; refine wpList_append_own _ rfl _ _ 60 rfl w.heap.size 32 j0 (.agg #[.int .u16 0,.int .u16 0,.int .u16 0,.int .u16 0,.int .u16 0]) 5 10 Tryz.underlying60 ji jz0 jz1 jz2 rfl (by decide) _ _ _ rfl (own_ext HOW.out ((Bel.refl _).al _)) ⟨Z.heap.size,0,none⟩ 1 1 (p).cs rfl rfl ?d5a ?d5b ?d5c ?d5d ?d5e ?_)
     case d5a => exact new_row Z (p).cs _
     case d5b => exact px_one (p)
     case d5c => unfold maxLen; omega
     case d5d => omega
     case d5e => simp; omega
     exact tlWPix0
   ·have k0:decide (0 < (m:Int)) = true:=decide_eq_true (by omega)
    have t1:Int.tmod (j:Int) (m:Int) = ((j % m:Nat):Int):=by rw [Int.tmod_eq_emod_of_nonneg (by omega)]; rfl
    have hjm:j % m < m:=Nat.mod_lt _ hm
    have z1:((m:Int) == 0) = false:=beq_eq_false_iff_ne.2 (by omega)
    obtain ⟨r,hr⟩:∃ r,r = j % m:=⟨_,rfl⟩
    rw [← hr] at t1 hjm
    have hjn:r ≤ j:=by rw [hr]; exact Nat.mod_le _ _
    clear hr
    have t2:IntKind.i64.wrap (r:Int) = (r:Int):=wrap_i64 _ (by omega) (by omega)
    have k1:decide ((r:Int) < (m:Int)) = true:=decide_eq_true (by omega)
    obtain ⟨q,hq⟩:∃ q,l5[r]? = some q:=⟨_,List.getElem?_eq_getElem (by rw [HL5.out]; exact hjm)⟩
    obtain ⟨g,off,rfl,c0,c1,c2,c3,c4⟩:=(HL.out.bel hX).q5 hq hjm
    have HQ:=hd_ (hGP.out q (HB.out q (List.mem_of_getElem? hq)))
    have lg:g < wr.heap.size:=World.block_lt_of_cell? wr _ c0
    clear hq
    go_upto_region 12 with (first | (go_at_call 42; (with_reducible refine (HQ.out _).mono ?_); rintro e w4 ⟨p,rfl,hpk,hb4⟩) | fail)
    have hX4:=(hX.al _).trans hb4
    have eB4:=hb4.heap (at_old eB)
    have hgw:=lt_of_heap eB4
    refine at_world (fun Y => Bel w Y ∧ Y.heap[w.heap.size]? = some (.cells #[.int .i64 mood,.slice (some ⟨g,off,none⟩) m c] 64) ∧ Y.ownsRow w.heap.size 32 5 (.slice A7 j c7) j (pxs l) ∧ Y.heap[w4.heap.size]? = some (.cells #[.int .u16 p.x,.int .u16 p.y,.int .u16 p.z,.int .u16 p.a,.int .u16 p.f] 32) ∧ w4.heap.size ≥ wr.heap.size) ⟨hX4.al _,at_old eB4,own_ext HOWN.out ((((Bel.refl wr).al _).trans hb4).al _),at_new (by first | rfl | simp),Nat.le_trans (Nat.le_succ _) (by simpa using hb4.size')⟩ ?_
    clear Bs B_0 B_1 fB c0 c1 c2 c3 c4 lg hX4 eB4 hX eB hb4
    rintro Y ⟨hX,eB,hown,eP,hge⟩
    have Bs:=lt_of_heap eB
    have Ps:=lt_of_heap eP
    have B_0:=cq0 eB rfl
    have P_0:=cq0 eP rfl
    have P_1:=cq1 eP rfl
    have P_2:=cq2 eP rfl
    have P_3:=cq3 eP rfl
    have P_4:=cq4 eP rfl
    have fB:=frozA eB
    have fP:=frozA eP
    have hrl:=fun (g2:Nat) (h2:Value.ownBlock (.slice A7 j c7) = some g2) => (HOWN.out.lt g2 h2).2
    have h4:md = 0 ∨ md = 1 ∨ md = 2 ∨ 3 ≤ md:=by omega
    rcases h4 with h4 | h4 | h4 | h4
    ·have m0:(md == 0) = true:=by simp; omega
     have m1:(md == 1) = false:=by simp; omega
     have m2:(md == 2) = false:=by simp; omega
     go_upto_region 20 with (first | (go_at_call 8; (with_reducible refine (hMo.out _).mono ?_); rintro e w1 ⟨rfl,hb⟩; replace hX:=hX.trans hb; replace eB:=hb.heap eB; replace eP:=hb.heap eP; replace hown:=own_ext hown hb; clear Bs B_0 fB Ps P_0 P_1 P_2 P_3 P_4 fP; have Bs:=lt_of_heap eB; have Ps:=lt_of_heap eP; have B_0:=cq0 eB rfl; have P_0:=cq0 eP rfl; have P_1:=cq1 eP rfl; have P_2:=cq2 eP rfl; have P_3:=cq3 eP rfl; have P_4:=cq4 eP rfl; have fB:=frozA eB; have fP:=frozA eP; clear hb) | ((with_reducible show wpList _ _ _ (⟨none,.store _ _ _,_,_,_,_⟩ :: _) _ _); refine wpList_st (n:=0) (g:=w4.heap.size) (cells:=(pxz).cs) rfl rfl rfl rfl eP rfl (by kernel_rfl) (px_one (pxz)) ?_; intro Z3 eP3 hU3) | fail)
     refine at_world (fun Z => Bel w Z ∧ Z.heap[w.heap.size]? = some (.cells #[.int .i64 mood,.slice (some ⟨g,off,none⟩) m c] 64) ∧ Z.ownsRow w.heap.size 32 5 (.slice A7 j c7) j (pxs l) ∧ Z.heap[w4.heap.size]? = some (.cells #[.int .u16 (pxz).x,.int .u16 (pxz).y,.int .u16 (pxz).z,.int .u16 (pxz).a,.int .u16 (pxz).f] 32)) ⟨hU3.bel hX (by omega),hU3.heap eB (by omega),own_upd hown hU3 (fun e => by have:=hrl _ e; omega),eP3⟩ ?_
     clear eP3 hU3 hX eB hown eP Bs B_0 fB Ps P_0 P_1 P_2 P_3 P_4 fP
     rintro Z ⟨hX,eB,hown,eP⟩
     have P_0:=cq0 eP rfl
     have P_1:=cq1 eP rfl
     have P_2:=cq2 eP rfl
     have P_3:=cq3 eP rfl
     have P_4:=cq4 eP rfl
     have HX:=hd_ hX
     have HB2:=hd_ eB
     have HOW:=hd_ hown
     have hsz:=hX.size'
     clear hX eB hown eP
     go_wp2_with (at_builtin; refine wpList_append_own _ rfl _ _ 60 rfl w.heap.size 32 j0 (.agg #[.int .u16 0,.int .u16 0,.int .u16 0,.int .u16 0,.int .u16 0]) 5 10 Tryz.underlying60 ji jz0 jz1 jz2 rfl (by decide) _ _ _ rfl (own_ext HOW.out ((Bel.refl _).al _)) ⟨Z.heap.size,0,none⟩ 1 1 (pxz).cs rfl rfl ?d6a ?d6b ?d6c ?d6d ?d6e ?_)
     case d6a => exact new_row Z (pxz).cs _
     case d6b => exact px_one (pxz)
     case d6c => unfold maxLen; omega
     case d6d => omega
     case d6e => simp; omega
     exact tlWPix2
    ·have m0:(md == 0) = false:=by simp; omega
     have m1:(md == 1) = true:=by simp; omega
     have m2:(md == 2) = false:=by simp; omega
     go_upto_region 20 with (first | (go_at_call 8; (with_reducible refine (hMo.out _).mono ?_); rintro e w1 ⟨rfl,hb⟩; replace hX:=hX.trans hb; replace eB:=hb.heap eB; replace eP:=hb.heap eP; replace hown:=own_ext hown hb; clear Bs B_0 fB Ps P_0 P_1 P_2 P_3 P_4 fP; have Bs:=lt_of_heap eB; have Ps:=lt_of_heap eP; have B_0:=cq0 eB rfl; have P_0:=cq0 eP rfl; have P_1:=cq1 eP rfl; have P_2:=cq2 eP rfl; have P_3:=cq3 eP rfl; have P_4:=cq4 eP rfl; have fB:=frozA eB; have fP:=frozA eP; clear hb) | fail)
     have hU3:=setCells_upd w4.heap.size [.int .u16 mx,.int .u16 mx] 3 w1
     obtain ⟨pp,hpp⟩:∃ pp:Px,pp = ⟨p.x,p.y,p.z,mx,mx⟩:=⟨_,rfl⟩
     have hppk:Px.ok mx pp:=by rw [hpp]; exact ⟨hpk.x0,hpk.y0,hpk.z0,Int.le_trans hpk.xa (Int.le_trans hpk.af hpk.fm),Int.le_trans hpk.ya (Int.le_trans hpk.af hpk.fm),Int.le_trans hpk.za (Int.le_trans hpk.af hpk.fm),Int.le_refl _,Int.le_refl _⟩
     refine at_world (fun Z => Bel w Z ∧ Z.heap[w.heap.size]? = some (.cells #[.int .i64 mood,.slice (some ⟨g,off,none⟩) m c] 64) ∧ Z.ownsRow w.heap.size 32 5 (.slice A7 j c7) j (pxs l) ∧ Z.heap[w4.heap.size]? = some (.cells #[.int .u16 (pp).x,.int .u16 (pp).y,.int .u16 (pp).z,.int .u16 (pp).a,.int .u16 (pp).f] 32)) ⟨hU3.bel hX (by omega),hU3.heap eB (by omega),own_upd hown hU3 (fun e => by have:=hrl _ e; omega),(by rw [hpp]; exact heap_set _ (heap_set _ eP))⟩ ?_
     clear hpp hU3 hX eB hown eP Bs B_0 fB Ps P_0 P_1 P_2 P_3 P_4 fP
     rintro Z ⟨hX,eB,hown,eP⟩
     have P_0:=cq0 eP rfl
     have P_1:=cq1 eP rfl
     have P_2:=cq2 eP rfl
     have P_3:=cq3 eP rfl
     have P_4:=cq4 eP rfl
     have HX:=hd_ hX
     have HB2:=hd_ eB
     have HOW:=hd_ hown
     have hsz:=hX.size'
     clear hX eB hown eP
     go_wp2_with (at_builtin; refine wpList_append_own _ rfl _ _ 60 rfl w.heap.size 32 j0 (.agg #[.int .u16 0,.int .u16 0,.int .u16 0,.int .u16 0,.int .u16 0]) 5 10 Tryz.underlying60 ji jz0 jz1 jz2 rfl (by decide) _ _ _ rfl (own_ext HOW.out ((Bel.refl _).al _)) ⟨Z.heap.size,0,none⟩ 1 1 (pp).cs rfl rfl ?d7a ?d7b ?d7c ?d7d ?d7e ?_)
     case d7a => exact new_row Z (pp).cs _
     case d7b => exact px_one (pp)
     case d7c => unfold maxLen; omega
     case d7d => omega
     case d7e => simp; omega
     exact tlWPix3
    ·have m0:(md == 0) = false:=by simp; omega
     have m1:(md == 1) = false:=by simp; omega
     have m2:(md == 2) = true:=by simp; omega
     rcases Nat.eq_zero_or_pos j with hj0 | hj0
     ·have kj:decide (0 < (j:Int)) = false:=decide_eq_false (by omega)
      have kj2:(0 < j) = False:=eq_false (by omega)
      clear hj0
      go_upto_region 20 with (first | (go_at_call 8; (with_reducible refine (hMo.out _).mono ?_); rintro e w1 ⟨rfl,hb⟩; replace hX:=hX.trans hb; replace eB:=hb.heap eB; replace eP:=hb.heap eP; replace hown:=own_ext hown hb; clear Bs B_0 fB Ps P_0 P_1 P_2 P_3 P_4 fP; have Bs:=lt_of_heap eB; have Ps:=lt_of_heap eP; have B_0:=cq0 eB rfl; have P_0:=cq0 eP rfl; have P_1:=cq1 eP rfl; have P_2:=cq2 eP rfl; have P_3:=cq3 eP rfl; have P_4:=cq4 eP rfl; have fB:=frozA eB; have fP:=frozA eP; clear hb) | fail)
      refine at_world (fun Z => Bel w Z ∧ Z.heap[w.heap.size]? = some (.cells #[.int .i64 mood,.slice (some ⟨g,off,none⟩) m c] 64) ∧ Z.ownsRow w.heap.size 32 5 (.slice A7 j c7) j (pxs l) ∧ Z.heap[w4.heap.size]? = some (.cells #[.int .u16 (p).x,.int .u16 (p).y,.int .u16 (p).z,.int .u16 (p).a,.int .u16 (p).f] 32)) ⟨hX,eB,hown,eP⟩ ?_
      clear hX eB hown eP Bs B_0 fB Ps P_0 P_1 P_2 P_3 P_4 fP
      rintro Z ⟨hX,eB,hown,eP⟩
      have P_0:=cq0 eP rfl
      have P_1:=cq1 eP rfl
      have P_2:=cq2 eP rfl
      have P_3:=cq3 eP rfl
      have P_4:=cq4 eP rfl
      have HX:=hd_ hX
      have HB2:=hd_ eB
      have HOW:=hd_ hown
      have hsz:=hX.size'
      clear hX eB hown eP
      go_wp2_with (at_builtin; refine wpList_append_own _ rfl _ _ 60 rfl w.heap.size 32 j0 (.agg #[.int .u16 0,.int .u16 0,.int .u16 0,.int .u16 0,.int .u16 0]) 5 10 Tryz.underlying60 ji jz0 jz1 jz2 rfl (by decide) _ _ _ rfl (own_ext HOW.out ((Bel.refl _).al _)) ⟨Z.heap.size,0,none⟩ 1 1 (p).cs rfl rfl ?d8a ?d8b ?d8c ?d8d ?d8e ?_)
      case d8a => exact new_row Z (p).cs _
      case d8b => exact px_one (p)
      case d8c => unfold maxLen; omega
      case d8d => omega
      case d8e => simp; omega
      exact tlWPix0
     ·have kj:decide (0 < (j:Int)) = true:=decide_eq_true (by omega)
      obtain ⟨p0,hp0⟩:∃ p0,l[0]? = some p0:=⟨_,List.getElem?_eq_getElem (by rw [HLJ.out]; exact hj0)⟩
      have hpk0:=HOK.out p0 (List.mem_of_getElem? hp0)
      obtain ⟨g7,c7x,h7x,-,-,-⟩:=own_at hown hj0 (by decide)
      cases h7x
      go_upto_region 18 with (first | (go_at_call 8; (with_reducible refine (hMo.out _).mono ?_); rintro e w1 ⟨rfl,hb⟩; replace hX:=hX.trans hb; replace eB:=hb.heap eB; replace eP:=hb.heap eP; replace hown:=own_ext hown hb; clear Bs B_0 fB Ps P_0 P_1 P_2 P_3 P_4 fP; have Bs:=lt_of_heap eB; have Ps:=lt_of_heap eP; have B_0:=cq0 eB rfl; have P_0:=cq0 eP rfl; have P_1:=cq1 eP rfl; have P_2:=cq2 eP rfl; have P_3:=cq3 eP rfl; have P_4:=cq4 eP rfl; have fB:=frozA eB; have fP:=frozA eP; clear hb) | fail)
      obtain ⟨o0,o1,o2,o3,o4⟩:=own_px hown HLJ.out hp0
      simp only [Nat.zero_mul,Nat.zero_add] at o0 o1 o2 o3 o4
      have l7:=(hown.lt g7 rfl).2
      go_upto_region 20 with (first | ((with_reducible show wpList _ _ _ (⟨none,.store _ _ _,_,_,_,_⟩ :: _) _ _); refine wpList_st (n:=0) (g:=w4.heap.size) (cells:=(p0).cs) rfl rfl rfl rfl eP rfl (by kernel_rfl) (px_one (p0)) ?_; intro Z3 eP3 hU3) | fail)
      refine at_world (fun Z => Bel w Z ∧ Z.heap[w.heap.size]? = some (.cells #[.int .i64 mood,.slice (some ⟨g,off,none⟩) m c] 64) ∧ Z.ownsRow w.heap.size 32 5 (.slice (some ⟨g7,0,none⟩) j c7) j (pxs l) ∧ Z.heap[w4.heap.size]? = some (.cells #[.int .u16 (p0).x,.int .u16 (p0).y,.int .u16 (p0).z,.int .u16 (p0).a,.int .u16 (p0).f] 32)) ⟨hU3.bel hX (by omega),hU3.heap eB (by omega),own_upd hown hU3 (fun e => by have:=hrl _ e; omega),eP3⟩ ?_
      clear o0 o1 o2 o3 o4 eP3 hU3 hX eB hown eP Bs B_0 fB Ps P_0 P_1 P_2 P_3 P_4 fP
      rintro Z ⟨hX,eB,hown,eP⟩
      have P_0:=cq0 eP rfl
      have P_1:=cq1 eP rfl
      have P_2:=cq2 eP rfl
      have P_3:=cq3 eP rfl
      have P_4:=cq4 eP rfl
      have HX:=hd_ hX
      have HB2:=hd_ eB
      have HOW:=hd_ hown
      have hsz:=hX.size'
      clear hX eB hown eP
      go_wp2_with (at_builtin; refine wpList_append_own _ rfl _ _ 60 rfl w.heap.size 32 j0 (.agg #[.int .u16 0,.int .u16 0,.int .u16 0,.int .u16 0,.int .u16 0]) 5 10 Tryz.underlying60 ji jz0 jz1 jz2 rfl (by decide) _ _ _ rfl (own_ext HOW.out ((Bel.refl _).al _)) ⟨Z.heap.size,0,none⟩ 1 1 (p0).cs rfl rfl ?d9a ?d9b ?d9c ?d9d ?d9e ?_)
      case d9a => exact new_row Z (p0).cs _
      case d9b => exact px_one (p0)
      case d9c => unfold maxLen; omega
      case d9d => omega
      case d9e => simp; omega
      exact tlWPix1
    ·have m0:(md == 0) = false:=by simp; omega
     have m1:(md == 1) = false:=by simp; omega
     have m2:(md == 2) = false:=by simp; omega
     go_upto_region 20 with (first | (go_at_call 8; (with_reducible refine (hMo.out _).mono ?_); rintro e w1 ⟨rfl,hb⟩; replace hX:=hX.trans hb; replace eB:=hb.heap eB; replace eP:=hb.heap eP; replace hown:=own_ext hown hb; clear Bs B_0 fB Ps P_0 P_1 P_2 P_3 P_4 fP; have Bs:=lt_of_heap eB; have Ps:=lt_of_heap eP; have B_0:=cq0 eB rfl; have P_0:=cq0 eP rfl; have P_1:=cq1 eP rfl; have P_2:=cq2 eP rfl; have P_3:=cq3 eP rfl; have P_4:=cq4 eP rfl; have fB:=frozA eB; have fP:=frozA eP; clear hb) | fail)
     refine at_world (fun Z => Bel w Z ∧ Z.heap[w.heap.size]? = some (.cells #[.int .i64 mood,.slice (some ⟨g,off,none⟩) m c] 64) ∧ Z.ownsRow w.heap.size 32 5 (.slice A7 j c7) j (pxs l) ∧ Z.heap[w4.heap.size]? = some (.cells #[.int .u16 (p).x,.int .u16 (p).y,.int .u16 (p).z,.int .u16 (p).a,.int .u16 (p).f] 32)) ⟨hX,eB,hown,eP⟩ ?_
     clear hX eB hown eP Bs B_0 fB Ps P_0 P_1 P_2 P_3 P_4 fP
     rintro Z ⟨hX,eB,hown,eP⟩
     have P_0:=cq0 eP rfl
     have P_1:=cq1 eP rfl
     have P_2:=cq2 eP rfl
     have P_3:=cq3 eP rfl
     have P_4:=cq4 eP rfl
     have HX:=hd_ hX
     have HB2:=hd_ eB
     have HOW:=hd_ hown
     have hsz:=hX.size'
     clear hX eB hown eP
     go_wp2_with (at_builtin; refine wpList_append_own _ rfl _ _ 60 rfl w.heap.size 32 j0 (.agg #[.int .u16 0,.int .u16 0,.int .u16 0,.int .u16 0,.int .u16 0]) 5 10 Tryz.underlying60 ji jz0 jz1 jz2 rfl (by decide) _ _ _ rfl (own_ext HOW.out ((Bel.refl _).al _)) ⟨Z.heap.size,0,none⟩ 1 1 (p).cs rfl rfl ?d10a ?d10b ?d10c ?d10d ?d10e ?_)
     case d10a => exact new_row Z (p).cs _
     case d10b => exact px_one (p)
     case d10c => unfold maxLen; omega
     case d10d => omega
     case d10e => simp; omega
     exact tlWPix0
end Go.Proofs.YtepfoelgegljbaaGreatDoor
