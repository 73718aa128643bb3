/- Part A34. -/
import Derived.Test.YtepfoelgegljbaaGreatDoorA31
import Derived.Test.YtepfoelgegljbaaGreatDoorA33
namespace Go.Proofs.YtepfoelgegljbaaGreatDoor
set_option maxRecDepth 100000
open Go.RowKit
set_option linter.unusedVariables false
set_option linter.unusedSimpArgs false
theorem Kept.grown {w W W':World} {o:Option Nat} (h:Kept w W) (hg:W.grownBy W' o) (hb:∀ k,o = some k → w.heap.size ≤ k):Kept w W' :=
 ⟨Nat.le_trans h.1 hg.size,fun b cs t fr e h1 h2 => (hg.block b (lt_of_heap (h.2 b cs t fr e h1 h2)) (fun hk => by have:=hb b hk.symm; have:=lt_of_heap e; omega)).trans (h.2 b cs t fr e h1 h2)⟩
theorem own_grown {W W':World} {b1 b2 k1 k2 n1 n2:Nat} {e1 e2:TypeId} {v1 v2:Value} {xs1 xs2:List Value} (h1:W.ownsRow b1 e1 k1 v1 n1 xs1) (h2:W.ownsRow b2 e2 k2 v2 n2 xs2) (hne:e2 ≠ e1) (hg:W.grownBy W' v2.ownBlock):W'.ownsRow b1 e1 k1 v1 n1 xs1:=by
 refine ⟨h1.1,h1.2.imp id ?_⟩
 rintro ⟨g,cap,cur,rfl,a2,a3,r⟩
 exact ⟨g,cap,cur,rfl,a2,(hg.block g (lt_of_heap a3) (fun e => own_ne_heap h2 a3 hne e.symm)).trans a3,r⟩
theorem PnZ.grown {w0 W W':World} {s:Scr} {el:List Int} {gp b k m:Nat} {t:TypeId} {ev sv v:Value} {xs:List Value} (Z:PnZ w0 s el gp ev W sv) (hown:W.ownsRow b t k v m xs) (h1:t ≠ 112) (h2:t ≠ 131) (h3:t ≠ 3) (hb:w0.heap.size ≤ b) (hg:W.grownBy W' v.ownBlock):PnZ w0 s el gp ev W' sv:=by
 obtain ⟨n,ys,hk⟩:=Z.sk
 exact ⟨Z.hB.grown hg fun q h => Nat.le_trans hb (hown.lt q h).1,Z.g0,(hg.block gp (lt_of_heap Z.eP) (fun e => own_ne_heap hown Z.eP h1 e.symm)).trans Z.eP,own_grown Z.en hown h3 hg,n,ys,own_grown hk hown h2 hg⟩
theorem pxs_one (l:List Px):∀ u ∈ pxs l,u.oneCell' = true:=by
 intro u hu
 obtain ⟨p,-,hp⟩:=List.mem_flatMap.1 hu
 exact px_one p u hp
noncomputable def rowF (s:Scr) (R:Rc) (F:Fo) (n:Nat) (y:Int):List Px:=(List.range n).map fun k:Nat => ptF s.can s.ims s.mx R F (R.x + k) y
noncomputable def rowsF (s:Scr) (R:Rc) (F:Fo) (n h:Nat):List Px:=(List.range h).flatMap fun j:Nat => rowF s R F n (R.y + j)
theorem rowF_len (s:Scr) (R:Rc) (F:Fo) (n:Nat) (y:Int):(rowF s R F n y).length = n:=by unfold rowF; simp
theorem rowsF_succ (s:Scr) (R:Rc) (F:Fo) (n j:Nat):pxs (rowsF s R F n (j + 1)) = pxs (rowsF s R F n j) ++ pxs (rowF s R F n (R.y + j)):=by
 unfold rowsF pxs
 rw [List.range_succ,List.flatMap_append,List.flatMap_append]
 simp
set_option maxHeartbeats 8000000 in
theorem part_call (w0:World) (s:Scr) (hs:s.In w0) (hm:s.Sm) (hR:Ruled w0) (hN:Named w0) (F:Fo) (hV:s.Vb F) (hS:SrcOk s.ims s.mx) (hpos:F.pos) (hmx:s.mx = 255 ∨ s.mx = 65535) (R:Rc) (n h:Nat) (hRu:R.u = R.x + n) (hRv:R.v = R.y + h) (n1:1 ≤ n) (n2:n ≤ 100) (h2:h ≤ 100)
  (x0:-1049000 ≤ R.x) (x1:R.x ≤ 1049000) (y0:-1049000 ≤ R.y) (y1:R.y ≤ 1049000) (el:List Int) (hen:endsOk el F 0) (gp:Nat) (ev sv:Value) (w:World) (Z:PnZ w0 s el gp ev w sv) :
  Calls Tryz.prog 34 #[.pointer (some ⟨gp,0,none⟩),R.val] w fun e w' => ∃ v,e = .returned v ∧ (∃ sv',PnZ w0 s el gp ev w' sv') ∧ w'.ownsRow w.heap.size 32 5 v (h * n) (pxs (rowsF s R F n h)) ∧ Kept w w':=by
 obtain ⟨i0,hi,hz0,hz1,hz2⟩:=info_parts info_px
 have HAC:=hd_ (fun (W:World) (hb:Bel w0 W) => active_call s hm F hV R W (hs.bel hb) (named_bel hN hb) (ruled_bel hR hb))
 have HRW:=hd_ (fun (al:List Bool) (hal:al.length = s.pn) (hac:acOk R s.can s.ims al F 0) (W:World) (sv:Value) (Z:PnZ w0 s el gp ev W sv) (y:Int) (b0:-1050000 ≤ y) (b1:y ≤ 1050000) (ba:Nat) (aA:Option Addr) (ac:Nat) (hrow:W.ownsRow ba 4 1 (.slice aA s.pn ac) s.pn (bls al)) => row_call w0 s hs hm hR F hV hS hpos hmx R al hal hac el hen gp n ev sv W Z n1 n2 R.x y (by omega) (by omega) b0 b1 ba aA ac hrow)
 have HZ:=hd_ Z
 have hun:R.u - R.x = (n:Int):=by omega
 have hw1:IntKind.i64.wrap (n:Int) = (n:Int):=wrap_i64 _ (by omega) (by omega)
 have HRV:=hd_ hRv
 clear hs hm hR hN hV hS hpos hmx hen hRu hRv
 go_enter Tryz.func34,Tryz.ntmps34
 go_upto_region 1 with fail
 refine at_world (fun V => Bel w V ∧ V.heap[w.heap.size]? = some (.cells #[.int .i64 R.x,.int .i64 R.y,.int .i64 R.u,.int .i64 R.v] 34)) ⟨(Bel.refl w).al _,at_new (by first | rfl | simp)⟩ ?_
 rintro V ⟨hX,eC⟩
 have Cs:=lt_of_heap eC
 have C_0:=cq0 eC rfl
 have C_1:=cq1 eC rfl
 have C_2:=cq2 eC rfl
 have C_3:=cq3 eC rfl
 have fC:=frozA eC
 have ZV:=HZ.out.bel hX
 have eP:V.heap[gp]? = some (.cells #[.int .i64 s.bits,.int .i64 s.can.x,.int .i64 s.can.y,.int .i64 s.can.u,.int .i64 s.can.v,.int .i64 s.tw,.int .i64 s.th,.slice s.oA s.on s.oc,.slice s.iA s.inn s.ic,.slice s.pA s.pn s.pc,.int .u16 s.mx,ev,sv] 112):=ZV.eP
 have HXV:=hd_ hX
 have HEC:=hd_ eC
 have HACV:=hd_ (fun (W:World) (h:Bel V W) => (HAC.out W (HZ.out.hB.trans (hX.trans h))).mono fun e w2 k => (let ⟨v,al,k1,k2,k3,k4,k5⟩:=k; ⟨v,al,k1,k2,k3,k4,h.trans k5⟩:∃ v al,e = .returned (.tuple #[v,.int .i64 0]) ∧ w2.ownsRow W.heap.size 4 1 v s.pn (bls al) ∧ al.length = s.pn ∧ acOk R s.can s.ims al F 0 ∧ Bel V w2))
 have p0:=cq0 eP rfl
 have p1:=cq1 eP rfl
 have p2:=cq2 eP rfl
 have p3:=cq3 eP rfl
 have p4:=cq4 eP rfl
 have p5:=cq5 eP rfl
 have p6:=cq6 eP rfl
 have p7:=cq7 eP rfl
 have p8:=cq8 eP rfl
 have p9:=cq9 eP rfl
 have r0:=fun (W:World) (h:Bel V W) => h.cell p0
 have r1:=fun (W:World) (h:Bel V W) => h.cell p1
 have r2:=fun (W:World) (h:Bel V W) => h.cell p2
 have r3:=fun (W:World) (h:Bel V W) => h.cell p3
 have r4:=fun (W:World) (h:Bel V W) => h.cell p4
 have r5:=fun (W:World) (h:Bel V W) => h.cell p5
 have r6:=fun (W:World) (h:Bel V W) => h.cell p6
 have r7:=fun (W:World) (h:Bel V W) => h.cell p7
 have r8:=fun (W:World) (h:Bel V W) => h.cell p8
 have r9:=fun (W:World) (h:Bel V W) => h.cell p9
 have c0:=fun (W:World) (h:Bel V W) => h.cell C_0
 have c1:=fun (W:World) (h:Bel V W) => h.cell C_1
 have c2:=fun (W:World) (h:Bel V W) => h.cell C_2
 have c3:=fun (W:World) (h:Bel V W) => h.cell C_3
 clear p0 p1 p2 p3 p4 p5 p6 p7 p8 p9
 clear hX eC Cs C_0 C_1 C_2 C_3 fC ZV eP
 go_region_held3 (fun W => Bel V W) (first | assumption | exact (Bel.refl V).dr) (first | (go_at_call 60; (with_reducible refine (HACV.out _ (by assumption)).mono ?_); rintro e w3 ⟨v3,al,rfl,hv3,hal,hac,hS3⟩; obtain ⟨aA,ac,rfl,-⟩:=own_sl hv3))
 have Z3:=(HZ.out.bel HXV.out).bel hS3
 have eC3:=hS3.heap HEC.out
 have HV3:=hd_ hv3
 have HRL:=hd_ (HRW.out al hal hac)
 have HZ3:=hd_ Z3
 have HK3:=hd_ (Kept.of_bel (HXV.out.trans hS3))
 have C_1:=cq1 eC3 rfl
 have hbase:w0.heap.size ≤ w3.heap.size:=Z3.hB.size'
 clear r0 r1 r2 r3 r4 r5 r6 r7 r8 r9 c0 c1 c2 c3 hv3 hal hac Z3
 go_wp2_with fail
 clear C_1
 have HC3:=hd_ eC3
 clear eC3 hS3
 go_loopg [7,8] h (fun gk s7 s8 wr => ∃ (j:Nat) (sv2:Value),j + gk = h ∧ s8 = .int .i64 (R.y + j) ∧ PnZ w0 s el gp ev wr sv2 ∧ Kept w3 wr ∧ wr.ownsRow w3.heap.size 32 5 s7 (j * n) (pxs (rowsF s R F n j)))
 case atStart => exact ⟨0,sv,by omega,by simp,HZ3.out,Kept.refl _,by rw [Nat.zero_mul]; exact World.ownsRow_nil _ _ _ _⟩
 case round =>
  obtain ⟨j,sv2,hgk,rfl,Zr,hK,hown⟩:=hrel
  have eC:=hK.2 _ _ _ _ HC3.out (by decide) (by decide)
  have C_0:=cq0 eC rfl
  have C_2:=cq2 eC rfl
  have C_3:=cq3 eC rfl
  have HZr:=hd_ Zr
  have HK:=hd_ hK
  have HOWN:=hd_ hown
  clear eC Zr hK hown
  by_cases hlt:j < h
  case neg =>
   obtain rfl:j = h:=by omega
   have hd:decide (R.y + (j:Int) < R.v) = false:=decide_eq_false (by have:=HRV.out; omega)
   obtain ⟨A7,c7,rfl,-⟩:=own_sl HOWN.out
   go_wp2_with fail
   go_returns
   exact ⟨_,rfl,⟨sv2,HZr.out⟩,own_base HOWN.out HK3.out.1,HK3.out.trans HK.out⟩
  case pos =>
   have hd:decide (R.y + (j:Int) < R.v) = true:=decide_eq_true (by have:=HRV.out; omega)
   have HRJ:=hd_ (HRL.out wr sv2 HZr.out (R.y + j) (by omega) (by omega) _ aA ac (own_keep HV3.out HK.out (by decide) (by decide)))
   go_wp2_with (first | (go_at_call 61; (with_reducible refine HRJ.out.mono ?_); rintro e w4 ⟨v4,rfl,⟨sv4,Z4⟩,hv4,hK4⟩; obtain ⟨g4,c4,rfl,hg4,hg4s,hcap4⟩:=own_at hv4 (by omega) (by decide)) | (at_builtin; refine wpList_append_own _ rfl _ _ 60 rfl w3.heap.size 32 i0 (.agg #[.int .u16 0,.int .u16 0,.int .u16 0,.int .u16 0,.int .u16 0]) 5 10 Tryz.underlying60 hi hz0 hz1 hz2 rfl (by decide) _ _ _ rfl (own_keep HOWN.out hK4 (by decide) (by decide)) ⟨g4,0,none⟩ n c4 (pxs (rowF s R F n (R.y + j))) rfl ?hl ?ca ?cb ?cc ?cd ?ce ?_) | fail)
   case hl => exact (flat_len (f:=Px.cs) (k:=5) (fun _ => rfl) _).trans (by rw [rowF_len])
   case ca =>
    intro q u hq
    rw [Addr.add_mid,Nat.zero_add,hv4.cellAt q (by have:=(List.getElem?_eq_some_iff.1 hq).1; rw [show (pxs (rowF s R F n (R.y + j))).length = n * 5 by exact (flat_len (f:=Px.cs) (k:=5) (fun _ => rfl) _).trans (by rw [rowF_len])] at this; omega)]
    exact hq
   case cb => exact pxs_one _
   case cc => have:=Nat.mul_le_mul (show j ≤ 100 by omega) n2; unfold maxLen; omega
   case cd => have:=Nat.mul_le_mul (show j ≤ 100 by omega) n2; omega
   case ce => have:=HK.out.1; have:=hK4.1; omega
   intro v5 w5 hown5 hgrow5 _
   have hko:=own_keep HOWN.out hK4 (by decide) (by decide)
   have Z5:=Z4.grown hko (by decide) (by decide) (by decide) hbase hgrow5
   have K5:=(HK.out.trans hK4).grown hgrow5 (fun k hk => (hko.lt k hk).1)
   have H5:=hd_ (And.intro Z5 (And.intro K5 hown5))
   clear Z5 K5 hown5 hgrow5 hko Z4 hv4 hK4
   go_wp2_with fail
   go_roundg (gk - 1)
   case measure => omega
   case rel => exact ⟨j + 1,sv4,by omega,by go_num,H5.out.1,H5.out.2.1,by rw [rowsF_succ,Nat.succ_mul]; exact H5.out.2.2⟩
theorem orderF_len {l:List Int} {n:Nat} (h:orderOk l n):(orderF l n).length = n:=by
 unfold orderF
 split
 ·simp
 ·rcases h with h | h
  ·contradiction
  ·exact h.1
theorem orderF_bd {l:List Int} {n:Nat} (h:orderOk l n) {i:Nat} {k:Int} (hk:(orderF l n)[i]? = some k):0 ≤ k ∧ k < n:=by
 have hm:=List.mem_of_getElem? hk
 unfold orderF at hm
 split at hm
 ·obtain ⟨q,hq,rfl⟩:=List.mem_map.1 hm
  have:=List.mem_range.1 hq
  omega
 ·rcases h with h | h
  ·contradiction
  ·exact h.2.1 k hm
set_option maxHeartbeats 8000000 in
theorem tiles_call (s:Scr) (hm:s.Sm) (ho:orderOk s.ord s.nt) (w:World) (hs:s.In w) :
  Calls Tryz.prog 33 #[s.v] w fun e w' => ∃ v,e = .returned v ∧ w'.ownsRow w.heap.size 34 4 v s.nt (rcs s.tls) ∧ Bel w w':=by
 obtain ⟨j0,ji,jz0,jz1,jz2⟩:=info_parts info_rc
 obtain ⟨n1,n2,n3⟩:=sm_nt hm
 have hC:=hd_ (fun W => count_call s.can s.tw s.th W)
 rw [sm_cnt hm] at hC
 obtain ⟨b1,b2,b3,b4⟩:=cnt_bd (sm_cnt hm)
 have h1:=hm.w1
 have h2:=hm.h1
 obtain ⟨nx,hnx⟩:∃ nx,nx = cntX s.can s.tw s.th:=⟨_,rfl⟩
 obtain ⟨ny,hny⟩:∃ ny,ny = cntY s.can s.tw s.th:=⟨_,rfl⟩
 have HT:=hd_ (fun (i:Int) (i0:0 ≤ i) (i1:i < s.nt) (W:World) => tRect_call s.can s.tw s.th i (sm_cnt hm) i0 (by omega) W)
 rw [← hnx,← hny] at n1 hC
 have hwn:IntKind.i64.wrap (nx * ny) = (s.nt:Int):=by rw [n1]; exact wrap_i64 _ (by omega) (by omega)
 have HO:=hd_ (fun (W:World) (hb:Bel w W) => (order_call s.ord s.on s.nt (by omega) (by omega) hs.on hs.lord s.oA s.oc W (hs.ord.bel hb)).mono fun e w2 k => (let ⟨v,k1,k2⟩:=k.1 ho; ⟨v,k1,k2,k.2.2⟩:∃ v,e = .returned (.tuple #[v,.bool true]) ∧ w2.ownsRow W.heap.size 3 1 v s.nt (ints64 (orderF s.ord s.nt)) ∧ Bel W w2))
 have HOK:=hd_ ho
 obtain ⟨nt,hnt⟩:∃ nt,nt = s.nt:=⟨_,rfl⟩
 have HNT:=hd_ hnt
 rw [← hnt] at n2 n3 hwn HT HO ⊢
 clear hs hm ho n1 hnx hny b1 b2 b3 b4 h1 h2 hnt
 go_enter Tryz.func33,Tryz.ntmps33
 go_upto_region 1 with fail
 refine at_world (fun V => Bel w V ∧ V.heap[w.heap.size]? = some (oSc s)) ⟨(Bel.refl w).al _,at_new (by first | rfl | simp)⟩ ?_
 rintro V ⟨hX,eS⟩
 have Ss:=lt_of_heap eS
 have S_1:=cq1 eS rfl
 have S_2:=cq2 eS rfl
 have S_3:=cq3 eS rfl
 have S_4:=cq4 eS rfl
 have S_5:=cq5 eS rfl
 have S_6:=cq6 eS rfl
 have S_7:=cq7 eS rfl
 have fS:=frozA eS
 go_upto_region 3 with (first | (go_at_call 51; (with_reducible refine (hC.out _).mono ?_); rintro e w1 ⟨rfl,hb⟩; replace hX:=hX.trans hb; replace eS:=hb.heap eS; clear Ss S_1 S_2 S_3 S_4 S_5 S_6 S_7 fS; have Ss:=lt_of_heap eS; have S_1:=cq1 eS rfl; have S_2:=cq2 eS rfl; have S_3:=cq3 eS rfl; have S_4:=cq4 eS rfl; have S_5:=cq5 eS rfl; have S_6:=cq6 eS rfl; have S_7:=cq7 eS rfl; have fS:=frozA eS; clear hb) | (go_at_call 52; (with_reducible refine (HO.out _ hX).mono ?_); rintro e w1 ⟨pv,rfl,hpv,hb⟩; replace hX:=hX.trans hb; replace eS:=hb.heap eS; clear Ss S_1 S_2 S_3 S_4 S_5 S_6 S_7 fS; have Ss:=lt_of_heap eS; have S_1:=cq1 eS rfl; have S_2:=cq2 eS rfl; have S_3:=cq3 eS rfl; have S_4:=cq4 eS rfl; have S_5:=cq5 eS rfl; have S_6:=cq6 eS rfl; have S_7:=cq7 eS rfl; have fS:=frozA eS; clear hb) | fail)
 obtain ⟨w2,rfl⟩:∃ W:World,W = w1:=⟨_,rfl⟩
 have HV6:=hd_ hpv
 have HX2:=hd_ hX
 have HES:=hd_ eS
 obtain ⟨g6,c6,rfl,hg6,hg6s,hcap6⟩:=own_at hpv (by omega) (by decide)
 clear hX eS Ss S_1 S_2 S_3 S_4 S_5 S_6 S_7 fS hpv
 go_wp2_with fail
 go_loopg [8,35] nt (fun gk s8 s35 wr => ∃ j:Nat,j + gk = nt ∧ s35 = .int .i64 j ∧ Bel w2 wr ∧ wr.ownsRow w2.heap.size 34 4 s8 j (rcs (s.tls.take j)))
 case atStart => exact ⟨0,by omega,rfl,Bel.refl _,World.ownsRow_nil _ _ _ _⟩
 case round =>
  obtain ⟨j,hgk,rfl,hB,hown⟩:=hrel
  have HB:=hd_ hB
  have HOWN:=hd_ hown
  by_cases hlt:j < nt
  case neg =>
   obtain rfl:j = nt:=by omega
   obtain ⟨A8,c8,rfl,-⟩:=own_sl hown
   clear hB hown
   go_wp2_with fail
   go_returns
   refine ⟨_,rfl,?_,HX2.out.trans HB.out⟩
   have h:=HOWN.out
   rw [List.take_of_length_le (by unfold Scr.tls; rw [List.length_map,orderF_len HOK.out,HNT.out]; exact Nat.le_refl _)] at h
   exact own_base h HX2.out.size'
  case pos =>
   obtain ⟨k,hk⟩:∃ k,(orderF s.ord s.nt)[j]? = some k:=⟨_,List.getElem?_eq_getElem (by rw [orderF_len HOK.out,← HNT.out]; exact hlt)⟩
   have hkb:=orderF_bd HOK.out hk
   rw [← HNT.out] at hkb
   have hce:=in_cell (own_ext HV6.out hB) (by rw [HNT.out]; exact hk) hlt
   have HTL:=hd_ (show s.tls[j]? = some (tRect s.can s.tw s.th k) by unfold Scr.tls; rw [List.getElem?_map,hk]; rfl)
   have HTK:=hd_ (fun W => HT.out k hkb.1 hkb.2 W)
   generalize tRect s.can s.tw s.th k = RR at *
   have eS:=hB.heap HES.out
   have hX:=Bel.refl wr
   have Ss:=lt_of_heap eS
   have S_1:=cq1 eS rfl
   have S_2:=cq2 eS rfl
   have S_3:=cq3 eS rfl
   have S_4:=cq4 eS rfl
   have S_5:=cq5 eS rfl
   have S_6:=cq6 eS rfl
   have S_7:=cq7 eS rfl
   have fS:=frozA eS
   clear hown hk hkb hB
   go_upto_region 8 with (first | (go_at_call 59; (with_reducible refine (HTK.out _).mono ?_); rintro e w1 ⟨rfl,hb⟩; replace hX:=hX.trans hb; replace eS:=hb.heap eS; clear Ss S_1 S_2 S_3 S_4 S_5 S_6 S_7 fS; have Ss:=lt_of_heap eS; have S_1:=cq1 eS rfl; have S_2:=cq2 eS rfl; have S_3:=cq3 eS rfl; have S_4:=cq4 eS rfl; have S_5:=cq5 eS rfl; have S_6:=cq6 eS rfl; have S_7:=cq7 eS rfl; have fS:=frozA eS; clear hb) | fail)
   obtain ⟨w4,rfl⟩:∃ W:World,W = w1:=⟨_,rfl⟩
   refine at_world (fun Y => Bel wr Y ∧ Y.heap[w4.heap.size]? = some (.cells #[.int .i64 RR.x,.int .i64 RR.y,.int .i64 RR.u,.int .i64 RR.v] 34)) ⟨hX.al _,at_new (by first | rfl | simp)⟩ ?_
   clear Ss S_1 S_2 S_3 S_4 S_5 S_6 S_7 fS hX eS hce
   rintro Y ⟨hY,eR⟩
   have R_0:=cq0 eR rfl
   have R_1:=cq1 eR rfl
   have R_2:=cq2 eR rfl
   have R_3:=cq3 eR rfl
   have HY:=hd_ hY
   have hrow:=own_ext HOWN.out hY
   have HROW:=hd_ hrow
   clear hY eR hrow
   go_wp2_with (at_builtin; refine wpList_append_own _ rfl _ _ 88 rfl w2.heap.size 34 j0 (.agg #[.int .i64 0,.int .i64 0,.int .i64 0,.int .i64 0]) 4 32 Tryz.underlying88 ji jz0 jz1 jz2 rfl (by decide) _ _ _ rfl (own_ext HROW.out ((Bel.refl _).al _)) ⟨Y.heap.size,0,none⟩ 1 1 RR.cs rfl rfl ?da ?db ?dc ?dd ?de ?_)
   case da => exact new_row Y RR.cs _
   case db => exact rc_one RR
   case dc => unfold maxLen; omega
   case dd => omega
   case de => have:=HB.out.size'; have:=HY.out.size'; simp; omega
   intro v8 w6 hown6 hgrow6 _
   have H6:=hd_ (And.intro (show Bel w2 w6 from (HB.out.trans HY.out).app (Nat.le_refl _) HROW.out hgrow6) hown6)
   clear hown6 hgrow6 R_0 R_1 R_2 R_3
   go_wp2_with fail
   go_roundg (gk - 1)
   case measure => omega
   case rel =>
    refine ⟨j + 1,by omega,by go_num,H6.out.1,?_⟩
    rw [take_snoc HTL.out,rcs_snoc]
    exact H6.out.2
theorem PnZ.lower {w0 w1 W:World} {s:Scr} {el:List Int} {gp:Nat} {ev sv:Value} (Z:PnZ w1 s el gp ev W sv) (hb:Bel w0 w1):PnZ w0 s el gp ev W sv:=by
 obtain ⟨n,ys,hk⟩:=Z.sk
 exact ⟨hb.trans Z.hB,Nat.le_trans hb.size' Z.g0,Z.eP,own_base Z.en hb.size',n,ys,own_base hk hb.size'⟩
set_option maxHeartbeats 8000000 in
theorem start_call (s:Scr) (F:Fo) (hV:s.Vb F) (hp:s.pn ≤ 100) (w:World) (hs:s.In w) :
  Calls Tryz.prog 32 #[s.v] w fun e w' => ∃ gp ev sv,e = .returned (.pointer (some ⟨gp,0,none⟩)) ∧ PnZ w s (endsF F 0 (List.replicate s.pn 0)) gp ev w' sv:=by
 have hX0:=Bel.refl w
 have hSM:=hd_ (fun W => calls_bs (smax_call s.bits W))
 have hlF:F.flat.length = s.pn:=by rw [← hV.fo,hs.lops]
 have hEN:=hd_ (fun (W:World) (hb:Bel w W) => ends_call F hV.ok.kd s.pn hp hlF s.pA s.pc W (by have:=hs.ops.bel hb; rwa [hV.fo] at this))
 obtain ⟨el,hel⟩:∃ el,endsF F 0 (List.replicate s.pn 0) = el:=⟨_,rfl⟩
 rw [hel] at hEN ⊢
 have hmx:maxI s.bits = s.mx:=rfl
 rw [hmx] at hSM
 clear hs hV hlF hX0 hel hmx
 go_enter Tryz.func32,Tryz.ntmps32
 go_upto_region 1 with fail
 refine at_world (fun V => Bel w V ∧ V.heap[w.heap.size]? = some (oSc s)) ⟨(Bel.refl w).al _,at_new (by first | rfl | simp)⟩ ?_
 rintro V ⟨hX,eS⟩
 have Ss:=lt_of_heap eS
 have S_0:=cq0 eS rfl
 have S_1:=cq1 eS rfl
 have S_2:=cq2 eS rfl
 have S_3:=cq3 eS rfl
 have S_4:=cq4 eS rfl
 have S_5:=cq5 eS rfl
 have S_6:=cq6 eS rfl
 have S_7:=cq7 eS rfl
 have S_8:=cq8 eS rfl
 have S_9:=cq9 eS rfl
 have fS:=frozA eS
 have lscr:=scr_ld eS
 go_upto_region 2 with (first | ((with_reducible show wpList _ _ _ (⟨some 4,_,_,_,_,_⟩ :: _) _ _); refine wpList_ld rfl rfl rfl (lscr) ?_) | fail)
 refine at_world (fun Y => Bel w Y ∧ Y.heap[w.heap.size]? = some (oSc s) ∧ Y.heap[V.heap.size]? = some (.cells #[.int .i64 s.bits,.int .i64 s.can.x,.int .i64 s.can.y,.int .i64 s.can.u,.int .i64 s.can.v,.int .i64 s.tw,.int .i64 s.th,.slice s.oA s.on s.oc,.slice s.iA s.inn s.ic,.slice s.pA s.pn s.pc,.int .u16 0,.slice none 0 0,.slice none 0 0] 112)) ⟨hX.al _,at_old eS,at_new (by first | rfl | simp)⟩ ?_
 have hgp:w.heap.size < V.heap.size:=lt_of_heap eS
 clear lscr hX eS Ss S_0 S_1 S_2 S_3 S_4 S_5 S_6 S_7 S_8 S_9 fS
 rintro Y ⟨hX,eS,eP⟩
 have Ss:=lt_of_heap eS
 have Ps:=lt_of_heap eP
 have S_0:=cq0 eS rfl
 have P_10:=cq10 eP rfl
 have fS:=frozA eS
 have fP:=frozA eP
 go_upto_region 3 with (first | (go_at_call 29; (with_reducible refine (hSM.out _).mono ?_); rintro e w1 ⟨rfl,hb⟩; replace hX:=hX.trans hb; replace eS:=hb.heap eS; replace eP:=hb.heap eP; clear Ss S_0 fS Ps P_10 fP; have Ss:=lt_of_heap eS; have Ps:=lt_of_heap eP; have S_0:=cq0 eS rfl; have P_10:=cq10 eP rfl; have fS:=frozA eS; have fP:=frozA eP; clear hb) | fail)
 obtain ⟨w2,rfl⟩:∃ W:World,W = w1:=⟨_,rfl⟩
 refine at_world (fun Y => Bel w Y ∧ Y.heap[w.heap.size]? = some (oSc s) ∧ Y.heap[V.heap.size]? = some (.cells #[.int .i64 s.bits,.int .i64 s.can.x,.int .i64 s.can.y,.int .i64 s.can.u,.int .i64 s.can.v,.int .i64 s.tw,.int .i64 s.th,.slice s.oA s.on s.oc,.slice s.iA s.inn s.ic,.slice s.pA s.pn s.pc,.int .u16 s.mx,.slice none 0 0,.slice none 0 0] 112)) ⟨hX.setCell (by omega) _,heap_set_other _ (by omega) eS,heap_set _ eP⟩ ?_
 clear Ss S_0 fS Ps P_10 fP hX eS eP
 rintro Y3 ⟨hX,eS,eP⟩
 have Ss:=lt_of_heap eS
 have Ps:=lt_of_heap eP
 have S_9:=cq9 eS rfl
 have P_11:=cq11 eP rfl
 have fS:=frozA eS
 have fP:=frozA eP
 go_wp2_with (first | (go_at_call 58; (with_reducible refine (hEN.out _ hX).mono ?_); rintro e w1 ⟨pv,rfl,hpv2,hb⟩; have hsz:=hX.size'; obtain ⟨Ae,ce,rfl,-⟩:=own_sl hpv2; replace hX:=hX.trans hb; replace eS:=hb.heap eS; replace eP:=hb.heap eP; clear Ss S_9 fS Ps P_11 fP; have Ss:=lt_of_heap eS; have Ps:=lt_of_heap eP; have S_9:=cq9 eS rfl; have P_11:=cq11 eP rfl; have fS:=frozA eS; have fP:=frozA eP; clear hb) | fail)
 go_returns
 refine ⟨V.heap.size,_,_,rfl,hX.setCell (by omega) _,by omega,heap_set _ eP,?_,0,[],World.ownsRow_nil _ _ _ _⟩
 exact own_upd (own_base hpv2 hsz) (setCells_upd V.heap.size [_] 11 w1) (own_ne_heap hpv2 eP (by decide))
theorem tRect_in {c:Rc} {w h i:Int} (hc:cntOk c w h = true) (i0:0 ≤ i) (i1:i < cntX c w h * cntY c w h) :
  c.x ≤ (tRect c w h i).x ∧ (tRect c w h i).x < (tRect c w h i).u ∧ (tRect c w h i).u ≤ c.u ∧ c.y ≤ (tRect c w h i).y ∧ (tRect c w h i).y < (tRect c w h i).v ∧ (tRect c w h i).v ≤ c.v:=by
 obtain ⟨b1,b2,b3,b4⟩:=cnt_bd hc
 obtain ⟨he,h1,h2,h3,h4⟩:=cntOk_iff.1 hc
 have mx:cntX c w h * w ≤ c.u - c.x + w - 1:=by
  unfold cntX
  rw [if_pos hc]
  exact Int.ediv_mul_le _ (by omega)
 have my:cntY c w h * h ≤ c.v - c.y + h - 1:=by
  unfold cntY
  rw [if_pos hc]
  exact Int.ediv_mul_le _ (by omega)
 unfold tRect
 generalize cntX c w h = nx at *
 generalize cntY c w h = ny at *
 have a0:0 ≤ i % nx:=Int.emod_nonneg _ (by omega)
 have a1:i % nx < nx:=Int.emod_lt_of_pos _ (by omega)
 have c0:0 ≤ i / nx:=Int.ediv_nonneg i0 (by omega)
 have c1:i / nx < ny:=Int.ediv_lt_of_lt_mul (by omega) (by rw [Int.mul_comm]; exact i1)
 generalize i % nx = a at *
 generalize i / nx = b at *
 have p0:0 ≤ a * w:=Int.mul_nonneg a0 (by omega)
 have p1:a * w ≤ (nx - 1) * w:=Int.mul_le_mul_of_nonneg_right (by omega) (by omega)
 have q0:0 ≤ b * h:=Int.mul_nonneg c0 (by omega)
 have q1:b * h ≤ (ny - 1) * h:=Int.mul_le_mul_of_nonneg_right (by omega) (by omega)
 rw [Int.sub_mul] at p1 q1
 dsimp only
 omega
noncomputable def tileP (can:Rc) (l:List Img) (mx:Int) (F:Fo) (g:Nat → Nat → Px) (R:Rc) (q:Nat):Nat → Nat → Px:=fun j i =>
 if R.x ≤ can.x + i ∧ can.x + i < R.u ∧ R.y ≤ can.y + j ∧ can.y + j < R.y + q then ptF can l mx R F (can.x + i) (can.y + j) else g j i
theorem tileP_zero (can:Rc) (l:List Img) (mx:Int) (F:Fo) (g:Nat → Nat → Px) (R:Rc):tileP can l mx F g R 0 = g:=by
 funext j i
 unfold tileP
 rw [if_neg (by omega)]
theorem tileP_all (can:Rc) (l:List Img) (mx:Int) (F:Fo) (g:Nat → Nat → Px) (R:Rc) (q:Nat) (hq:R.v = R.y + q):tileP can l mx F g R q = tileW can l mx F g R:=by
 funext j i
 unfold tileP tileW
 rw [hq]
theorem tileP_succ (s:Scr) (F:Fo) (g:Nat → Nat → Px) (R:Rc) (q n wd ht jj off:Nat) (hj:(jj:Int) = R.y + q - s.can.y) (ho:(off:Int) = R.x - s.can.x) (hn:R.u = R.x + n) (h1:jj < ht) (h2:off + n ≤ wd) :
  (imgG wd ht (tileP s.can s.ims s.mx F g R q)).take (jj * wd + off) ++ (rowF s R F n (R.y + q) ++ (imgG wd ht (tileP s.can s.ims s.mx F g R q)).drop (jj * wd + off + (rowF s R F n (R.y + q)).length)) = imgG wd ht (tileP s.can s.ims s.mx F g R (q + 1)):=by
 refine imgG_seg h1 (by rw [rowF_len]; exact h2) (fun k p hk => ?_) (fun j i hjh hi hne => ?_)
 ·have hkn:k < n:=by rw [← rowF_len s R F n (R.y + q)]; exact (List.getElem?_eq_some_iff.1 hk).1
  unfold rowF at hk
  rw [List.getElem?_map,List.getElem?_range hkn] at hk
  obtain rfl:=Option.some.inj hk
  unfold tileP
  rw [if_pos (by omega),show s.can.x + ((off + k:Nat):Int) = R.x + k by omega,show s.can.y + (jj:Int) = R.y + q by omega]
 ·rw [rowF_len] at hne
  unfold tileP
  by_cases hc:R.x ≤ s.can.x + i ∧ s.can.x + i < R.u ∧ R.y ≤ s.can.y + j ∧ s.can.y + j < R.y + q
  ·rw [if_pos hc,if_pos (by omega)]
  ·rw [if_neg hc,if_neg (by omega)]
structure RnI (w:World) (s:Scr) (el:List Int) (gp ga T7:Nat) (ev:Value) (tA:Option Addr) (tc N:Nat) (W:World) (sv:Value) (g:Nat → Nat → Px):Prop where
 Z:PnZ w s el gp ev W sv
 eS:W.heap[w.heap.size]? = some (oSc s)
 eR:W.heap[w.heap.size + 1]? = some (.cells #[.int .i64 0,.int .i64 0,.bool false,.int .u16 0,.int .u16 0,.int .u16 0,.int .u16 0,.int .u16 0,.int .i64 0,.int .i64 0,.int .i64 0,.slice none 0 0,.int .i64 0,.int .i64 0,.int .i64 0,.slice none 0 0,.int .i64 0,.int .i64 0,.int .i64 0,.slice none 0 0,.int .i64 0,.int .i64 0,.int .i64 0,.slice none 0 0,.int .i64 0,.int .i64 0,.int .i64 0,.slice none 0 0] 46)
 eC:W.heap[T7]? = some (.cells #[.int .i64 s.can.x,.int .i64 s.can.y,.int .i64 s.can.u,.int .i64 s.can.v] 34)
 tl:W.ownsRow w.heap.size 34 4 (.slice tA s.nt tc) s.nt (rcs s.tls)
 al:W.ownsRow w.heap.size 32 5 (.slice (some ⟨ga,0,none⟩) N N) N (pxs (imgG s.wd s.ht g))
section
variable {w:World} {s:Scr} {el:List Int} {gp ga T7:Nat} {ev:Value} {tA:Option Addr} {tc N:Nat} {W W':World} {sv sv':Value} {g:Nat → Nat → Px}
theorem RnI.kept (I:RnI w s el gp ga T7 ev tA tc N W sv g) (hk:Kept W W') (Z:PnZ w s el gp ev W' sv'):RnI w s el gp ga T7 ev tA tc N W' sv' g :=
 ⟨Z,hk.2 _ _ _ _ I.eS (by decide) (by decide),hk.2 _ _ _ _ I.eR (by decide) (by decide),hk.2 _ _ _ _ I.eC (by decide) (by decide),own_keep I.tl hk (by decide) (by decide),own_keep I.al hk (by decide) (by decide)⟩
theorem RnI.bel (I:RnI w s el gp ga T7 ev tA tc N W sv g) (hb:Bel W W'):RnI w s el gp ga T7 ev tA tc N W' sv g:=I.kept (Kept.of_bel hb) (I.Z.bel hb)
theorem own_blk {W:World} {b k n c g:Nat} {t:TypeId} {xs:List Value} (h:W.ownsRow b t k (.slice (some ⟨g,0,none⟩) n c) n xs):∃ cs,W.heap[g]? = some (.cells cs t):=by
 rcases h.2 with ⟨h1,-⟩ | ⟨g',cap,cur,e1,e2,e3,-⟩
 ·cases h1
 ·cases e1
  exact ⟨cur,e3⟩
theorem RnI.seg (I:RnI w s el gp ga T7 ev tA tc N W sv g) {g':Nat → Nat → Px} {o:Nat} {seg:List Px} (hN:N = s.ht * s.wd) (ho:o + seg.length ≤ N) (hg:(imgG s.wd s.ht g).take o ++ (seg ++ (imgG s.wd s.ht g).drop (o + seg.length)) = imgG s.wd s.ht g') :
  RnI w s el gp ga T7 ev tA tc N (W.setCells ga (o * 5) (pxs seg)) sv g':=by
 have hu:=setCells_upd ga (pxs seg) (o * 5) W
 obtain ⟨cs,eA⟩:=own_blk I.al
 have h5:ga ≠ gp:=fun e => own_ne_heap I.al I.Z.eP (by decide) (congrArg some e)
 have h1:w.heap.size ≠ ga:=fun e => own_ne_heap I.al I.eS (by decide) (congrArg some e.symm)
 have h2:w.heap.size + 1 ≠ ga:=fun e => own_ne_heap I.al I.eR (by decide) (congrArg some e.symm)
 have h3:T7 ≠ ga:=fun e => own_ne_heap I.al I.eC (by decide) (congrArg some e.symm)
 obtain ⟨k,xs,hsk⟩:=I.Z.sk
 have hga:w.heap.size ≤ ga:=(I.al.lt ga rfl).1
 refine ⟨⟨hu.bel I.Z.hB hga,I.Z.g0,hu.heap I.Z.eP (fun e => h5 e.symm),own_upd I.Z.en hu (own_ne_heap I.Z.en eA (by decide)),k,xs,own_upd hsk hu (own_ne_heap hsk eA (by decide))⟩,hu.heap I.eS h1,hu.heap I.eR h2,hu.heap I.eC h3,own_upd I.tl hu (own_ne_heap I.tl eA (by decide)),?_⟩
 have h:=own_seg (f:=Px.cs) (k:=5) (fun _ => rfl) seg o (imgG s.wd s.ht g) W (by rw [imgG_len,hN]) I.al ho
 rw [hg] at h
 exact h
end
end Go.Proofs.YtepfoelgegljbaaGreatDoor
