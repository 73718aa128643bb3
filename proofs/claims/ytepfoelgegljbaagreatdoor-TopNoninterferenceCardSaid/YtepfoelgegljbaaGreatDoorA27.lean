/- Part A27. -/
import Derived.Test.YtepfoelgegljbaaGreatDoorA26
namespace Go.Proofs.YtepfoelgegljbaaGreatDoor
set_option maxRecDepth 100000
open Go.RowKit
set_option linter.unusedVariables false
def pnO (s:Scr) (ev sv:Value):Obj:=.cells #[.int .i64 s.bits,.int .i64 s.can.x,.int .i64 s.can.y,.int .i64 s.can.u,.int .i64 s.can.v,.int .i64 s.tw,.int .i64 s.th,.slice s.oA s.on s.oc,.slice s.iA s.inn s.ic,.slice s.pA s.pn s.pc,.int .u16 s.mx,ev,sv] 112
def pixL (m:Img) (x y:Int) (n:Nat):List Px:=(List.range n).map fun k:Nat => atF m (x + k) y
def pixA (m:Img) (x y:Int) (n k:Nat):List Px:=(List.range n).map fun j:Nat => if j < k then atF m (x + j) y else pxz
theorem pixA_set (m:Img) (x y:Int) (n k:Nat):(pixA m x y n k).set k (atF m (x + k) y) = pixA m x y n (k + 1):=by
 apply List.ext_getElem?
 intro j
 unfold pixA
 by_cases hj:j < n
 ·by_cases hk:k = j
  ·subst hk
   rw [List.getElem?_set_self (by simpa using hj),List.getElem?_map,List.getElem?_range hj]
   simp
  ·rw [List.getElem?_set_ne hk,List.getElem?_map,List.getElem?_map,List.getElem?_range hj]
   simp only [Option.map_some]
   by_cases h:j < k
   ·rw [if_pos h,if_pos (by omega)]
   ·rw [if_neg h,if_neg (by omega)]
 ·rw [List.getElem?_eq_none (by simp; omega),List.getElem?_eq_none (by simp; omega)]
theorem atF_out {m:Img} {x y:Int} (h:x < 0 ∨ m.w ≤ x ∨ y < 0 ∨ m.h ≤ y):atF m x y = pxz:=by
 unfold atF
 rw [if_neg]
 ·rfl
 ·intro hc
  rw [Bool.and_eq_true] at hc
  have:=inB_iff.1 hc.2
  omega
theorem pixA_done {m:Img} {x y:Int} {n k:Nat} (h:n ≤ k ∨ m.w ≤ x + k):pixA m x y n k = pixL m x y n:=by
 unfold pixA pixL
 apply List.map_congr_left
 intro j hj
 have:=List.mem_range.1 hj
 by_cases hk:j < k
 ·rw [if_pos hk]
 ·rw [if_neg hk,atF_out (by omega)]
theorem pixA_start {m:Img} {x y:Int} {n k:Nat} (h:k = 0 ∨ x + k ≤ 0):pixA m x y n k = List.replicate n pxz:=by
 unfold pixA
 apply List.ext_getElem?
 intro j
 rw [List.getElem?_map,List.getElem?_replicate]
 by_cases hj:j < n
 ·rw [List.getElem?_range hj,if_pos hj]
  simp only [Option.map_some]
  split
  ·rw [atF_out (by omega)]
  ·rfl
 ·rw [if_neg hj,List.getElem?_eq_none (by simp; omega)]
  rfl
theorem pixL_out {m:Img} {x y:Int} {n:Nat} (h:y < 0 ∨ m.h ≤ y):pixL m x y n = List.replicate n pxz:=by
 unfold pixL
 apply List.ext_getElem?
 intro j
 rw [List.getElem?_map,List.getElem?_replicate]
 by_cases hj:j < n
 ·rw [List.getElem?_range hj,if_pos hj]
  simp only [Option.map_some]
  rw [atF_out (by omega)]
 ·rw [if_neg hj,List.getElem?_eq_none (by simp; omega)]
  rfl
theorem madeN {α:Type} {f:α → List Value} {k:Nat} (z:α) (zc:Array Value) (hf:∀ a,(f a).length = k) (hz:zc = (f z).toArray) (n:Nat):(madeCells zc (n * k)).toList = (List.replicate n z).flatMap f:=by
 apply List.ext_getElem?
 intro j
 rcases Nat.eq_zero_or_pos k with rfl | hk
 ·rw [List.getElem?_eq_none (by rw [Array.length_toList,size_madeCells]; omega),List.getElem?_eq_none (by rw [flat_len hf]; omega)]
 rcases Nat.lt_or_ge j (n * k) with h | h
 ·have hj:j = j / k * k + j % k:=by rw [Nat.mul_comm]; exact (Nat.div_add_mod j k).symm
  have hm:j % k < k:=Nat.mod_lt _ hk
  have hd:j / k < n:=Nat.div_lt_of_lt_mul (by rw [Nat.mul_comm]; exact h)
  have e2:=flat_get hf (List.replicate n z) (j / k) (j % k) z (by rw [List.getElem?_replicate,if_pos hd]) hm
  rw [← hj] at e2
  rw [e2,Array.getElem?_toList,Array.getElem?_eq_getElem (by rw [size_madeCells]; exact h)]
  simp only [madeCells,Array.getElem_map,Array.getElem_range]
  subst hz
  rw [List.size_toArray,hf]
  rw [getElem!_pos (f z).toArray (j % k) (by rw [List.size_toArray,hf]; exact hm)]
  rw [List.getElem?_eq_getElem (by rw [hf]; exact hm)]
  simp
 ·rw [List.getElem?_eq_none (by rw [Array.length_toList,size_madeCells]; exact h),List.getElem?_eq_none (by rw [flat_len hf]; simp; exact h)]
set_option maxHeartbeats 8000000 in
theorem pixels_call (s:Scr) (i:Nat) (m:Img) (hmi:s.ims[i]? = some m) (hsm:m.sm) (x y:Int) (x0:-4194304 ≤ x) (x1:x ≤ 4194304) (y0:-4194304 ≤ y) (y1:y ≤ 4194304) (n:Nat) (hn:n ≤ 100) (gp:Nat) (ev sv:Value) (w:World) (hs:s.In w) (hp:w.heap[gp]? = some (pnO s ev sv)) :
  Calls Tryz.prog 78 #[.pointer (some ⟨gp,0,none⟩),.int .i64 i,.int .i64 x,.int .i64 y,.int .i64 n] w fun e w' => ∃ v,e = .returned v ∧ w'.ownsRow w.heap.size 32 5 v n (pxs (pixL m x y n)) ∧ Bel w w':=by
 obtain ⟨j0,ji,jz0,jz1,jz2⟩:=info_parts info_px
 have hi:i < s.inn:=by rw [← hs.lims]; exact (List.getElem?_eq_some_iff.1 hmi).1
 have hin:=hs.inn
 obtain ⟨m0,m1,m2,m3⟩:=hsm
 have HM:=hd_ (hs.img m (List.mem_of_getElem? hmi))
 obtain ⟨g,off,eA,lg,hLD⟩:=hs.ims.imld hmi hi
 have eP:w.heap[gp]? = some (.cells #[.int .i64 s.bits,.int .i64 s.can.x,.int .i64 s.can.y,.int .i64 s.can.u,.int .i64 s.can.v,.int .i64 s.tw,.int .i64 s.th,.slice s.oA s.on s.oc,.slice (some ⟨g,off,none⟩) s.inn s.ic,.slice s.pA s.pn s.pc,.int .u16 s.mx,ev,sv] 112):=by
  rw [hp]
  unfold pnO
  rw [eA]
 have HP:=hd_ hp
 have P_7:=cq8 eP rfl
 have hld:=hLD _ (Bel.refl w)
 have lgp:=lt_of_heap eP
 have hmax:=max_ints
 have hneg:IntKind.i64.wrap (-x) = -x:=wrap_i64 _ (by omega) (by omega)
 clear hLD eA hs hmi hp eP
 go_enter Tryz.func78,Tryz.ntmps78
 go_upto_region 2 with (first | ((with_reducible show wpList _ _ _ (⟨some 21,_,_,_,_,_⟩ :: _) _ _); refine wpList_ld rfl rfl rfl (hld) ?_) | ((with_reducible show wpList _ _ _ (⟨none,.store _ _ _,_,_,_,_⟩ :: _) _ _); refine wpList_st (n:=0) (g:=w.heap.size) (cells:=m.cs) rfl rfl rfl rfl (at_new rfl) rfl (by kernel_rfl) (im_one m) ?_; intro Y eM hU; have hX:Bel w Y:=hU.bel ((Bel.refl w).al _) (Nat.le_refl _); clear hld P_7; have Ms:=lt_of_heap eM; have M_0:=cq0 eM rfl; have M_1:=cq1 eM rfl; have fM:=frozA eM) | fail)
 go_wp2_with (refine wpList_make_full _ rfl _ _ 60 rfl w.heap.size 32 j0 (.agg #[.int .u16 0,.int .u16 0,.int .u16 0,.int .u16 0,.int .u16 0]) 5 Tryz.underlying60 ji jz0 jz1 .i64 .i64 n n n rfl rfl rfl rfl (by rw [jz2]; omega) (by unfold maxLen; omega) hX.size' ?_)
 intro w2 hmade hgrown
 rw [madeN (k:=5) pxz #[.int .u16 0,.int .u16 0,.int .u16 0,.int .u16 0,.int .u16 0] (f:=Px.cs) (fun _ => rfl) rfl n] at hmade
 obtain ⟨gq,hgq⟩:∃ gq,gq = Y.heap.size:=⟨_,rfl⟩
 have hX2:Bel w w2:=hX.grown hgrown (by simp)
 have eM2:w2.heap[w.heap.size]? = some (oIm m):=(hgrown.block _ (lt_of_heap eM) (by simp)).trans eM
 have hgl:w.heap.size < Y.heap.size:=lt_of_heap eM
 have HMD:=hd_ hmade
 clear hmade hgrown Ms M_0 M_1 fM hX eM
 obtain ⟨B0,hB0⟩:∃ b,b = decide (y < 0):=⟨_,rfl⟩
 obtain ⟨B1,hB1⟩:∃ b,b = decide (m.h ≤ y):=⟨_,rfl⟩
 have hX:=hX2
 have eM:=eM2
 have Ms:=lt_of_heap eM
 have M_0:=cq0 eM rfl
 have M_1:=cq1 eM rfl
 have fM:=frozA eM
 by_cases hyo:y < 0 ∨ m.h ≤ y
 case pos =>
  have HYO:=hd_ (pixL_out (m:=m) (x:=x) (y:=y) (n:=n) hyo)
  clear hB0 hB1
  rcases hyo with h0 | h1
  ·have d0:decide (y < 0) = true:=decide_eq_true h0
   go_wp2_with fail
   go_returns
   exact ⟨_,rfl,by rw [HYO.out]; exact HMD.out,hX⟩
  ·by_cases h0:y < 0
   ·have d0:decide (y < 0) = true:=decide_eq_true h0
    go_wp2_with fail
    go_returns
    exact ⟨_,rfl,by rw [HYO.out]; exact HMD.out,hX⟩
   ·have d0:decide (y < 0) = false:=decide_eq_false h0
    have d1:decide (m.h ≤ y) = true:=decide_eq_true h1
    go_wp2_with fail
    go_returns
    exact ⟨_,rfl,by rw [HYO.out]; exact HMD.out,hX⟩
 case neg =>
  have d0:decide (y < 0) = false:=decide_eq_false (by omega)
  have d1:decide (m.h ≤ y) = false:=decide_eq_false (by omega)
  obtain ⟨k0,hk0⟩:∃ k0:Nat,max 0 (-x) = (k0:Int):=⟨(max 0 (-x)).toNat,by omega⟩
  have hk1:0 ≤ x + k0:=by omega
  have hk2:k0 = 0 ∨ x + k0 ≤ 0:=by omega
  rw [← pixA_start (m:=m) (y:=y) (n:=n) hk2] at HMD
  clear hB0 hB1 hyo hk2
  go_wp2_with fail
  go_loopg [13] (n - k0) (fun gk s13 wr => ∃ k:Nat,gk = n - k ∧ s13 = .int .i64 k ∧ 0 ≤ x + k ∧ k ≤ 4194304 + n ∧ Bel w wr ∧ wr.heap[w.heap.size]? = some (oIm m) ∧ wr.ownsRow w.heap.size 32 5 (.slice (some ⟨Y.heap.size,0,none⟩) n n) n (pxs (pixA m x y n k)))
  case atStart => exact ⟨k0,rfl,rfl,hk1,by omega,hX,eM,HMD.out⟩
  case round =>
   clear Ms M_0 M_1 fM hX2 eM2 hX eM hk1 hk0 HMD
   obtain ⟨k,hgk,rfl,hxk,hkb,hX,eM,hrow⟩:=hrel
   have Ms:=lt_of_heap eM
   have M_0:=cq0 eM rfl
   have M_1:=cq1 eM rfl
   have fM:=frozA eM
   have HROW:=hd_ hrow
   clear hrow
   by_cases hlt:k < n
   case neg =>
    have hd:decide ((k:Int) < (n:Int)) = false:=decide_eq_false (by omega)
    rw [pixA_done (.inl (by omega))] at HROW
    go_wp2_with fail
    go_returns
    exact ⟨_,rfl,HROW.out,hX⟩
   case pos =>
    have hd:decide ((k:Int) < (n:Int)) = true:=decide_eq_true (by omega)
    by_cases hw:x + k < m.w
    case neg =>
     have hd2:decide (x + (k:Int) < m.w) = false:=decide_eq_false hw
     rw [pixA_done (.inr (by omega))] at HROW
     go_wp2_with fail
     go_returns
     exact ⟨_,rfl,HROW.out,hX⟩
    case pos =>
     have hd2:decide (x + (k:Int) < m.w) = true:=decide_eq_true hw
     have limg:=img_ld eM
     have hA:=hd_ (fun (W:World) (hb:Bel w W) => at_call m (x + k) y W (HM.out.bel hb))
     generalize hAF:atF m (x + k) y = AF at *
     have HAF:=hd_ hAF
     clear hAF
     have HR2:=HROW
     go_wp2_with (first | ((with_reducible show wpList _ _ _ (⟨some 51,_,_,_,_,_⟩ :: _) _ _); refine wpList_ld rfl rfl rfl (limg) ?_) | (go_at_call 92; (with_reducible refine (hA.out _ hX).mono ?_); rintro e w1 ⟨rfl,hb⟩; replace hX:=hX.trans hb; replace eM:=hb.heap eM; replace HR2:=hd_ (own_ext HR2.out hb); clear Ms M_0 M_1 fM limg; have limg:=img_ld eM; have Ms:=lt_of_heap eM; have M_0:=cq0 eM rfl; have M_1:=cq1 eM rfl; have fM:=frozA eM; clear hb) | ((with_reducible show wpList _ _ _ (⟨none,.store _ _ _,_,_,_,_⟩ :: _) _ _); refine wpList_so (f:=Px.cs) (i:=k) AF (fun _ => rfl) rfl rfl rfl rfl HR2.out rfl hlt (by kernel_rfl) (px_one AF) ?_; intro W3 hown3 hU3; replace hX:=hU3.bel hX (by omega); replace eM:=hU3.heap eM (by omega); clear HR2 Ms M_0 M_1 fM limg) | fail)
     go_roundg (gk - 1)
     case measure => omega
     case rel => exact ⟨k + 1,by omega,by go_num,by omega,by omega,hX,eM,by rw [← pixA_set,HAF.out]; exact hown3⟩
set_option maxHeartbeats 8000000 in
theorem mask_none (s:Scr) (o:Opr) (hz:o.ms = 0) (x y:Int) (n:Nat) (gp:Nat) (w:World) :
  Calls Tryz.prog 89 #[.pointer (some ⟨gp,0,none⟩),o.v,.int .i64 x,.int .i64 y,.int .i64 n] w fun e w' => e = .returned (.slice none 0 0) ∧ Bel w w':=by
 have k1:(o.ms == 0) = true:=beq_iff_eq.2 hz
 clear hz
 go_enter Tryz.func89,Tryz.ntmps89
 go_upto_region 1 with fail
 refine at_world (fun V => Bel w V ∧ V.heap[w.heap.size]? = some (oOp o)) ⟨(Bel.refl w).al _,at_new (by first | rfl | simp)⟩ ?_
 rintro V ⟨hX,eO⟩
 have Os:=lt_of_heap eO
 have O_0:=cq0 eO rfl
 have O_1:=cq1 eO rfl
 have O_2:=cq2 eO rfl
 have O_3:=cq3 eO rfl
 have O_4:=cq4 eO rfl
 have O_5:=cq5 eO rfl
 have O_6:=cq6 eO rfl
 have fO:=frozA eO
 go_wp2_with fail
 go_returns
 exact ⟨rfl,hX⟩
theorem info_u16:(Tryz.prog.info? 27).map (fun i => (i.zero,i.size,i.bytes)) = some (some (.int .u16 0),1,2):=by kernel_rfl
set_option maxHeartbeats 8000000 in
theorem mask_some (s:Scr) (o:Opr) (i:Nat) (hoi:o.ms = i + 1) (m:Img) (hmi:s.ims[i]? = some m) (hsm:m.sm) (hnr:nearB [o.x,o.y,o.mx,o.my] = true) (x y:Int) (x0:-2097152 ≤ x) (x1:x ≤ 2097152) (y0:-2097152 ≤ y) (y1:y ≤ 2097152) (n:Nat) (hn:n ≤ 100) (gp:Nat) (ev sv:Value) (w:World) (hs:s.In w) (hp:w.heap[gp]? = some (pnO s ev sv)) :
  Calls Tryz.prog 89 #[.pointer (some ⟨gp,0,none⟩),o.v,.int .i64 x,.int .i64 y,.int .i64 n] w fun e w' => ∃ v,e = .returned v ∧ w'.ownsRow w.heap.size 27 1 v n (((pixL m (x - o.mx) (y - o.my) n).map Px.a).map (.int .u16)) ∧ Bel w w':=by
 obtain ⟨j0,ji,jz0,jz1,jz2⟩:=info_parts info_u16
 obtain ⟨a0,a1,b0,b1⟩:=near_mxy hnr
 have hin:=hs.inn
 have hii:i < s.inn:=by rw [← hs.lims]; exact (List.getElem?_eq_some_iff.1 hmi).1
 have hP:=hd_ (fun (W:World) (hb:Bel w W) => pixels_call s i m hmi hsm (x - o.mx) (y - o.my) (by omega) (by omega) (by omega) (by omega) n hn gp ev sv W (hs.bel hb) (hb.heap hp))
 have hlL:(pixL m (x - o.mx) (y - o.my) n).length = n:=by unfold pixL; simp
 generalize pixL m (x - o.mx) (y - o.my) n = L at *
 have HL:=hd_ hlL
 have k1:(o.ms == 0) = false:=beq_eq_false_iff_ne.2 (by omega)
 have hms:o.ms - 1 = (i:Int):=by omega
 have t6:IntKind.i64.wrap (o.ms - 1) = (i:Int):=(wrap_i64 _ (by omega) (by omega)).trans hms
 have c0:0 ≤ o.ms:=by omega
 have c1:o.ms ≤ 1001:=by omega
 clear hs hmi hp hnr hoi hlL
 go_enter Tryz.func89,Tryz.ntmps89
 go_upto_region 1 with fail
 refine at_world (fun V => Bel w V ∧ V.heap[w.heap.size]? = some (oOp o)) ⟨(Bel.refl w).al _,at_new (by first | rfl | simp)⟩ ?_
 rintro V ⟨hX,eO⟩
 have Os:=lt_of_heap eO
 have O_0:=cq0 eO rfl
 have O_1:=cq1 eO rfl
 have O_2:=cq2 eO rfl
 have O_3:=cq3 eO rfl
 have O_4:=cq4 eO rfl
 have O_5:=cq5 eO rfl
 have O_6:=cq6 eO rfl
 have fO:=frozA eO
 go_wp2_with (first | (go_at_call 78; (with_reducible refine (hP.out _ hX).mono ?_); rintro e w1 ⟨pv,rfl,hpv,hb⟩; obtain ⟨Ap,cp,rfl,hsl⟩:=own_sl hpv; replace hX:=hX.trans hb; replace eO:=hb.heap eO; clear Os O_0 O_1 O_2 O_3 O_4 O_5 O_6 fO; have Os:=lt_of_heap eO; have O_0:=cq0 eO rfl; have O_1:=cq1 eO rfl; have O_2:=cq2 eO rfl; have O_3:=cq3 eO rfl; have O_4:=cq4 eO rfl; have O_5:=cq5 eO rfl; have O_6:=cq6 eO rfl; have fO:=frozA eO; clear hb) | fail)
 obtain ⟨w1,rfl⟩:∃ W:World,W = w1:=⟨_,rfl⟩
 have HSL:=hd_ hsl
 have HX1:=hd_ hX
 clear hpv hsl Os O_0 O_1 O_2 O_3 O_4 O_5 O_6 fO hX eO k1 hms t6 c0 c1
 go_loopg [11,32] n (fun gk s11 s32 wr => ∃ j:Nat,j + gk = n ∧ s32 = .int .i64 j ∧ Bel w1 wr ∧ wr.ownsRow w1.heap.size 27 1 s11 j (((L.map Px.a).take j).map (.int .u16)))
 case atStart => exact ⟨0,by omega,rfl,Bel.refl w1,World.ownsRow_nil _ _ _ _⟩
 case round =>
  obtain ⟨j,hgk,rfl,hX,hown⟩:=hrel
  have HOWN:=hd_ hown
  have HX:=hd_ hX
  clear hown
  by_cases hlt:j < n
  case neg =>
   obtain rfl:j = n:=by omega
   go_wp2_with fail
   go_returns
   refine ⟨_,rfl,?_,HX1.out.trans hX⟩
   have h:=HOWN.out
   rw [List.take_of_length_le (by rw [List.length_map,HL.out]; omega)] at h
   exact own_base h HX1.out.size'
  case pos =>
   obtain ⟨p,hp⟩:∃ p,L[j]? = some p:=⟨L[j]'(by have:=HL.out; omega),List.getElem?_eq_getElem _⟩
   obtain ⟨g,off,rfl,d0,d1,d2,d3,d4⟩:=(HSL.out.bel hX).px hp hlt
   have HPJ:=hd_ hp
   have lg:g < wr.heap.size:=World.block_lt_of_cell? wr _ d0
   clear hp hX
   go_upto_region 7 with fail
   refine at_world (fun Y => Bel wr Y ∧ Y.heap[wr.heap.size]? = some (.cells #[.int .u16 p.x,.int .u16 p.y,.int .u16 p.z,.int .u16 p.a,.int .u16 p.f] 32)) ⟨(Bel.refl wr).al _,at_new (by first | rfl | simp)⟩ ?_
   clear d0 d1 d2 d3 d4
   rintro Y ⟨hY,eQ⟩
   have q3:=cq3 eQ rfl
   have lQ:=lt_of_heap eQ
   have HY:=hd_ hY
   clear hY eQ
   go_wp2_with (at_builtin; refine wpList_append_own _ rfl _ _ 41 rfl w1.heap.size 27 j0 (.int .u16 0) 1 2 Tryz.underlying41 ji jz0 jz1 jz2 rfl (by decide) _ _ _ rfl (own_ext HOWN.out (HY.out.al _)) ⟨Y.heap.size,0,none⟩ 1 1 [.int .u16 p.a] rfl rfl ?ca ?cb ?cc ?cd ?ce ?_)
   case ca => exact new_row Y [.int .u16 p.a] _
   case cb => intro u hu; simp at hu; subst hu; rfl
   case cc => unfold maxLen; omega
   case cd => omega
   case ce => have:=HX.out.size'; have:=HY.out.size'; simp; omega
   intro v' w3 hown' hgrow _
   have HN2:=hd_ hown'
   have HG:=hd_ (show Bel w1 w3 from (HX.out.trans HY.out).app (Nat.le_refl _) (own_ext HOWN.out HY.out) hgrow)
   clear hown' hgrow q3 lQ
   go_wp2_with fail
   go_roundg (gk - 1)
   case measure => omega
   case rel =>
    refine ⟨j + 1,by omega,by go_num,HG.out,?_⟩
    rw [take_snoc (show (L.map Px.a)[j]? = some p.a by rw [List.getElem?_map,HPJ.out]; rfl),List.map_append]
    simpa using HN2.out
end Go.Proofs.YtepfoelgegljbaaGreatDoor
