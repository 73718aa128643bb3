/- Part A24. -/
import Derived.Test.YtepfoelgegljbaaGreatDoorA22
import Derived.Test.YtepfoelgegljbaaGreatDoorA23
namespace Go.Proofs.YtepfoelgegljbaaGreatDoor
set_option maxRecDepth 100000
open Go.RowKit
set_option linter.unusedVariables false
theorem far_call (v:Int) (h0:-1099511627776 ≤ v) (h1:v ≤ 1099511627776) (w:World):Calls Tryz.prog 102 #[.int .i64 v] w fun e w' => e = .returned (.bool false) ∧ w = w':=by
 have d0:decide (v < -1099511627776) = false:=decide_eq_false (by omega)
 have d1:decide (1099511627776 < v) = false:=decide_eq_false (by omega)
 go_enter Tryz.func102,Tryz.ntmps102
 go_wp2_with fail
 go_returns
 exact ⟨rfl,rfl⟩
def Img.sm (m:Img):Prop:=0 ≤ m.w ∧ m.w ≤ 16777216 ∧ 0 ≤ m.h ∧ m.h ≤ 16777216
theorem imAt_of {l:List Img} {i:Nat} {m:Img} (h:l[i]? = some m):imAt l (i:Int) = m:=by
 unfold imAt
 rw [Int.toNat_natCast,h]; rfl
theorem tlVBnd1 {p:Prop} (h:p:=by
  repeat (with_reducible first | exact hX | refine Bel.setCell ?_ (by omega) _ | refine Bel.al ?_ _ | refine Bel.dr ?_ | refine Bel.mo ?_ _ | refine Bel.dn ?_ _)):p:=h
set_option maxHeartbeats 8000000 in
theorem placed_call (s:Scr) (i:Nat) (m:Img) (hmi:s.ims[i]? = some m) (hsm:m.sm) (x y:Int) (x0:-4194304 ≤ x) (x1:x ≤ 4194304) (y0:-4194304 ≤ y) (y1:y ≤ 4194304) (w:World) (hs:s.In w) :
  Calls Tryz.prog 97 #[s.v,.int .i64 i,.int .i64 x,.int .i64 y] w fun e w' => e = .returned (placedF s.can s.ims i x y).val ∧ Bel w w':=by
 have hi:i < s.inn:=by rw [← hs.lims]; exact (List.getElem?_eq_some_iff.1 hmi).1
 have hin:=hs.inn
 obtain ⟨m0,m1,m2,m3⟩:=hsm
 unfold placedF
 rw [imAt_of hmi]
 have hFx:=hd_ (fun w => calls_bs (far_call x (by omega) (by omega) w))
 have hFy:=hd_ (fun w => calls_bs (far_call y (by omega) (by omega) w))
 have hFw:=hd_ (fun w => calls_bs (far_call m.w (by omega) (by omega) w))
 have hFh:=hd_ (fun w => calls_bs (far_call m.h (by omega) (by omega) w))
 have hI:=hd_ (fun w => rinter_call ⟨x,y,x + m.w,y + m.h⟩ s.can w)
 obtain ⟨g,off,eA,lg,hLD⟩:=hs.ims.imld hmi hi
 generalize Rc.inter ⟨x,y,x + m.w,y + m.h⟩ s.can = R at *
 unfold Scr.v
 rw [eA]
 have d1:decide ((s.inn:Int) ≤ (i:Int)) = false:=decide_eq_false (by omega)
 have d0:decide ((i:Int) < 0) = false:=decide_eq_false (by omega)
 have t6:IntKind.i64.wrap (x + m.w) = x + m.w:=wrap_i64 _ (by omega) (by omega)
 have t7:IntKind.i64.wrap (y + m.h) = y + m.h:=wrap_i64 _ (by omega) (by omega)
 have HLD:=hd_ hLD
 clear hLD eA hs hmi
 go_enter Tryz.func97,Tryz.ntmps97
 go_upto_region 1 with fail
 refine at_world (fun V => Bel w V ∧ V.heap[w.heap.size]? = some (.cells #[.int .i64 s.bits,.int .i64 s.can.x,.int .i64 s.can.y,.int .i64 s.can.u,.int .i64 s.can.v,.int .i64 s.tw,.int .i64 s.th,.slice s.oA s.on s.oc,.slice (some ⟨g,off,none⟩) s.inn s.ic,.slice s.pA s.pn s.pc] 38) ∧ V.heap[w.heap.size + 1]? = some (.cells #[.int .i64 0,.int .i64 0,.int .i64 0,.int .i64 0] 34)) ⟨((Bel.refl w).al _).al _,at_old (at_new (by first | rfl | simp)),at_new (by first | rfl | simp)⟩ ?_
 rintro V ⟨hX,eS,eR⟩
 have Ss:=lt_of_heap eS
 have Rs:=lt_of_heap eR
 have S_0:=cq0 eS rfl
 have S_1:=cq1 eS rfl
 have S_2:=cq2 eS rfl
 have S_3:=cq3 eS rfl
 have S_4:=cq4 eS rfl
 have S_5:=cq5 eS rfl
 have S_6:=cq6 eS rfl
 have S_7:=cq7 eS rfl
 have S_8:=cq8 eS rfl
 have S_9:=cq9 eS rfl
 have R_0:=cq0 eR rfl
 have R_1:=cq1 eR rfl
 have R_2:=cq2 eR rfl
 have R_3:=cq3 eR rfl
 have fS:=frozA eS
 have fR:=frozA eR
 have hld:=HLD.out _ hX
 go_upto_region 4 with (first | ((with_reducible show wpList _ _ _ (⟨some 24,_,_,_,_,_⟩ :: _) _ _); refine wpList_ld rfl rfl rfl (hld) ?_) | ((with_reducible show wpList _ _ _ (⟨none,.store _ _ _,_,_,_,_⟩ :: _) _ _); refine wpList_st (n:=0) (g:=V.heap.size) (cells:=m.cs) rfl rfl rfl rfl (at_new rfl) rfl (by kernel_rfl) (im_one m) ?_; intro Y eM hU; have lS:=lt_of_heap eS; have lR:=lt_of_heap eR; replace hX:Bel w Y:=hU.bel (hX.al _) hX.size'; replace eS:Y.heap[w.heap.size]? = some _:=hU.heap (at_old eS) (by omega); replace eR:Y.heap[w.heap.size + 1]? = some _:=hU.heap (at_old eR) (by omega); clear Ss S_0 S_1 S_2 S_3 S_4 S_5 S_6 S_7 S_8 S_9 fS Rs R_0 R_1 R_2 R_3 fR hld lS lR; have Ss:=lt_of_heap eS; have Rs:=lt_of_heap eR; have Ms:=lt_of_heap eM; have S_0:=cq0 eS rfl; have S_1:=cq1 eS rfl; have S_2:=cq2 eS rfl; have S_3:=cq3 eS rfl; have S_4:=cq4 eS rfl; have S_5:=cq5 eS rfl; have S_6:=cq6 eS rfl; have S_7:=cq7 eS rfl; have S_8:=cq8 eS rfl; have S_9:=cq9 eS rfl; have R_0:=cq0 eR rfl; have R_1:=cq1 eR rfl; have R_2:=cq2 eR rfl; have R_3:=cq3 eR rfl; have M_0:=cq0 eM rfl; have M_1:=cq1 eM rfl; have fS:=frozA eS; have fR:=frozA eR; have fM:=frozA eM) | fail)
 go_wp2_with (first | ((first | (go_at_call 102; (with_reducible refine (hFx.out _).mono ?_)) | (go_at_call 102; (with_reducible refine (hFy.out _).mono ?_)) | (go_at_call 102; (with_reducible refine (hFw.out _).mono ?_)) | (go_at_call 102; (with_reducible refine (hFh.out _).mono ?_)) | (go_at_call 74; (with_reducible refine (hI.out _).mono ?_))); rintro e w1 ⟨rfl,hb⟩; replace hX:=hX.trans hb; replace eS:=hb.heap eS; replace eR:=hb.heap eR; replace eM:=hb.heap eM; clear Ss S_0 S_1 S_2 S_3 S_4 S_5 S_6 S_7 S_8 S_9 fS Rs R_0 R_1 R_2 R_3 fR Ms M_0 M_1 fM; have Ss:=lt_of_heap eS; have Rs:=lt_of_heap eR; have Ms:=lt_of_heap eM; have S_0:=cq0 eS rfl; have S_1:=cq1 eS rfl; have S_2:=cq2 eS rfl; have S_3:=cq3 eS rfl; have S_4:=cq4 eS rfl; have S_5:=cq5 eS rfl; have S_6:=cq6 eS rfl; have S_7:=cq7 eS rfl; have S_8:=cq8 eS rfl; have S_9:=cq9 eS rfl; have R_0:=cq0 eR rfl; have R_1:=cq1 eR rfl; have R_2:=cq2 eR rfl; have R_3:=cq3 eR rfl; have M_0:=cq0 eM rfl; have M_1:=cq1 eM rfl; have fS:=frozA eS; have fR:=frozA eR; have fM:=frozA eM; clear hb) | fail)
 refine bodyPost_ret (v:=.agg #[_,_,_,_]) (by simp [results,Tryz.results97,go_sem, *]) rfl ⟨rfl,?_⟩
 exact tlVBnd1
theorem near_xy {x y a b:Int} (h:nearB [x,y,a,b] = true):-1048576 ≤ x ∧ x ≤ 1048576 ∧ -1048576 ≤ y ∧ y ≤ 1048576:=by
 unfold nearB withinF at h
 simp at h
 omega
theorem near_mxy {x y a b:Int} (h:nearB [x,y,a,b] = true):-1048576 ≤ a ∧ a ≤ 1048576 ∧ -1048576 ≤ b ∧ b ≤ 1048576:=by
 unfold nearB withinF at h
 simp at h
 omega
set_option maxHeartbeats 8000000 in
theorem imageRect_call (s:Scr) (o:Opr) (hk:o.k = 1) (i:Nat) (hoi:o.im = i) (m:Img) (hmi:s.ims[i]? = some m) (hsm:m.sm) (hn:nearB [o.x,o.y,o.mx,o.my] = true) (w:World) (hs:s.In w) :
  Calls Tryz.prog 85 #[s.v,o.v] w fun e w' => e = .returned (placedF s.can s.ims o.im o.x o.y).val ∧ Bel w w':=by
 obtain ⟨x0,x1,y0,y1⟩:=near_xy hn
 have hP:=hd_ (fun W (hb:Bel w W) => placed_call s i m hmi hsm o.x o.y (by omega) (by omega) (by omega) (by omega) W (hs.bel hb))
 rw [← hoi] at hP
 generalize placedF s.can s.ims o.im o.x o.y = R at *
 have k1:(o.k == 1) = true:=beq_iff_eq.2 hk
 have k2:(o.k != 1) = false:=by rw [bne,k1]; rfl
 clear hk hoi hmi hs x0 x1 y0 y1
 go_enter Tryz.func85,Tryz.ntmps85
 go_upto_region 1 with fail
 refine at_world (fun V => Bel w V ∧ V.heap[w.heap.size]? = some (oSc s) ∧ V.heap[w.heap.size + 1]? = some (oOp o) ∧ V.heap[w.heap.size + 1 + 1]? = some (.cells #[.int .i64 0,.int .i64 0,.int .i64 0,.int .i64 0] 34)) ⟨(((Bel.refl w).al _).al _).al _,at_old (at_old (at_new (by first | rfl | simp))),at_old (at_new (by first | rfl | simp)),at_new (by first | rfl | simp)⟩ ?_
 rintro V ⟨hX,eS,eO,eR⟩
 have lscr:=scr_ld eS
 have Ss:=lt_of_heap eS
 have Os:=lt_of_heap eO
 have Rs:=lt_of_heap eR
 have S_0:=cq0 eS rfl
 have S_1:=cq1 eS rfl
 have S_2:=cq2 eS rfl
 have S_3:=cq3 eS rfl
 have S_4:=cq4 eS rfl
 have S_5:=cq5 eS rfl
 have S_6:=cq6 eS rfl
 have S_7:=cq7 eS rfl
 have S_8:=cq8 eS rfl
 have S_9:=cq9 eS rfl
 have O_0:=cq0 eO rfl
 have O_1:=cq1 eO rfl
 have O_2:=cq2 eO rfl
 have O_3:=cq3 eO rfl
 have O_4:=cq4 eO rfl
 have O_5:=cq5 eO rfl
 have O_6:=cq6 eO rfl
 have O_7:=cq7 eO rfl
 have O_8:=cq8 eO rfl
 have O_9:=cq9 eO rfl
 have O_10:=cq10 eO rfl
 have O_11:=cq11 eO rfl
 have R_0:=cq0 eR rfl
 have R_1:=cq1 eR rfl
 have R_2:=cq2 eR rfl
 have R_3:=cq3 eR rfl
 have fS:=frozA eS
 have fO:=frozA eO
 have fR:=frozA eR
 go_wp2_with (first | (go_at_call 97; (with_reducible refine (hP.out _ hX).mono ?_); rintro e w1 ⟨rfl,hb⟩; replace hX:=hX.trans hb; replace eS:=hb.heap eS; replace eO:=hb.heap eO; replace eR:=hb.heap eR; clear Ss S_0 S_1 S_2 S_3 S_4 S_5 S_6 S_7 S_8 S_9 fS Os O_0 O_1 O_2 O_3 O_4 O_5 O_6 O_7 O_8 O_9 O_10 O_11 fO Rs R_0 R_1 R_2 R_3 fR lscr; have lscr:=scr_ld eS; have Ss:=lt_of_heap eS; have Os:=lt_of_heap eO; have Rs:=lt_of_heap eR; have S_0:=cq0 eS rfl; have S_1:=cq1 eS rfl; have S_2:=cq2 eS rfl; have S_3:=cq3 eS rfl; have S_4:=cq4 eS rfl; have S_5:=cq5 eS rfl; have S_6:=cq6 eS rfl; have S_7:=cq7 eS rfl; have S_8:=cq8 eS rfl; have S_9:=cq9 eS rfl; have O_0:=cq0 eO rfl; have O_1:=cq1 eO rfl; have O_2:=cq2 eO rfl; have O_3:=cq3 eO rfl; have O_4:=cq4 eO rfl; have O_5:=cq5 eO rfl; have O_6:=cq6 eO rfl; have O_7:=cq7 eO rfl; have O_8:=cq8 eO rfl; have O_9:=cq9 eO rfl; have O_10:=cq10 eO rfl; have O_11:=cq11 eO rfl; have R_0:=cq0 eR rfl; have R_1:=cq1 eR rfl; have R_2:=cq2 eR rfl; have R_3:=cq3 eR rfl; have fS:=frozA eS; have fO:=frozA eO; have fR:=frozA eR; clear hb) | ((with_reducible show wpList _ _ _ (⟨some 9,_,_,_,_,_⟩ :: _) _ _); refine wpList_ld rfl rfl rfl (lscr) ?_) | fail)
 refine bodyPost_ret (v:=.agg #[_,_,_,_]) (by simp [results,Tryz.results85,go_sem, *]) rfl ⟨rfl,?_⟩
 exact tlVBnd1
theorem tlVBnd2 {p:Prop} (h:p:=by
  refine bodyPost_ret (v:=.agg #[_,_,_,_]) (by simp [results,Tryz.results96,go_sem, *]) rfl ⟨rfl,?_⟩
  exact tlVBnd1):p:=h
set_option maxHeartbeats 8000000 in
theorem maskRect_none (s:Scr) (o:Opr) (hz:o.ms = 0) (w:World):Calls Tryz.prog 96 #[s.v,o.v] w fun e w' => e = .returned (maskRc s.can s.ims o).val ∧ Bel w w':=by
 unfold maskRc
 rw [if_pos hz]
 have hI:=hd_ (fun w => rinter_call s.can s.can w)
 generalize s.can.inter s.can = R at *
 have k1:(o.ms == 0) = true:=beq_iff_eq.2 hz
 clear hz
 go_enter Tryz.func96,Tryz.ntmps96
 go_upto_region 1 with fail
 refine at_world (fun V => Bel w V ∧ V.heap[w.heap.size]? = some (oSc s) ∧ V.heap[w.heap.size + 1]? = some (oOp o) ∧ V.heap[w.heap.size + 1 + 1]? = some (.cells #[.int .i64 0,.int .i64 0,.int .i64 0,.int .i64 0] 34)) ⟨(((Bel.refl w).al _).al _).al _,at_old (at_old (at_new (by first | rfl | simp))),at_old (at_new (by first | rfl | simp)),at_new (by first | rfl | simp)⟩ ?_
 rintro V ⟨hX,eS,eO,eR⟩
 have lscr:=scr_ld eS
 have Ss:=lt_of_heap eS
 have Os:=lt_of_heap eO
 have Rs:=lt_of_heap eR
 have S_0:=cq0 eS rfl
 have S_1:=cq1 eS rfl
 have S_2:=cq2 eS rfl
 have S_3:=cq3 eS rfl
 have S_4:=cq4 eS rfl
 have S_5:=cq5 eS rfl
 have S_6:=cq6 eS rfl
 have S_7:=cq7 eS rfl
 have S_8:=cq8 eS rfl
 have S_9:=cq9 eS rfl
 have O_0:=cq0 eO rfl
 have O_1:=cq1 eO rfl
 have O_2:=cq2 eO rfl
 have O_3:=cq3 eO rfl
 have O_4:=cq4 eO rfl
 have O_5:=cq5 eO rfl
 have O_6:=cq6 eO rfl
 have O_7:=cq7 eO rfl
 have O_8:=cq8 eO rfl
 have O_9:=cq9 eO rfl
 have O_10:=cq10 eO rfl
 have O_11:=cq11 eO rfl
 have R_0:=cq0 eR rfl
 have R_1:=cq1 eR rfl
 have R_2:=cq2 eR rfl
 have R_3:=cq3 eR rfl
 have fS:=frozA eS
 have fO:=frozA eO
 have fR:=frozA eR
 go_wp2_with (first | (go_at_call 74; (with_reducible refine (hI.out _).mono ?_); rintro e w1 ⟨rfl,hb⟩; replace hX:=hX.trans hb; replace eS:=hb.heap eS; replace eO:=hb.heap eO; replace eR:=hb.heap eR; clear Ss S_0 S_1 S_2 S_3 S_4 S_5 S_6 S_7 S_8 S_9 fS Os O_0 O_1 O_2 O_3 O_4 O_5 O_6 O_7 O_8 O_9 O_10 O_11 fO Rs R_0 R_1 R_2 R_3 fR lscr; have lscr:=scr_ld eS; have Ss:=lt_of_heap eS; have Os:=lt_of_heap eO; have Rs:=lt_of_heap eR; have S_0:=cq0 eS rfl; have S_1:=cq1 eS rfl; have S_2:=cq2 eS rfl; have S_3:=cq3 eS rfl; have S_4:=cq4 eS rfl; have S_5:=cq5 eS rfl; have S_6:=cq6 eS rfl; have S_7:=cq7 eS rfl; have S_8:=cq8 eS rfl; have S_9:=cq9 eS rfl; have O_0:=cq0 eO rfl; have O_1:=cq1 eO rfl; have O_2:=cq2 eO rfl; have O_3:=cq3 eO rfl; have O_4:=cq4 eO rfl; have O_5:=cq5 eO rfl; have O_6:=cq6 eO rfl; have O_7:=cq7 eO rfl; have O_8:=cq8 eO rfl; have O_9:=cq9 eO rfl; have O_10:=cq10 eO rfl; have O_11:=cq11 eO rfl; have R_0:=cq0 eR rfl; have R_1:=cq1 eR rfl; have R_2:=cq2 eR rfl; have R_3:=cq3 eR rfl; have fS:=frozA eS; have fO:=frozA eO; have fR:=frozA eR; clear hb) | fail)
 exact tlVBnd2
set_option maxHeartbeats 8000000 in
theorem maskRect_some (s:Scr) (o:Opr) (i:Nat) (hoi:o.ms = i + 1) (m:Img) (hmi:s.ims[i]? = some m) (hsm:m.sm) (hn:nearB [o.x,o.y,o.mx,o.my] = true) (w:World) (hs:s.In w):Calls Tryz.prog 96 #[s.v,o.v] w fun e w' => e = .returned (maskRc s.can s.ims o).val ∧ Bel w w':=by
 unfold maskRc
 rw [if_neg (by omega),show o.ms - 1 = (i:Int) by omega]
 obtain ⟨x0,x1,y0,y1⟩:=near_mxy hn
 have hi:i < s.inn:=by rw [← hs.lims]; exact (List.getElem?_eq_some_iff.1 hmi).1
 have hin:=hs.inn
 have hP:=hd_ (fun W (hb:Bel w W) => placed_call s i m hmi hsm o.mx o.my (by omega) (by omega) (by omega) (by omega) W (hs.bel hb))
 generalize placedF s.can s.ims i o.mx o.my = R at *
 have k1:(o.ms == 0) = false:=beq_eq_false_iff_ne.2 (by omega)
 have k2:decide (o.ms < 0) = false:=decide_eq_false (by omega)
 have t6:IntKind.i64.wrap (o.ms - 1) = (i:Int):=(wrap_i64 _ (by omega) (by omega)).trans (by omega)
 have hms:o.ms - 1 = (i:Int):=by omega
 have h0:¬ o.ms < 0:=by omega
 have b1:0 ≤ o.ms:=by omega
 have b2:o.ms ≤ 1001:=by omega
 clear hmi hs x0 x1 y0 y1 hoi
 go_enter Tryz.func96,Tryz.ntmps96
 go_upto_region 1 with fail
 refine at_world (fun V => Bel w V ∧ V.heap[w.heap.size]? = some (oSc s) ∧ V.heap[w.heap.size + 1]? = some (oOp o) ∧ V.heap[w.heap.size + 1 + 1]? = some (.cells #[.int .i64 0,.int .i64 0,.int .i64 0,.int .i64 0] 34)) ⟨(((Bel.refl w).al _).al _).al _,at_old (at_old (at_new (by first | rfl | simp))),at_old (at_new (by first | rfl | simp)),at_new (by first | rfl | simp)⟩ ?_
 rintro V ⟨hX,eS,eO,eR⟩
 have lscr:=scr_ld eS
 have Ss:=lt_of_heap eS
 have Os:=lt_of_heap eO
 have Rs:=lt_of_heap eR
 have S_0:=cq0 eS rfl
 have S_1:=cq1 eS rfl
 have S_2:=cq2 eS rfl
 have S_3:=cq3 eS rfl
 have S_4:=cq4 eS rfl
 have S_5:=cq5 eS rfl
 have S_6:=cq6 eS rfl
 have S_7:=cq7 eS rfl
 have S_8:=cq8 eS rfl
 have S_9:=cq9 eS rfl
 have O_0:=cq0 eO rfl
 have O_1:=cq1 eO rfl
 have O_2:=cq2 eO rfl
 have O_3:=cq3 eO rfl
 have O_4:=cq4 eO rfl
 have O_5:=cq5 eO rfl
 have O_6:=cq6 eO rfl
 have O_7:=cq7 eO rfl
 have O_8:=cq8 eO rfl
 have O_9:=cq9 eO rfl
 have O_10:=cq10 eO rfl
 have O_11:=cq11 eO rfl
 have R_0:=cq0 eR rfl
 have R_1:=cq1 eR rfl
 have R_2:=cq2 eR rfl
 have R_3:=cq3 eR rfl
 have fS:=frozA eS
 have fO:=frozA eO
 have fR:=frozA eR
 go_wp2_with (first | (go_at_call 97; (with_reducible refine (hP.out _ hX).mono ?_); rintro e w1 ⟨rfl,hb⟩; replace hX:=hX.trans hb; replace eS:=hb.heap eS; replace eO:=hb.heap eO; replace eR:=hb.heap eR; clear Ss S_0 S_1 S_2 S_3 S_4 S_5 S_6 S_7 S_8 S_9 fS Os O_0 O_1 O_2 O_3 O_4 O_5 O_6 O_7 O_8 O_9 O_10 O_11 fO Rs R_0 R_1 R_2 R_3 fR lscr; have lscr:=scr_ld eS; have Ss:=lt_of_heap eS; have Os:=lt_of_heap eO; have Rs:=lt_of_heap eR; have S_0:=cq0 eS rfl; have S_1:=cq1 eS rfl; have S_2:=cq2 eS rfl; have S_3:=cq3 eS rfl; have S_4:=cq4 eS rfl; have S_5:=cq5 eS rfl; have S_6:=cq6 eS rfl; have S_7:=cq7 eS rfl; have S_8:=cq8 eS rfl; have S_9:=cq9 eS rfl; have O_0:=cq0 eO rfl; have O_1:=cq1 eO rfl; have O_2:=cq2 eO rfl; have O_3:=cq3 eO rfl; have O_4:=cq4 eO rfl; have O_5:=cq5 eO rfl; have O_6:=cq6 eO rfl; have O_7:=cq7 eO rfl; have O_8:=cq8 eO rfl; have O_9:=cq9 eO rfl; have O_10:=cq10 eO rfl; have O_11:=cq11 eO rfl; have R_0:=cq0 eR rfl; have R_1:=cq1 eR rfl; have R_2:=cq2 eR rfl; have R_3:=cq3 eR rfl; have fS:=frozA eS; have fO:=frozA eO; have fR:=frozA eR; clear hb) | ((with_reducible show wpList _ _ _ (⟨some 17,_,_,_,_,_⟩ :: _) _ _); refine wpList_ld rfl rfl rfl (lscr) ?_) | fail)
 exact tlVBnd2
theorem maskRect_call (s:Scr) (o:Opr) (hms:0 ≤ o.ms ∧ o.ms ≤ s.inn) (hsm:∀ m ∈ s.ims,m.sm) (hn:nearB [o.x,o.y,o.mx,o.my] = true) (w:World) (hs:s.In w):Calls Tryz.prog 96 #[s.v,o.v] w fun e w' => e = .returned (maskRc s.can s.ims o).val ∧ Bel w w':=by
 by_cases hz:o.ms = 0
 ·exact maskRect_none s o hz w
 ·obtain ⟨i,hi⟩:∃ i:Nat,o.ms = i + 1:=⟨(o.ms - 1).toNat,by omega⟩
  have hl:=hs.lims
  have hmi:s.ims[i]? = some (s.ims[i]'(by omega)):=List.getElem?_eq_getElem _
  exact maskRect_some s o i hi _ hmi (hsm _ (List.getElem_mem _)) hn w hs
theorem tlVBnd0 {p:Prop} (h:p:=by
  go_enter Tryz.func84,Tryz.ntmps84
  go_upto_region 1 with fail
  refine at_world (fun V => Bel w V ∧ V.heap[w.heap.size]? = some (oSc s) ∧ V.heap[w.heap.size + 1]? = some (oOp o) ∧ V.heap[w.heap.size + 1 + 1]? = some (.cells #[.int .i64 b.x,.int .i64 b.y,.int .i64 b.u,.int .i64 b.v] 34) ∧ V.heap[w.heap.size + 1 + 1 + 1]? = some (.cells #[.int .i64 0,.int .i64 0,.int .i64 0,.int .i64 0] 34)) ⟨((((Bel.refl w).al _).al _).al _).al _,at_old (at_old (at_old (at_new (by first | rfl | simp)))),at_old (at_old (at_new (by first | rfl | simp))),at_old (at_new (by first | rfl | simp)),at_new (by first | rfl | simp)⟩ ?_
  rintro V ⟨hX,eS,eO,eB,eR⟩
  have lscr:=scr_ld eS
  have lopr:=opr_ld eO
  have Ss:=lt_of_heap eS
  have Os:=lt_of_heap eO
  have Bs:=lt_of_heap eB
  have Rs:=lt_of_heap eR
  have S_0:=cq0 eS rfl
  have S_1:=cq1 eS rfl
  have S_2:=cq2 eS rfl
  have S_3:=cq3 eS rfl
  have S_4:=cq4 eS rfl
  have S_5:=cq5 eS rfl
  have S_6:=cq6 eS rfl
  have S_7:=cq7 eS rfl
  have S_8:=cq8 eS rfl
  have S_9:=cq9 eS rfl
  have O_0:=cq0 eO rfl
  have O_1:=cq1 eO rfl
  have O_2:=cq2 eO rfl
  have O_3:=cq3 eO rfl
  have O_4:=cq4 eO rfl
  have O_5:=cq5 eO rfl
  have O_6:=cq6 eO rfl
  have O_7:=cq7 eO rfl
  have O_8:=cq8 eO rfl
  have O_9:=cq9 eO rfl
  have O_10:=cq10 eO rfl
  have O_11:=cq11 eO rfl
  have B_0:=cq0 eB rfl
  have B_1:=cq1 eB rfl
  have B_2:=cq2 eB rfl
  have B_3:=cq3 eB rfl
  have R_0:=cq0 eR rfl
  have R_1:=cq1 eR rfl
  have R_2:=cq2 eR rfl
  have R_3:=cq3 eR rfl
  have fS:=frozA eS
  have fO:=frozA eO
  have fB:=frozA eB
  have fR:=frozA eR
  go_wp2_with (first | (go_at_call 95; (with_reducible refine (hNe.out _ hX).mono ?_); rintro e w1 ⟨rfl,hb⟩; replace hX:=hX.trans hb; replace eS:=hb.heap eS; replace eO:=hb.heap eO; replace eB:=hb.heap eB; replace eR:=hb.heap eR; clear Ss S_0 S_1 S_2 S_3 S_4 S_5 S_6 S_7 S_8 S_9 fS Os O_0 O_1 O_2 O_3 O_4 O_5 O_6 O_7 O_8 O_9 O_10 O_11 fO Bs B_0 B_1 B_2 B_3 fB Rs R_0 R_1 R_2 R_3 fR lscr lopr; have lscr:=scr_ld eS; have lopr:=opr_ld eO; have Ss:=lt_of_heap eS; have Os:=lt_of_heap eO; have Bs:=lt_of_heap eB; have Rs:=lt_of_heap eR; have S_0:=cq0 eS rfl; have S_1:=cq1 eS rfl; have S_2:=cq2 eS rfl; have S_3:=cq3 eS rfl; have S_4:=cq4 eS rfl; have S_5:=cq5 eS rfl; have S_6:=cq6 eS rfl; have S_7:=cq7 eS rfl; have S_8:=cq8 eS rfl; have S_9:=cq9 eS rfl; have O_0:=cq0 eO rfl; have O_1:=cq1 eO rfl; have O_2:=cq2 eO rfl; have O_3:=cq3 eO rfl; have O_4:=cq4 eO rfl; have O_5:=cq5 eO rfl; have O_6:=cq6 eO rfl; have O_7:=cq7 eO rfl; have O_8:=cq8 eO rfl; have O_9:=cq9 eO rfl; have O_10:=cq10 eO rfl; have O_11:=cq11 eO rfl; have B_0:=cq0 eB rfl; have B_1:=cq1 eB rfl; have B_2:=cq2 eB rfl; have B_3:=cq3 eB rfl; have R_0:=cq0 eR rfl; have R_1:=cq1 eR rfl; have R_2:=cq2 eR rfl; have R_3:=cq3 eR rfl; have fS:=frozA eS; have fO:=frozA eO; have fB:=frozA eB; have fR:=frozA eR; clear hb) | fail)
  refine bodyPost_ret (v:=.agg #[_,_,_,_]) (by simp [results,Tryz.results84,go_sem, *]) rfl ⟨rfl,?_⟩
  repeat (with_reducible first | exact hX | refine Bel.setCell ?_ (by omega) _ | refine Bel.al ?_ _ | refine Bel.dr ?_ | refine Bel.mo ?_ _ | refine Bel.dn ?_ _)):p:=h
set_option maxHeartbeats 8000000 in
theorem box_all (s:Scr) (o:Opr) (b:Rc) (w:World) (hR:Ruled w) (h:neuB o.op = false):Calls Tryz.prog 84 #[s.v,o.v,b.val] w fun e w' => e = .returned (s.can).val ∧ Bel w w':=by
 have hNe:=hd_ (fun W (hb:Bel w W) => calls_bel (neutral_call o.op W (ruled_bel hR hb)))
 rw [h] at hNe
 clear h
 exact tlVBnd0
set_option maxHeartbeats 8000000 in
theorem box_zero (s:Scr) (o:Opr) (b:Rc) (w:World) (hR:Ruled w) (h:neuB o.op = true) (hz:o.oc = 0):Calls Tryz.prog 84 #[s.v,o.v,b.val] w fun e w' => e = .returned (zRc).val ∧ Bel w w':=by
 have hNe:=hd_ (fun W (hb:Bel w W) => calls_bel (neutral_call o.op W (ruled_bel hR hb)))
 rw [h] at hNe
 have k1:(o.oc == 0) = true:=beq_iff_eq.2 hz
 unfold zRc
 clear h hz
 exact tlVBnd0
set_option maxHeartbeats 8000000 in
theorem box_in (s:Scr) (o:Opr) (b:Rc) (w:World) (hR:Ruled w) (h:neuB o.op = true) (hz:o.oc ≠ 0) (hms:0 ≤ o.ms ∧ o.ms ≤ s.inn) (hsm:∀ m ∈ s.ims,m.sm) (hn:nearB [o.x,o.y,o.mx,o.my] = true) (hs:s.In w):Calls Tryz.prog 84 #[s.v,o.v,b.val] w fun e w' => e = .returned (b.inter (maskRc s.can s.ims o)).val ∧ Bel w w':=by
 have hNe:=hd_ (fun W (hb:Bel w W) => calls_bel (neutral_call o.op W (ruled_bel hR hb)))
 rw [h] at hNe
 have k1:(o.oc == 0) = false:=beq_eq_false_iff_ne.2 hz
 have hM:=hd_ (fun W (hb:Bel w W) => maskRect_call s o hms hsm hn W (hs.bel hb))
 generalize maskRc s.can s.ims o = MR at *
 have hI:=hd_ (fun w => rinter_call b MR w)
 generalize b.inter MR = RR at *
 clear h hz hms hsm hn hs
 go_enter Tryz.func84,Tryz.ntmps84
 go_upto_region 1 with fail
 refine at_world (fun V => Bel w V ∧ V.heap[w.heap.size]? = some (oSc s) ∧ V.heap[w.heap.size + 1]? = some (oOp o) ∧ V.heap[w.heap.size + 1 + 1]? = some (.cells #[.int .i64 b.x,.int .i64 b.y,.int .i64 b.u,.int .i64 b.v] 34) ∧ V.heap[w.heap.size + 1 + 1 + 1]? = some (.cells #[.int .i64 0,.int .i64 0,.int .i64 0,.int .i64 0] 34)) ⟨((((Bel.refl w).al _).al _).al _).al _,at_old (at_old (at_old (at_new (by first | rfl | simp)))),at_old (at_old (at_new (by first | rfl | simp))),at_old (at_new (by first | rfl | simp)),at_new (by first | rfl | simp)⟩ ?_
 rintro V ⟨hX,eS,eO,eB,eR⟩
 have lscr:=scr_ld eS
 have lopr:=opr_ld eO
 have Ss:=lt_of_heap eS
 have Os:=lt_of_heap eO
 have Bs:=lt_of_heap eB
 have Rs:=lt_of_heap eR
 have S_0:=cq0 eS rfl
 have S_1:=cq1 eS rfl
 have S_2:=cq2 eS rfl
 have S_3:=cq3 eS rfl
 have S_4:=cq4 eS rfl
 have S_5:=cq5 eS rfl
 have S_6:=cq6 eS rfl
 have S_7:=cq7 eS rfl
 have S_8:=cq8 eS rfl
 have S_9:=cq9 eS rfl
 have O_0:=cq0 eO rfl
 have O_1:=cq1 eO rfl
 have O_2:=cq2 eO rfl
 have O_3:=cq3 eO rfl
 have O_4:=cq4 eO rfl
 have O_5:=cq5 eO rfl
 have O_6:=cq6 eO rfl
 have O_7:=cq7 eO rfl
 have O_8:=cq8 eO rfl
 have O_9:=cq9 eO rfl
 have O_10:=cq10 eO rfl
 have O_11:=cq11 eO rfl
 have B_0:=cq0 eB rfl
 have B_1:=cq1 eB rfl
 have B_2:=cq2 eB rfl
 have B_3:=cq3 eB rfl
 have R_0:=cq0 eR rfl
 have R_1:=cq1 eR rfl
 have R_2:=cq2 eR rfl
 have R_3:=cq3 eR rfl
 have fS:=frozA eS
 have fO:=frozA eO
 have fB:=frozA eB
 have fR:=frozA eR
 go_upto_region 5 with (first | (go_at_call 95; (with_reducible refine (hNe.out _ hX).mono ?_); rintro e w1 ⟨rfl,hb⟩; replace hX:=hX.trans hb; replace eS:=hb.heap eS; replace eO:=hb.heap eO; replace eB:=hb.heap eB; replace eR:=hb.heap eR; clear Ss S_0 S_1 S_2 S_3 S_4 S_5 S_6 S_7 S_8 S_9 fS Os O_0 O_1 O_2 O_3 O_4 O_5 O_6 O_7 O_8 O_9 O_10 O_11 fO Bs B_0 B_1 B_2 B_3 fB Rs R_0 R_1 R_2 R_3 fR lscr lopr; have lscr:=scr_ld eS; have lopr:=opr_ld eO; have Ss:=lt_of_heap eS; have Os:=lt_of_heap eO; have Bs:=lt_of_heap eB; have Rs:=lt_of_heap eR; have S_0:=cq0 eS rfl; have S_1:=cq1 eS rfl; have S_2:=cq2 eS rfl; have S_3:=cq3 eS rfl; have S_4:=cq4 eS rfl; have S_5:=cq5 eS rfl; have S_6:=cq6 eS rfl; have S_7:=cq7 eS rfl; have S_8:=cq8 eS rfl; have S_9:=cq9 eS rfl; have O_0:=cq0 eO rfl; have O_1:=cq1 eO rfl; have O_2:=cq2 eO rfl; have O_3:=cq3 eO rfl; have O_4:=cq4 eO rfl; have O_5:=cq5 eO rfl; have O_6:=cq6 eO rfl; have O_7:=cq7 eO rfl; have O_8:=cq8 eO rfl; have O_9:=cq9 eO rfl; have O_10:=cq10 eO rfl; have O_11:=cq11 eO rfl; have B_0:=cq0 eB rfl; have B_1:=cq1 eB rfl; have B_2:=cq2 eB rfl; have B_3:=cq3 eB rfl; have R_0:=cq0 eR rfl; have R_1:=cq1 eR rfl; have R_2:=cq2 eR rfl; have R_3:=cq3 eR rfl; have fS:=frozA eS; have fO:=frozA eO; have fB:=frozA eB; have fR:=frozA eR; clear hb) | fail)
 obtain ⟨w1,rfl⟩:∃ W:World,W = w1:=⟨_,rfl⟩
 have HX:=hd_ hX
 refine region_btail 5 (by kernel_rfl) (by kernel_rfl) ?_
 have qs:=fun q:Bw w1 => scr_ld (q.h.heap eS)
 have qo:=fun q:Bw w1 => opr_ld (q.h.heap eO)
 have qb:=fun q:Bw w1 => rcs_ld (q.h.heap eB)
 have hMq:=hd_ (fun q:Bw w1 => calls_bq (q:=q) (hM.out q.W (HX.out.trans q.h)))
 have hIq:=hd_ (fun q:Bw w1 => calls_bq (q:=q) (hI.out q.W))
 simp only [List.take_succ_cons,List.take_zero]
 refine wpQuiet_ld (op:=⟨some 19,_,_,_,_,_⟩) rfl rfl rfl (fun w2 hw => by obtain ⟨q,rfl⟩:=hw; exact qb q) ?_
 refine wpQuiet_ld (op:=⟨some 20,_,_,_,_,_⟩) rfl rfl rfl (fun w2 hw => by obtain ⟨q,rfl⟩:=hw; exact qs q) ?_
 refine wpQuiet_ld (op:=⟨some 21,_,_,_,_,_⟩) rfl rfl rfl (fun w2 hw => by obtain ⟨q,rfl⟩:=hw; exact qo q) ?_
 simp only [Act.put,lA_,lS_,l0_]
 repeat (go_big_quiet_step (first | (go_at_call 96; exact hMq.out _) | (go_at_call 74; exact hIq.out _)))
 refine wpQuiet_nil ?_
 rintro w2 ⟨q,rfl⟩
 simp only [List.drop_succ_cons,List.drop_zero]
 replace eR:=q.h.heap eR
 have hX:=HX.out.trans q.h
 have zR:=hX.size'
 have r0:=cq0 eR rfl
 have r1:=cq1 eR rfl
 have r2:=cq2 eR rfl
 have r3:=cq3 eR rfl
 have rf:=frozA eR
 go_wp2_with fail
 refine bodyPost_ret (v:=.agg #[_,_,_,_]) (by simp [results,Tryz.results84,go_sem, *]) rfl ⟨rfl,?_⟩
 exact tlVBnd1
theorem box_call (s:Scr) (o:Opr) (b:Rc) (w:World) (hR:Ruled w) (hms:0 ≤ o.ms ∧ o.ms ≤ s.inn) (hsm:∀ m ∈ s.ims,m.sm) (hn:nearB [o.x,o.y,o.mx,o.my] = true) (hs:s.In w):Calls Tryz.prog 84 #[s.v,o.v,b.val] w fun e w' => e = .returned (boxF s.can s.ims o b).val ∧ Bel w w':=by
 unfold boxF
 cases h:neuB o.op
 ·rw [if_pos rfl]
  exact box_all s o b w hR h
 ·rw [if_neg (by decide)]
  by_cases hz:o.oc = 0
  ·rw [if_pos hz]
   exact box_zero s o b w hR h hz
  ·rw [if_neg hz]
   exact box_in s o b w hR h hz hms hsm hn hs
end Go.Proofs.YtepfoelgegljbaaGreatDoor
