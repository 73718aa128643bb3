/- Part A21. -/
import Derived.Test.YtepfoelgegljbaaGreatDoorA20
namespace Go.Proofs.YtepfoelgegljbaaGreatDoor
set_option maxRecDepth 100000
open Go.RowKit
set_option linter.unusedVariables false
theorem sm_emp {s:Scr} (h:s.Sm):s.can.emp = false:=by
 obtain ⟨w0,w1,h0,h1,x0,x1,y0,y1,_⟩:=h
 exact (emp_iff _).2 ⟨(good_iff _).2 ⟨⟨by omega,by omega⟩,⟨by omega,by omega⟩,⟨by omega,by omega⟩,⟨by omega,by omega⟩⟩,w0,h0⟩
theorem sm_cnt {s:Scr} (h:s.Sm):cntOk s.can s.tw s.th = true:=cntOk_iff.2 ⟨sm_emp h,h.t0,h.t1,h.t2,h.t3⟩
theorem mul_le25 {a b:Int} (a0:0 ≤ a) (a1:a ≤ 5) (b0:0 ≤ b) (b1:b ≤ 5):0 ≤ a * b ∧ a * b ≤ 25 :=
 ⟨Int.mul_nonneg a0 b0,Int.mul_le_mul a1 b1 b0 (by decide)⟩
theorem sm_nt {s:Scr} (h:s.Sm):((s.nt:Nat):Int) = cntX s.can s.tw s.th * cntY s.can s.tw s.th ∧ 0 < s.nt ∧ s.nt ≤ 25:=by
 obtain ⟨a0,a1,b0,b1⟩:=cnt_bd (sm_cnt h)
 have hw:=h.w1
 have hh:=h.h1
 have hm:=mul_le25 (a:=cntX s.can s.tw s.th) (b:=cntY s.can s.tw s.th) (by omega) (by omega) (by omega) (by omega)
 have hp:1 * 1 ≤ cntX s.can s.tw s.th * cntY s.can s.tw s.th:=Int.mul_le_mul a0 b0 (by decide) (by omega)
 unfold Scr.nt
 omega
theorem sm_area {s:Scr} (h:s.Sm):s.can.area ≤ 16777216:=by
 unfold Rc.area Rc.clean
 rw [sm_emp h,if_neg (by decide)]
 have:=mul_le25 (a:=s.can.u - s.can.x) (b:=s.can.v - s.can.y) (by have:=h.w0; omega) (by have:=h.w1; omega) (by have:=h.h0; omega) (by have:=h.h1; omega)
 omega
theorem sm_near {s:Scr} (h:s.Sm):nearB [s.can.x,s.can.y] = true:=by
 obtain ⟨w0,w1,h0,h1,x0,x1,y0,y1,_⟩:=h
 unfold nearB withinF
 simp
 omega
theorem sl2 {W:World} {g:Nat} {a b:Int} {t:TypeId} (e:W.heap[g]? = some (.cells #[.int .i64 a,.int .i64 b] t)):Sl W 1 2 (some ⟨g,0,none⟩) (ints64 [a,b]) :=
 ⟨rfl,fun _ => ⟨_,0,rfl,fun j u hj => by rw [Nat.zero_add]; exact cell_of e (by simpa [ints64] using hj)⟩⟩
set_option maxHeartbeats 4000000 in
theorem frame_bits (s:Scr) (hm:s.Sm) (w:World) (hs:s.In w) (hb:maxB s.bits = false):Calls Tryz.prog 28 #[s.v] w fun e w' => e = .returned (.int .i64 1) ∧ Bel w w':=by
 have hMx:=hd_ (fun w => calls_bs (smax_call s.bits w))
 rw [hb] at hMx
 generalize maxI s.bits = MX at *
 clear hb
 clear hm hs
 go_enter Tryz.func28,Tryz.ntmps28
 go_upto_region 1 with fail
 refine at_world (fun V => Bel w V ∧ V.heap[w.heap.size]? = some (oSc s)) ⟨(Bel.refl w).al _,at_new (by first | rfl | simp)⟩ ?_
 rintro V ⟨hX,eS⟩
 have Ss:=lt_of_heap eS
 have S_0:=cq0 eS rfl
 have fS:=frozA eS
 go_wp2_with (first | (go_at_call 29; (with_reducible refine (hMx.out _).mono ?_); rintro e w1 ⟨rfl,hb⟩; replace hX:=hX.trans hb; replace eS:=hb.heap eS; clear Ss S_0 fS; have Ss:=lt_of_heap eS; have S_0:=cq0 eS rfl; have fS:=frozA eS; clear hb) | fail)
 go_returns
 exact ⟨rfl,hX⟩
set_option maxHeartbeats 4000000 in
theorem frame_ok (s:Scr) (hm:s.Sm) (w:World) (hs:s.In w) (hb:maxB s.bits = true) (ho:orderOk s.ord s.nt):Calls Tryz.prog 28 #[s.v] w fun e w' => e = .returned (.int .i64 0) ∧ Bel w w':=by
 have hMx:=hd_ (fun w => calls_bs (smax_call s.bits w))
 rw [hb] at hMx
 have hE:=hd_ (calls_b (rempty_call s.can))
 have hA:=hd_ (rarea_call s.can)
 have hN:=hd_ (fun (W:World) (g c:Nat) (hh:Sl W 1 2 (some ⟨g,0,none⟩) _) => calls_bs (near_call [s.can.x,s.can.y] 2 (by decide) rfl _ c W hh))
 have hC:=hd_ (fun w => count_call s.can s.tw s.th w)
 obtain ⟨q1,q2,q3⟩:=sm_nt hm
 have HS:=hd_ hs
 have hO:=hd_ (fun (W:World) (hh:Sl W 1 s.on s.oA (ints64 s.ord)) => (order_call s.ord s.on s.nt q2 (by omega) hs.on hs.lord s.oA s.oc W hh).mono fun e w2 h => (⟨h.1 ho,h.2.2⟩:(∃ v,e = .returned (.tuple #[v,.bool true]) ∧ _) ∧ Bel W w2))
 rw [sm_emp hm] at hE
 rw [sm_near hm] at hN
 rw [sm_cnt hm] at hC
 have hq:IntKind.i64.wrap (cntX s.can s.tw s.th * cntY s.can s.tw s.th) = ((s.nt:Nat):Int):=by rw [← q1]; exact wrap_i64 _ (by omega) (by omega)
 have har:decide (16777216 < s.can.area) = false:=decide_eq_false (by have:=sm_area hm; omega)
 have hi0:decide ((64:Int) < s.inn) = false:=decide_eq_false (by have:=hm.i0; omega)
 have hp0:decide ((4096:Int) < s.pn) = false:=decide_eq_false (by have:=hm.p0; omega)
 generalize s.can.area = AR at *
 generalize cntX s.can s.tw s.th = NX at *
 generalize cntY s.can s.tw s.th = NY at *
 generalize s.nt = NT at *
 clear ho hb
 have hpn:=hs.pn
 have hin:=hs.inn
 clear hm hs q1
 go_enter Tryz.func28,Tryz.ntmps28
 go_upto_region 1 with fail
 refine at_world (fun V => Bel w V ∧ V.heap[w.heap.size]? = some (oSc s)) ⟨(Bel.refl w).al _,at_new (by first | rfl | simp)⟩ ?_
 rintro V ⟨hX,eS⟩
 have Ss:=lt_of_heap eS
 have S_0:=cq0 eS rfl
 have fS:=frozA eS
 go_upto_region 4 with (first | (go_at_call 29; (with_reducible refine (hMx.out _).mono ?_); rintro e w1 ⟨rfl,hb⟩; replace hX:=hX.trans hb; replace eS:=hb.heap eS; clear Ss S_0 fS; have Ss:=lt_of_heap eS; have S_0:=cq0 eS rfl; have fS:=frozA eS; clear hb) | fail)
 clear S_0 Ss fS
 have Ss:=lt_of_heap eS
 have S_0:=cq0 eS rfl
 have S_1:=cq1 eS rfl
 have S_2:=cq2 eS rfl
 have S_3:=cq3 eS rfl
 have S_4:=cq4 eS rfl
 have S_5:=cq5 eS rfl
 have S_6:=cq6 eS rfl
 have S_7:=cq7 eS rfl
 have S_8:=cq8 eS rfl
 have S_9:=cq9 eS rfl
 have fS:=frozA eS
 go_upto_region 5 with fail
 refine at_world (fun Y => Bel w Y ∧ Y.heap[w.heap.size]? = some (oSc s) ∧ Y.heap[w1.heap.size]? = some (.cells #[.int .i64 s.can.x,.int .i64 s.can.y,.int .i64 s.can.u,.int .i64 s.can.v] 34)) ⟨hX.al _,at_old eS,at_new (by first | rfl | simp)⟩ ?_
 clear hX eS Ss S_0 S_1 S_2 S_3 S_4 S_5 S_6 S_7 S_8 S_9 fS
 rintro Y ⟨hX,eS,eC⟩
 have Ss:=lt_of_heap eS
 have Cs:=lt_of_heap eC
 have S_0:=cq0 eS rfl
 have S_1:=cq1 eS rfl
 have S_2:=cq2 eS rfl
 have S_3:=cq3 eS rfl
 have S_4:=cq4 eS rfl
 have S_5:=cq5 eS rfl
 have S_6:=cq6 eS rfl
 have S_7:=cq7 eS rfl
 have S_8:=cq8 eS rfl
 have S_9:=cq9 eS rfl
 have C_0:=cq0 eC rfl
 have C_1:=cq1 eC rfl
 have C_2:=cq2 eC rfl
 have C_3:=cq3 eC rfl
 have fS:=frozA eS
 have fC:=frozA eC
 go_wp2_with (first | ((first | (go_at_call 48; (with_reducible refine (hE.out _).mono ?_)) | (go_at_call 49; (with_reducible refine (hA.out _).mono ?_)) | (go_at_call 51; (with_reducible refine (hC.out _).mono ?_))); rintro e w1 ⟨rfl,hb⟩; replace hX:=hX.trans hb; replace eS:=hb.heap eS; replace eC:=hb.heap eC; clear Ss S_0 S_1 S_2 S_3 S_4 S_5 S_6 S_7 S_8 S_9 fS Cs C_0 C_1 C_2 C_3 fC; have Ss:=lt_of_heap eS; have Cs:=lt_of_heap eC; have S_0:=cq0 eS rfl; have S_1:=cq1 eS rfl; have S_2:=cq2 eS rfl; have S_3:=cq3 eS rfl; have S_4:=cq4 eS rfl; have S_5:=cq5 eS rfl; have S_6:=cq6 eS rfl; have S_7:=cq7 eS rfl; have S_8:=cq8 eS rfl; have S_9:=cq9 eS rfl; have C_0:=cq0 eC rfl; have C_1:=cq1 eC rfl; have C_2:=cq2 eC rfl; have C_3:=cq3 eC rfl; have fS:=frozA eS; have fC:=frozA eC; clear hb) | (go_at_call 50; (with_reducible refine (hN.out _ _ _ ?_).mono ?_); exact sl2 (at_new (by first | rfl | simp)); rintro e w1 ⟨rfl,hb⟩; replace hb:=((Bel.refl _).al _).trans hb; replace hX:=hX.trans hb; replace eS:=hb.heap eS; replace eC:=hb.heap eC; clear Ss S_0 S_1 S_2 S_3 S_4 S_5 S_6 S_7 S_8 S_9 fS Cs C_0 C_1 C_2 C_3 fC; have Ss:=lt_of_heap eS; have Cs:=lt_of_heap eC; have S_0:=cq0 eS rfl; have S_1:=cq1 eS rfl; have S_2:=cq2 eS rfl; have S_3:=cq3 eS rfl; have S_4:=cq4 eS rfl; have S_5:=cq5 eS rfl; have S_6:=cq6 eS rfl; have S_7:=cq7 eS rfl; have S_8:=cq8 eS rfl; have S_9:=cq9 eS rfl; have C_0:=cq0 eC rfl; have C_1:=cq1 eC rfl; have C_2:=cq2 eC rfl; have C_3:=cq3 eC rfl; have fS:=frozA eS; have fC:=frozA eC; clear hb) | (go_at_call 52; (with_reducible refine (hO.out _ (HS.out.bel hX).ord).mono ?_); rintro e w1 ⟨⟨vo,rfl,hown⟩,hb⟩; replace hX:=hX.trans hb; replace eS:=hb.heap eS; replace eC:=hb.heap eC; clear Ss S_0 S_1 S_2 S_3 S_4 S_5 S_6 S_7 S_8 S_9 fS Cs C_0 C_1 C_2 C_3 fC; have Ss:=lt_of_heap eS; have Cs:=lt_of_heap eC; have S_0:=cq0 eS rfl; have S_1:=cq1 eS rfl; have S_2:=cq2 eS rfl; have S_3:=cq3 eS rfl; have S_4:=cq4 eS rfl; have S_5:=cq5 eS rfl; have S_6:=cq6 eS rfl; have S_7:=cq7 eS rfl; have S_8:=cq8 eS rfl; have S_9:=cq9 eS rfl; have C_0:=cq0 eC rfl; have C_1:=cq1 eC rfl; have C_2:=cq2 eC rfl; have C_3:=cq3 eC rfl; have fS:=frozA eS; have fC:=frozA eC; clear hb) | fail)
 go_returns
 exact ⟨rfl,hX⟩
set_option maxHeartbeats 4000000 in
theorem frame_ord (s:Scr) (hm:s.Sm) (w:World) (hs:s.In w) (hb:maxB s.bits = true) (ho:¬ orderOk s.ord s.nt):Calls Tryz.prog 28 #[s.v] w fun e w' => e = .returned (.int .i64 4) ∧ Bel w w':=by
 have hMx:=hd_ (fun w => calls_bs (smax_call s.bits w))
 rw [hb] at hMx
 have hE:=hd_ (calls_b (rempty_call s.can))
 have hA:=hd_ (rarea_call s.can)
 have hN:=hd_ (fun (W:World) (g c:Nat) (hh:Sl W 1 2 (some ⟨g,0,none⟩) _) => calls_bs (near_call [s.can.x,s.can.y] 2 (by decide) rfl _ c W hh))
 have hC:=hd_ (fun w => count_call s.can s.tw s.th w)
 obtain ⟨q1,q2,q3⟩:=sm_nt hm
 have HS:=hd_ hs
 have hO:=hd_ (fun (W:World) (hh:Sl W 1 s.on s.oA (ints64 s.ord)) => (order_call s.ord s.on s.nt q2 (by omega) hs.on hs.lord s.oA s.oc W hh).mono fun e w2 h => (⟨h.2.1 ho,h.2.2⟩:(e = .returned (.tuple #[.slice none 0 0,.bool false])) ∧ Bel W w2))
 rw [sm_emp hm] at hE
 rw [sm_near hm] at hN
 rw [sm_cnt hm] at hC
 have hq:IntKind.i64.wrap (cntX s.can s.tw s.th * cntY s.can s.tw s.th) = ((s.nt:Nat):Int):=by rw [← q1]; exact wrap_i64 _ (by omega) (by omega)
 have har:decide (16777216 < s.can.area) = false:=decide_eq_false (by have:=sm_area hm; omega)
 have hi0:decide ((64:Int) < s.inn) = false:=decide_eq_false (by have:=hm.i0; omega)
 have hp0:decide ((4096:Int) < s.pn) = false:=decide_eq_false (by have:=hm.p0; omega)
 generalize s.can.area = AR at *
 generalize cntX s.can s.tw s.th = NX at *
 generalize cntY s.can s.tw s.th = NY at *
 generalize s.nt = NT at *
 clear ho hb
 have hpn:=hs.pn
 have hin:=hs.inn
 clear hm hs q1
 go_enter Tryz.func28,Tryz.ntmps28
 go_upto_region 1 with fail
 refine at_world (fun V => Bel w V ∧ V.heap[w.heap.size]? = some (oSc s)) ⟨(Bel.refl w).al _,at_new (by first | rfl | simp)⟩ ?_
 rintro V ⟨hX,eS⟩
 have Ss:=lt_of_heap eS
 have S_0:=cq0 eS rfl
 have fS:=frozA eS
 go_upto_region 4 with (first | (go_at_call 29; (with_reducible refine (hMx.out _).mono ?_); rintro e w1 ⟨rfl,hb⟩; replace hX:=hX.trans hb; replace eS:=hb.heap eS; clear Ss S_0 fS; have Ss:=lt_of_heap eS; have S_0:=cq0 eS rfl; have fS:=frozA eS; clear hb) | fail)
 clear S_0 Ss fS
 have Ss:=lt_of_heap eS
 have S_0:=cq0 eS rfl
 have S_1:=cq1 eS rfl
 have S_2:=cq2 eS rfl
 have S_3:=cq3 eS rfl
 have S_4:=cq4 eS rfl
 have S_5:=cq5 eS rfl
 have S_6:=cq6 eS rfl
 have S_7:=cq7 eS rfl
 have S_8:=cq8 eS rfl
 have S_9:=cq9 eS rfl
 have fS:=frozA eS
 go_upto_region 5 with fail
 refine at_world (fun Y => Bel w Y ∧ Y.heap[w.heap.size]? = some (oSc s) ∧ Y.heap[w1.heap.size]? = some (.cells #[.int .i64 s.can.x,.int .i64 s.can.y,.int .i64 s.can.u,.int .i64 s.can.v] 34)) ⟨hX.al _,at_old eS,at_new (by first | rfl | simp)⟩ ?_
 clear hX eS Ss S_0 S_1 S_2 S_3 S_4 S_5 S_6 S_7 S_8 S_9 fS
 rintro Y ⟨hX,eS,eC⟩
 have Ss:=lt_of_heap eS
 have Cs:=lt_of_heap eC
 have S_0:=cq0 eS rfl
 have S_1:=cq1 eS rfl
 have S_2:=cq2 eS rfl
 have S_3:=cq3 eS rfl
 have S_4:=cq4 eS rfl
 have S_5:=cq5 eS rfl
 have S_6:=cq6 eS rfl
 have S_7:=cq7 eS rfl
 have S_8:=cq8 eS rfl
 have S_9:=cq9 eS rfl
 have C_0:=cq0 eC rfl
 have C_1:=cq1 eC rfl
 have C_2:=cq2 eC rfl
 have C_3:=cq3 eC rfl
 have fS:=frozA eS
 have fC:=frozA eC
 go_wp2_with (first | ((first | (go_at_call 48; (with_reducible refine (hE.out _).mono ?_)) | (go_at_call 49; (with_reducible refine (hA.out _).mono ?_)) | (go_at_call 51; (with_reducible refine (hC.out _).mono ?_)) | (go_at_call 52; (with_reducible refine (hO.out _ (HS.out.bel hX).ord).mono ?_))); rintro e w1 ⟨rfl,hb⟩; replace hX:=hX.trans hb; replace eS:=hb.heap eS; replace eC:=hb.heap eC; clear Ss S_0 S_1 S_2 S_3 S_4 S_5 S_6 S_7 S_8 S_9 fS Cs C_0 C_1 C_2 C_3 fC; have Ss:=lt_of_heap eS; have Cs:=lt_of_heap eC; have S_0:=cq0 eS rfl; have S_1:=cq1 eS rfl; have S_2:=cq2 eS rfl; have S_3:=cq3 eS rfl; have S_4:=cq4 eS rfl; have S_5:=cq5 eS rfl; have S_6:=cq6 eS rfl; have S_7:=cq7 eS rfl; have S_8:=cq8 eS rfl; have S_9:=cq9 eS rfl; have C_0:=cq0 eC rfl; have C_1:=cq1 eC rfl; have C_2:=cq2 eC rfl; have C_3:=cq3 eC rfl; have fS:=frozA eS; have fC:=frozA eC; clear hb) | (go_at_call 50; (with_reducible refine (hN.out _ _ _ ?_).mono ?_); exact sl2 (at_new (by first | rfl | simp)); rintro e w1 ⟨rfl,hb⟩; replace hb:=((Bel.refl _).al _).trans hb; replace hX:=hX.trans hb; replace eS:=hb.heap eS; replace eC:=hb.heap eC; clear Ss S_0 S_1 S_2 S_3 S_4 S_5 S_6 S_7 S_8 S_9 fS Cs C_0 C_1 C_2 C_3 fC; have Ss:=lt_of_heap eS; have Cs:=lt_of_heap eC; have S_0:=cq0 eS rfl; have S_1:=cq1 eS rfl; have S_2:=cq2 eS rfl; have S_3:=cq3 eS rfl; have S_4:=cq4 eS rfl; have S_5:=cq5 eS rfl; have S_6:=cq6 eS rfl; have S_7:=cq7 eS rfl; have S_8:=cq8 eS rfl; have S_9:=cq9 eS rfl; have C_0:=cq0 eC rfl; have C_1:=cq1 eC rfl; have C_2:=cq2 eC rfl; have C_3:=cq3 eC rfl; have fS:=frozA eS; have fC:=frozA eC; clear hb) | fail)
 go_returns
 exact ⟨rfl,hX⟩
theorem frame_call (s:Scr) (hm:s.Sm) (w:World) (hs:s.In w):Calls Tryz.prog 28 #[s.v] w fun e w' => e = .returned (.int .i64 (frameE s)) ∧ Bel w w':=by
 unfold frameE
 cases hb:maxB s.bits
 ·rw [if_pos rfl]
  exact frame_bits s hm w hs hb
 ·rw [if_neg (by decide)]
  by_cases ho:orderOk s.ord s.nt
  ·rw [if_pos ho]
   exact frame_ok s hm w hs hb ho
  ·rw [if_neg ho]
   exact frame_ord s hm w hs hb ho
end Go.Proofs.YtepfoelgegljbaaGreatDoor
