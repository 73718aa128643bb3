/- Part I5. -/
import Derived.Deep.CutBlock
import Derived.Test.YtepfoelgegljbaaGreatDoorA46
import Derived.Test.YtepfoelgegljbaaGreatDoorI04
namespace Go.Proofs.YtepfoelgegljbaaGreatDoor
set_option maxRecDepth 100000
open Go.RowKit
set_option linter.unusedVariables false
set_option linter.unusedSimpArgs false
abbrev zIm:Img:=⟨0,0,false,⟨0,0,0,0,0⟩,⟨0,0,0,none,0,0,[]⟩,⟨0,0,0,none,0,0,[]⟩,⟨0,0,0,none,0,0,[]⟩,⟨0,0,0,none,0,0,[]⟩,⟨0,0,0,none,0,0,[]⟩⟩
theorem solid_zIn (W:World):zIm.In W:=by
 have h0:Pln.In W ⟨0,0,0,none,0,0,[]⟩:=⟨by decide,rfl,fun hn => absurd hn (Nat.lt_irrefl 0)⟩
 exact ⟨h0,h0,h0,h0,h0⟩
theorem bits20 (b:Int):IntKind.i64.wrap (b % 20) = b % 20:=wrap_i64 _ (by omega) (by omega)
set_option maxHeartbeats 16000000 in
theorem ioe_walk (d:SceneD) (what bb:Int) (o:Opr) (p:Px) (w:World) (hd:d.In w) (hoc:0 ≤ o.oc) (hpn:p.nn) (hN:Named w) (hR:Ruled w):Calls Tryz.prog 3 #[d.v,.int .i64 what,.int .i64 bb,o.v,p.v] w fun e w' => e = .returned (.bool true) ∧ Bel w w':=by
 obtain ⟨j0,ji,jz0,jz1,jz2⟩:=info_parts info_op
 have HGS:=hd_ (fun (W:World) (hb:Bel w W) => gscript_ex d W (hd.bel hb))
 have HM:=hd_ (fun (x k:Int) (h0:1 ≤ k) (h1:k ≤ 4611686018427387903) (W:World) => mod_call x k W h0 h1)
 have HAW:=hd_ (fun (W:World) (hb:Bel w W) => awake_call W (named_bel hN hb) (ruled_bel hR hb))
 have HSM:=hd_ (fun (m k:Img) (hk:ImEq m k) (W:World) (hm:m.In W) (hk':k.In W) => sameImage_call m k hk W hm hk')
 have HN:=hd_ hN
 have HR:=hd_ hR
 have HOC:=hd_ hoc
 have HPN:=hd_ hpn
 clear hd hN hR hoc hpn
 go_enter Tryz.func3,Tryz.ntmps3
 go_upto_region 1 with fail
 refine at_world (fun V => Bel w V ∧ V.heap[w.heap.size]? = some (.cells #[.int .i64 d.bits,.int .i64 d.x,.int .i64 d.y,.int .i64 d.w,.int .i64 d.h,.int .i64 d.tw,.int .i64 d.th,.slice d.oA d.on d.oc,.slice d.pA d.pn d.pc,.slice d.qA d.qn d.qc] 26) ∧ V.heap[w.heap.size + 1]? = some (oOp o) ∧ V.heap[w.heap.size + 1 + 1]? = some (.cells #[.int .u16 p.x,.int .u16 p.y,.int .u16 p.z,.int .u16 p.a,.int .u16 p.f] 32)) ⟨(((Bel.refl w).al _).al _).al _,at_old (at_old (at_new (by first | rfl | simp))),at_old (at_new (by first | rfl | simp)),at_new (by first | rfl | simp)⟩ ?_
 rintro V ⟨hX,eD,eO,eP⟩
 have Ds:=lt_of_heap eD
 have Os:=lt_of_heap eO
 have Ps:=lt_of_heap eP
 have D_0:=cq0 eD rfl
 have O_0:=cq0 eO rfl
 have P_0:=cq0 eP rfl
 have fD:=frozA eD
 have fO:=frozA eO
 have fP:=frozA eP
 have lscn:=scn_ld eD
 go_upto_region 2 with (first | ((with_reducible show wpList _ _ _ (⟨some 19,_,_,_,_,_⟩ :: _) _ _); refine wpList_ld rfl rfl rfl (lscn) ?_) | (go_at_call 7; (with_reducible refine (HGS.out _ hX).mono ?_); rintro e w2 ⟨s,F,rfl,hG,hb2⟩) | ((with_reducible show wpList _ _ _ (⟨none,.store _ _ _,_,_,_,_⟩ :: _) _ _); refine wpList_st (n:=0) (g:=w2.heap.size) (cells:=s.cs) rfl rfl rfl rfl (at_new rfl) rfl (by kernel_rfl) (scr_one s) ?_; intro Y2 eS2 hU2) | fail)
 have hUB:Bel V Y2:=hU2.bel (hb2.al _) hb2.size'
 have hXY:=hX.trans hUB
 have hGY:=hG.bel (hU2.bel ((Bel.refl w2).al _) (Nat.le_refl _))
 have hTw:w.heap.size ≤ w2.heap.size:=Nat.le_trans hX.size' hb2.size'
 refine at_world (fun Y => (Bel w Y ∧ w.heap.size ≤ V.heap.size ∧ V.heap.size ≤ w2.heap.size) ∧ GScr Y V.heap.size s F ∧ Y.heap[w2.heap.size]? = some (oSc s) ∧ Y.heap[w.heap.size + 1]? = some (oOp o) ∧ Y.heap[w.heap.size + 1 + 1]? = some (.cells #[.int .u16 p.x,.int .u16 p.y,.int .u16 p.z,.int .u16 p.a,.int .u16 p.f] 32)) ⟨⟨hXY,hX.size',hb2.size'⟩,hGY,eS2,hUB.heap eO,hUB.heap eP⟩ ?_
 clear lscn hX eD eO eP hG hb2 hU2 eS2 hXY hGY hUB Ds D_0 fD Os O_0 fO Ps P_0 fP
 rintro Y ⟨⟨hX,hwV,hV2⟩,hG,eS,eO,eP⟩
 obtain ⟨T1,hT1⟩:∃ T1,T1 = w2.heap.size:=⟨_,rfl⟩
 rw [← hT1] at eS hTw hV2
 rw [← hT1]
 clear hT1
 have HG:=hd_ hG
 have HX:=hd_ (And.intro hX (And.intro hwV hV2))
 have HES:=hd_ eS
 have HEO:=hd_ eO
 have HEP:=hd_ eP
 obtain ⟨B,hB⟩:∃ B,B = V.heap.size:=⟨_,rfl⟩
 rw [← hB] at HG HX
 clear hG hX eS eO eP hwV hV2 hB
 have b1:=Int.emod_nonneg what (show (7:Int) ≠ 0 by decide)
 have b2:=Int.emod_lt_of_pos what (show (0:Int) < 7 by decide)
 go_upto_block 0 with (first | (go_at_call 8; (with_reducible refine (HM.out _ _ (by omega) (by omega) _).mono ?_); rintro e w4 ⟨rfl,rfl⟩) | fail)
 obtain ⟨x,hx⟩:∃ x,x = what % 7:=⟨_,rfl⟩
 rw [← hx] at b1 b2
 rw [← hx]
 clear hx
 have hxx:x = 0 ∨ x = 1 ∨ x = 2 ∨ x = 3 ∨ x = 4 ∨ x = 5 ∨ x = 6:=by omega
 have HXX:=hd_ hxx
 clear hxx b1 b2
 go_cut [] (fun Z => ∃ s':Scr,Z.heap[T1]? = some (.cells s'.cs.toArray 38) ∧ IoR Z B s' ∧ Bel w Z ∧ IoP s')
 case first =>
  obtain rfl | rfl | rfl | rfl | rfl | rfl | rfl:=HXX.out
  ·have S_9:=cq9 HES.out rfl
   have lop:=opr_ld HEO.out
   have lT:=lt_of_heap HES.out
   have fT:=frozA HES.out
   have hp:=HG.out.pn
   have hbs:B ≤ Y.heap.size:=by have:=HX.out.2; omega
   have hpc:s.pn + 1 ≤ maxLen:=by unfold maxLen; omega
   have hpd:(s.pn + 1) * 88 ≤ 140737488355328:=by omega
   go_wp2_with (first | ((with_reducible show wpList _ _ _ (⟨some 27,_,_,_,_,_⟩ :: _) _ _); refine wpList_ld rfl rfl rfl (lop) ?_) | (at_builtin; refine wpList_append_own _ rfl _ _ 36 rfl B 29 j0 (.agg #[.int .i64 0,.int .i64 0,.int .i64 0,.int .i64 0,.int .i64 0,.int .i64 0,.int .i64 0,.int .u16 0,.int .i64 0,.int .i64 0,.bool false,.bool false]) 12 88 Tryz.underlying36 ji jz0 jz1 jz2 rfl (by decide) _ _ _ rfl (own_ext HG.out.op ((Bel.refl Y).al _)) ⟨Y.heap.size,0,none⟩ 1 1 o.cs rfl rfl (new_row Y o.cs _) (op_one o) hpc hpd (Nat.le_trans hbs ((Bel.refl Y).al _).size') ?_) | fail)
   intro v3 W3 hown3 hgr3 _
   obtain ⟨A3,c3,rfl,-⟩:=own_sl hown3
   have hGA:=HG.out.bel ((Bel.refl Y).al (.cells o.cs.toArray 29))
   have eS3:=grown_heap hGA.op (at_old HES.out) (by decide) hgr3
   have hR3:=hGA.opapp hgr3 (by rw [oprs_snoc]; exact hown3) (by omega)
   have hB3:Bel w W3:=(HX.out.1.al _).grown hgr3 fun q hq => Nat.le_trans HX.out.2.1 (hGA.op.lt q hq).1
   have H3:=hd_ (And.intro eS3 (And.intro hR3 hB3))
   clear S_9 lop lT fT hpc hpd hown3 hgr3 hGA eS3 hR3 hB3
   have T_9:=cq9 H3.out.1 rfl
   have lT:=lt_of_heap H3.out.1
   have fT:=frozA H3.out.1
   go_wp2_with fail
   go_meet
   exact ⟨_,heap_set _ H3.out.1,H3.out.2.1.upd (setCells_upd T1 [.slice A3 (s.pn + 1) c3] 9 _) H3.out.1 (by decide) (by decide) (by decide) (by decide),H3.out.2.2.setCell hTw _,HG.out.ioOp HOC.out⟩
  ·have hi1:=HG.out.i1
   have hil:=HG.out.In.lims
   obtain ⟨ga,ca,hA,hga,hgas,hcap⟩:=own_at HG.out.im (Nat.lt_of_lt_of_le Nat.zero_lt_one hi1) (by decide)
   simp only [Value.slice.injEq,true_and] at hA
   obtain ⟨hA,rfl⟩:=hA
   have HIA:=hd_ hA
   have hrow:=HG.out.im
   rw [hA] at hrow
   have S_8:=cq8 HES.out (show _ = some (Value.slice s.iA s.inn s.ic) from rfl)
   rw [hA] at S_8
   obtain ⟨csI,eI⟩:=own_heap hrow
   have hgT:ga ≠ T1:=fun e => by
    have e2:=HES.out
    rw [← e,eI] at e2
    cases e2
   obtain ⟨m,hm⟩:∃ m,s.ims[0]? = some m:=⟨s.ims[0]'(by omega),List.getElem?_eq_getElem _⟩
   obtain ⟨hp1,hp2⟩:=im_part (m':={ m with col:=p }) hm 3 p.cs (by show 3 + 5 ≤ 28; decide) (fun j u hu => by
    have hj:j < 5:=(List.getElem?_eq_some_iff.1 hu).1
    have hj2:j = 0 ∨ j = 1 ∨ j = 2 ∨ j = 3 ∨ j = 4:=by omega
    rcases hj2 with rfl | rfl | rfl | rfl | rfl <;> exact hu) (fun r hr hr2 => by
    have hr2':r < 3 ∨ 8 ≤ r:=hr2
    have hr3:r = 0 ∨ r = 1 ∨ r = 2 ∨ r = 8 ∨ r = 9 ∨ r = 10 ∨ r = 11 ∨ r = 12 ∨ r = 13 ∨ r = 14 ∨ r = 15 ∨ r = 16 ∨ r = 17 ∨ r = 18 ∨ r = 19 ∨ r = 20 ∨ r = 21 ∨ r = 22 ∨ r = 23 ∨ r = 24 ∨ r = 25 ∨ r = 26 ∨ r = 27:=by omega
    rcases hr3 with rfl | rfl | rfl | rfl | rfl | rfl | rfl | rfl | rfl | rfl | rfl | rfl | rfl | rfl | rfl | rfl | rfl | rfl | rfl | rfl | rfl | rfl | rfl <;> rfl)
   have HP1:=hd_ hp1
   have HP2:=hd_ hp2
   have HRW:=hd_ hrow
   have HMM:=hd_ hm
   have HEI:=hd_ eI
   clear hp1 hp2 hrow hm eI
   have P_0:=cq0 HEP.out rfl
   have P_1:=cq1 HEP.out rfl
   have P_2:=cq2 HEP.out rfl
   have P_3:=cq3 HEP.out rfl
   have P_4:=cq4 HEP.out rfl
   have lP:=lt_of_heap HEP.out
   have hd0:decide (0 < s.inn) = true:=decide_eq_true (by omega)
   have hd1:decide ((0:Int) < (s.inn:Int)) = true:=decide_eq_true (by omega)
   have hd2:(0:Int) < (s.inn:Int):=by omega
   have hd3:0 < s.inn:=by omega
   go_wp2_with (first | ((with_reducible show wpList _ _ _ (⟨none,.store _ _ _,_,_,_,_⟩ :: _) _ _); refine wpList_sop 3 p.cs (imgs (s.ims.set 0 { m with col:=p })) rfl rfl rfl rfl HRW.out (by first | rfl | omega) (by show 3 + 5 ≤ s.inn * 28; omega) (by rw [imgs_len,List.length_set,hil]) (by simpa using HP1.out) (by simpa using HP2.out) (by kernel_rfl) (px_one p) ?_; intro W7 hown7 hU7) | fail)
   go_meet
   have hg:=HMM.out
   exact ⟨s.wi (s.ims.set 0 { m with col:=p }),hU7.heap HES.out hgT.symm,HG.out.imset HIA.out HMM.out (fun i hi => by
    have h:i = 0 ∨ i = 1 ∨ i = 2 ∨ i = 3 ∨ i = 4:=by omega
    rcases h with rfl | rfl | rfl | rfl | rfl <;> rfl) hown7 hU7,hU7.bel HX.out.1 (by have:=HX.out.2; omega),HG.out.ioIm ((HG.out.g m (List.mem_of_getElem? HMM.out)).nnCol p HPN.out)⟩
  ·have hi1:=HG.out.i1
   have hil:=HG.out.In.lims
   obtain ⟨ga,ca,hA,hga,hgas,hcap⟩:=own_at HG.out.im (Nat.lt_of_lt_of_le Nat.zero_lt_one hi1) (by decide)
   simp only [Value.slice.injEq,true_and] at hA
   obtain ⟨hA,rfl⟩:=hA
   have HIA:=hd_ hA
   have hrow:=HG.out.im
   rw [hA] at hrow
   have S_8:=cq8 HES.out (show _ = some (Value.slice s.iA s.inn s.ic) from rfl)
   rw [hA] at S_8
   obtain ⟨csI,eI⟩:=own_heap hrow
   have hgT:ga ≠ T1:=fun e => by
    have e2:=HES.out
    rw [← e,eI] at e2
    cases e2
   obtain ⟨i,hk⟩:∃ i:Nat,bb % (s.inn:Int) = (i:Int):=by
    have:=Int.emod_nonneg bb (show (s.inn:Int) ≠ 0 by omega)
    exact ⟨(bb % (s.inn:Int)).toNat,by omega⟩
   have hlt:i < s.inn:=by
    have:=Int.emod_lt_of_pos bb (show (0:Int) < (s.inn:Int) by omega)
    omega
   obtain ⟨b9,hb9⟩:∃ b9,b9 = bb % 9:=⟨_,rfl⟩
   have h9:0 ≤ b9 ∧ b9 < 9:=by omega
   have hw9:IntKind.i64.wrap (b9 - 3) = b9 - 3:=wrap_i64 _ (by omega) (by omega)
   obtain ⟨m,hm⟩:∃ m,s.ims[i]? = some m:=⟨s.ims[i]'(by omega),List.getElem?_eq_getElem _⟩
   obtain ⟨hp1,hp2⟩:=im_part (m':={ m with w:=b9 - 3 }) hm 0 [.int .i64 (b9 - 3)] (by show 0 + 1 ≤ 28; decide) (fun j u hu => by
    have hj:j < 1:=(List.getElem?_eq_some_iff.1 hu).1
    obtain rfl:j = 0:=by omega
    exact hu) (fun r hr hr2 => by
    have hr2':r < 0 ∨ 1 ≤ r:=hr2
    have hr3:r = 1 ∨ r = 2 ∨ r = 3 ∨ r = 4 ∨ r = 5 ∨ r = 6 ∨ r = 7 ∨ r = 8 ∨ r = 9 ∨ r = 10 ∨ r = 11 ∨ r = 12 ∨ r = 13 ∨ r = 14 ∨ r = 15 ∨ r = 16 ∨ r = 17 ∨ r = 18 ∨ r = 19 ∨ r = 20 ∨ r = 21 ∨ r = 22 ∨ r = 23 ∨ r = 24 ∨ r = 25 ∨ r = 26 ∨ r = 27:=by omega
    rcases hr3 with rfl | rfl | rfl | rfl | rfl | rfl | rfl | rfl | rfl | rfl | rfl | rfl | rfl | rfl | rfl | rfl | rfl | rfl | rfl | rfl | rfl | rfl | rfl | rfl | rfl | rfl | rfl <;> rfl)
   have HP1:=hd_ hp1
   have HP2:=hd_ hp2
   have HRW:=hd_ hrow
   have HMM:=hd_ hm
   have HLT:=hd_ hlt
   have h1:=hd_ (fun q:Bw Y => calls_bq (q:=q) (calls_bs (show Calls Tryz.prog 8 #[.int .i64 bb,.int .i64 (s.inn:Int)] q.W fun e w' => e = .returned (.int .i64 (i:Int)) ∧ q.W = w' from by rw [← hk]; exact mod_call bb s.inn q.W (by omega) (by have:=HG.out.i4; omega))))
   have h2:=hd_ (fun q:Bw Y => calls_bq (q:=q) (calls_bs (show Calls Tryz.prog 8 #[.int .i64 bb,.int .i64 9] q.W fun e w' => e = .returned (.int .i64 b9) ∧ q.W = w' from by rw [hb9]; exact mod_call bb 9 q.W (by decide) (by decide))))
   have qs:=fun q:Bw Y => q.h.cell S_8
   have hd:=decide_eq_true (show (i:Int) < (s.inn:Int) by omega)
   have hd':=decide_eq_true hlt
   have hi2:(i:Int) < (s.inn:Int):=by omega
   clear hp1 hp2 hrow hm eI S_8 hk hb9 h9
   go_upto_region 8 with fail
   refine region_btail 12 (by kernel_rfl) (by kernel_rfl) ?_
   simp only [List.take_succ_cons,List.take_zero]
   repeat (go_big_quiet_step (first | (go_at_call 8; with_reducible exact h1.out _) | (go_at_call 8; with_reducible exact h2.out _)))
   refine wpQuiet_nil ?_
   rintro w2 ⟨q,rfl⟩
   simp only [List.drop_succ_cons,List.drop_zero]
   have hrq:=own_ext HRW.out q.h
   have hfz:=fun k => hrq.frozenAt k
   have kc:q.W.cell? ⟨ga,i * 28,none⟩ = some (.int .i64 m.w):=by
    rw [hrq.cellAt (i * 28) (by have:=HLT.out; omega)]
    exact flat_get (f:=Img.cs) (k:=28) (fun _ => rfl) s.ims i 0 m HMM.out (by decide)
   have HRQ:=hd_ hrq
   clear hrq qs
   go_wp2_with fail
   go_meet
   have ho:=own_setp (o:=i * 28) (vs:=[.int .i64 (b9 - 3)]) HRQ.out (by have:=HLT.out; show i * 28 + 1 ≤ s.inn * 28; omega) (by rw [imgs_len,List.length_set,hil]) HP1.out HP2.out
   have hU:=setCells_upd ga [.int .i64 (b9 - 3)] (i * 28) q.W
   exact ⟨s.wi (s.ims.set i { m with w:=b9 - 3 }),hU.heap (q.h.heap HES.out) hgT.symm,(HG.out.bel q.h).imset HIA.out HMM.out (fun i hi => by
    have h:i = 0 ∨ i = 1 ∨ i = 2 ∨ i = 3 ∨ i = 4:=by omega
    rcases h with rfl | rfl | rfl | rfl | rfl <;> rfl) ho hU,hU.bel (HX.out.1.trans q.h) (by have:=HX.out.2; omega),HG.out.ioIm ((HG.out.g m (List.mem_of_getElem? HMM.out)).nnW _)⟩
  ·have hbs:B ≤ Y.heap.size:=by have:=HX.out.2; have:=lt_of_heap HES.out; omega
   have lT:=lt_of_heap HES.out
   have fT:=frozA HES.out
   have S_7:=cq7 HES.out rfl
   go_wp2_with (first | (go_at_call 8; (with_reducible refine (HM.out _ _ (by omega) (by omega) _).mono ?_); rintro e w5 ⟨rfl,rfl⟩) | fail)
   go_meet
   have hcm:=World.setCell_alloc_past (w:=Y) (.cells #[.int .i64 (bb % 3)] 3) T1 7 (.slice (some ⟨Y.heap.size,0,none⟩) 1 1) lT
   rw [← hcm]
   exact ⟨s.wor (some ⟨Y.heap.size,0,none⟩) 1 1 [bb % 3],heap_set _ (at_old HES.out),(HG.out.ords ((Bel.refl Y).al _) (at_new rfl) hbs).upd (setCells_upd T1 [.slice (some ⟨Y.heap.size,0,none⟩) 1 1] 7 _) (at_old HES.out) (by decide) (by decide) (by decide) (by decide),(HX.out.1.al _).setCell hTw _,HG.out.ioOr _ _ _ _⟩
  ·have hp:=HG.out.pn
   have hbs:B ≤ Y.heap.size:=by have:=HX.out.2; have:=lt_of_heap HES.out; omega
   have hpc:s.pn + 1 ≤ maxLen:=by unfold maxLen; omega
   have hpd:(s.pn + 1) * 88 ≤ 140737488355328:=by omega
   obtain ⟨b1,hb1⟩:∃ b1,b1 = bb % 6:=⟨_,rfl⟩
   obtain ⟨b2,hb2⟩:∃ b2,b2 = bb % 400:=⟨_,rfl⟩
   obtain ⟨b3,hb3⟩:∃ b3,b3 = bb % 14:=⟨_,rfl⟩
   obtain ⟨b4,hb4⟩:∃ b4,b4 = IntKind.i64.wrap (bb.tdiv 14) % 14:=⟨_,rfl⟩
   have h2:0 ≤ b2 ∧ b2 < 400:=by omega
   have hw2:IntKind.u16.wrap b2 = b2:=IntWalk.u16_in _ (by omega)
   have m1:=hd_ (fun W => show Calls Tryz.prog 8 #[.int .i64 bb,.int .i64 6] W fun e w' => e = .returned (.int .i64 b1) ∧ W = w' from by rw [hb1]; exact mod_call bb 6 W (by decide) (by decide))
   have m2:=hd_ (fun W => show Calls Tryz.prog 8 #[.int .i64 bb,.int .i64 400] W fun e w' => e = .returned (.int .i64 b2) ∧ W = w' from by rw [hb2]; exact mod_call bb 400 W (by decide) (by decide))
   have m3:=hd_ (fun W => show Calls Tryz.prog 8 #[.int .i64 bb,.int .i64 14] W fun e w' => e = .returned (.int .i64 b3) ∧ W = w' from by rw [hb3]; exact mod_call bb 14 W (by decide) (by decide))
   have m4:=hd_ (fun W => show Calls Tryz.prog 8 #[.int .i64 (IntKind.i64.wrap (bb.tdiv 14)),.int .i64 14] W fun e w' => e = .returned (.int .i64 b4) ∧ W = w' from by rw [hb4]; exact mod_call _ 14 W (by decide) (by decide))
   have hYd:=(Bel.refl Y).dr
   have S_9:=cq9 HES.out rfl
   have qs:=fun (W:World) (h:Bel Y W) => h.cell S_9
   go_upto_region 12 with fail
   clear hb1 hb2 hb3 hb4
   refine C_region 14 (fun W => Bel Y W) (by kernel_rfl) ?_
   refine C_take0a (i:=0) (v:=?_) rfl hYd (Or.inl ⟨by rfl,?_⟩) ?_
   rotate_left
   ·(intro W hW; go_simp; try with_reducible rfl)
   simp only [Act.put,lA_,l0_,lS_]
   refine C_takea (i:=1) (v:=?_) rfl hYd (Or.inl ⟨by rfl,?_⟩) ?_
   rotate_left
   ·(intro W hW; (try dsimp only at hW); go_simp; try with_reducible rfl)
   simp only [Act.put,lA_,l0_,lS_]
   refine C_take0a (i:=2) (v:=?_) rfl hYd (Or.inl ⟨by rfl,?_⟩) ?_
   rotate_left
   ·(intro W hW; go_simp; try with_reducible rfl)
   simp only [Act.put,lA_,l0_,lS_]
   refine C_take0a (i:=4) (v:=?_) rfl hYd (Or.inl ⟨by rfl,?_⟩) ?_
   rotate_left
   ·(intro W hW; go_simp; try with_reducible rfl)
   simp only [Act.put,lA_,l0_,lS_]
   refine C_take0a (i:=7) (v:=?_) rfl hYd (Or.inl ⟨by rfl,?_⟩) ?_
   rotate_left
   ·(intro W hW; go_simp; try with_reducible rfl)
   simp only [Act.put,lA_,l0_,lS_]
   refine C_take0a (i:=9) (v:=?_) rfl hYd (Or.inl ⟨by rfl,?_⟩) ?_
   rotate_left
   ·(intro W hW; go_simp; try with_reducible rfl)
   simp only [Act.put,lA_,l0_,lS_]
   refine C_take0a (i:=10) (v:=?_) rfl hYd (Or.inl ⟨by rfl,?_⟩) ?_
   rotate_left
   ·(intro W hW; go_simp; try with_reducible rfl)
   simp only [Act.put,lA_,l0_,lS_]
   refine C_do (i:=3) (by kernel_rfl) rfl (by rfl) fun K hK => ?_
   go_simp
   go_at_call 8
   with_reducible refine (m1.out _).mono ?_
   rintro e w9 ⟨rfl,rfl⟩
   refine hK.out _ _ hYd ?_
   clear hK K
   refine C_do (i:=5) (by kernel_rfl) rfl (by rfl) fun K hK => ?_
   go_simp
   go_at_call 8
   with_reducible refine (m2.out _).mono ?_
   rintro e w9 ⟨rfl,rfl⟩
   refine hK.out _ _ hYd ?_
   clear hK K
   refine C_take0a (i:=6) (v:=?_) rfl hYd (Or.inl ⟨by rfl,?_⟩) ?_
   rotate_left
   ·(intro W hW; go_simp; try with_reducible rfl)
   simp only [Act.put,lA_,l0_,lS_]
   refine C_do (i:=8) (by kernel_rfl) rfl (by rfl) fun K hK => ?_
   go_simp
   go_at_call 8
   with_reducible refine (m3.out _).mono ?_
   rintro e w9 ⟨rfl,rfl⟩
   refine hK.out _ _ hYd ?_
   clear hK K
   refine C_do (i:=11) (by kernel_rfl) rfl (by rfl) fun K hK => ?_
   go_simp
   go_at_call 8
   with_reducible refine (m4.out _).mono ?_
   rintro e w9 ⟨rfl,rfl⟩
   refine hK.out _ _ hYd ?_
   clear hK K
   refine C_take0a (i:=12) (v:=?_) rfl hYd (Or.inl ⟨by rfl,?_⟩) ?_
   rotate_left
   ·(intro W hW; go_simp; try with_reducible rfl)
   simp only [Act.put,lA_,l0_,lS_]
   refine C_do (i:=13) (by kernel_rfl) rfl (by rfl) fun K hK => ?_
   go_simp
   have hSA:=hYd.al (.cells (⟨1,b1,0,0,0,0,0,b2,b3,b4,false,false⟩:Opr).cs.toArray 29)
   refine hK.out _ _ hSA ?_
   clear hK K qs S_9 m1 m2 m3 m4
   refine C_step (by kernel_rfl) rfl (by kernel_rfl) (by rfl) fun K hK => ?_
   refine wp_append_own _ (.tmp 61) (.tmp 73) 36 rfl B 29 j0 (.agg #[.int .i64 0,.int .i64 0,.int .i64 0,.int .i64 0,.int .i64 0,.int .i64 0,.int .i64 0,.int .u16 0,.int .i64 0,.int .i64 0,.bool false,.bool false]) 12 88 Tryz.underlying36 ji jz0 jz1 jz2 rfl (by decide) _ _ _ rfl (own_ext HG.out.op hSA) ⟨Y.heap.size,0,none⟩ 1 1 (⟨1,b1,0,0,0,0,0,b2,b3,b4,false,false⟩:Opr).cs rfl rfl ?ga (op_one (⟨1,b1,0,0,0,0,0,b2,b3,b4,false,false⟩:Opr)) hpc hpd ?ge ?_
   case ga => exact new_row Y.drew (⟨1,b1,0,0,0,0,0,b2,b3,b4,false,false⟩:Opr).cs _
   case ge => exact Nat.le_trans hbs hSA.size'
   intro v3 W3 hown3 hgr3 _
   obtain ⟨A3,c3,rfl,-⟩:=own_sl hown3
   have hGA:=HG.out.bel hSA
   have eS3:=grown_heap hGA.op (at_old (at_drew1 HES.out)) (by decide) hgr3
   have hR3:=hGA.opapp (L:=s.ops ++ [(⟨1,b1,0,0,0,0,0,b2,b3,b4,false,false⟩:Opr)]) hgr3 (by rw [oprs_snoc]; exact hown3) (by omega)
   have hB3:Bel w W3:=(HX.out.1.trans hSA).grown hgr3 fun q hq => Nat.le_trans HX.out.2.1 (hGA.op.lt q hq).1
   have H3:=hd_ (And.intro eS3 (And.intro hR3 hB3))
   refine hK.out _ _ ?_
   clear hK K hpc hpd hown3 hgr3 hGA eS3 hR3 hB3 hSA hYd
   have T_9:=cq9 H3.out.1 rfl
   have lT:=lt_of_heap H3.out.1
   have fT:=frozA H3.out.1
   refine any_of_C (c:=15) (S:=fun _ => True) _ _ _ _ ?_
   refine C_tail (c:=15) (g:=1) (l:=_) rfl rfl (by kernel_rfl) (by kernel_rfl) ?_
   simp only [List.drop_succ_cons,List.drop_zero]
   go_wp2_with fail
   go_meet
   exact ⟨_,heap_set _ H3.out.1,H3.out.2.1.upd (setCells_upd T1 [.slice A3 (s.pn + 1) c3] 9 _) H3.out.1 (by decide) (by decide) (by decide) (by decide),H3.out.2.2.setCell hTw _,HG.out.ioOp h2.1⟩
  ·have hb5:=bits20 bb
   have S_0:=cq0 HES.out rfl
   have lT:=lt_of_heap HES.out
   have fT:=frozA HES.out
   go_wp2_with (first | (go_at_call 8; (with_reducible refine (HM.out _ _ (by omega) (by omega) _).mono ?_); rintro e w5 ⟨rfl,rfl⟩) | fail)
   go_meet
   exact ⟨s.wbit (bb % 20),heap_set _ HES.out,(HG.out.bt (bb % 20)).upd (setCells_upd T1 [.int .i64 (bb % 20)] 0 _) HES.out (by decide) (by decide) (by decide) (by decide),HX.out.1.setCell hTw _,HG.out.ioBt _⟩
  ·go_wp2_with fail
   go_meet
   exact ⟨s,HES.out,HG.out.r,HX.out.1,HG.out.io⟩
 case rest =>
  obtain ⟨s',eS,hr,hZ,hp⟩:=hcut
  clear HG HX HES HEO HEP HXX HOC HPN
  obtain ⟨Z,rfl⟩:∃ W:World,W = wc:=⟨_,rfl⟩
  have HP:=hd_ hp
  have HIN:=hd_ hr.In
  have HZ:=hd_ hZ
  have HES:=hd_ eS
  have HCK:=hd_ (fun (W:World) (hb:Bel Z W) => check_call s' hp.sm W (hr.In.bel hb) (named_bel HN.out (hZ.trans hb)) (ruled_bel HR.out (hZ.trans hb)))
  have lscr:=scr_ld eS
  clear hr hZ eS hp
  go_upto_region 16 with (first | ((with_reducible show wpList _ _ _ (⟨some 82,_,_,_,_,_⟩ :: _) _ _); refine wpList_ld rfl rfl rfl (lscr) ?_) | (go_at_call 9; (with_reducible refine (HCK.out _ (Bel.refl _)).mono ?_); rintro e w5 ⟨rfl,hb5⟩) | fail)
  have hY5:=hd_ hb5
  have lscr5:=scr_ld (hb5.heap HES.out)
  clear lscr hb5
  by_cases hc:(checkE s').1 = 0
  case neg =>
   have HRB:=hd_ (fun (W:World) (hb:Bel Z W) => render_bad s' HP.out.sm hc W (HIN.out.bel hb) (named_bel HN.out (HZ.out.trans hb)) (ruled_bel HR.out (HZ.out.trans hb)))
   have hI0:ImEq zIm zIm:=⟨rfl,rfl,rfl,rfl,fun i hi => ⟨rfl,rfl,rfl,rfl,rfl⟩⟩
   have HI0:=hd_ hI0
   obtain ⟨CE,hCE⟩:∃ CE,CE = checkE s':=⟨_,rfl⟩
   rw [← hCE] at hc HRB
   rw [← hCE]
   have c0:(CE.1 == 0) = false:=beq_eq_false_iff_ne.2 hc
   have c1:(CE.1 != 0) = true:=by rw [bne,c0]; rfl
   have c2:(CE.1 == CE.1) = true:=beq_self_eq_true _
   have c3:(CE.1 != CE.1) = false:=by rw [bne,c2]; rfl
   have c4:(CE.2 == CE.2) = true:=beq_self_eq_true _
   have c5:(CE.2 != CE.2) = false:=by rw [bne,c4]; rfl
   clear hc hCE
   go_upto_region 17 with (first | ((with_reducible show wpList _ _ _ (⟨some 87,_,_,_,_,_⟩ :: _) _ _); refine wpList_ld rfl rfl rfl (lscr5) ?_) | (go_at_call 10; (with_reducible refine (HRB.out _ hY5.out).mono ?_); rintro e w6 ⟨rfl,hb6⟩) | ((with_reducible show wpList _ _ _ (⟨none,.store _ _ _,_,_,_,_⟩ :: _) _ _); refine wpList_st (n:=0) (g:=w6.heap.size) (cells:=zIm.cs) rfl rfl rfl rfl (at_new rfl) rfl (by kernel_rfl) (im_one zIm) ?_; intro Y6 e6 hU6) | fail)
   have hb7:=hU6.bel (hb6.al _) hb6.size'
   have HX7:=hd_ (HZ.out.trans (hY5.out.trans hb7))
   have HE7:=hd_ e6
   clear hb6 hb7 hU6 e6 lscr5
   go_wp2_with (first | (go_at_call 11; (with_reducible refine (HAW.out _ HX7.out).mono ?_); rintro e w9 ⟨rfl,hb9⟩; have HB9:=hd_ hb9; have l1:=img_ld (hb9.heap HE7.out); clear hb9) | ((with_reducible show wpList _ _ _ (⟨some 106,_,_,_,_,_⟩ :: _) _ _); refine wpList_ld rfl rfl rfl (l1) ?_) | (go_at_call 12; (with_reducible refine (HSM.out zIm zIm HI0.out _ (solid_zIn _) (solid_zIn _)).mono ?_); rintro e w10 ⟨rfl,hb10⟩) | fail)
   go_returns
   exact ⟨rfl,HX7.out.trans (HB9.out.trans hb10)⟩
  case pos =>
   obtain ⟨hck,hbits,hmx,hsrc,F',hV,hpos⟩:=HP.out.done hc
   have e2:(checkE s').2 = 0:=by rw [hck]
   rw [hc,e2]
   have HRO:=hd_ (fun (W:World) (hb:Bel Z W) => render_ok s' F' HP.out.sm hV hsrc hpos hmx hck W (HIN.out.bel hb) (named_bel HN.out (HZ.out.trans hb)) (ruled_bel HR.out (HZ.out.trans hb)))
   have HVV:=hd_ (And.intro hV (And.intro hsrc (And.intro hpos hmx)))
   have hMX:=hd_ (show ∀ W,Calls Tryz.prog 13 #[.int .i64 s'.bits] W fun e w' => e = .returned (.tuple #[.int .u16 s'.mx,.bool true]) ∧ W = w' from fun W => wmax_call s'.bits hbits W)
   have hsm:=HP.out.sm
   have hx1:IntKind.i64.wrap (s'.can.u - s'.can.x) = s'.can.u - s'.can.x:=wrap_i64 _ (by have:=hsm.w0; omega) (by have:=hsm.w1; omega)
   have hx2:IntKind.i64.wrap (s'.can.v - s'.can.y) = s'.can.v - s'.can.y:=wrap_i64 _ (by have:=hsm.h0; omega) (by have:=hsm.h1; omega)
   clear hc hck hbits hmx hsrc hV hpos e2 hsm
   go_upto_region 17 with (first | ((with_reducible show wpList _ _ _ (⟨some 87,_,_,_,_,_⟩ :: _) _ _); refine wpList_ld rfl rfl rfl (lscr5) ?_) | (go_at_call 10; (with_reducible refine (HRO.out _ hY5.out).mono ?_); rintro e w6 ⟨m,rfl,hm6,hb6⟩) | ((with_reducible show wpList _ _ _ (⟨none,.store _ _ _,_,_,_,_⟩ :: _) _ _); refine wpList_st (n:=0) (g:=w6.heap.size) (cells:=m.cs) rfl rfl rfl rfl (at_new rfl) rfl (by kernel_rfl) (im_one m) ?_; intro Y6 e6 hU6) | fail)
   have hb7:=hU6.bel (hb6.al _) hb6.size'
   have hm7:=hm6.bel (hU6.bel ((Bel.refl w6).al _) (Nat.le_refl _))
   have HX7:=hd_ (HZ.out.trans (hY5.out.trans hb7))
   have HE7:=hd_ (And.intro e6 ((hY5.out.trans hb7).heap HES.out))
   have hq1:(m.w == s'.can.u - s'.can.x) = true:=beq_iff_eq.2 hm7.ew
   have hq2:(m.h == s'.can.v - s'.can.y) = true:=beq_iff_eq.2 hm7.eh
   have HM7:=hd_ hm7
   have HVC:=hd_ (fun (W:World) (hi:m.In W) => io_valid HP.out.sm hm7 HVV.out.1 HVV.out.2.1 HVV.out.2.2.1 HVV.out.2.2.2 W hi)
   clear hb6 hb7 hU6 e6 lscr5 hm6 hm7
   go_wp2_with (first | (go_at_call 11; (with_reducible refine (HAW.out _ HX7.out).mono ?_); rintro e w9 ⟨rfl,hb9⟩; have HB9:=hd_ hb9; have l1:=img_ld (hb9.heap HE7.out.1); have M_0:=cq0 (hb9.heap HE7.out.1) rfl; have M_1:=cq1 (hb9.heap HE7.out.1) rfl; have S_0:=cq0 (hb9.heap HE7.out.2) rfl; have S_1:=cq1 (hb9.heap HE7.out.2) rfl; have S_2:=cq2 (hb9.heap HE7.out.2) rfl; have S_3:=cq3 (hb9.heap HE7.out.2) rfl; have S_4:=cq4 (hb9.heap HE7.out.2) rfl; clear hb9) | (go_at_call 13; (with_reducible refine (hMX.out _).mono ?_); rintro e w8 ⟨rfl,rfl⟩) | ((with_reducible show wpList _ _ _ (⟨some 138,_,_,_,_,_⟩ :: _) _ _); refine wpList_ldg (op:=⟨some 138,_,_,_,_,_⟩) (by rfl) rfl rfl (l1) ?_) | (go_at_call 14; (with_reducible refine (HVC.out _ ((im_In HP.out.sm HM7.out).bel HB9.out)).mono ?_); rintro e w10 ⟨rfl,hb10⟩) | fail)
   go_returns
   exact ⟨rfl,HX7.out.trans (HB9.out.trans hb10)⟩
end Go.Proofs.YtepfoelgegljbaaGreatDoor
