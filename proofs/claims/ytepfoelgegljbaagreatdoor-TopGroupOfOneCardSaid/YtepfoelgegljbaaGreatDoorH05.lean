/- Part H5. -/
import Derived.Test.YtepfoelgegljbaaGreatDoorA46
import Derived.Test.YtepfoelgegljbaaGreatDoorH04
namespace Go.Proofs.YtepfoelgegljbaaGreatDoor
set_option maxRecDepth 100000
open Go.RowKit
set_option linter.unusedVariables false
set_option linter.unusedSimpArgs false
theorem GrI.app {W0 W W':World} {T:Nat} {s:Scr} {A A':Option Addr} {p p' c c':Nat} {L L':List Opr} (h:GrI W0 W T s A p c L) (hg:W.grownBy W' (Value.ownBlock (.slice A p c))) (ho:W'.ownsRow W0.heap.size 29 12 (.slice A' p' c') p' (oprs L')) :
  W'.heap[T]? = some (.cells (s.wo A p c L).cs.toArray 38) ∧ GrI W0 (W'.setCell ⟨T,9,none⟩ (.slice A' p' c')) T s A' p' c' L':=by
 have e3:=grown_heap h.op h.eT (by decide) hg
 have hB:Bel W0 W':=h.hX.grown hg fun q hq => (h.op.lt q hq).1
 exact ⟨e3,hB.setCell h.tT _,heap_set _ e3,own_upd ho (setCells_upd T [.slice A' p' c'] 9 W') (own_ne_heap ho e3 (by decide)),h.tT⟩
set_option maxHeartbeats 16000000 in
theorem group_walk (d:SceneD) (at':Int) (kn:Bool) (w:World) (hd:d.In w) (hN:Named w) (hR:Ruled w):Calls Tryz.prog 6 #[d.v,.int .i64 at',.bool kn] w fun e w' => e = .returned (.bool true) ∧ Bel w w':=by
 obtain ⟨j0,ji,jz0,jz1,jz2⟩:=info_parts info_op
 have HGS:=hd_ (fun (W:World) (hb:Bel w W) => gscript_ex d W (hd.bel hb))
 have HM:=hd_ (fun (x k:Int) (h0:1 ≤ k) (h1:k ≤ 4611686018427387903) (W:World) => mod_call x k W h0 h1)
 have HAW:=hd_ (fun (W:World) (hb:Bel w W) => awake_call W (named_bel hN hb) (ruled_bel hR hb))
 have HSM:=hd_ (fun (m k:Img) (hk:ImEq m k) (W:World) (hm:m.In W) (hk':k.In W) => sameImage_call m k hk W hm hk')
 have HN:=hd_ hN
 have HR:=hd_ hR
 clear hd hN hR
 go_enter Tryz.func6,Tryz.ntmps6
 go_upto_region 1 with fail
 refine at_world (fun V => Bel w V ∧ V.heap[w.heap.size]? = some (.cells #[.int .i64 d.bits,.int .i64 d.x,.int .i64 d.y,.int .i64 d.w,.int .i64 d.h,.int .i64 d.tw,.int .i64 d.th,.slice d.oA d.on d.oc,.slice d.pA d.pn d.pc,.slice d.qA d.qn d.qc] 26)) ⟨(Bel.refl w).al _,at_new (by first | rfl | simp)⟩ ?_
 rintro V ⟨hX,eD⟩
 have Ds:=lt_of_heap eD
 have D_0:=cq0 eD rfl
 have fD:=frozA eD
 have lscn:=scn_ld eD
 go_upto_region 2 with (first | ((with_reducible show wpList _ _ _ (⟨some 22,_,_,_,_,_⟩ :: _) _ _); refine wpList_ld rfl rfl rfl (lscn) ?_) | (go_at_call 7; (with_reducible refine (HGS.out _ hX).mono ?_); rintro e w2 ⟨s,F,rfl,hG,hb2⟩) | ((with_reducible show wpList _ _ _ (⟨none,.store _ _ _,_,_,_,_⟩ :: _) _ _); refine wpList_st (n:=0) (g:=w2.heap.size) (cells:=s.cs) rfl rfl rfl rfl (at_new rfl) rfl (by kernel_rfl) (scr_one s) ?_; intro Y2 eS2 hU2) | fail)
 have hXY:=hX.trans (hU2.bel (hb2.al _) hb2.size')
 have hGY:=hG.bel (hU2.bel ((Bel.refl w2).al _) (Nat.le_refl _))
 refine at_world (fun Y => Bel w Y ∧ GScr Y V.heap.size s F ∧ Y.heap[w2.heap.size]? = some (oSc s)) ⟨hXY,hGY,eS2⟩ ?_
 clear lscn hX eD hG hb2 hU2 eS2 hXY hGY Ds D_0 fD
 rintro Y ⟨hX,hG,eS⟩
 obtain ⟨T1,hT1⟩:∃ T1,T1 = w2.heap.size:=⟨_,rfl⟩
 rw [← hT1] at eS
 rw [← hT1]
 clear hT1
 have hMX:=hd_ (show ∀ W,Calls Tryz.prog 13 #[.int .i64 s.bits] W fun e w' => e = .returned (.tuple #[.int .u16 s.mx,.bool true]) ∧ W = w' from fun W => wmax_call s.bits hG.fr.bt W)
 have S_0:=cq0 eS rfl
 have lscr:=scr_ld eS
 go_upto_region 3 with (first | (go_at_call 13; (with_reducible refine (hMX.out _).mono ?_); rintro e w3 ⟨rfl,rfl⟩) | fail)
 have lS:=lt_of_heap eS
 go_upto_region 4 with (first | ((with_reducible show wpList _ _ _ (⟨some 30,_,_,_,_,_⟩ :: _) _ _); refine wpList_ld rfl rfl rfl (lscr) ?_) | ((with_reducible show wpList _ _ _ (⟨none,.store _ _ _,_,_,_,_⟩ :: _) _ _); refine wpList_st (n:=0) (g:=Y.heap.size) (cells:=s.cs) rfl rfl rfl rfl (at_new rfl) rfl (by kernel_rfl) (scr_one s) ?_; intro Y3 eT3 hU3) | fail)
 have eS3:=hU3.heap (at_old eS) (by omega)
 have hXT:Bel Y Y3:=hU3.bel ((Bel.refl Y).al _) (Nat.le_refl _)
 have T_9:=cq9 eT3 rfl
 have fT:=frozA eT3
 have lT:=lt_of_heap eT3
 have HG:=hd_ hG
 have HX:=hd_ hX
 have HE3:=hd_ (And.intro eS3 (And.intro eT3 hXT))
 clear S_0 lscr hMX eS hG hX hU3 eT3 eS3 hXT
 go_upto_region 5 with fail
 refine at_world (fun Z => Z.heap[T1]? = some (oSc s) ∧ GrI Y Z Y.heap.size s none 0 0 []) ⟨heap_set_other _ (by omega) HE3.out.1,HE3.out.2.2.setCell (Nat.le_refl _) _,heap_set _ HE3.out.2.1,World.ownsRow_nil _ _ _ _,Nat.le_refl _⟩ ?_
 clear T_9 fT lT HE3
 rintro Z ⟨eS,I⟩
 obtain ⟨T2,hT2⟩:∃ T2,T2 = Y.heap.size:=⟨_,rfl⟩
 rw [← hT2] at I
 rw [← hT2]
 have hT12:T1 ≠ T2:=by omega
 clear hT2 lS
 have hpn:=HG.out.pn
 have S_9:=cq9 eS rfl
 have hw1:IntKind.i64.wrap ((s.pn:Int) + 1) = (s.pn:Int) + 1:=wrap_i64 _ (by omega) (by omega)
 go_upto_region 6 with (first | (go_at_call 8; (with_reducible refine (HM.out _ _ (by omega) (by omega) _).mono ?_); rintro e w4 ⟨rfl,rfl⟩) | fail)
 obtain ⟨k,hk⟩:∃ k:Nat,at' % ((s.pn:Int) + 1) = (k:Int):=by
  have:=Int.emod_nonneg at' (show (s.pn:Int) + 1 ≠ 0 by omega)
  exact ⟨(at' % ((s.pn:Int) + 1)).toNat,by omega⟩
 rw [hk]
 have HI:=hd_ (And.intro eS I)
 clear hk S_9 hw1 eS I
 go_wp2_with fail
 go_loopg [12] s.pn (fun gk s12 wr => ∃ (i p:Nat) (L:List Opr) (A:Option Addr) (c:Nat),i + gk = s.pn ∧ s12 = .int .i64 i ∧ L = repL s.mx kn (s.ops.take i) k ∧ L.length = p ∧ (p ≤ i + 2 ∧ (i ≤ k → p ≤ i)) ∧ wr.heap[T1]? = some (oSc s) ∧ GrI Y wr T2 s A p c L)
 case atStart => exact ⟨0,0,[],none,0,by omega,rfl,by rw [List.take_zero]; cases k <;> rfl,rfl,⟨by omega,fun _ => by omega⟩,HI.out.1,HI.out.2⟩
 case round =>
  obtain ⟨i,p,L,A,c,hgk,rfl,hL,hlp,⟨hp2,hp3⟩,eS,I⟩:=hrel
  clear HI
  have HL:=hd_ hL
  have HLP:=hd_ hlp
  have HI:=hd_ I
  have HES:=hd_ eS
  clear hL hlp I eS
  by_cases hlt:i < s.pn
  case neg =>
   have hin:=HG.out.In.bel HI.out.hX
   have hio:i = s.pn:=by omega
   have hLs:L = repL s.mx kn s.ops k:=by rw [HL.out,List.take_of_length_le (by rw [hin.lops]; omega)]
   have HRP:=hd_ (HG.out.rep kn k A p c L hLs HLP.out)
   have hd:decide ((i:Int) < (s.pn:Int)) = false:=decide_eq_false (by omega)
   have hd':decide (i < s.pn) = false:=decide_eq_false hlt
   have S_9:=cq9 HES.out rfl
   have HXW:=hd_ HX.out
   have HRE1:=hd_ (fun (W:World) (hb:Bel Y W) => render_ok s F HG.out.sm HG.out.vb HG.out.src HG.out.pos HG.out.mxc HG.out.chk W (HG.out.In.bel hb) (named_bel HN.out (HXW.out.trans hb)) (ruled_bel HR.out (HXW.out.trans hb)))
   have HRE2:=hd_ (show ∀ (W:World) (hb:Bel wr W),Calls Tryz.prog 10 #[(s.wo A p c L).v] W fun e w' => ∃ m:Img,e = .returned (.tuple #[m.v,.int .i64 0,.int .i64 0]) ∧ ImOf w' W.heap.size (s.can.u - s.can.x) (s.can.v - s.can.y) (s.img F) (s.ht * s.wd) m ∧ Bel W w' from fun W hb => by
    obtain ⟨r1,r2,r3,r4,r5,r6⟩:=HRP.out
    have hb0:=HI.out.hX.trans hb
    have hi:=HG.out.In.bel hb0
    have h:=render_ok (s.wo A p c L) (F.rep s.mx kn k) r1 r2 HG.out.src r4 HG.out.mxc r3 W ⟨hi.on,hi.inn,by show p ≤ 1000; omega,hi.ord,hi.ims,own_sl' (own_ext HI.out.op hb),hi.img⟩ (named_bel HN.out (HXW.out.trans hb0)) (ruled_bel HR.out (HXW.out.trans hb0))
    rw [r5] at h
    exact h)
   have HRR:=hd_ HG.out.sm
   clear hin hio hLs HRP
   go_upto_region 15 with fail
   clear hd hd' S_9
   have lscr:=scr_ld HES.out
   have hXs:=HI.out.hX
   go_upto_region 16 with (first | ((with_reducible show wpList _ _ _ (⟨some 95,_,_,_,_,_⟩ :: _) _ _); refine wpList_ld rfl rfl rfl (lscr) ?_) | (go_at_call 10; (with_reducible refine (HRE1.out _ hXs).mono ?_); rintro e w5 ⟨m,rfl,hm5,hb5⟩) | ((with_reducible show wpList _ _ _ (⟨none,.store _ _ _,_,_,_,_⟩ :: _) _ _); refine wpList_st (n:=0) (g:=w5.heap.size) (cells:=m.cs) rfl rfl rfl rfl (at_new rfl) rfl (by kernel_rfl) (im_one m) ?_; intro Y6 e6 hU6) | fail)
   have hb6:=hU6.bel (hb5.al _) hb5.size'
   have hm6:=hm5.bel (hU6.bel ((Bel.refl w5).al _) (Nat.le_refl _))
   have hXr:=HXW.out.trans (hXs.trans hb6)
   have ltscr:=scr_ld (hb6.heap HI.out.eT)
   have HM6:=hd_ (And.intro hm6 (And.intro hb6 e6))
   have lM6:=lt_of_heap e6
   clear lscr hm5 hm6 hU6 e6 hb5
   go_upto_region 17 with (first | ((with_reducible show wpList _ _ _ (⟨some 101,_,_,_,_,_⟩ :: _) _ _); refine wpList_ld rfl rfl rfl (ltscr) ?_) | (go_at_call 10; (with_reducible refine (HRE2.out _ hb6).mono ?_); rintro e w7 ⟨m2,rfl,hm7,hb7⟩) | ((with_reducible show wpList _ _ _ (⟨none,.store _ _ _,_,_,_,_⟩ :: _) _ _); refine wpList_st (n:=0) (g:=w7.heap.size) (cells:=m2.cs) rfl rfl rfl rfl (at_new rfl) rfl (by kernel_rfl) (im_one m2) ?_; intro Y8 e8 hU8) | fail)
   have hb8:=hU8.bel (hb7.al _) hb7.size'
   have hm8:=hm7.bel (hU8.bel ((Bel.refl w7).al _) (Nat.le_refl _))
   have e68:=hb8.heap HM6.out.2.2
   have HM8:=hd_ (And.intro hm8 (HM6.out.1.bel hb8))
   have hX8:=hXr.trans hb8
   have hEQ:=hd_ (HM6.out.1.eqv hm8)
   clear ltscr hm7 hm8 hU8 hb7 hb8 lM6 HM6 hb6 hXr hXs
   have HE8:=hd_ (And.intro e68 e8)
   clear e68 e8
   have HHX:=hd_ hX8
   clear hX8
   go_wp2_with (first | (go_at_call 11; (with_reducible refine (HAW.out _ HHX.out).mono ?_); rintro e w9 ⟨rfl,hb9⟩; have HB9:=hd_ hb9; have l1:=img_ld (hb9.heap HE8.out.1); have l2:=img_ld (hb9.heap HE8.out.2); clear hb9) | ((with_reducible show wpList _ _ _ (⟨some 116,_,_,_,_,_⟩ :: _) _ _); refine wpList_ldg (op:=⟨some 116,_,_,_,_,_⟩) (by rfl) rfl rfl (l1) ?_) | ((with_reducible show wpList _ _ _ (⟨some 117,_,_,_,_,_⟩ :: _) _ _); refine wpList_ldg (op:=⟨some 117,_,_,_,_,_⟩) (by rfl) rfl rfl (l2) ?_) | (go_at_call 12; (with_reducible refine (HSM.out _ _ hEQ.out _ ((im_In HRR.out HM8.out.2).bel HB9.out) ((im_In HRR.out HM8.out.1).bel HB9.out)).mono ?_); rintro e w10 ⟨rfl,hb10⟩) | fail)
   go_returns
   exact ⟨rfl,HHX.out.trans (HB9.out.trans hb10)⟩
  case pos =>
   have hd:decide ((i:Int) < (s.pn:Int)) = true:=decide_eq_true (by omega)
   have hd':decide (i < s.pn) = true:=decide_eq_true hlt
   have hin:=HG.out.In.bel HI.out.hX
   obtain ⟨o,ho⟩:∃ o,s.ops[i]? = some o:=⟨s.ops[i]'(by rw [hin.lops]; exact hlt),List.getElem?_eq_getElem _⟩
   obtain ⟨g,off,eA,lg,hLD⟩:=hin.ops.opld ho hlt
   have S_9:wr.cell? ⟨T1,9,none⟩ = some (.slice (some ⟨g,off,none⟩) s.pn s.pc):=by rw [← eA]; exact cq9 HES.out rfl
   have hld:=hLD _ (Bel.refl wr)
   have HO:=hd_ (show repL s.mx kn (s.ops.take (i + 1)) k = L ++ (if i = k ∧ o.k = 1 then [gOf kn o,dOf s.mx o,popO] else [o]) by
    rw [take_snoc ho,repL_snoc,← HL.out,List.length_take,hin.lops,Nat.min_eq_left (Nat.le_of_lt hlt)])
   clear hin ho eA hLD
   go_upto_region 10 with (first | ((with_reducible show wpList _ _ _ (⟨some 49,_,_,_,_,_⟩ :: _) _ _); refine wpList_ld rfl rfl rfl (hld) ?_) | fail)
   refine at_world (fun Q => Q.heap[T1]? = some (oSc s) ∧ GrI Y Q T2 s A p c L ∧ Q.heap[wr.heap.size]? = some (oOp o)) ⟨at_old HES.out,HI.out.bel ((Bel.refl wr).al _),at_new (by first | rfl | simp)⟩ ?_
   have hlw:=lt_of_heap HES.out
   have hlw2:=lt_of_heap HI.out.eT
   clear hd hd' S_9 hld HES HI
   rintro Q ⟨eS,I,eO⟩
   have HES:=hd_ eS
   have HI:=hd_ I
   have HEO:=hd_ eO
   have hbs:=I.hX.size'
   clear eS I eO
   obtain ⟨kb,hkb⟩:∃ kb:Bool,kb = !(decide (i = k) && decide (o.k = 1)):=⟨_,rfl⟩
   have HKB:=hd_ hkb
   clear hkb
   go_cut [57] (fun s57 Z => s57 = .bool kb ∧ Z = Q)
   case first =>
    have O_0:=cq0 HEO.out rfl
    by_cases hik:i = k
    ·have e1:(i == k) = true:=beq_iff_eq.2 hik
     have e2:(i != k) = false:=by rw [bne,e1]; rfl
     have e3:((i:Int) == (k:Int)) = true:=beq_iff_eq.2 (by omega)
     have e4:((i:Int) != (k:Int)) = false:=by rw [bne,e3]; rfl
     by_cases ho1:o.k = 1
     ·have e5:(o.k == 1) = true:=beq_iff_eq.2 ho1
      have e6:(o.k != 1) = false:=by rw [bne,e5]; rfl
      obtain rfl:kb = false:=by rw [HKB.out,decide_eq_true hik,decide_eq_true ho1]; rfl
      clear hik ho1
      go_wp2_with fail
      go_meet
      exact ⟨rfl,rfl⟩
     ·have e5:(o.k == 1) = false:=beq_eq_false_iff_ne.2 ho1
      have e6:(o.k != 1) = true:=by rw [bne,e5]; rfl
      obtain rfl:kb = true:=by rw [HKB.out,decide_eq_false ho1,Bool.and_false]; rfl
      clear hik ho1
      go_wp2_with fail
      go_meet
      exact ⟨rfl,rfl⟩
    ·have e1:(i == k) = false:=beq_eq_false_iff_ne.2 hik
     have e2:(i != k) = true:=by rw [bne,e1]; rfl
     have e3:((i:Int) == (k:Int)) = false:=beq_eq_false_iff_ne.2 (by omega)
     have e4:((i:Int) != (k:Int)) = true:=by rw [bne,e3]; rfl
     obtain rfl:kb = true:=by rw [HKB.out,decide_eq_false hik]; rfl
     clear hik
     go_wp2_with fail
     go_meet
     exact ⟨rfl,rfl⟩
   case rest =>
    obtain ⟨rfl,hZ⟩:=hcut
    subst hZ
    obtain ⟨Q,rfl⟩:∃ W:World,W = wc:=⟨_,rfl⟩
    have T_9:=cq9 HI.out.eT rfl
    have fT:=frozA HI.out.eT
    have lT:=lt_of_heap HI.out.eT
    cases kb with
    | true =>
     have lopr:=opr_ld HEO.out
     have hpc:p + 1 ≤ maxLen:=by unfold maxLen; omega
     have hpd:(p + 1) * 88 ≤ 140737488355328:=by omega
     go_upto_region 8 with (first | ((with_reducible show wpList _ _ _ (⟨some 60,_,_,_,_,_⟩ :: _) _ _); refine wpList_ld rfl rfl rfl (lopr) ?_) | (at_builtin; refine wpList_append_own _ rfl _ _ 36 rfl Y.heap.size 29 j0 (.agg #[.int .i64 0,.int .i64 0,.int .i64 0,.int .i64 0,.int .i64 0,.int .i64 0,.int .i64 0,.int .u16 0,.int .i64 0,.int .i64 0,.bool false,.bool false]) 12 88 Tryz.underlying36 ji jz0 jz1 jz2 rfl (by decide) _ _ _ rfl (own_ext HI.out.op ((Bel.refl Q).al _)) ⟨Q.heap.size,0,none⟩ 1 1 o.cs rfl rfl (new_row Q o.cs _) (op_one o) hpc hpd (Nat.le_trans hbs ((Bel.refl Q).al _).size') ?_) | fail)
     intro v3 W3 hown3 hgr3 _
     obtain ⟨A3,c3,rfl,-⟩:=own_sl hown3
     have hne:¬ (i = k ∧ o.k = 1):=fun e => by
      have h:=HKB.out
      rw [decide_eq_true e.1,decide_eq_true e.2] at h
      cases h
     obtain ⟨e3,I3⟩:=(HI.out.bel ((Bel.refl Q).al (.cells o.cs.toArray 29))).app (L':=L ++ [o]) hgr3 (by rw [oprs_snoc]; exact hown3)
     have eS3:=grown_heap (own_ext HI.out.op ((Bel.refl Q).al (.cells o.cs.toArray 29))) (at_old HES.out) (by decide) hgr3
     have H3:=hd_ (And.intro eS3 I3)
     clear T_9 fT lT lopr hpc hpd hown3 hgr3 I3 eS3
     have T_9:=cq9 e3 rfl
     have fT:=frozA e3
     have lT:=lt_of_heap e3
     clear e3
     go_wp2_with fail
     go_roundg (gk - 1)
     case measure => omega
     case rel => exact ⟨i + 1,p + 1,L ++ [o],A3,c3,by omega,by go_num,by rw [HO.out,if_neg hne],by rw [List.length_append,HLP.out]; rfl,⟨by omega,fun h => by have:=hp3 (by omega); omega⟩,heap_set_other _ (fun e => hT12 e.symm) H3.out.1,H3.out.2⟩
    | false =>
     have heq:i = k ∧ o.k = 1:=by
      have h:=HKB.out
      rw [Bool.false_eq,Bool.not_eq_false',Bool.and_eq_true,decide_eq_true_eq,decide_eq_true_eq] at h
      exact h
     have HEQ:=hd_ heq
     clear heq
     have O_1:=cq1 HEO.out rfl
     have O_2:=cq2 HEO.out rfl
     have O_3:=cq3 HEO.out rfl
     have O_4:=cq4 HEO.out rfl
     have O_5:=cq5 HEO.out rfl
     have O_6:=cq6 HEO.out rfl
     have O_7:=cq7 HEO.out rfl
     have O_8:=cq8 HEO.out rfl
     have O_9:=cq9 HEO.out rfl
     have Os:=lt_of_heap HEO.out
     go_upto_region 14 with fail
     refine at_world (fun Z => Bel Q Z ∧ Z.heap[Q.heap.size]? = some (.cells (gOf kn o).cs.toArray 29) ∧ Z.heap[Q.heap.size + 1]? = some (.cells (dOf s.mx o).cs.toArray 29)) ⟨((Bel.refl Q).al _).al _,at_old (at_new (by first | rfl | simp [gOf])),at_new (by first | rfl | simp [dOf])⟩ ?_
     clear O_1 O_2 O_3 O_4 O_5 O_6 O_7 O_8 O_9 Os T_9 fT lT
     rintro U ⟨hQU,eG,eDD⟩
     have lgg:=opr_ld eG
     have ldd:=opr_ld eDD
     have I2:=HI.out.bel hQU
     have T_9:=cq9 I2.eT rfl
     have fT:=frozA I2.eT
     have lT:=lt_of_heap I2.eT
     have HI2:=hd_ I2
     have hbs:=I2.hX.size'
     have HS2:=hd_ (hQU.heap HES.out)
     clear eG eDD hQU I2
     obtain ⟨news,hnews⟩:∃ news,news = [gOf kn o,dOf s.mx o,popO]:=⟨_,rfl⟩
     have hpc:p + 3 ≤ maxLen:=by unfold maxLen; omega
     have hpd:(p + 3) * 88 ≤ 140737488355328:=by omega
     go_upto_region 8 with (first | ((with_reducible show wpList _ _ _ (⟨some 88,_,_,_,_,_⟩ :: _) _ _); refine wpList_ld rfl rfl rfl (lgg) ?_) | ((with_reducible show wpList _ _ _ (⟨some 89,_,_,_,_,_⟩ :: _) _ _); refine wpList_ld rfl rfl rfl (ldd) ?_) | (at_builtin; refine wpList_append_own _ rfl _ _ 36 rfl Y.heap.size 29 j0 (.agg #[.int .i64 0,.int .i64 0,.int .i64 0,.int .i64 0,.int .i64 0,.int .i64 0,.int .i64 0,.int .u16 0,.int .i64 0,.int .i64 0,.bool false,.bool false]) 12 88 Tryz.underlying36 ji jz0 jz1 jz2 rfl (by decide) _ _ _ rfl (own_ext HI2.out.op ((Bel.refl U).al _)) ⟨U.heap.size,0,none⟩ 3 3 (oprs [gOf kn o,dOf s.mx o,popO]) rfl rfl (new_row U (oprs [gOf kn o,dOf s.mx o,popO]) _) (oprs_one _) hpc hpd (Nat.le_trans hbs ((Bel.refl U).al _).size') ?_) | fail)
     intro v3 W3 hown3 hgr3 _
     obtain ⟨A3,c3,rfl,-⟩:=own_sl hown3
     have hap:oprs (L ++ [gOf kn o,dOf s.mx o,popO]) = oprs L ++ oprs [gOf kn o,dOf s.mx o,popO]:=by unfold oprs; rw [List.flatMap_append]
     obtain ⟨e3,I3⟩:=(HI2.out.bel ((Bel.refl U).al (.cells (oprs [gOf kn o,dOf s.mx o,popO]).toArray 29))).app (L':=L ++ [gOf kn o,dOf s.mx o,popO]) hgr3 (by rw [hap]; exact hown3)
     have eS3:=grown_heap (own_ext HI2.out.op ((Bel.refl U).al (.cells (oprs [gOf kn o,dOf s.mx o,popO]).toArray 29))) (at_old HS2.out) (by decide) hgr3
     have H3:=hd_ (And.intro eS3 I3)
     clear T_9 fT lT lgg ldd hpc hpd hown3 hgr3 I3 eS3 hap hnews
     have T_9:=cq9 e3 rfl
     have fT:=frozA e3
     have lT:=lt_of_heap e3
     clear e3
     go_wp2_with fail
     go_roundg (gk - 1)
     case measure => omega
     case rel =>
      have hlk:=HEQ.out
      refine ⟨i + 1,p + 3,L ++ [gOf kn o,dOf s.mx o,popO],A3,c3,by omega,by go_num,by rw [HO.out,if_pos hlk],by rw [List.length_append,HLP.out]; rfl,⟨by have:=hp3 (by omega); omega,fun h => by omega⟩,heap_set_other _ (fun e => hT12 e.symm) H3.out.1,H3.out.2⟩
end Go.Proofs.YtepfoelgegljbaaGreatDoor
