/- Part M5. -/
import Derived.Laws.AppendOwnNone
import Derived.Test.YtepfoelgegljbaaGreatDoorA46
import Derived.Test.YtepfoelgegljbaaGreatDoorM04
namespace Go.Proofs.YtepfoelgegljbaaGreatDoor
set_option maxRecDepth 100000
open Go.RowKit
set_option linter.unusedVariables false
set_option linter.unusedSimpArgs false
def mvL (u v:Int) (l:List Opr) (i:Nat):List Opr:=(l.take i).map (Opr.tr u v) ++ l.drop i
theorem mvL_get {u v:Int} {l:List Opr} {i:Nat} {o:Opr} (h:l[i]? = some o):(mvL u v l i)[i]? = some o:=by
 have hi:=(List.getElem?_eq_some_iff.1 h).1
 unfold mvL
 rw [List.getElem?_append_right (by rw [List.length_map,List.length_take]; omega),List.length_map,List.length_take,Nat.min_eq_left (Nat.le_of_lt hi),Nat.sub_self,List.getElem?_drop]
 exact h
theorem mvL_set {u v:Int} {l:List Opr} {i:Nat} {o:Opr} (h:l[i]? = some o):(mvL u v l i).set i (o.tr u v) = mvL u v l (i + 1):=by
 have hi:=(List.getElem?_eq_some_iff.1 h).1
 have hl:((l.take i).map (Opr.tr u v)).length = i:=by rw [List.length_map,List.length_take]; omega
 unfold mvL
 rw [take_snoc h,List.map_append,List.set_append_right _ _ (by omega),hl,Nat.sub_self,drop_at h]
 simp
theorem mvL_all (u v:Int) (l:List Opr) (i:Nat) (h:l.length ≤ i):mvL u v l i = l.map (Opr.tr u v):=by
 unfold mvL
 rw [List.take_of_length_le h,List.drop_eq_nil_of_le h,List.append_nil]
theorem GrI.upd {W0 W W':World} {T g:Nat} {s:Scr} {A:Option Addr} {p c:Nat} {L:List Opr} {cs:Array Value} (h:GrI W0 W T s A p c L) (hu:Upd g W W') (hg:W0.heap.size ≤ g) (hgT:T ≠ g) (hb:Value.ownBlock (.slice A p c) ≠ some g):GrI W0 W' T s A p c L :=
 ⟨hu.bel h.hX hg,hu.heap h.eT hgT,own_upd h.op hu hb,h.tT⟩
set_option maxHeartbeats 16000000 in
theorem move_walk (d:SceneD) (dx dy:Int) (w:World) (hd:d.In w) (hN:Named w) (hR:Ruled w):Calls Tryz.prog 5 #[d.v,.int .i64 dx,.int .i64 dy] w fun e w' => e = .returned (.bool true) ∧ Bel w w':=by
 obtain ⟨j0,ji,jz0,jz1,jz2⟩:=info_parts info_op
 have HGS:=hd_ (fun (W:World) (hb:Bel w W) => gscript_ex d W (hd.bel hb))
 have HM:=hd_ (fun (x k:Int) (h0:1 ≤ k) (h1:k ≤ 4611686018427387903) (W:World) => mod_call x k W h0 h1)
 have HAW:=hd_ (fun (W:World) (hb:Bel w W) => awake_call W (named_bel hN hb) (ruled_bel hR hb))
 have HSM:=hd_ (fun (m k:Img) (hk:ImEq m k) (W:World) (hm:m.In W) (hk':k.In W) => sameImage_call m k hk W hm hk')
 have HN:=hd_ hN
 have HR:=hd_ hR
 clear hd hN hR
 go_enter Tryz.func5,Tryz.ntmps5
 go_upto_region 1 with fail
 refine at_world (fun V => Bel w V ∧ V.heap[w.heap.size]? = some (.cells #[.int .i64 d.bits,.int .i64 d.x,.int .i64 d.y,.int .i64 d.w,.int .i64 d.h,.int .i64 d.tw,.int .i64 d.th,.slice d.oA d.on d.oc,.slice d.pA d.pn d.pc,.slice d.qA d.qn d.qc] 26)) ⟨(Bel.refl w).al _,at_new (by first | rfl | simp)⟩ ?_
 rintro V ⟨hX,eD⟩
 have Ds:=lt_of_heap eD
 have D_0:=cq0 eD rfl
 have fD:=frozA eD
 have lscn:=scn_ld eD
 go_upto_region 2 with (first | ((with_reducible show wpList _ _ _ (⟨some 20,_,_,_,_,_⟩ :: _) _ _); refine wpList_ld rfl rfl rfl (lscn) ?_) | (go_at_call 7; (with_reducible refine (HGS.out _ hX).mono ?_); rintro e w2 ⟨s,F,rfl,hG,hb2⟩) | ((with_reducible show wpList _ _ _ (⟨none,.store _ _ _,_,_,_,_⟩ :: _) _ _); refine wpList_st (n:=0) (g:=w2.heap.size) (cells:=s.cs) rfl rfl rfl rfl (at_new rfl) rfl (by kernel_rfl) (scr_one s) ?_; intro Y2 eS2 hU2) | fail)
 have hXY:=hX.trans (hU2.bel (hb2.al _) hb2.size')
 have hGY:=hG.bel (hU2.bel ((Bel.refl w2).al _) (Nat.le_refl _))
 refine at_world (fun Y => Bel w Y ∧ GScr Y V.heap.size s F ∧ Y.heap[w2.heap.size]? = some (oSc s)) ⟨hXY,hGY,eS2⟩ ?_
 clear lscn hX eD hG hb2 hU2 eS2 hXY hGY Ds D_0 fD
 rintro Y ⟨hX,hG,eS⟩
 obtain ⟨T1,hT1⟩:∃ T1,T1 = w2.heap.size:=⟨_,rfl⟩
 rw [← hT1] at eS
 rw [← hT1]
 clear hT1
 have HG:=hd_ hG
 have HX:=hd_ hX
 clear hG hX
 have b1:=Int.emod_nonneg dx (show (2097073:Int) ≠ 0 by decide)
 have b2:=Int.emod_lt_of_pos dx (show (0:Int) < 2097073 by decide)
 have b3:=Int.emod_nonneg dy (show (2097073:Int) ≠ 0 by decide)
 have b4:=Int.emod_lt_of_pos dy (show (0:Int) < 2097073 by decide)
 go_upto_region 4 with (first | (go_at_call 8; (with_reducible refine (HM.out _ _ (by omega) (by omega) _).mono ?_); rintro e w4 ⟨rfl,rfl⟩) | fail)
 obtain ⟨u,hu⟩:∃ u,u = dx % 2097073 - 1048536:=⟨_,rfl⟩
 obtain ⟨v,hv⟩:∃ v,v = dy % 2097073 - 1048536:=⟨_,rfl⟩
 have hu2:-1048536 ≤ u ∧ u ≤ 1048536:=by omega
 have hv2:-1048536 ≤ v ∧ v ≤ 1048536:=by omega
 rw [← hu,← hv]
 clear b1 b2 b3 b4 hu hv
 have hf:=HG.out.fr
 have hcl:s.can.ti:=⟨by have:=hf.x0; omega,hf.u0,by have:=hf.x1; have:=hf.u1; omega,by have:=hf.y0; omega,hf.v0,by have:=hf.y1; have:=hf.v1; omega⟩
 have hct:(⟨s.can.x + u,s.can.y + v,s.can.u + u,s.can.v + v⟩:Rc).ti:=⟨by have:=hcl.x0; have:=hf.x0; show -4194304 ≤ s.can.x + u; omega,by have:=hcl.x1; show s.can.x + u < s.can.u + u; omega,by have:=hf.x1; have:=hf.u1; show s.can.u + u ≤ 4194304; omega,by have:=hf.y0; show -4194304 ≤ s.can.y + v; omega,by have:=hcl.y1; show s.can.y + v < s.can.v + v; omega,by have:=hf.y1; have:=hf.v1; show s.can.v + v ≤ 4194304; omega⟩
 have HTR:=hd_ (fun W => wtrans_call s.can hcl u v (by omega) (by omega) (by omega) (by omega) hct W)
 clear hf hcl hct
 have lscr:=scr_ld eS
 have lS:=lt_of_heap eS
 go_upto_region 5 with (first | ((with_reducible show wpList _ _ _ (⟨some 36,_,_,_,_,_⟩ :: _) _ _); refine wpList_ld rfl rfl rfl (lscr) ?_) | ((with_reducible show wpList _ _ _ (⟨none,.store _ _ _,_,_,_,_⟩ :: _) _ _); refine wpList_st (n:=0) (g:=Y.heap.size) (cells:=s.cs) rfl rfl rfl rfl (at_new rfl) rfl (by kernel_rfl) (scr_one s) ?_; intro Y3 eT3 hU3) | fail)
 have eS3:=hU3.heap (at_old eS) (by omega)
 have hXT:Bel Y Y3:=hU3.bel ((Bel.refl Y).al _) (Nat.le_refl _)
 clear lscr eS hU3
 obtain ⟨T2,hT2⟩:∃ T2,T2 = Y.heap.size:=⟨_,rfl⟩
 rw [← hT2] at eT3
 rw [← hT2]
 have hT12:T1 ≠ T2:=by omega
 have hT20:Y.heap.size ≤ T2:=by omega
 clear hT2
 have lcan:=can_ld eS3
 go_upto_region 6 with (first | ((with_reducible show wpList _ _ _ (⟨some 38,_,_,_,_,_⟩ :: _) _ _); refine wpList_ld rfl rfl rfl (lcan) ?_) | (go_at_call 21; (with_reducible refine (HTR.out _).mono ?_); rintro e w5 ⟨rfl,hb5⟩; replace eS3:=hb5.heap eS3; replace eT3:=hb5.heap eT3; replace hXT:=hXT.trans hb5; clear lcan) | ((with_reducible show wpList _ _ _ (⟨none,.store _ _ _,_,_,_,_⟩ :: _) _ _); refine wpList_stp (g:=T2) (o:=1) [.int .i64 s.bits] [.int .i64 s.can.x,.int .i64 s.can.y,.int .i64 s.can.u,.int .i64 s.can.v] [.int .i64 s.tw,.int .i64 s.th,.slice s.oA s.on s.oc,.slice s.iA s.inn s.ic,.slice s.pA s.pn s.pc] (⟨s.can.x + u,s.can.y + v,s.can.u + u,s.can.v + v⟩:Rc).cs rfl rfl rfl rfl eT3 rfl rfl (by kernel_rfl) (rc_one _) ?_; intro Y5 eT5 hU5) | fail)
 have eS5:=hU5.heap eS3 hT12
 have hX5:=hU5.bel hXT hT20
 have HE5:=hd_ (And.intro eS5 (And.intro eT5 hX5))
 clear eS3 eT3 hXT hb5 hU5 eS5 eT5 hX5
 obtain ⟨V6,rfl⟩:∃ W:World,W = Y5:=⟨_,rfl⟩
 simp only [Act.put]
 go_cut [] (fun Z => Z.heap[T1]? = some (oSc s) ∧ ∃ (A:Option Addr) (c:Nat),GrI Y Z T2 (s.mv u v none 0 0 []) A s.pn c s.ops)
 case first =>
  have S_9:=cq9 HE5.out.1 rfl
  have lT:=lt_of_heap HE5.out.2.1
  have hpn:=HG.out.pn
  have hown:=own_ext HG.out.op HE5.out.2.2
  have hbs:=HE5.out.2.2.size'
  rcases hown.2 with ⟨hv,hn0⟩ | ⟨g,cap,cur,hv,hgb,hgg,hnc,hcm,hcs,htk⟩
  ·have T_9:=cq9 HE5.out.2.1 (show _ = some (Value.slice s.pA s.pn s.pc) from rfl)
   have fT:=frozA HE5.out.2.1
   simp only [Value.slice.injEq] at hv
   obtain ⟨v1,v2,v3⟩:=hv
   rw [v1,v2,v3] at S_9
   clear hown hn0
   have HV:=hd_ (And.intro v1 (And.intro v2 v3))
   clear v1 v2 v3
   go_wp2_with (first | (at_builtin; refine wpList_append_own_none rfl _ _ 36 rfl Y.heap.size 29 j0 12 Tryz.underlying36 ji (.slice none 0 0) 0 [] rfl (World.ownsRow_nil _ _ _ _) rfl ?_) | fail)
   go_meet
   obtain ⟨v1,v2,v3⟩:=HV.out
   have hops:s.ops = []:=List.length_eq_zero_iff.1 (by rw [HG.out.In.lops]; exact v2)
   refine ⟨heap_set_other _ (fun e => hT12 e.symm) HE5.out.1,none,0,⟨HE5.out.2.2.setCell hT20 _,?_,?_,hT20⟩⟩
   ·rw [v2,hops]
    exact heap_set _ HE5.out.2.1
   ·rw [v2,hops]
    exact World.ownsRow_nil _ _ _ _
  ·have hv':=hv
   simp only [Value.slice.injEq,true_and] at hv
   obtain ⟨v1,v2⟩:=hv
   have hpr:∀ j x,(oprs s.ops)[j]? = some x → V6.cell? ((⟨g,0,none⟩:Addr).add j) = some x:=World.ownsRow.cells (own_ext HG.out.op HE5.out.2.2) (g:=g) (by rw [v1]; rfl)
   have hol:(oprs s.ops).length = s.pn * 12:=hown.1
   have hpc:0 + s.pn ≤ maxLen:=by unfold maxLen; omega
   have hpd:(0 + s.pn) * 88 ≤ 140737488355328:=by omega
   rw [v1] at S_9
   have HP:=hd_ hpr
   have HOL:=hd_ hol
   clear hown hgb hgg hnc hcm hcs htk hv' hpr hol v1 v2
   go_upto_region 7 with (first | (at_builtin; refine wpList_append_own _ rfl _ _ 36 rfl Y.heap.size 29 j0 (.agg #[.int .i64 0,.int .i64 0,.int .i64 0,.int .i64 0,.int .i64 0,.int .i64 0,.int .i64 0,.int .u16 0,.int .i64 0,.int .i64 0,.bool false,.bool false]) 12 88 Tryz.underlying36 ji jz0 jz1 jz2 rfl (by decide) (.slice none 0 0) 0 [] rfl (World.ownsRow_nil _ _ _ _) ⟨g,0,none⟩ s.pn _ (oprs s.ops) rfl HOL.out HP.out (oprs_one _) hpc hpd hbs ?_) | fail)
   intro v6 W6 hown6 hgr6 _
   obtain ⟨A6,c6,rfl,-⟩:=own_sl hown6
   have hB6:Bel V6 W6:=(Bel.refl V6).grown hgr6 (fun q h => absurd h (by simp [Value.ownBlock]))
   have eT6:=hB6.heap HE5.out.2.1
   have T_9:=cq9 eT6 (show _ = some (Value.slice s.pA s.pn s.pc) from rfl)
   have fT:=frozA eT6
   have lT:=lt_of_heap eT6
   have H6:=hd_ (And.intro hB6 (And.intro eT6 hown6))
   clear S_9 hpc hpd hown6 hgr6 hB6 eT6
   go_wp2_with fail
   go_meet
   have hb:=HE5.out.2.2.trans H6.out.1
   exact ⟨heap_set_other _ (fun e => hT12 e.symm) (H6.out.1.heap HE5.out.1),A6,c6,hb.setCell hT20 _,heap_set _ H6.out.2.1,own_upd H6.out.2.2 (setCells_upd T2 [.slice A6 s.pn c6] 9 W6) (own_ne_heap H6.out.2.2 H6.out.2.1 (by decide)),hT20⟩
 case rest =>
  obtain ⟨eS,A,c,I⟩:=hcut
  have HI:=hd_ (And.intro eS I)
  clear eS I HE5 HTR
  have hpn:=HG.out.pn
  go_wp2_with fail
  go_loopg [12] s.pn (fun gk s12 wr => ∃ i:Nat,i + gk = s.pn ∧ s12 = .int .i64 i ∧ wr.heap[T1]? = some (oSc s) ∧ GrI Y wr T2 (s.mv u v none 0 0 []) A s.pn c (mvL u v s.ops i))
  case atStart => exact ⟨0,by omega,rfl,HI.out.1,by rw [show mvL u v s.ops 0 = s.ops by simp [mvL]]; exact HI.out.2⟩
  case round =>
   obtain ⟨i,hgk,rfl,eS,I⟩:=hrel
   clear HI
   have HI:=hd_ I
   have HES:=hd_ eS
   clear I eS
   by_cases hlt:i < s.pn
   case neg =>
    have hin:=HG.out.In.bel HI.out.hX
    have hio:i = s.pn:=by omega
    have hLs:mvL u v s.ops i = s.ops.map (Opr.tr u v):=mvL_all u v s.ops i (by rw [hin.lops]; omega)
    have HRP:=hd_ (HG.out.moved hu2 hv2 A c)
    have hd:decide ((i:Int) < (s.pn:Int)) = false:=decide_eq_false (by omega)
    have hd':decide (i < s.pn) = false:=decide_eq_false hlt
    have T_9:=cq9 HI.out.eT rfl
    have HXW:=hd_ HX.out
    have HRE1:=hd_ (fun (W:World) (hb:Bel Y W) => render_ok s F HG.out.sm HG.out.vb HG.out.src HG.out.pos HG.out.mxc HG.out.chk W (HG.out.In.bel hb) (named_bel HN.out (HXW.out.trans hb)) (ruled_bel HR.out (HXW.out.trans hb)))
    have HRE2:=hd_ (show ∀ (W:World) (hb:Bel wr W),Calls Tryz.prog 10 #[(s.mv u v A s.pn c (s.ops.map (Opr.tr u v))).v] W fun e w' => ∃ m:Img,e = .returned (.tuple #[m.v,.int .i64 0,.int .i64 0]) ∧ ImOf w' W.heap.size (s.can.u - s.can.x) (s.can.v - s.can.y) (s.img F) (s.ht * s.wd) m ∧ Bel W w' from fun W hb => by
     obtain ⟨r1,r2,r3,r4,r5⟩:=HRP.out
     have hb0:=HI.out.hX.trans hb
     have hi:=HG.out.In.bel hb0
     have h:=render_ok (s.mv u v A s.pn c (s.ops.map (Opr.tr u v))) (F.tr u v) r1 r2 HG.out.src r4 HG.out.mxc r3 W ⟨hi.on,hi.inn,by show s.pn ≤ 1000; omega,hi.ord,hi.ims,by rw [← hLs]; exact own_sl' (own_ext HI.out.op hb),hi.img⟩ (named_bel HN.out (HXW.out.trans hb0)) (ruled_bel HR.out (HXW.out.trans hb0))
     rw [r5] at h
     have e1:s.can.u + u - (s.can.x + u) = s.can.u - s.can.x:=by omega
     have e2:s.can.v + v - (s.can.y + v) = s.can.v - s.can.y:=by omega
     have e3:(s.mv u v A s.pn c (s.ops.map (Opr.tr u v))).ht * (s.mv u v A s.pn c (s.ops.map (Opr.tr u v))).wd = s.ht * s.wd:=by
      show (s.can.v + v - (s.can.y + v)).toNat * (s.can.u + u - (s.can.x + u)).toNat = (s.can.v - s.can.y).toNat * (s.can.u - s.can.x).toNat
      rw [e1,e2]
     rw [e3,show (s.mv u v A s.pn c (s.ops.map (Opr.tr u v))).can.u - (s.mv u v A s.pn c (s.ops.map (Opr.tr u v))).can.x = s.can.u - s.can.x from e1,show (s.mv u v A s.pn c (s.ops.map (Opr.tr u v))).can.v - (s.mv u v A s.pn c (s.ops.map (Opr.tr u v))).can.y = s.can.v - s.can.y from e2] at h
     exact h)
    have HRR:=hd_ HG.out.sm
    clear hin hio hLs HRP
    go_upto_region 16 with fail
    clear hd hd' T_9
    have lscr:=scr_ld HES.out
    have hXs:=HI.out.hX
    go_upto_region 17 with (first | ((with_reducible show wpList _ _ _ (⟨some 91,_,_,_,_,_⟩ :: _) _ _); refine wpList_ld rfl rfl rfl (lscr) ?_) | (go_at_call 10; (with_reducible refine (HRE1.out _ hXs).mono ?_); rintro e w5 ⟨m,rfl,hm5,hb5⟩) | ((with_reducible show wpList _ _ _ (⟨none,.store _ _ _,_,_,_,_⟩ :: _) _ _); refine wpList_st (n:=0) (g:=w5.heap.size) (cells:=m.cs) rfl rfl rfl rfl (at_new rfl) rfl (by kernel_rfl) (im_one m) ?_; intro Y6 e6 hU6) | fail)
    have hb6:=hU6.bel (hb5.al _) hb5.size'
    have hm6:=hm5.bel (hU6.bel ((Bel.refl w5).al _) (Nat.le_refl _))
    have hXr:=HXW.out.trans (hXs.trans hb6)
    have ltscr:=scr_ld (hb6.heap HI.out.eT)
    have HM6:=hd_ (And.intro hm6 (And.intro hb6 e6))
    have lM6:=lt_of_heap e6
    clear lscr hm5 hm6 hU6 e6 hb5
    go_upto_region 18 with (first | ((with_reducible show wpList _ _ _ (⟨some 97,_,_,_,_,_⟩ :: _) _ _); refine wpList_ld rfl rfl rfl (ltscr) ?_) | (go_at_call 10; (with_reducible refine (HRE2.out _ hb6).mono ?_); rintro e w7 ⟨m2,rfl,hm7,hb7⟩) | ((with_reducible show wpList _ _ _ (⟨none,.store _ _ _,_,_,_,_⟩ :: _) _ _); refine wpList_st (n:=0) (g:=w7.heap.size) (cells:=m2.cs) rfl rfl rfl rfl (at_new rfl) rfl (by kernel_rfl) (im_one m2) ?_; intro Y8 e8 hU8) | fail)
    have hb8:=hU8.bel (hb7.al _) hb7.size'
    have hm8:=hm7.bel (hU8.bel ((Bel.refl w7).al _) (Nat.le_refl _))
    have e68:=hb8.heap HM6.out.2.2
    have HM8:=hd_ (And.intro hm8 (HM6.out.1.bel hb8))
    have hX8:=hXr.trans hb8
    have hEQ:=hd_ (HM6.out.1.eqv hm8)
    clear ltscr hm7 hm8 hU8 hb7 hb8 lM6 HM6 hb6 hXr hXs
    have HE8:=hd_ (And.intro e68 e8)
    clear e68 e8
    have HHX:=hd_ hX8
    clear hX8
    go_wp2_with (first | (go_at_call 11; (with_reducible refine (HAW.out _ HHX.out).mono ?_); rintro e w9 ⟨rfl,hb9⟩; have HB9:=hd_ hb9; have l1:=img_ld (hb9.heap HE8.out.1); have l2:=img_ld (hb9.heap HE8.out.2); clear hb9) | ((with_reducible show wpList _ _ _ (⟨some 112,_,_,_,_,_⟩ :: _) _ _); refine wpList_ldg (op:=⟨some 112,_,_,_,_,_⟩) (by rfl) rfl rfl (l1) ?_) | ((with_reducible show wpList _ _ _ (⟨some 113,_,_,_,_,_⟩ :: _) _ _); refine wpList_ldg (op:=⟨some 113,_,_,_,_,_⟩) (by rfl) rfl rfl (l2) ?_) | (go_at_call 12; (with_reducible refine (HSM.out _ _ hEQ.out _ ((im_In HRR.out HM8.out.2).bel HB9.out) ((im_In HRR.out HM8.out.1).bel HB9.out)).mono ?_); rintro e w10 ⟨rfl,hb10⟩) | fail)
    go_returns
    exact ⟨rfl,HHX.out.trans (HB9.out.trans hb10)⟩
   case pos =>
    have hd:decide ((i:Int) < (s.pn:Int)) = true:=decide_eq_true (by omega)
    have hd':decide (i < s.pn) = true:=decide_eq_true hlt
    obtain ⟨o,ho⟩:∃ o,s.ops[i]? = some o:=⟨s.ops[i]'(by rw [HG.out.In.lops]; exact hlt),List.getElem?_eq_getElem _⟩
    obtain ⟨ga,ca,hA,hga,hgas,hcap⟩:=own_at HI.out.op (Nat.lt_of_le_of_lt (Nat.zero_le _) hlt) (by decide)
    simp only [Value.slice.injEq,true_and] at hA
    obtain ⟨rfl,rfl⟩:=hA
    obtain ⟨g,off,eA,lg,hLD⟩:=(own_sl' HI.out.op).opld (mvL_get (u:=u) (v:=v) ho) hlt
    simp only [Option.some.injEq,Addr.mk.injEq,and_true] at eA
    obtain ⟨rfl,rfl⟩:=eA
    have hld:=hLD _ (Bel.refl wr)
    rw [Nat.zero_add] at hld
    have HNR:=hd_ (HG.out.nr o (List.mem_of_getElem? ho))
    have HO:=hd_ ho
    have T_9:=cq9 HI.out.eT rfl
    have lT:=lt_of_heap HI.out.eT
    clear ho hLD
    go_upto_region 11 with (first | ((with_reducible show wpList _ _ _ (⟨some 58,_,_,_,_,_⟩ :: _) _ _); refine wpList_ld rfl rfl rfl (hld) ?_) | fail)
    have hTg:T2 ≠ ga:=fun e => own_ne_heap HI.out.op HI.out.eT (by decide) (congrArg some e.symm)
    refine at_world (fun Q => Q.heap[T1]? = some (oSc s) ∧ GrI Y Q T2 (s.mv u v none 0 0 []) (some ⟨ga,0,none⟩) s.pn c (mvL u v s.ops i) ∧ Q.heap[wr.heap.size]? = some (oOp o)) ⟨at_old HES.out,HI.out.bel ((Bel.refl wr).al _),at_new (by first | rfl | simp)⟩ ?_
    have hlw:=lt_of_heap HES.out
    have hT3Y:=HI.out.hX.size'
    clear hd hd' hld HES HI T_9
    rintro Q ⟨eS,I,eO⟩
    obtain ⟨T3,hT3⟩:∃ T3,T3 = wr.heap.size:=⟨_,rfl⟩
    rw [← hT3] at eO
    rw [← hT3]
    have h13:T1 ≠ T3:=by omega
    have h23:T2 ≠ T3:=by omega
    have hg3:ga ≠ T3:=by omega
    have hY3:Y.heap.size ≤ T3:=by omega
    have HB3:=hd_ (show Value.ownBlock (.slice (some ⟨ga,0,none⟩) s.pn c) ≠ some T3 from fun e => hg3 (Option.some.inj e))
    clear hT3 hlw lT hgas lg
    have HES:=hd_ eS
    have HI:=hd_ I
    have HEO:=hd_ eO
    clear eS I eO
    have hnr:=HNR.out
    have hb1:IntKind.i64.wrap (o.x + u) = o.x + u:=wrap_i64 _ (by have:=hnr.1; omega) (by have:=hnr.1; omega)
    have hb2:IntKind.i64.wrap (o.y + v) = o.y + v:=wrap_i64 _ (by have:=hnr.2.1; omega) (by have:=hnr.2.1; omega)
    have hb3:IntKind.i64.wrap (o.mx + u) = o.mx + u:=wrap_i64 _ (by have:=hnr.2.2.1; omega) (by have:=hnr.2.2.1; omega)
    have hb4:IntKind.i64.wrap (o.my + v) = o.my + v:=wrap_i64 _ (by have:=hnr.2.2.2; omega) (by have:=hnr.2.2.2; omega)
    clear hnr
    have O_0:=cq0 HEO.out rfl
    go_upto_if 61 with fail
    go_cut [] (fun Z => Z.heap[T1]? = some (oSc s) ∧ GrI Y Z T2 (s.mv u v none 0 0 []) (some ⟨ga,0,none⟩) s.pn c (mvL u v s.ops i) ∧ Z.heap[T3]? = some (.cells #[.int .i64 o.k,.int .i64 o.im,.int .i64 (if o.k = 1 then o.x + u else o.x),.int .i64 (if o.k = 1 then o.y + v else o.y),.int .i64 o.ms,.int .i64 o.mx,.int .i64 o.my,.int .u16 o.oc,.int .i64 o.op,.int .i64 o.md,.bool o.iso,.bool o.kn] 29))
    case first =>
     by_cases hk:o.k = 1
     ·have kk:(o.k == 1) = true:=beq_iff_eq.2 hk
      have O_2:=cq2 HEO.out rfl
      have O_3:=cq3 HEO.out rfl
      have fO:=frozA HEO.out
      have HK:=hd_ hk
      clear hk
      go_wp2_with fail
      go_meet
      rw [if_pos HK.out,if_pos HK.out]
      exact ⟨heap_set_other _ (fun e => h13 e.symm) (heap_set_other _ (fun e => h13 e.symm) HES.out),(HI.out.upd (cs:=#[]) (setCells_upd T3 [.int .i64 (o.x + u)] 2 _) hY3 h23 HB3.out).upd (cs:=#[]) (setCells_upd T3 [.int .i64 (o.y + v)] 3 _) hY3 h23 HB3.out,heap_set _ (heap_set _ HEO.out)⟩
     ·have kk:(o.k == 1) = false:=beq_eq_false_iff_ne.2 hk
      have HK:=hd_ hk
      clear hk
      go_wp2_with fail
      go_meet
      rw [if_neg HK.out,if_neg HK.out]
      exact ⟨HES.out,HI.out,HEO.out⟩
    case rest =>
     obtain ⟨eS,I,eO⟩:=hcut
     obtain ⟨ox,hox⟩:∃ ox,ox = (if o.k = 1 then o.x + u else o.x):=⟨_,rfl⟩
     obtain ⟨oy,hoy⟩:∃ oy,oy = (if o.k = 1 then o.y + v else o.y):=⟨_,rfl⟩
     rw [← hox,← hoy] at eO
     have HOX:=hd_ (And.intro hox hoy)
     clear HES HI HEO O_0 hb1 hb2 hox hoy
     have HES:=hd_ eS
     have HI:=hd_ I
     have HEO:=hd_ eO
     clear eS I eO
     obtain ⟨Q2,rfl⟩:∃ W:World,W = wc:=⟨_,rfl⟩
     have O_4:=cq4 HEO.out rfl
     go_upto_if 74 with fail
     go_cut [] (fun Z => Z.heap[T1]? = some (oSc s) ∧ GrI Y Z T2 (s.mv u v none 0 0 []) (some ⟨ga,0,none⟩) s.pn c (mvL u v s.ops i) ∧ Z.heap[T3]? = some (.cells (o.tr u v).cs.toArray 29))
     case first =>
      by_cases hk:o.ms = 0
      ·have kk:(o.ms == 0) = true:=beq_iff_eq.2 hk
       have kk2:(o.ms != 0) = false:=by rw [bne,kk]; rfl
       have HK:=hd_ hk
       clear hk
       go_wp2_with fail
       go_meet
       refine ⟨HES.out,HI.out,?_⟩
       unfold Opr.tr
       rw [if_pos HK.out,if_pos HK.out,← HOX.out.1,← HOX.out.2]
       exact HEO.out
      ·have kk:(o.ms == 0) = false:=beq_eq_false_iff_ne.2 hk
       have kk2:(o.ms != 0) = true:=by rw [bne,kk]; rfl
       have O_5:=cq5 HEO.out rfl
       have O_6:=cq6 HEO.out rfl
       have fO:=frozA HEO.out
       have HK:=hd_ hk
       clear hk
       go_wp2_with fail
       go_meet
       refine ⟨heap_set_other _ (fun e => h13 e.symm) (heap_set_other _ (fun e => h13 e.symm) HES.out),(HI.out.upd (cs:=#[]) (setCells_upd T3 [.int .i64 (o.mx + u)] 5 _) hY3 h23 HB3.out).upd (cs:=#[]) (setCells_upd T3 [.int .i64 (o.my + v)] 6 _) hY3 h23 HB3.out,?_⟩
       unfold Opr.tr
       rw [if_neg HK.out,if_neg HK.out,← HOX.out.1,← HOX.out.2]
       exact heap_set _ (heap_set _ HEO.out)
     case rest =>
      obtain ⟨eS,I,eO⟩:=hcut
      have lopr:=opr_ld eO
      have T_9:=cq9 I.eT rfl
      have HES2:=hd_ eS
      have HI2:=hd_ I
      clear HES HI HEO O_4 hb3 hb4 eS I eO HOX
      go_wp2_with (first | ((with_reducible show wpList _ _ _ (⟨some 88,_,_,_,_,_⟩ :: _) _ _); refine wpList_ld rfl rfl rfl (lopr) ?_) | ((with_reducible show wpList _ _ _ (⟨none,.store _ _ _,_,_,_,_⟩ :: _) _ _); refine wpList_so (f:=Opr.cs) (o.tr u v) (fun _ => rfl) rfl rfl rfl rfl HI2.out.op (by first | rfl | omega) hlt (by kernel_rfl) (op_one _) ?_; intro W7 hown7 hU7) | fail)
      go_roundg (gk - 1)
      case measure => omega
      case rel =>
       refine ⟨i + 1,by omega,by go_num,hU7.heap HES2.out (fun e => ?_),hU7.bel HI2.out.hX (by omega),hU7.heap HI2.out.eT hTg,?_,HI2.out.tT⟩
       ·have h1:=hga
        have h2:=lS
        omega
       ·rw [← mvL_set HO.out]
        exact hown7
end Go.Proofs.YtepfoelgegljbaaGreatDoor
