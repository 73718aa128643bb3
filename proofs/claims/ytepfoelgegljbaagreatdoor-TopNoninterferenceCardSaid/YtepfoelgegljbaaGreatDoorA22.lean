/- Part A22. -/
import Derived.Test.YtepfoelgegljbaaGreatDoorA19
import Derived.Test.YtepfoelgegljbaaGreatDoorA21
namespace Go.Proofs.YtepfoelgegljbaaGreatDoor
set_option maxRecDepth 100000
open Go.RowKit
set_option linter.unusedVariables false
theorem info_op:(Tryz.prog.info? 29).map (fun i => (i.zero,i.size,i.bytes)) = some (some (.agg #[.int .i64 0,.int .i64 0,.int .i64 0,.int .i64 0,.int .i64 0,.int .i64 0,.int .i64 0,.int .u16 0,.int .i64 0,.int .i64 0,.bool false,.bool false]),12,88):=by kernel_rfl
theorem op_one (p:Opr):∀ u ∈ p.cs,u.oneCell' = true:=by
 intro u hu
 simp [Opr.cs] at hu
 rcases hu with rfl | rfl | rfl | rfl | rfl | rfl | rfl | rfl | rfl | rfl | rfl | rfl <;> rfl
theorem drop_at {α:Type} {l:List α} {i:Nat} {a:α} (h:l[i]? = some a):l.drop i = a :: l.drop (i + 1):=by
 obtain ⟨hi,rfl⟩:=List.getElem?_eq_some_iff.1 h
 exact List.drop_eq_getElem_cons hi
theorem own_cap {w:World} {base k n c:Nat} {e:TypeId} {A:Option Addr} {xs:List Value} (h:w.ownsRow base e k (.slice A n c) n xs):n ≤ c:=by
 rcases h.2 with ⟨hv,_⟩ | ⟨g,cap,cur,e1,e2,e3,e4,e5,e6,e7⟩
 ·cases hv
  exact Nat.le_refl _
 ·cases e1
  exact e4
theorem opsE_cons (n mx:Int) (o:Opr) (r:List Opr) (i:Nat) (l:List Opr):opsE n mx (o :: r) i l = if opE n mx o l ≠ 0 then (opE n mx o l,(i:Int)) else if o.k = 2 then opsE n mx r (i + 1) (l ++ [o]) else if o.k = 3 then opsE n mx r (i + 1) l.dropLast else opsE n mx r (i + 1) l:=rfl
theorem opE_pop {n mx:Int} {o:Opr} {l:List Opr} (h:opE n mx o l = 0) (hk:o.k = 3):l.length ≠ 0:=by
 intro hz
 unfold opE at h
 rw [if_neg (by omega)] at h
 split at h
 ·omega
 ·rw [if_pos ⟨hk,hz⟩] at h
  omega
theorem oprs_pop (l:List Opr):(oprs l).take ((l.length - 1) * 12) = oprs l.dropLast:=by
 rcases List.eq_nil_or_concat l with rfl | ⟨l',t,rfl⟩
 ·rfl
 ·rw [List.concat_eq_append,oprs_snoc,List.dropLast_concat]
  have h:=oprs_len l'
  rw [List.take_append_of_le_length (by rw [h]; simp)]
  apply List.take_of_length_le
  rw [h]
  simp
set_option maxHeartbeats 4000000 in
theorem ops_frame (s:Scr) (hm:s.Sm) (w:World) (hs:s.In w) (h:frameE s ≠ 0):Calls Tryz.prog 31 #[s.v] w fun e w' => e = .returned (.tuple #[.int .i64 (frameE s),.int .i64 0]) ∧ Bel w w':=by
 have hF:=hd_ (fun W (hb:Bel w W) => frame_call s hm W (hs.bel hb))
 have n1:(frameE s == 0) = false:=beq_eq_false_iff_ne.2 h
 have n2:(frameE s != 0) = true:=by rw [bne,n1]; rfl
 generalize frameE s = FE at *
 clear h hs hm
 go_enter Tryz.func31,Tryz.ntmps31
 go_upto_region 1 with fail
 refine at_world (fun V => Bel w V ∧ V.heap[w.heap.size]? = some (oSc s)) ⟨(Bel.refl w).al _,at_new (by first | rfl | simp)⟩ ?_
 rintro V ⟨hX,eS⟩
 have lscr:=scr_ld eS
 have Ss:=lt_of_heap eS
 have S_0:=cq0 eS rfl
 have S_1:=cq1 eS rfl
 have S_2:=cq2 eS rfl
 have S_3:=cq3 eS rfl
 have S_4:=cq4 eS rfl
 have S_5:=cq5 eS rfl
 have S_6:=cq6 eS rfl
 have S_7:=cq7 eS rfl
 have S_8:=cq8 eS rfl
 have S_9:=cq9 eS rfl
 have fS:=frozA eS
 go_wp2_with (first | (go_at_call 28; (with_reducible refine (hF.out _ hX).mono ?_); rintro e w1 ⟨rfl,hb⟩; replace hX:=hX.trans hb; replace eS:=hb.heap eS; clear Ss S_0 S_1 S_2 S_3 S_4 S_5 S_6 S_7 S_8 S_9 fS lscr; have lscr:=scr_ld eS; have Ss:=lt_of_heap eS; have S_0:=cq0 eS rfl; have S_1:=cq1 eS rfl; have S_2:=cq2 eS rfl; have S_3:=cq3 eS rfl; have S_4:=cq4 eS rfl; have S_5:=cq5 eS rfl; have S_6:=cq6 eS rfl; have S_7:=cq7 eS rfl; have S_8:=cq8 eS rfl; have S_9:=cq9 eS rfl; have fS:=frozA eS; clear hb) | ((with_reducible show wpList _ _ _ (⟨some 9,_,_,_,_,_⟩ :: _) _ _); refine wpList_ld rfl rfl rfl (lscr) ?_) | fail)
 go_ret2
 exact ⟨rfl,hX⟩
set_option maxHeartbeats 8000000 in
theorem ops_rest (s:Scr) (hm:s.Sm) (w:World) (hs:s.In w) (hN:Named w) (hR:Ruled w) (h:frameE s = 0):Calls Tryz.prog 31 #[s.v] w fun e w' => e = .returned (.tuple #[.int .i64 (opsE s.inn s.mx s.ops 0 []).1,.int .i64 (opsE s.inn s.mx s.ops 0 []).2]) ∧ Bel w w':=by
 obtain ⟨i0,hi,hz0,hz1,hz2⟩:=info_parts info_op
 have hF:=hd_ (fun W (hb:Bel w W) => frame_call s hm W (hs.bel hb))
 rw [h] at hF
 have HS:=hd_ hs
 have HN:=hd_ hN
 have HR:=hd_ hR
 have hpn:=hm.p0
 obtain ⟨TE,hTE⟩:∃ TE,TE = opsE s.inn s.mx s.ops 0 []:=⟨_,rfl⟩
 rw [← hTE]
 have HTE:=hd_ hTE
 generalize hPA:s.pA = PA
 have HPA:=hd_ hPA
 unfold Scr.v
 rw [hPA]
 unfold Scr.v at hF
 rw [hPA] at hF
 clear h hs hm hN hR hTE hPA
 go_enter Tryz.func31,Tryz.ntmps31
 go_upto_region 1 with fail
 refine at_world (fun V => Bel w V ∧ V.heap[w.heap.size]? = some (oSp s PA s.pn s.pc)) ⟨(Bel.refl w).al _,at_new (by first | rfl | simp)⟩ ?_
 rintro V ⟨hX,eS⟩
 have lscr:=scr_ld eS
 have Ss:=lt_of_heap eS
 have S_0:=cq0 eS rfl
 have S_1:=cq1 eS rfl
 have S_2:=cq2 eS rfl
 have S_3:=cq3 eS rfl
 have S_4:=cq4 eS rfl
 have S_5:=cq5 eS rfl
 have S_6:=cq6 eS rfl
 have S_7:=cq7 eS rfl
 have S_8:=cq8 eS rfl
 have S_9:=cq9 eS rfl
 have fS:=frozA eS
 go_wp2_with (first | (go_at_call 28; (with_reducible refine (hF.out _ hX).mono ?_); rintro e w1 ⟨rfl,hb⟩; replace hX:=hX.trans hb; replace eS:=hb.heap eS; clear Ss S_0 S_1 S_2 S_3 S_4 S_5 S_6 S_7 S_8 S_9 fS lscr; have lscr:=scr_ld eS; have Ss:=lt_of_heap eS; have S_0:=cq0 eS rfl; have S_1:=cq1 eS rfl; have S_2:=cq2 eS rfl; have S_3:=cq3 eS rfl; have S_4:=cq4 eS rfl; have S_5:=cq5 eS rfl; have S_6:=cq6 eS rfl; have S_7:=cq7 eS rfl; have S_8:=cq8 eS rfl; have S_9:=cq9 eS rfl; have fS:=frozA eS; clear hb) | ((with_reducible show wpList _ _ _ (⟨some 9,_,_,_,_,_⟩ :: _) _ _); refine wpList_ld rfl rfl rfl (lscr) ?_) | fail)
 go_loopg [5,17] s.pn (fun gk s5 s17 wr => ∃ (i:Nat) (l:List Opr),i + gk = s.pn ∧ s17 = .int .i64 i ∧ l.length ≤ i ∧ wr.ownsRow (w.heap.size + 1) 29 12 s5 l.length (oprs l) ∧ Bel w wr ∧ wr.heap[w.heap.size]? = some (oSp s PA s.pn s.pc) ∧ opsE s.inn s.mx (s.ops.drop i) i l = TE)
 case atStart => exact ⟨0,[],by omega,rfl,by simp,World.ownsRow_nil _ _ _ _,hX,eS,HTE.out.symm⟩
 case round =>
  obtain ⟨i,l,hgk,rfl,hli,hown,hX,eS,hE⟩:=hrel
  obtain ⟨A,c,hv,hsl⟩:=own_sl hown
  have HE:=hd_ hE
  have HOWN:=hd_ hown
  have HSL:=hd_ hsl
  clear hE hown hsl
  by_cases hlt:i < s.pn
  case neg =>
   obtain rfl:i = s.pn:=by omega
   have hlo:=HS.out.lops
   have hD:s.ops.drop s.pn = []:=List.drop_of_length_le (by omega)
   have HD:=hd_ hD
   subst hv
   clear hlo hD
   by_cases hz:l.length = 0
   ·have HZ:=hd_ hz
    have hz2:decide ((0:Int) < (l.length:Int)) = false:=decide_eq_false (by omega)
    go_wp2_with fail
    go_ret2
    have e:=HE.out
    rw [HD.out,opsE,if_pos HZ.out] at e
    exact ⟨by rw [← e]; rfl,hX⟩
   ·have HZ:=hd_ hz
    have hz2:decide ((0:Int) < (l.length:Int)) = true:=decide_eq_true (by omega)
    have lscr:=scr_ld eS
    have Ss:=lt_of_heap eS
    have S_0:=cq0 eS rfl
    have S_1:=cq1 eS rfl
    have S_2:=cq2 eS rfl
    have S_3:=cq3 eS rfl
    have S_4:=cq4 eS rfl
    have S_5:=cq5 eS rfl
    have S_6:=cq6 eS rfl
    have S_7:=cq7 eS rfl
    have S_8:=cq8 eS rfl
    have S_9:=cq9 eS rfl
    have fS:=frozA eS
    go_upto_region 18 with fail
    refine region_bel (by kernel_rfl) (by kernel_rfl) ?_
    have q9:=fun q:Bw wr => q.h.cell S_9
    repeat (go_big_quiet_step (fail))
    refine wpQuiet_nil ?_
    rintro w2 ⟨q,rfl⟩
    go_wp2_with fail
    go_ret2
    have e:=HE.out
    rw [HD.out,opsE,if_neg HZ.out] at e
    exact ⟨by rw [← e]; rfl,hX.trans q.h⟩
  case pos =>
   obtain ⟨o,ho⟩:∃ o,s.ops[i]? = some o:=⟨s.ops[i]'(by have:=HS.out.lops; omega),List.getElem?_eq_getElem _⟩
   obtain ⟨g,off,eA,lg,hLD⟩:=HS.out.ops.opld ho hlt
   obtain rfl:=HPA.out.symm.trans eA
   have hOp:=fun (W:World) (hb:Bel w W) (hsl:Sl W 12 l.length A (oprs l)) => op_call s i o ho l l.length (by omega) rfl A c W (HS.out.bel hb) (named_bel HN.out hb) (ruled_bel HR.out hb) hsl
   unfold Scr.v at hOp
   rw [eA,← hv] at hOp
   have HOP:=hd_ hOp
   have HV:=hd_ hv
   have hE2:=HE.out
   rw [drop_at ho,opsE_cons] at hE2
   have HE2:=hd_ hE2
   have HO:=hd_ ho
   have hld:=hLD _ hX
   clear hOp hv hE2 eA ho hLD
   have lscr:=scr_ld eS
   have Ss:=lt_of_heap eS
   have S_0:=cq0 eS rfl
   have S_1:=cq1 eS rfl
   have S_2:=cq2 eS rfl
   have S_3:=cq3 eS rfl
   have S_4:=cq4 eS rfl
   have S_5:=cq5 eS rfl
   have S_6:=cq6 eS rfl
   have S_7:=cq7 eS rfl
   have S_8:=cq8 eS rfl
   have S_9:=cq9 eS rfl
   have fS:=frozA eS
   go_upto_region 8 with (first | ((with_reducible show wpList _ _ _ (⟨some 21,_,_,_,_,_⟩ :: _) _ _); refine wpList_ld rfl rfl rfl (hld) ?_) | fail)
   refine at_world (fun Y => Bel wr Y ∧ Y.heap[w.heap.size]? = some (oSp s (some ⟨g,off,none⟩) s.pn s.pc) ∧ Y.heap[wr.heap.size]? = some (oOp o)) ⟨(Bel.refl wr).al _,at_old eS,at_new (by first | rfl | simp)⟩ ?_
   clear lscr Ss S_0 S_1 S_2 S_3 S_4 S_5 S_6 S_7 S_8 S_9 fS hld
   rintro Y ⟨hY,eS,eO⟩
   have lscr:=scr_ld eS
   have lopr:=opr_ld eO
   have Ss:=lt_of_heap eS
   have Os:=lt_of_heap eO
   have S_0:=cq0 eS rfl
   have S_1:=cq1 eS rfl
   have S_2:=cq2 eS rfl
   have S_3:=cq3 eS rfl
   have S_4:=cq4 eS rfl
   have S_5:=cq5 eS rfl
   have S_6:=cq6 eS rfl
   have S_7:=cq7 eS rfl
   have S_8:=cq8 eS rfl
   have S_9:=cq9 eS rfl
   have O_0:=cq0 eO rfl
   have O_1:=cq1 eO rfl
   have O_2:=cq2 eO rfl
   have O_3:=cq3 eO rfl
   have O_4:=cq4 eO rfl
   have O_5:=cq5 eO rfl
   have O_6:=cq6 eO rfl
   have O_7:=cq7 eO rfl
   have O_8:=cq8 eO rfl
   have O_9:=cq9 eO rfl
   have O_10:=cq10 eO rfl
   have O_11:=cq11 eO rfl
   have fS:=frozA eS
   have fO:=frozA eO
   obtain ⟨EV,hEV⟩:∃ EV,EV = opE s.inn s.mx o l:=⟨_,rfl⟩
   by_cases hz:EV = 0
   case neg =>
    have n1:(EV == 0) = false:=beq_eq_false_iff_ne.2 hz
    have n2:(EV != 0) = true:=by rw [bne,n1]; rfl
    have HEV:=hd_ hEV
    have HX0:=hd_ hX
    clear hEV hX
    go_wp2_with (first | (go_at_call 57; (with_reducible refine (HEV.out ▸ HOP.out _ (HX0.out.trans hY) (HSL.out.bel hY)).mono ?_); rintro e w1 ⟨rfl,hb⟩; replace hY:=hY.trans hb; replace eS:=hb.heap eS; replace eO:=hb.heap eO; clear Ss S_0 S_1 S_2 S_3 S_4 S_5 S_6 S_7 S_8 S_9 fS Os O_0 O_1 O_2 O_3 O_4 O_5 O_6 O_7 O_8 O_9 O_10 O_11 fO lscr lopr; have lscr:=scr_ld eS; have lopr:=opr_ld eO; have Ss:=lt_of_heap eS; have Os:=lt_of_heap eO; have S_0:=cq0 eS rfl; have S_1:=cq1 eS rfl; have S_2:=cq2 eS rfl; have S_3:=cq3 eS rfl; have S_4:=cq4 eS rfl; have S_5:=cq5 eS rfl; have S_6:=cq6 eS rfl; have S_7:=cq7 eS rfl; have S_8:=cq8 eS rfl; have S_9:=cq9 eS rfl; have O_0:=cq0 eO rfl; have O_1:=cq1 eO rfl; have O_2:=cq2 eO rfl; have O_3:=cq3 eO rfl; have O_4:=cq4 eO rfl; have O_5:=cq5 eO rfl; have O_6:=cq6 eO rfl; have O_7:=cq7 eO rfl; have O_8:=cq8 eO rfl; have O_9:=cq9 eO rfl; have O_10:=cq10 eO rfl; have O_11:=cq11 eO rfl; have fS:=frozA eS; have fO:=frozA eO; clear hb) | ((with_reducible show wpList _ _ _ (⟨some 22,_,_,_,_,_⟩ :: _) _ _); refine wpList_ld rfl rfl rfl (lscr) ?_) | fail)
    go_ret2
    have e:=HE2.out
    rw [← HEV.out,if_pos hz] at e
    exact ⟨by rw [← e]; rfl,HX0.out.trans hY⟩
   case pos =>
    subst hz
    have HEV:=hd_ hEV
    have HX0:=hd_ hX
    clear hEV hX
    by_cases hk:o.k = 2
    case pos =>
     have k1:(o.k == 2) = true:=beq_iff_eq.2 hk
     have HK:=hd_ hk
     clear hk
     go_wp2_with (first | (go_at_call 57; (with_reducible refine (HEV.out ▸ HOP.out _ (HX0.out.trans hY) (HSL.out.bel hY)).mono ?_); rintro e w1 ⟨rfl,hb⟩; replace hY:=hY.trans hb; replace eS:=hb.heap eS; replace eO:=hb.heap eO; clear Ss S_0 S_1 S_2 S_3 S_4 S_5 S_6 S_7 S_8 S_9 fS Os O_0 O_1 O_2 O_3 O_4 O_5 O_6 O_7 O_8 O_9 O_10 O_11 fO lscr lopr; have lscr:=scr_ld eS; have lopr:=opr_ld eO; have Ss:=lt_of_heap eS; have Os:=lt_of_heap eO; have S_0:=cq0 eS rfl; have S_1:=cq1 eS rfl; have S_2:=cq2 eS rfl; have S_3:=cq3 eS rfl; have S_4:=cq4 eS rfl; have S_5:=cq5 eS rfl; have S_6:=cq6 eS rfl; have S_7:=cq7 eS rfl; have S_8:=cq8 eS rfl; have S_9:=cq9 eS rfl; have O_0:=cq0 eO rfl; have O_1:=cq1 eO rfl; have O_2:=cq2 eO rfl; have O_3:=cq3 eO rfl; have O_4:=cq4 eO rfl; have O_5:=cq5 eO rfl; have O_6:=cq6 eO rfl; have O_7:=cq7 eO rfl; have O_8:=cq8 eO rfl; have O_9:=cq9 eO rfl; have O_10:=cq10 eO rfl; have O_11:=cq11 eO rfl; have fS:=frozA eS; have fO:=frozA eO; clear hb) | ((with_reducible show wpList _ _ _ (⟨some 22,_,_,_,_,_⟩ :: _) _ _); refine wpList_ld rfl rfl rfl (lscr) ?_) | ((with_reducible show wpList _ _ _ (⟨some 35,_,_,_,_,_⟩ :: _) _ _); refine wpList_ld rfl rfl rfl (lopr) ?_) | (at_builtin; refine wpList_append_own _ rfl _ _ 36 rfl (w.heap.size + 1) 29 i0 (.agg #[.int .i64 0,.int .i64 0,.int .i64 0,.int .i64 0,.int .i64 0,.int .i64 0,.int .i64 0,.int .u16 0,.int .i64 0,.int .i64 0,.bool false,.bool false]) 12 88 Tryz.underlying36 hi hz0 hz1 hz2 rfl (by decide) _ _ _ rfl (own_ext HOWN.out ((hY).al _)) ⟨w1.heap.size,0,none⟩ 1 1 o.cs rfl rfl ?ca ?cb ?cc ?cd ?ce ?_))
     case ca => exact new_row w1 o.cs _
     case cb => exact op_one o
     case cc => unfold maxLen; omega
     case cd => omega
     case ce => have:=HX0.out.size'; have:=hY.size'; have:=lt_of_heap eS; simp; omega
     intro v' w3 hown' hgrow _
     have HN2:=hd_ hown'
     have HG:=hd_ (show Bel w w3 from (HX0.out.trans hY).app (Nat.le_succ _) (own_ext HOWN.out hY) hgrow)
     have HS3:=hd_ (show w3.heap[w.heap.size]? = some (oSp s (some ⟨g,off,none⟩) s.pn s.pc) from (hgrow.block _ (by have:=lt_of_heap eS; simp; omega) (fun e => by have:=(HOWN.out.lt _ e.symm).1; omega)).trans (at_old eS))
     clear hown' hgrow lscr lopr Ss Os S_0 S_1 S_2 S_3 S_4 S_5 S_6 S_7 S_8 S_9 O_0 O_1 O_2 O_3 O_4 O_5 O_6 O_7 O_8 O_9 O_10 O_11 fS fO
     go_wp2_with fail
     go_roundg (gk - 1)
     case measure => omega
     case rel =>
      refine ⟨i + 1,l ++ [o],by omega,by go_num,by simp; omega,?_,HG.out,HS3.out,?_⟩
      ·rw [oprs_snoc,List.length_append]
       exact HN2.out
      ·have e:=HE2.out
       rw [← HEV.out,if_neg (by decide),if_pos HK.out] at e
       exact e
    case neg =>
     have k1:(o.k == 2) = false:=beq_eq_false_iff_ne.2 hk
     have HK:=hd_ hk
     clear hk
     by_cases hk3:o.k = 3
     case pos =>
      have k2:(o.k == 3) = true:=beq_iff_eq.2 hk3
      have HK3:=hd_ hk3
      have hne:=opE_pop HEV.out.symm hk3
      clear hk3
      obtain ⟨m,hlm⟩:∃ m,l.length = m + 1:=⟨l.length - 1,by omega⟩
      have HLM:=hd_ hlm
      have hm1:m ≤ 100:=by omega
      have hv:=HV.out
      have hown:=HOWN.out
      rw [hlm] at hv
      subst hv
      rw [hlm] at hown
      have hcap:=own_cap hown
      have HOW2:=hd_ hown
      clear hlm hne hown
      go_wp2_with (first | (go_at_call 57; (with_reducible refine (HEV.out ▸ HOP.out _ (HX0.out.trans hY) (HSL.out.bel hY)).mono ?_); rintro e w1 ⟨rfl,hb⟩; replace hY:=hY.trans hb; replace eS:=hb.heap eS; replace eO:=hb.heap eO; clear Ss S_0 S_1 S_2 S_3 S_4 S_5 S_6 S_7 S_8 S_9 fS Os O_0 O_1 O_2 O_3 O_4 O_5 O_6 O_7 O_8 O_9 O_10 O_11 fO lscr lopr; have lscr:=scr_ld eS; have lopr:=opr_ld eO; have Ss:=lt_of_heap eS; have Os:=lt_of_heap eO; have S_0:=cq0 eS rfl; have S_1:=cq1 eS rfl; have S_2:=cq2 eS rfl; have S_3:=cq3 eS rfl; have S_4:=cq4 eS rfl; have S_5:=cq5 eS rfl; have S_6:=cq6 eS rfl; have S_7:=cq7 eS rfl; have S_8:=cq8 eS rfl; have S_9:=cq9 eS rfl; have O_0:=cq0 eO rfl; have O_1:=cq1 eO rfl; have O_2:=cq2 eO rfl; have O_3:=cq3 eO rfl; have O_4:=cq4 eO rfl; have O_5:=cq5 eO rfl; have O_6:=cq6 eO rfl; have O_7:=cq7 eO rfl; have O_8:=cq8 eO rfl; have O_9:=cq9 eO rfl; have O_10:=cq10 eO rfl; have O_11:=cq11 eO rfl; have fS:=frozA eS; have fO:=frozA eO; clear hb) | ((with_reducible show wpList _ _ _ (⟨some 22,_,_,_,_,_⟩ :: _) _ _); refine wpList_ld rfl rfl rfl (lscr) ?_) | ((with_reducible show wpList _ _ _ (⟨some 35,_,_,_,_,_⟩ :: _) _ _); refine wpList_ld rfl rfl rfl (lopr) ?_) | fail)
      go_roundg (gk - 1)
      case measure => omega
      case rel =>
       refine ⟨i + 1,l.dropLast,by omega,by go_num,by simp; omega,?_,HX0.out.trans hY,eS,?_⟩
       ·have h:=own_cut (m:=m) (own_ext HOW2.out hY) (by omega) (by omega)
        have h2:=oprs_pop l
        rw [HLM.out,Nat.add_sub_cancel] at h2
        rw [h2] at h
        rw [List.length_dropLast,HLM.out]
        exact h
       ·have e:=HE2.out
        rw [← HEV.out,if_neg (by decide),if_neg HK.out,if_pos HK3.out] at e
        exact e
     case neg =>
      have k2:(o.k == 3) = false:=beq_eq_false_iff_ne.2 hk3
      have HK3:=hd_ hk3
      clear hk3
      go_wp2_with (first | (go_at_call 57; (with_reducible refine (HEV.out ▸ HOP.out _ (HX0.out.trans hY) (HSL.out.bel hY)).mono ?_); rintro e w1 ⟨rfl,hb⟩; replace hY:=hY.trans hb; replace eS:=hb.heap eS; replace eO:=hb.heap eO; clear Ss S_0 S_1 S_2 S_3 S_4 S_5 S_6 S_7 S_8 S_9 fS Os O_0 O_1 O_2 O_3 O_4 O_5 O_6 O_7 O_8 O_9 O_10 O_11 fO lscr lopr; have lscr:=scr_ld eS; have lopr:=opr_ld eO; have Ss:=lt_of_heap eS; have Os:=lt_of_heap eO; have S_0:=cq0 eS rfl; have S_1:=cq1 eS rfl; have S_2:=cq2 eS rfl; have S_3:=cq3 eS rfl; have S_4:=cq4 eS rfl; have S_5:=cq5 eS rfl; have S_6:=cq6 eS rfl; have S_7:=cq7 eS rfl; have S_8:=cq8 eS rfl; have S_9:=cq9 eS rfl; have O_0:=cq0 eO rfl; have O_1:=cq1 eO rfl; have O_2:=cq2 eO rfl; have O_3:=cq3 eO rfl; have O_4:=cq4 eO rfl; have O_5:=cq5 eO rfl; have O_6:=cq6 eO rfl; have O_7:=cq7 eO rfl; have O_8:=cq8 eO rfl; have O_9:=cq9 eO rfl; have O_10:=cq10 eO rfl; have O_11:=cq11 eO rfl; have fS:=frozA eS; have fO:=frozA eO; clear hb) | ((with_reducible show wpList _ _ _ (⟨some 22,_,_,_,_,_⟩ :: _) _ _); refine wpList_ld rfl rfl rfl (lscr) ?_) | ((with_reducible show wpList _ _ _ (⟨some 35,_,_,_,_,_⟩ :: _) _ _); refine wpList_ld rfl rfl rfl (lopr) ?_) | fail)
      go_roundg (gk - 1)
      case measure => omega
      case rel =>
       refine ⟨i + 1,l,by omega,by go_num,by omega,own_ext HOWN.out hY,HX0.out.trans hY,eS,?_⟩
       have e:=HE2.out
       rw [← HEV.out,if_neg (by decide),if_neg HK.out,if_neg HK3.out] at e
       exact e
theorem ops_call (s:Scr) (hm:s.Sm) (w:World) (hs:s.In w) (hN:Named w) (hR:Ruled w):Calls Tryz.prog 31 #[s.v] w fun e w' => e = .returned (.tuple #[.int .i64 (opsEs s).1,.int .i64 (opsEs s).2]) ∧ Bel w w':=by
 unfold opsEs
 by_cases h:frameE s = 0
 ·rw [if_neg (by rw [h]; decide)]
  exact ops_rest s hm w hs hN hR h
 ·rw [if_pos h]
  exact ops_frame s hm w hs h
theorem imgsE_cons (mx:Int) (m:Img) (r:List Img) (i:Nat):imgsE mx (m :: r) i = if validI m mx ≠ 0 then (validI m mx,(i:Int)) else imgsE mx r (i + 1):=rfl
theorem im_one (p:Img):∀ u ∈ p.cs,u.oneCell' = true:=by
 intro u hu
 simp only [Img.cs,List.mem_cons,List.not_mem_nil,or_false] at hu
 rcases hu with rfl | rfl | rfl | rfl | rfl | rfl | rfl | rfl | rfl | rfl | rfl | rfl | rfl | rfl | rfl | rfl | rfl | rfl | rfl | rfl | rfl | rfl | rfl | rfl | rfl | rfl | rfl | rfl <;> rfl
set_option maxHeartbeats 4000000 in
theorem check_frame (s:Scr) (hm:s.Sm) (w:World) (hs:s.In w) (h:frameE s ≠ 0):Calls Tryz.prog 9 #[s.v] w fun e w' => e = .returned (.tuple #[.int .i64 (frameE s),.int .i64 0]) ∧ Bel w w':=by
 have hF:=hd_ (fun W (hb:Bel w W) => frame_call s hm W (hs.bel hb))
 have n1:(frameE s == 0) = false:=beq_eq_false_iff_ne.2 h
 have n2:(frameE s != 0) = true:=by rw [bne,n1]; rfl
 generalize frameE s = FE at *
 clear h hs hm
 go_enter Tryz.func9,Tryz.ntmps9
 go_upto_region 1 with fail
 refine at_world (fun V => Bel w V ∧ V.heap[w.heap.size]? = some (oSc s)) ⟨(Bel.refl w).al _,at_new (by first | rfl | simp)⟩ ?_
 rintro V ⟨hX,eS⟩
 have lscr:=scr_ld eS
 have Ss:=lt_of_heap eS
 have S_0:=cq0 eS rfl
 have S_1:=cq1 eS rfl
 have S_2:=cq2 eS rfl
 have S_3:=cq3 eS rfl
 have S_4:=cq4 eS rfl
 have S_5:=cq5 eS rfl
 have S_6:=cq6 eS rfl
 have S_7:=cq7 eS rfl
 have S_8:=cq8 eS rfl
 have S_9:=cq9 eS rfl
 have fS:=frozA eS
 go_wp2_with (first | (go_at_call 28; (with_reducible refine (hF.out _ hX).mono ?_); rintro e w1 ⟨rfl,hb⟩; replace hX:=hX.trans hb; replace eS:=hb.heap eS; clear Ss S_0 S_1 S_2 S_3 S_4 S_5 S_6 S_7 S_8 S_9 fS lscr; have lscr:=scr_ld eS; have Ss:=lt_of_heap eS; have S_0:=cq0 eS rfl; have S_1:=cq1 eS rfl; have S_2:=cq2 eS rfl; have S_3:=cq3 eS rfl; have S_4:=cq4 eS rfl; have S_5:=cq5 eS rfl; have S_6:=cq6 eS rfl; have S_7:=cq7 eS rfl; have S_8:=cq8 eS rfl; have S_9:=cq9 eS rfl; have fS:=frozA eS; clear hb) | ((with_reducible show wpList _ _ _ (⟨some 10,_,_,_,_,_⟩ :: _) _ _); refine wpList_ld rfl rfl rfl (lscr) ?_) | fail)
 go_ret2
 exact ⟨rfl,hX⟩
set_option maxHeartbeats 8000000 in
theorem check_rest (s:Scr) (hm:s.Sm) (w:World) (hs:s.In w) (hN:Named w) (hR:Ruled w) (h:frameE s = 0):Calls Tryz.prog 9 #[s.v] w fun e w' => e = .returned (.tuple #[.int .i64 (checkE s).1,.int .i64 (checkE s).2]) ∧ Bel w w':=by
 have hF:=hd_ (fun W (hb:Bel w W) => frame_call s hm W (hs.bel hb))
 have hMx:=hd_ (fun w => calls_bs (smax_call s.bits w))
 have hOps:=hd_ (fun W (hb:Bel w W) => ops_call s hm W (hs.bel hb) (named_bel hN hb) (ruled_bel hR hb))
 rw [h] at hF
 have HS:=hd_ hs
 have hin:=hm.i0
 obtain ⟨TE,hTE⟩:∃ TE,TE = imgsE s.mx s.ims 0:=⟨_,rfl⟩
 unfold checkE
 rw [if_neg (by rw [h]; decide),← hTE]
 obtain ⟨RS,hRS⟩:∃ RS,RS = (if TE.1 ≠ 0 then TE else opsEs s):=⟨_,rfl⟩
 rw [← hRS]
 have HTE:=hd_ hTE
 have hsm:s.mx = maxI s.bits:=rfl
 rw [← hsm] at hMx
 generalize maxB s.bits = MB at *
 generalize hOE:opsEs s = OE at *
 have HRS:=hd_ hRS
 generalize hIA:s.iA = IA
 have HIA:=hd_ hIA
 unfold Scr.v
 rw [hIA]
 unfold Scr.v at hF hOps
 rw [hIA] at hF hOps
 clear h hs hm hN hR hTE hIA hsm hOE hRS
 go_enter Tryz.func9,Tryz.ntmps9
 go_upto_region 1 with fail
 refine at_world (fun V => Bel w V ∧ V.heap[w.heap.size]? = some (.cells #[.int .i64 s.bits,.int .i64 s.can.x,.int .i64 s.can.y,.int .i64 s.can.u,.int .i64 s.can.v,.int .i64 s.tw,.int .i64 s.th,.slice s.oA s.on s.oc,.slice IA s.inn s.ic,.slice s.pA s.pn s.pc] 38)) ⟨(Bel.refl w).al _,at_new (by first | rfl | simp)⟩ ?_
 rintro V ⟨hX,eS⟩
 have lscr:=scr_ld eS
 have Ss:=lt_of_heap eS
 have S_0:=cq0 eS rfl
 have S_1:=cq1 eS rfl
 have S_2:=cq2 eS rfl
 have S_3:=cq3 eS rfl
 have S_4:=cq4 eS rfl
 have S_5:=cq5 eS rfl
 have S_6:=cq6 eS rfl
 have S_7:=cq7 eS rfl
 have S_8:=cq8 eS rfl
 have S_9:=cq9 eS rfl
 have fS:=frozA eS
 go_wp2_with (first | ((first | (go_at_call 28; (with_reducible refine (hF.out _ hX).mono ?_)) | (go_at_call 29; (with_reducible refine (hMx.out _).mono ?_))); rintro e w1 ⟨rfl,hb⟩; replace hX:=hX.trans hb; replace eS:=hb.heap eS; clear Ss S_0 S_1 S_2 S_3 S_4 S_5 S_6 S_7 S_8 S_9 fS lscr; have lscr:=scr_ld eS; have Ss:=lt_of_heap eS; have S_0:=cq0 eS rfl; have S_1:=cq1 eS rfl; have S_2:=cq2 eS rfl; have S_3:=cq3 eS rfl; have S_4:=cq4 eS rfl; have S_5:=cq5 eS rfl; have S_6:=cq6 eS rfl; have S_7:=cq7 eS rfl; have S_8:=cq8 eS rfl; have S_9:=cq9 eS rfl; have fS:=frozA eS; clear hb) | ((with_reducible show wpList _ _ _ (⟨some 10,_,_,_,_,_⟩ :: _) _ _); refine wpList_ld rfl rfl rfl (lscr) ?_) | fail)
 go_loopg [24] s.inn (fun gk s24 wr => ∃ i:Nat,i + gk = s.inn ∧ s24 = .int .i64 i ∧ Bel w wr ∧ wr.heap[w.heap.size]? = some (.cells #[.int .i64 s.bits,.int .i64 s.can.x,.int .i64 s.can.y,.int .i64 s.can.u,.int .i64 s.can.v,.int .i64 s.tw,.int .i64 s.th,.slice s.oA s.on s.oc,.slice IA s.inn s.ic,.slice s.pA s.pn s.pc] 38) ∧ imgsE s.mx (s.ims.drop i) i = TE)
 case atStart => exact ⟨0,by omega,rfl,hX,eS,HTE.out.symm⟩
 case round =>
  obtain ⟨i,hgk,rfl,hX,eS,hE⟩:=hrel
  have HE:=hd_ hE
  clear hE
  by_cases hlt:i < s.inn
  case neg =>
   obtain rfl:i = s.inn:=by omega
   have hlo:=HS.out.lims
   have hD:s.ims.drop s.inn = []:=List.drop_of_length_le (by omega)
   have e:=HE.out
   rw [hD,imgsE] at e
   have HE2:=hd_ e
   clear hlo hD e
   have lscr:=scr_ld eS
   have Ss:=lt_of_heap eS
   have S_0:=cq0 eS rfl
   have S_1:=cq1 eS rfl
   have S_2:=cq2 eS rfl
   have S_3:=cq3 eS rfl
   have S_4:=cq4 eS rfl
   have S_5:=cq5 eS rfl
   have S_6:=cq6 eS rfl
   have S_7:=cq7 eS rfl
   have S_8:=cq8 eS rfl
   have S_9:=cq9 eS rfl
   have fS:=frozA eS
   go_wp2_with (first | (go_at_call 31; (with_reducible refine (hOps.out _ hX).mono ?_); rintro e w1 ⟨rfl,hb⟩; replace hX:=hX.trans hb; replace eS:=hb.heap eS; clear Ss S_0 S_1 S_2 S_3 S_4 S_5 S_6 S_7 S_8 S_9 fS lscr; have lscr:=scr_ld eS; have Ss:=lt_of_heap eS; have S_0:=cq0 eS rfl; have S_1:=cq1 eS rfl; have S_2:=cq2 eS rfl; have S_3:=cq3 eS rfl; have S_4:=cq4 eS rfl; have S_5:=cq5 eS rfl; have S_6:=cq6 eS rfl; have S_7:=cq7 eS rfl; have S_8:=cq8 eS rfl; have S_9:=cq9 eS rfl; have fS:=frozA eS; clear hb) | ((with_reducible show wpList _ _ _ (⟨some 37,_,_,_,_,_⟩ :: _) _ _); refine wpList_ld rfl rfl rfl (lscr) ?_) | fail)
   go_ret2
   exact ⟨by rw [HRS.out,← HE2.out,if_neg (by decide)]; rfl,hX⟩
  case pos =>
   obtain ⟨m,hmi⟩:∃ m,s.ims[i]? = some m:=⟨s.ims[i]'(by have:=HS.out.lims; omega),List.getElem?_eq_getElem _⟩
   obtain ⟨g,off,eA,lg,hLD⟩:=HS.out.ims.imld hmi hlt
   obtain rfl:=HIA.out.symm.trans eA
   have hV:=hd_ (fun (W:World) (hb:Bel w W) => ivalid_call m s.mx W ((HS.out.img m (List.mem_of_getElem? hmi)).bel hb))
   have hE2:=HE.out
   rw [drop_at hmi,imgsE_cons] at hE2
   have HE2:=hd_ hE2
   have hld:=hLD _ hX
   clear hE2 eA hmi hLD
   have lscr:=scr_ld eS
   have Ss:=lt_of_heap eS
   have S_0:=cq0 eS rfl
   have S_1:=cq1 eS rfl
   have S_2:=cq2 eS rfl
   have S_3:=cq3 eS rfl
   have S_4:=cq4 eS rfl
   have S_5:=cq5 eS rfl
   have S_6:=cq6 eS rfl
   have S_7:=cq7 eS rfl
   have S_8:=cq8 eS rfl
   have S_9:=cq9 eS rfl
   have fS:=frozA eS
   go_upto_region 8 with (first | ((with_reducible show wpList _ _ _ (⟨some 28,_,_,_,_,_⟩ :: _) _ _); refine wpList_ld rfl rfl rfl (hld) ?_) | ((with_reducible show wpList _ _ _ (⟨none,.store _ _ _,_,_,_,_⟩ :: _) _ _); refine wpList_st (n:=0) (g:=wr.heap.size) (cells:=m.cs) rfl rfl rfl rfl (at_new rfl) rfl (by kernel_rfl) (im_one m) ?_; intro Y eM hU; have hY:Bel wr Y:=hU.bel ((Bel.refl wr).al _) (Nat.le_refl _); have lS:=lt_of_heap eS; replace eS:Y.heap[w.heap.size]? = some _:=hU.heap (at_old eS) (by omega); clear lscr Ss S_0 S_1 S_2 S_3 S_4 S_5 S_6 S_7 S_8 S_9 fS hld; have lscr:=scr_ld eS; have limg:=img_ld eM; have Ss:=lt_of_heap eS; have Ms:=lt_of_heap eM; have S_0:=cq0 eS rfl; have S_1:=cq1 eS rfl; have S_2:=cq2 eS rfl; have S_3:=cq3 eS rfl; have S_4:=cq4 eS rfl; have S_5:=cq5 eS rfl; have S_6:=cq6 eS rfl; have S_7:=cq7 eS rfl; have S_8:=cq8 eS rfl; have S_9:=cq9 eS rfl; have M_0:=cq0 eM rfl; have fS:=frozA eS; have fM:=frozA eM) | fail)
   obtain ⟨EV,hEV⟩:∃ EV,EV = validI m s.mx:=⟨_,rfl⟩
   have HX0:=hd_ hX
   clear hX
   have HEV:=hd_ hEV
   by_cases hz:EV = 0
   case neg =>
    have n1:(EV == 0) = false:=beq_eq_false_iff_ne.2 hz
    have n2:(EV != 0) = true:=by rw [bne,n1]; rfl
    clear hEV
    go_wp2_with (first | (go_at_call 30; (with_reducible refine (HEV.out ▸ hV.out _ (HX0.out.trans hY)).mono ?_); rintro e w1 ⟨rfl,hb⟩; replace hY:=hY.trans hb; replace eS:=hb.heap eS; replace eM:=hb.heap eM; clear Ss S_0 S_1 S_2 S_3 S_4 S_5 S_6 S_7 S_8 S_9 fS Ms M_0 fM lscr limg; have lscr:=scr_ld eS; have limg:=img_ld eM; have Ss:=lt_of_heap eS; have Ms:=lt_of_heap eM; have S_0:=cq0 eS rfl; have S_1:=cq1 eS rfl; have S_2:=cq2 eS rfl; have S_3:=cq3 eS rfl; have S_4:=cq4 eS rfl; have S_5:=cq5 eS rfl; have S_6:=cq6 eS rfl; have S_7:=cq7 eS rfl; have S_8:=cq8 eS rfl; have S_9:=cq9 eS rfl; have M_0:=cq0 eM rfl; have fS:=frozA eS; have fM:=frozA eM; clear hb) | ((with_reducible show wpList _ _ _ (⟨some 29,_,_,_,_,_⟩ :: _) _ _); refine wpList_ld rfl rfl rfl (limg) ?_) | fail)
    go_ret2
    have e:=HE2.out
    rw [← HEV.out,if_pos hz] at e
    refine ⟨?_,HX0.out.trans hY⟩
    rw [HRS.out,← e,if_pos hz]
    rfl
   case pos =>
    subst hz
    clear hEV
    go_wp2_with (first | (go_at_call 30; (with_reducible refine (HEV.out ▸ hV.out _ (HX0.out.trans hY)).mono ?_); rintro e w1 ⟨rfl,hb⟩; replace hY:=hY.trans hb; replace eS:=hb.heap eS; replace eM:=hb.heap eM; clear Ss S_0 S_1 S_2 S_3 S_4 S_5 S_6 S_7 S_8 S_9 fS Ms M_0 fM lscr limg; have lscr:=scr_ld eS; have limg:=img_ld eM; have Ss:=lt_of_heap eS; have Ms:=lt_of_heap eM; have S_0:=cq0 eS rfl; have S_1:=cq1 eS rfl; have S_2:=cq2 eS rfl; have S_3:=cq3 eS rfl; have S_4:=cq4 eS rfl; have S_5:=cq5 eS rfl; have S_6:=cq6 eS rfl; have S_7:=cq7 eS rfl; have S_8:=cq8 eS rfl; have S_9:=cq9 eS rfl; have M_0:=cq0 eM rfl; have fS:=frozA eS; have fM:=frozA eM; clear hb) | ((with_reducible show wpList _ _ _ (⟨some 29,_,_,_,_,_⟩ :: _) _ _); refine wpList_ld rfl rfl rfl (limg) ?_) | fail)
    go_roundg (gk - 1)
    case measure => omega
    case rel =>
     refine ⟨i + 1,by omega,by go_num,HX0.out.trans hY,eS,?_⟩
     have e:=HE2.out
     rw [← HEV.out,if_neg (by decide)] at e
     exact e
theorem check_call (s:Scr) (hm:s.Sm) (w:World) (hs:s.In w) (hN:Named w) (hR:Ruled w):Calls Tryz.prog 9 #[s.v] w fun e w' => e = .returned (.tuple #[.int .i64 (checkE s).1,.int .i64 (checkE s).2]) ∧ Bel w w':=by
 by_cases h:frameE s = 0
 ·exact check_rest s hm w hs hN hR h
 ·unfold checkE
  rw [if_pos h]
  exact check_frame s hm w hs h
end Go.Proofs.YtepfoelgegljbaaGreatDoor
