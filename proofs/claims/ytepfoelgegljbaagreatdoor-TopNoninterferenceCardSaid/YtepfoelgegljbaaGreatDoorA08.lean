/- Part A8. -/
import Derived.Test.YtepfoelgegljbaaGreatDoorA07
namespace Go.Proofs.YtepfoelgegljbaaGreatDoor
set_option maxRecDepth 100000
open Go.RowKit Go.Shelf
set_option linter.unusedVariables false
theorem lS_ {α:Type} {a b:α} {l:List α} {n:Nat}:(a :: l).set (n + 1) b = a :: l.set n b:=rfl
theorem l0_ {α:Type} {a b:α} {l:List α}:(a :: l).set 0 b = b :: l:=rfl
theorem lA_ {α:Type} (l:List α) (i:Nat) (a:α):l.toArray.setIfInBounds i a = (l.set i a).toArray:=List.setIfInBounds_toArray ..
attribute [local go_sem] Oper.semAt_some
def Px.vd (p:Px) (mx:Int):Bool:=validB p.x p.y p.z p.a p.f mx
theorem svalid_call (p:Px) (mx:Int) (w:World):Calls Tryz.prog 54 #[p.v,.int .u16 mx] w fun e w' => e = .returned (.bool (p.vd mx)) ∧ Bel w w':=calls_bel (calls_ext1 (valid_call p.x p.y p.z p.a p.f mx w))
def allV (m:Img) (mx:Int) (l:List (Int × Int)):Bool:=l.all fun p => (pxF m p.1 p.2).vd mx
theorem allV_snoc (m:Img) (mx:Int) (l:List (Int × Int)) (p:Int × Int):allV m mx (l ++ [p]) = (allV m mx l && (pxF m p.1 p.2).vd mx):=by unfold allV; rw [List.all_append]; simp
def codeV (m:Img) (mx:Int) (wd ht:Nat):Int:=if allV m mx (uptoP wd ht 0) then 0 else 8
def validI (m:Img) (mx:Int):Int:=if shapeI m ≠ 0 then shapeI m else if m.solid then (if m.col.vd mx then 0 else 8) else codeV m mx m.w.toNat m.h.toNat
theorem keeps_below {W W':World} (h:Below W.heap.size W W'):KeepsOthers W W':=⟨h.size,fun k o hk _ => (h.block k (lt_of_heap hk)).trans hk⟩
set_option maxHeartbeats 4000000 in
theorem ivalid_shape (m:Img) (mx:Int) (w:World) (hm:m.In w) (h:shapeI m ≠ 0):Calls Tryz.prog 30 #[m.v,.int .u16 mx] w fun e w' => e = .returned (.int .i64 (shapeI m)) ∧ Bel w w':=by
 have hS:=hd_ (fun w => shape_call m hm.lens w)
 have hV:=hd_ (fun w => svalid_call m.col mx w)
 have hn1:(shapeI m == 0) = false:=beq_eq_false_iff_ne.2 h
 have hn2:(shapeI m != 0) = true:=by rw [bne,hn1]; rfl
 clear h hm
 refine (callsIn_wide (n:=4)).1 ?_
 refine callsIn_of_wp_marks Tryz.func30 rfl trivial ?_ rfl
 simp only [Tryz.ntmps30,List.size_toArray,List.length_cons,List.length_nil,Nat.reduceAdd,Nat.reduceSub,Array.replicate_succ,Array.replicate_zero,List.push_toArray,List.append_toArray,List.nil_append,List.cons_append]
 refine (wpIn_wide (n:=4)).2 ?_
 go_upto_region 1 with fail
 refine at_world (fun V => Bel w V ∧ V.heap[w.heap.size]? = some (oIm m) ∧ V.heap[w.heap.size + 1]? = some (.cells #[.int .u16 mx] 27) ∧ V.heap[w.heap.size + 1 + 1]? = some (.cells #[.int .i64 0] 47)) ⟨(((Bel.refl w).al _).al _).al _,at_old (at_old (at_new (by first | rfl | simp))),at_old (at_new (by first | rfl | simp)),at_new (by first | rfl | simp)⟩ ?_
 rintro V ⟨hX,eM,eX,eR⟩
 have Ms:=lt_of_heap eM
 have Xs:=lt_of_heap eX
 have Rs:=lt_of_heap eR
 have M_0:=cq0 eM rfl
 have M_1:=cq1 eM rfl
 have M_2:=cq2 eM rfl
 have M_3:=cq3 eM rfl
 have M_4:=cq4 eM rfl
 have M_5:=cq5 eM rfl
 have M_6:=cq6 eM rfl
 have M_7:=cq7 eM rfl
 have X_0:=cq0 eX rfl
 have R_0:=cq0 eR rfl
 have fM:=frozA eM
 have fX:=frozA eX
 have fR:=frozA eR
 go_wp2_with (first | ((first | (go_at_call 53; (with_reducible refine (hS.out _).mono ?_)) | (go_at_call 54; (with_reducible refine (hV.out _).mono ?_))); rintro e w1 ⟨rfl,hb⟩; replace hX:=hX.trans hb; replace eM:=hb.heap eM; replace eX:=hb.heap eX; replace eR:=hb.heap eR; clear Ms M_0 M_1 M_2 M_3 M_4 M_5 M_6 M_7 fM Xs X_0 fX Rs R_0 fR; have Ms:=lt_of_heap eM; have Xs:=lt_of_heap eX; have Rs:=lt_of_heap eR; have M_0:=cq0 eM rfl; have M_1:=cq1 eM rfl; have M_2:=cq2 eM rfl; have M_3:=cq3 eM rfl; have M_4:=cq4 eM rfl; have M_5:=cq5 eM rfl; have M_6:=cq6 eM rfl; have M_7:=cq7 eM rfl; have X_0:=cq0 eX rfl; have R_0:=cq0 eR rfl; have fM:=frozA eM; have fX:=frozA eX; have fR:=frozA eR; clear hb) | (refine wpList_ld rfl rfl rfl (img_ld eM) ?_) | fail)
 refine ⟨.int .i64 _,by simp [results,Tryz.f30,go_sem, *],rfl,?_⟩
 repeat (with_reducible first | exact hX | refine Bel.setCell ?_ (by omega) _ | refine Bel.al ?_ _ | refine Bel.dr ?_ | refine Bel.mo ?_ _ | refine Bel.dn ?_ _)
theorem tlUIValid0 {p:Prop} (h:p:=by
  have hS:=hd_ (fun w => shape_call m hm.lens w)
  have hV:=hd_ (fun w => svalid_call m.col mx w)
  rw [h] at hS
  rw [hv] at hV
  have HBB:=hd_ hB
  clear h hm hB hv
  refine (callsIn_wide (n:=4)).1 ?_
  refine callsIn_of_wp_marks Tryz.func30 rfl trivial ?_ rfl
  simp only [Tryz.ntmps30,List.size_toArray,List.length_cons,List.length_nil,Nat.reduceAdd,Nat.reduceSub,Array.replicate_succ,Array.replicate_zero,List.push_toArray,List.append_toArray,List.nil_append,List.cons_append]
  refine (wpIn_wide (n:=4)).2 ?_
  go_upto_region 1 with fail
  refine at_world (fun V => Bel w V ∧ V.heap[w.heap.size]? = some (oIm m) ∧ V.heap[w.heap.size + 1]? = some (.cells #[.int .u16 mx] 27) ∧ V.heap[w.heap.size + 1 + 1]? = some (.cells #[.int .i64 0] 47)) ⟨(((Bel.refl w).al _).al _).al _,at_old (at_old (at_new (by first | rfl | simp))),at_old (at_new (by first | rfl | simp)),at_new (by first | rfl | simp)⟩ ?_
  rintro V ⟨hX,eM,eX,eR⟩
  have Ms:=lt_of_heap eM
  have Xs:=lt_of_heap eX
  have Rs:=lt_of_heap eR
  have M_0:=cq0 eM rfl
  have M_1:=cq1 eM rfl
  have M_2:=cq2 eM rfl
  have M_3:=cq3 eM rfl
  have M_4:=cq4 eM rfl
  have M_5:=cq5 eM rfl
  have M_6:=cq6 eM rfl
  have M_7:=cq7 eM rfl
  have X_0:=cq0 eX rfl
  have R_0:=cq0 eR rfl
  have fM:=frozA eM
  have fX:=frozA eX
  have fR:=frozA eR
  go_upto_region 4 with (first | ((first | (go_at_call 53; (with_reducible refine (hS.out _).mono ?_)) | (go_at_call 54; (with_reducible refine (hV.out _).mono ?_))); rintro e w1 ⟨rfl,hb⟩; replace hX:=hX.trans hb; replace eM:=hb.heap eM; replace eX:=hb.heap eX; replace eR:=hb.heap eR; clear Ms M_0 M_1 M_2 M_3 M_4 M_5 M_6 M_7 fM Xs X_0 fX Rs R_0 fR; have Ms:=lt_of_heap eM; have Xs:=lt_of_heap eX; have Rs:=lt_of_heap eR; have M_0:=cq0 eM rfl; have M_1:=cq1 eM rfl; have M_2:=cq2 eM rfl; have M_3:=cq3 eM rfl; have M_4:=cq4 eM rfl; have M_5:=cq5 eM rfl; have M_6:=cq6 eM rfl; have M_7:=cq7 eM rfl; have X_0:=cq0 eX rfl; have R_0:=cq0 eR rfl; have fM:=frozA eM; have fX:=frozA eX; have fR:=frozA eR; clear hb) | (refine wpList_ld rfl rfl rfl (img_ld eM) ?_) | fail)
  have hB:=HBB.out
  go_wp2_with (first | ((first | (go_at_call 53; (with_reducible refine (hS.out _).mono ?_)) | (go_at_call 54; (with_reducible refine (hV.out _).mono ?_))); rintro e w1 ⟨rfl,hb⟩; replace hX:=hX.trans hb; replace eM:=hb.heap eM; replace eX:=hb.heap eX; replace eR:=hb.heap eR; clear Ms M_0 M_1 M_2 M_3 M_4 M_5 M_6 M_7 fM Xs X_0 fX Rs R_0 fR; have Ms:=lt_of_heap eM; have Xs:=lt_of_heap eX; have Rs:=lt_of_heap eR; have M_0:=cq0 eM rfl; have M_1:=cq1 eM rfl; have M_2:=cq2 eM rfl; have M_3:=cq3 eM rfl; have M_4:=cq4 eM rfl; have M_5:=cq5 eM rfl; have M_6:=cq6 eM rfl; have M_7:=cq7 eM rfl; have X_0:=cq0 eX rfl; have R_0:=cq0 eR rfl; have fM:=frozA eM; have fX:=frozA eX; have fR:=frozA eR; clear hb) | (refine wpList_ld rfl rfl rfl (img_ld eM) ?_) | fail)
  refine ⟨.int .i64 _,by simp [results,Tryz.f30,go_sem, *],rfl,?_⟩
  repeat (with_reducible first | exact hX | refine Bel.setCell ?_ (by omega) _ | refine Bel.al ?_ _ | refine Bel.dr ?_ | refine Bel.mo ?_ _ | refine Bel.dn ?_ _)):p:=h
set_option maxHeartbeats 4000000 in
theorem ivalid_solid0 (m:Img) (mx:Int) (w:World) (hm:m.In w) (h:shapeI m = 0) (hB:m.solid = true) (hv:m.col.vd mx = false):Calls Tryz.prog 30 #[m.v,.int .u16 mx] w fun e w' => e = .returned (.int .i64 8) ∧ Bel w w':=by
 exact tlUIValid0
set_option maxHeartbeats 4000000 in
theorem ivalid_solid1 (m:Img) (mx:Int) (w:World) (hm:m.In w) (h:shapeI m = 0) (hB:m.solid = true) (hv:m.col.vd mx = true):Calls Tryz.prog 30 #[m.v,.int .u16 mx] w fun e w' => e = .returned (.int .i64 0) ∧ Bel w w':=by
 exact tlUIValid0
set_option maxHeartbeats 8000000 in
theorem ivalid_plain (m:Img) (mx:Int) (w:World) (hm:m.In w) (h:shapeI m = 0) (hfm:formB m = true) (hB:m.solid = false) (wd ht:Nat) (hwd:m.w = wd) (hht:m.h = ht) (l1:wd ≤ 16777216) (l2:ht ≤ 16777216):Calls Tryz.prog 30 #[m.v,.int .u16 mx] w fun e w' => e = .returned (.int .i64 (codeV m mx wd ht)) ∧ Bel w w':=by
 have hS:=hd_ (fun w => shape_call m hm.lens w)
 have hV:=hd_ (fun w => svalid_call m.col mx w)
 have HW:=hd_ hwd
 have HH:=hd_ hht
 have HF:=hd_ hfm
 have HM:=hd_ hm
 have HBB:=hd_ hB
 rw [h] at hS
 clear hB h hm hwd hht hfm
 refine (callsIn_wide (n:=4)).1 ?_
 refine callsIn_of_wp_marks Tryz.func30 rfl trivial ?_ rfl
 simp only [Tryz.ntmps30,List.size_toArray,List.length_cons,List.length_nil,Nat.reduceAdd,Nat.reduceSub,Array.replicate_succ,Array.replicate_zero,List.push_toArray,List.append_toArray,List.nil_append,List.cons_append]
 refine (wpIn_wide (n:=4)).2 ?_
 go_upto_region 1 with fail
 refine at_world (fun V => Bel w V ∧ V.heap[w.heap.size]? = some (oIm m) ∧ V.heap[w.heap.size + 1]? = some (.cells #[.int .u16 mx] 27) ∧ V.heap[w.heap.size + 1 + 1]? = some (.cells #[.int .i64 0] 47)) ⟨(((Bel.refl w).al _).al _).al _,at_old (at_old (at_new (by first | rfl | simp))),at_old (at_new (by first | rfl | simp)),at_new (by first | rfl | simp)⟩ ?_
 rintro V ⟨hX,eM,eX,eR⟩
 have Ms:=lt_of_heap eM
 have Xs:=lt_of_heap eX
 have Rs:=lt_of_heap eR
 have M_0:=cq0 eM rfl
 have M_1:=cq1 eM rfl
 have M_2:=cq2 eM rfl
 have M_3:=cq3 eM rfl
 have M_4:=cq4 eM rfl
 have M_5:=cq5 eM rfl
 have M_6:=cq6 eM rfl
 have M_7:=cq7 eM rfl
 have X_0:=cq0 eX rfl
 have R_0:=cq0 eR rfl
 have fM:=frozA eM
 have fX:=frozA eX
 have fR:=frozA eR
 go_upto_region 4 with (first | ((first | (go_at_call 53; (with_reducible refine (hS.out _).mono ?_)) | (go_at_call 54; (with_reducible refine (hV.out _).mono ?_))); rintro e w1 ⟨rfl,hb⟩; replace hX:=hX.trans hb; replace eM:=hb.heap eM; replace eX:=hb.heap eX; replace eR:=hb.heap eR; clear Ms M_0 M_1 M_2 M_3 M_4 M_5 M_6 M_7 fM Xs X_0 fX Rs R_0 fR; have Ms:=lt_of_heap eM; have Xs:=lt_of_heap eX; have Rs:=lt_of_heap eR; have M_0:=cq0 eM rfl; have M_1:=cq1 eM rfl; have M_2:=cq2 eM rfl; have M_3:=cq3 eM rfl; have M_4:=cq4 eM rfl; have M_5:=cq5 eM rfl; have M_6:=cq6 eM rfl; have M_7:=cq7 eM rfl; have X_0:=cq0 eX rfl; have R_0:=cq0 eR rfl; have fM:=frozA eM; have fX:=frozA eX; have fR:=frozA eR; clear hb) | (refine wpList_ld rfl rfl rfl (img_ld eM) ?_) | fail)
 have hB:=HBB.out
 go_upto_region 8 with fail
 clear hB
 obtain ⟨w1,rfl⟩:∃ W:World,W = w1:=⟨_,rfl⟩
 go_wp2_with (go_at_call 55; refine (places_call _ _ _).mono ?_; rintro e w2 ⟨rfl,rfl⟩)
 refine at_world (fun U => Bel w U ∧ U.heap[w.heap.size]? = some (oIm m) ∧ U.heap[w.heap.size + 1]? = some (.cells #[.int .u16 mx] 27) ∧ U.heap[w.heap.size + 1 + 1]? = some (.cells #[.int .i64 0] 47) ∧ U.heap[w1.heap.size]? = some (.cells #[.int .i64 m.w] 3) ∧ U.heap[w1.heap.size + 1]? = some (.cells #[.int .i64 m.h] 3)) ⟨(hX.al _).al _,at_old (at_old eM),at_old (at_old eX),at_old (at_old eR),at_old (at_new rfl),at_new (by simp)⟩ ?_
 rintro U ⟨hX,eM,eX,eR,eW,eH⟩
 have zW:=lt_of_heap eW
 have zH:=lt_of_heap eH
 have zR:=lt_of_heap eR
 have kH:=cq0 eH rfl
 have kW:=cq0 eW rfl
 rw [HH.out] at kH
 rw [HW.out] at kW
 refine (wpIn_wide (n:=4)).1 ?_
 refine wpIn_rangeFunc_ownF (n:=4) rfl (by decide) (gf:=68) (lb:=#[.pointer (some ⟨w1.heap.size + 1,0,none⟩),.pointer (some ⟨w1.heap.size,0,none⟩)]) rfl trivial (enters_of Tryz.func68 (by kernel_rfl) rfl)
  (places_stops 3 (by decide) _ _ U.heap.size wd ht l1 l2 U (Nat.le_refl _) zH zW kH kW) belowK_t (belowK_b (Nat.le_refl _)) (Below.refl _ _) (fun _ => rfl)
  (fun pre W => allV m mx (pre.map (·.1)) = true ∧ Below U.heap.size U W)
  (fun c pre W => (c = .ret ∧ allV m mx (pre.map (·.1)) = false) ∧ Below w.heap.size w W ∧ W.cell? ⟨w.heap.size + 1 + 1,0,none⟩ = some (.int .i64 8))
  (OwnFrom.and (fun _ _ _ _ h _ _ => h) (ownFrom_below (Nat.le_refl _) (Nat.le_refl _)))
  (fun c => OwnFrom.and (fun _ _ _ _ h _ _ => h) (OwnFrom.and (ownFrom_below (Nat.le_refl _) hX.size') (fun _ _ _ _ h hg hr => cell_kept h hg fun r e => (hr r e).2)))
  ⟨rfl,Below.refl _ _⟩ ?a1 ?assign ?body ?done ?stop
 case assign =>
  intro l x W K hK
  gi_wp2
  exact hK
 case body =>
  rintro l pre x W ⟨hv,hb⟩ hlen
  obtain ⟨⟨xi,yi⟩,i,j,hxy,hi,hj⟩:=x
  obtain ⟨rfl,rfl⟩:xi = (i:Int) ∧ yi = (j:Int):=by simpa using hxy
  have hin:inB m i j = true:=inB_iff.2 ⟨by omega,by rw [HW.out]; omega,by omega,by rw [HH.out]; omega⟩
  have hP:=hd_ (fun (q:Bw W) => calls_bq (q:=q) (pixel_call m i j HF.out hin q.W (HM.out.bel (hX.trans (Bel.trans hb q.h)))))
  have hD:=hd_ (fun (q:Bw W) => calls_bq (q:=q) (svalid_call (pxF m i j) mx q.W))
  have hx:∀ q:Bw W,q.W.cell? ⟨w.heap.size + 1,0,none⟩ = some (.int .u16 mx):=fun q => q.h.cell (Bel.cell hb (cell_of eX rfl))
  have hr:∀ q:Bw W,q.W.cell? ⟨w.heap.size + 1 + 1,0,none⟩ = some (.int .i64 0):=fun q => q.h.cell (Bel.cell hb (cell_of eR rfl))
  have hrf:∀ q:Bw W,q.W.frozen? ⟨w.heap.size + 1 + 1,0,none⟩ = false:=fun q => froz_cells (q.h.heap (Bel.heap hb eR))
  have EM:=hd_ (Bel.heap hb eM)
  have hsn:=hd_ (allV_snoc m mx (pre.map (·.1)) ((i:Int),(j:Int)))
  have HV:=hd_ hv
  have HBB2:=hd_ hb
  generalize pxF m i j = R at *
  generalize R.vd mx = V at *
  clear hin hlen hv hb kW kH eW eH eM eX eR
  cases V
  all_goals
   gi_wp2
   refine region_round (by kernel_rfl) (by kernel_rfl) (by simp) ?_
   refine wpQuiet_ld (op:=⟨some 27,_,_,_,_,_⟩) rfl rfl rfl (fun w' hw' => by obtain ⟨q,rfl⟩:=hw'; exact img_ld (q.h.heap EM.out)) ?_
   simp only [Act.put,lA_,lS_,l0_]
   repeat (go_big_quiet_step (first | (go_at_call 56; exact hP.out _) | (go_at_call 54; exact hD.out _)))
   refine wpQuiet_nil ?_
   rintro w2 ⟨q,rfl⟩
   gi_wp2
  ·refine ⟨(keeps_below q.h).trans (KeepsOthers.setCell _ _ _),⟨rfl,?_⟩,?_,World.cell?_setCell_same' _ _ _ (by rw [hr]; rfl)⟩
   ·rw [List.map_append,List.map_cons,List.map_nil,hsn.out,Bool.and_false]
   ·exact (hX.trans (Bel.trans HBB2.out q.h)).setCell (by omega) _
  ·refine ⟨keeps_below q.h,q.h.mono HBB2.out.size,?_,HBB2.out.trans (q.h.mono HBB2.out.size)⟩
   rw [List.map_append,List.map_cons,List.map_nil,hsn.out,HV.out]
   rfl
 case done =>
  rintro D xs W hD hS ⟨hv,hb⟩ hK
  have hr:W.cell? ⟨w.heap.size + 1 + 1,0,none⟩ = some (.int .i64 0):=Bel.cell hb (cell_of eR rfl)
  have hrf:W.frozen? ⟨w.heap.size + 1 + 1,0,none⟩ = false:=froz_cells (Bel.heap hb eR)
  have hval:=hd_ (show allV m mx (uptoP wd ht 0) = true by rw [← hS]; exact hv)
  have HB3:=hd_ (hX.trans hb)
  have HK:=hd_ hK
  clear hS hv hb hK kW kH eW eH eM eX eR
  go_wp2_with fail
  have hK':=heap_set_other (b:=w.heap.size + 1 + 1) (i:=0) (.int .i64 0) (by omega) HK.out
  refine ⟨by simp,.inl ⟨_,_,rfl,run_takeDeferred hK',?_⟩⟩
  have hc:=cell_kept (World.cell?_setCell_same' W ⟨w.heap.size + 1 + 1,0,none⟩ (.int .i64 0) (by rw [hr]; rfl)) (grownBy_putObj' _ D (.deferred none)) (fun r e => by cases e; exact ⟨_,hK',rfl⟩)
  refine ⟨.int .i64 0,by simp [results,Tryz.f30,go_sem,hc],by unfold codeV; rw [hval.out]; rfl,?_⟩
  exact (HB3.out.setCell (by omega) _).grown (grownBy_putObj' _ D _) (fun k e => by cases e; have:=HB3.out.size'; have:=hX.size'; omega)
 case stop =>
  rintro D c pre W hD ⟨y,x,hy,hx,hpre⟩ ⟨⟨rfl,hv⟩,hb,hc0⟩ hK
  have hval:=hd_ (show allV m mx (uptoP wd ht 0) = false by
   rw [hpre] at hv
   unfold allV at hv ⊢
   rw [List.all_eq_false] at hv ⊢
   obtain ⟨p,hp,hn⟩:=hv
   obtain ⟨i,j,rfl,hi,hj,hij⟩:=uptoP_mem hp
   exact ⟨_,mem_uptoP (by omega) (by omega),hn⟩)
  have HB3:=hd_ hb
  have HK:=hd_ hK
  clear hv hb hK kW kH eW eH eM eX eR
  gi_wp2
  refine ⟨by simp,.inl ⟨_,_,rfl,run_takeDeferred HK.out,?_⟩⟩
  have hc:=cell_kept hc0 (grownBy_putObj' _ D (.deferred none)) (fun r e => by cases e; exact ⟨_,HK.out,rfl⟩)
  refine ⟨.int .i64 8,by simp [results,Tryz.f30,go_sem,hc],by unfold codeV; rw [hval.out]; rfl,?_⟩
  exact Bel.grown HB3.out (grownBy_putObj' _ D _) (fun k e => by cases e; have:=hX.size'; omega)
theorem ivalid_call (m:Img) (mx:Int) (w:World) (hm:m.In w):Calls Tryz.prog 30 #[m.v,.int .u16 mx] w fun e w' => e = .returned (.int .i64 (validI m mx)) ∧ Bel w w':=by
 unfold validI
 by_cases h:shapeI m = 0
 case neg =>
  rw [if_pos h]
  exact ivalid_shape m mx w hm h
 rw [if_neg (by rw [h]; decide)]
 have hf:sizeB m.w m.h = true ∧ formB m = true:=by
  unfold shapeI at h
  split at h
  ·rename_i h1
   split at h
   ·exact ⟨h1,by assumption⟩
   ·cases h
  ·cases h
 cases hB:m.solid
 ·rw [if_neg (by decide)]
  obtain ⟨s0,s1,s2,s3⟩:=size_le hf.1
  exact ivalid_plain m mx w hm h hf.2 hB _ _ (by omega) (by omega) (by omega) (by omega)
 ·rw [if_pos rfl]
  cases hv:m.col.vd mx
  ·exact ivalid_solid0 m mx w hm h hB hv
  ·exact ivalid_solid1 m mx w hm h hB hv
end Go.Proofs.YtepfoelgegljbaaGreatDoor
namespace Go.Proofs.YtepfoelgegljbaaGreatDoor
set_option maxRecDepth 100000
open Go.RowKit
theorem genPixel_ex (n0 n1 n2 n3 n4 m:Int) (w:World) (m0:0 ≤ m) (m1:m ≤ 65535) (h0:-9223372036854775808 ≤ n0) (g0:n0 ≤ 9223372036854775807) (h1:-9223372036854775808 ≤ n1) (g1:n1 ≤ 9223372036854775807) (h2:-9223372036854775808 ≤ n2) (g2:n2 ≤ 9223372036854775807) (h3:-9223372036854775808 ≤ n3) (g3:n3 ≤ 9223372036854775807) (h4:-9223372036854775808 ≤ n4) (g4:n4 ≤ 9223372036854775807) :
  Calls Tryz.prog 42 #[.agg #[.int .i64 n0,.int .i64 n1,.int .i64 n2,.int .i64 n3,.int .i64 n4],.int .u16 m] w fun e w' =>
   ∃ x y z a f:Int,e = .returned (.agg #[.int .u16 x,.int .u16 y,.int .u16 z,.int .u16 a,.int .u16 f]) ∧ validB x y z a f m = true ∧ 0 ≤ x ∧ 0 ≤ y ∧ 0 ≤ z ∧ ∃ o1 o2:Obj,∃ n:Nat,w' = (((w.alloc o1).alloc o2).drewN n):=by
 refine (genPixel n0 n1 n2 n3 n4 m w m0 m1 h0 g0 h1 g1 h2 g2 h3 g3 h4 g4).mono ?_
 rintro e w' ⟨rfl,hw⟩
 obtain ⟨f0,f1⟩:=gsam_bounds n4 m m0
 obtain ⟨a0,a1⟩:=galp_bounds n3 n4 m m0
 obtain ⟨x0,x1⟩:=gsam_bounds n0 (galp n3 n4 m) a0
 obtain ⟨y0,y1⟩:=gsam_bounds n1 (galp n3 n4 m) a0
 obtain ⟨z0,z1⟩:=gsam_bounds n2 (galp n3 n4 m) a0
 exact ⟨_,_,_,_,_,rfl,decide_eq_true ⟨x1,y1,z1,a1,f1⟩,x0,y0,z0,hw⟩
theorem valid_parts {x y z a f m:Int} (hv:validB x y z a f m = true):x ≤ a ∧ y ≤ a ∧ z ≤ a ∧ a ≤ f ∧ f ≤ m:=by simpa [validB] using hv
end Go.Proofs.YtepfoelgegljbaaGreatDoor
