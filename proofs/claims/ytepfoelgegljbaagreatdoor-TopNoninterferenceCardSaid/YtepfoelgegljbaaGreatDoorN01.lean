/- Part N1. -/
import Derived.Test.YtepfoelgegljbaaGreatDoorA46
namespace Go.Proofs.YtepfoelgegljbaaGreatDoor
set_option maxRecDepth 100000
open Go.RowKit
set_option linter.unusedVariables false
theorem can_ld {W:World} {g:Nat} {v0 v1 v2 v3 v4 v5 v6 v7 v8 v9:Value} {t:TypeId} (e:W.heap[g]? = some (.cells #[v0,v1,v2,v3,v4,v5,v6,v7,v8,v9] t)):Sem.run Tryz.prog (Instr.loadAt 34 (.pointer (some ⟨g,1,none⟩))) W = .ok (.agg #[v1,v2,v3,v4]) W :=
 run_loadAt_mid (P:=Tryz.prog) W g 1 34 [v1,v2,v3,v4] _ (fun j v hv => by
  have hj:j < 4:=by have:=(List.getElem?_eq_some_iff.1 hv).1; simpa using this
  have hh:(j = 0 ∨ j = 1 ∨ j = 2 ∨ j = 3):=by omega
  rcases hh with rfl | rfl | rfl | rfl <;> exact cell_of e hv) Tryz.underlying34 (by rfl) (by kernel_rfl)
set_option linter.unusedSimpArgs false
set_option maxHeartbeats 4000000 in
theorem point_ex (r:Rc) (hr:r.ti) (x y:Int) (w:World) :
  Calls Tryz.prog 15 #[r.val,.int .i64 x,.int .i64 y] w fun e w' => ∃ u v:Int,e = .returned (.tuple #[.int .i64 u,.int .i64 v]) ∧ r.x ≤ u ∧ u < r.u ∧ r.y ≤ v ∧ v < r.v ∧ Bel w w':=by
 have t0:IntKind.i64.wrap (r.u - r.x) = (r.u - r.x):=wrap_i64 _ (by have:=hr.x0; have:=hr.x1; have:=hr.x2; have:=hr.y0; have:=hr.y1; have:=hr.y2; omega) (by have:=hr.x0; have:=hr.x1; have:=hr.x2; have:=hr.y0; have:=hr.y1; have:=hr.y2; omega)
 have t1:IntKind.i64.wrap (r.v - r.y) = (r.v - r.y):=wrap_i64 _ (by have:=hr.x0; have:=hr.x1; have:=hr.x2; have:=hr.y0; have:=hr.y1; have:=hr.y2; omega) (by have:=hr.x0; have:=hr.x1; have:=hr.x2; have:=hr.y0; have:=hr.y1; have:=hr.y2; omega)
 have a0:0 ≤ x % (r.u - r.x):=Int.emod_nonneg _ (by have:=hr.x1; omega)
 have a1:x % (r.u - r.x) < r.u - r.x:=Int.emod_lt_of_pos _ (by have:=hr.x1; omega)
 have b0:0 ≤ y % (r.v - r.y):=Int.emod_nonneg _ (by have:=hr.y1; omega)
 have b1:y % (r.v - r.y) < r.v - r.y:=Int.emod_lt_of_pos _ (by have:=hr.y1; omega)
 have hMx:=hd_ (fun W => calls_bs (mod_call x (r.u - r.x) W (by have:=hr.x1; omega) (by have:=hr.x0; have:=hr.x2; omega)))
 have hMy:=hd_ (fun W => calls_bs (mod_call y (r.v - r.y) W (by have:=hr.y1; omega) (by have:=hr.y0; have:=hr.y2; omega)))
 obtain ⟨h0,h1,h2,h3,h4,h5⟩:=hr
 generalize x % (r.u - r.x) = D1 at *
 generalize y % (r.v - r.y) = D2 at *
 have u1:IntKind.i64.wrap (r.x + D1) = r.x + D1:=wrap_i64 _ (by omega) (by omega)
 have u2:IntKind.i64.wrap (r.y + D2) = r.y + D2:=wrap_i64 _ (by omega) (by omega)
 go_enter Tryz.func15,Tryz.ntmps15
 go_upto_region 1 with fail
 refine at_world (fun V => Bel w V ∧ V.heap[w.heap.size]? = some (.cells #[.int .i64 r.x,.int .i64 r.y,.int .i64 r.u,.int .i64 r.v] 34)) ⟨(Bel.refl w).al _,at_new (by first | rfl | simp)⟩ ?_
 rintro V ⟨hX,eC⟩
 have Cs:=lt_of_heap eC
 have C_0:=cq0 eC rfl
 have C_1:=cq1 eC rfl
 have C_2:=cq2 eC rfl
 have C_3:=cq3 eC rfl
 have fC:=frozA eC
 have qC_0:=fun q:Bw V => q.h.cell C_0
 have qC_1:=fun q:Bw V => q.h.cell C_1
 have qC_2:=fun q:Bw V => q.h.cell C_2
 have qC_3:=fun q:Bw V => q.h.cell C_3
 have hx:=hd_ (fun q:Bw V => calls_bq (q:=q) (hMx.out q.W))
 have hy:=hd_ (fun q:Bw V => calls_bq (q:=q) (hMy.out q.W))
 refine region_bel (by kernel_rfl) (by kernel_rfl) ?_
 repeat (go_big_quiet_step (first | (go_at_call 8; with_reducible exact hx.out _) | (go_at_call 8; with_reducible exact hy.out _)))
 refine wpQuiet_nil ?_
 rintro w2 ⟨q,rfl⟩
 go_wp2_with fail
 go_returns
 exact ⟨r.x + D1,r.y + D2,rfl,by omega,by omega,by omega,by omega,hX.trans q.h⟩
def SzEq (l l2:List Img):Prop:=∀ i,(imAt l2 i).w = (imAt l i).w ∧ (imAt l2 i).h = (imAt l i).h
theorem placed_sz {l l2:List Img} (h:SzEq l l2) (can:Rc) (i x y:Int):placedF can l2 i x y = placedF can l i x y:=by
 unfold placedF
 rw [(h i).1,(h i).2]
theorem box_sz {l l2:List Img} (h:SzEq l l2) (can:Rc) (o:Opr) (src:Rc):boxF can l2 o src = boxF can l o src:=by
 unfold boxF maskRc
 rw [placed_sz h]
theorem dBox_sz {l l2:List Img} (h:SzEq l l2) (can:Rc) (o:Opr):dBox can l2 o = dBox can l o:=by
 unfold dBox
 rw [box_sz h,placed_sz h]
theorem hull_sz {l l2:List Img} (h:SzEq l l2) (can:Rc) (F:Fo):∀ q,hullFo can l2 F q = hullFo can l F q:=by
 induction F with
 | nil => exact fun q => rfl
 | draw o r ih =>
  intro q
  show hullFo can l2 r (hull1 (hull1 zRc q) (dBox can l2 o)) = hullFo can l r (hull1 (hull1 zRc q) (dBox can l o))
  rw [dBox_sz h,ih]
 | grp o k r ihk ihr =>
  intro q
  show hullFo can l2 r (hull1 (hull1 zRc q) (boxF can l2 o (hullFo can l2 k zRc))) = hullFo can l r (hull1 (hull1 zRc q) (boxF can l o (hullFo can l k zRc)))
  rw [ihk,box_sz h,ihr]
theorem gBox_sz {l l2:List Img} (h:SzEq l l2) (can:Rc) (o:Opr) (k:Fo):gBox can l2 o k = gBox can l o k:=by
 unfold gBox
 rw [hull_sz h,box_sz h]
structure Agr (l l2:List Img) (X Y:Int) (o:Opr):Prop where
 im:o.k = 1 → atF (imAt l2 o.im) (X - o.x) (Y - o.y) = atF (imAt l o.im) (X - o.x) (Y - o.y)
 ms:o.ms ≠ 0 → atF (imAt l2 (o.ms - 1)) (X - o.mx) (Y - o.my) = atF (imAt l (o.ms - 1)) (X - o.mx) (Y - o.my)
theorem Agr.kAt {l l2:List Img} {X Y:Int} {o:Opr} (h:Agr l l2 X Y o) (mx:Int):kAt l2 mx o X Y = kAt l mx o X Y:=by
 unfold Go.Proofs.YtepfoelgegljbaaGreatDoor.kAt
 split
 ·rfl
 ·rename_i hn
  rw [h.ms hn]
theorem Agr.paint {l l2:List Img} {X Y:Int} {o:Opr} (h:Agr l l2 X Y o) (mx:Int) (f:Fr) (p:Px):f.paint l2 mx X Y o p = f.paint l mx X Y o p:=by
 unfold Fr.paint
 rw [h.kAt]
theorem evalF_agr {can:Rc} {l l2:List Img} {mx:Int} {R:Rc} {X Y:Int} (hz:SzEq l l2) (F:Fo) (hk:F.kd) (h:∀ o ∈ F.flat,Agr l l2 X Y o):∀ f,evalF can l2 mx R X Y F f = evalF can l mx R X Y F f:=by
 induction F with
 | nil => exact fun f => rfl
 | draw o r ih =>
  intro f
  simp only [Fo.flat,List.mem_cons,forall_eq_or_imp] at h
  show evalF can l2 mx R X Y r (if hits (dBox can l2 o) R then f.paint l2 mx X Y o (sAt l2 o X Y) else f) = evalF can l mx R X Y r (if hits (dBox can l o) R then f.paint l mx X Y o (sAt l o X Y) else f)
  have hs:sAt l2 o X Y = sAt l o X Y:=h.1.im hk.1
  rw [dBox_sz hz,h.1.paint,hs,ih hk.2 h.2]
 | grp o k r ihk ihr =>
  intro f
  simp only [Fo.flat,List.mem_cons,List.mem_append,forall_eq_or_imp] at h
  show evalF can l2 mx R X Y r (if hits (gBox can l2 o k) R then f.paint l2 mx X Y o (resF mx (evalF can l2 mx R X Y k (f.push o)).c (f.push o).b) else f) = evalF can l mx R X Y r (if hits (gBox can l o k) R then f.paint l mx X Y o (resF mx (evalF can l mx R X Y k (f.push o)).c (f.push o).b) else f)
  rw [gBox_sz hz,h.1.paint,ihk hk.2.1 (fun q hq => h.2 q (.inl hq)),ihr hk.2.2 (fun q hq => h.2 q (.inr (.inr hq)))]
theorem gF_agr {s t:Scr} {F:Fo} (hk:F.kd) (e1:t.can = s.can) (e3:t.mx = s.mx) (e4:t.tls = s.tls) (hz:SzEq s.ims t.ims) (j i:Nat) (h:∀ o ∈ F.flat,Agr s.ims t.ims (s.can.x + i) (s.can.y + j) o):t.gF F j i = s.gF F j i:=by
 unfold Scr.gF
 rw [e1,e3,e4]
 have h:=fold_eq (can:=s.can) (can2:=s.can) (l:=s.ims) (l2:=t.ims) (mx:=s.mx) (mx2:=s.mx) (F:=F) (G:=F) id j i s.tls (fun R hR => ⟨Iff.rfl,fun hin => by
  unfold ptF
  dsimp only [id]
  rw [evalF_agr hz F hk h]⟩) (fun _ _ => pxz) (fun _ _ => pxz) rfl
 rw [List.map_id] at h
 exact h
def imgL (m:Img) (wd y x:Nat):List Px:=(uptoP wd y x).map fun p => pxF m p.1 p.2
theorem imgL_succ (m:Img) (wd y x:Nat):imgL m wd y (x + 1) = imgL m wd y x ++ [pxF m x y]:=by unfold imgL; rw [uptoP_succ,List.map_append]; rfl
theorem imgL_row (m:Img) (wd y:Nat):imgL m wd (y + 1) 0 = imgL m wd y wd:=by unfold imgL; rw [uptoP_row]
set_option maxHeartbeats 8000000 in
theorem wpixels_call (m:Img) (wd ht:Nat) (ew:m.w = wd) (eh:m.h = ht) (w5:wd ≤ 100) (h5:ht ≤ 100) (hf:formB m = true) (w:World) (hm:m.In w) :
  Calls Tryz.prog 16 #[m.v] w fun e w' => ∃ v,e = .returned v ∧ w'.ownsRow w.heap.size 32 5 v (ht * wd) (pxs (imgL m wd ht 0)) ∧ Bel w w':=by
 obtain ⟨i0,hi,hz0,hz1,hz2⟩:=info_parts info_px
 have hFd:=hd_ (fun (W:World) (hb:Bel w W) => wFormed_call m hf W (hm.bel hb))
 have hP:=hd_ (fun (i j:Nat) (hi:i < wd) (hj:j < ht) (W:World) (hb:Bel w W) => wpixel_call m i j hf (inB_iff.2 ⟨by omega,by omega,by omega,by omega⟩) W (hm.bel hb))
 obtain ⟨mw,mh,ms,mc,p0,p1,p2,p3,p4⟩:=m
 dsimp only at ew eh
 subst ew eh
 clear hf hm
 go_enter Tryz.func16,Tryz.ntmps16
 go_upto_region 1 with fail
 refine at_world (fun V => Bel w V ∧ V.heap[w.heap.size]? = some (.cells #[.int .i64 (wd:Int),.int .i64 (ht:Int),.bool ms,.int .u16 mc.x,.int .u16 mc.y,.int .u16 mc.z,.int .u16 mc.a,.int .u16 mc.f,.int .i64 p0.w,.int .i64 p0.h,.int .i64 p0.st,.slice p0.A p0.n p0.c,.int .i64 p1.w,.int .i64 p1.h,.int .i64 p1.st,.slice p1.A p1.n p1.c,.int .i64 p2.w,.int .i64 p2.h,.int .i64 p2.st,.slice p2.A p2.n p2.c,.int .i64 p3.w,.int .i64 p3.h,.int .i64 p3.st,.slice p3.A p3.n p3.c,.int .i64 p4.w,.int .i64 p4.h,.int .i64 p4.st,.slice p4.A p4.n p4.c] 46)) ⟨(Bel.refl w).al _,at_new (by first | rfl | simp)⟩ ?_
 rintro V ⟨hX,eM⟩
 have Ms:=lt_of_heap eM
 have M_0:=cq0 eM rfl
 have M_1:=cq1 eM rfl
 have M_2:=cq2 eM rfl
 have fM:=frozA eM
 go_wp2_with (first | (go_at_call 41; (with_reducible refine (hFd.out _ hX).mono ?_); rintro e w1 ⟨rfl,hb⟩; replace hX:=hX.trans hb; replace eM:=hb.heap eM; clear Ms M_0 M_1 M_2 fM; have Ms:=lt_of_heap eM; have M_0:=cq0 eM rfl; have M_1:=cq1 eM rfl; have M_2:=cq2 eM rfl; have fM:=frozA eM; clear hb) | ((with_reducible show wpList _ _ _ (⟨some 6,_,_,_,_,_⟩ :: _) _ _); refine wpList_ld rfl rfl rfl (img_ld eM) ?_) | fail)
 clear Ms M_0 M_1 M_2 fM
 have HX:=hd_ hX
 have HE:=hd_ eM
 clear hX eM
 go_loopg [3,4] ht (fun gk s3 s4 wr => ∃ j:Nat,j + gk = ht ∧ s4 = .int .i64 j ∧ Bel w wr ∧ wr.heap[w.heap.size]? = some (.cells #[.int .i64 (wd:Int),.int .i64 (ht:Int),.bool ms,.int .u16 mc.x,.int .u16 mc.y,.int .u16 mc.z,.int .u16 mc.a,.int .u16 mc.f,.int .i64 p0.w,.int .i64 p0.h,.int .i64 p0.st,.slice p0.A p0.n p0.c,.int .i64 p1.w,.int .i64 p1.h,.int .i64 p1.st,.slice p1.A p1.n p1.c,.int .i64 p2.w,.int .i64 p2.h,.int .i64 p2.st,.slice p2.A p2.n p2.c,.int .i64 p3.w,.int .i64 p3.h,.int .i64 p3.st,.slice p3.A p3.n p3.c,.int .i64 p4.w,.int .i64 p4.h,.int .i64 p4.st,.slice p4.A p4.n p4.c] 46) ∧ wr.ownsRow w.heap.size 32 5 s3 (j * wd) (pxs (imgL ⟨wd,ht,ms,mc,p0,p1,p2,p3,p4⟩ wd j 0)))
 case atStart => exact ⟨0,by omega,rfl,HX.out,HE.out,by rw [Nat.zero_mul]; exact World.ownsRow_nil _ _ _ _⟩
 case round =>
  obtain ⟨j,hgk,rfl,hX,eM,hown⟩:=hrel
  clear HX HE
  by_cases hlt:j < ht
  case neg =>
   obtain rfl:j = ht:=by omega
   have hd:decide ((j:Int) < (j:Int)) = false:=decide_eq_false (by omega)
   have HOWN:=hd_ hown
   clear hown
   have Ms:=lt_of_heap eM
   have M_0:=cq0 eM rfl
   have M_1:=cq1 eM rfl
   have M_2:=cq2 eM rfl
   have fM:=frozA eM
   go_wp2_with fail
   go_returns
   exact ⟨_,rfl,HOWN.out,hX⟩
  case pos =>
   have hd:decide ((j:Int) < (ht:Int)) = true:=decide_eq_true (by omega)
   have HX:=hd_ hX
   have HE:=hd_ eM
   have HOWN:=hd_ hown
   have Ms:=lt_of_heap eM
   have M_0:=cq0 eM rfl
   have M_1:=cq1 eM rfl
   have M_2:=cq2 eM rfl
   have fM:=frozA eM
   clear hX eM hown
   go_wp2_with fail
   clear hd Ms M_0 M_1 M_2 fM
   obtain ⟨g5,rfl⟩:∃ x:Nat,x = gk:=⟨_,rfl⟩
   go_loopg [3,5] wd (fun gk s3 s5 wr => ∃ i:Nat,i + gk = wd ∧ s5 = .int .i64 i ∧ Bel w wr ∧ wr.heap[w.heap.size]? = some (.cells #[.int .i64 (wd:Int),.int .i64 (ht:Int),.bool ms,.int .u16 mc.x,.int .u16 mc.y,.int .u16 mc.z,.int .u16 mc.a,.int .u16 mc.f,.int .i64 p0.w,.int .i64 p0.h,.int .i64 p0.st,.slice p0.A p0.n p0.c,.int .i64 p1.w,.int .i64 p1.h,.int .i64 p1.st,.slice p1.A p1.n p1.c,.int .i64 p2.w,.int .i64 p2.h,.int .i64 p2.st,.slice p2.A p2.n p2.c,.int .i64 p3.w,.int .i64 p3.h,.int .i64 p3.st,.slice p3.A p3.n p3.c,.int .i64 p4.w,.int .i64 p4.h,.int .i64 p4.st,.slice p4.A p4.n p4.c] 46) ∧ wr.ownsRow w.heap.size 32 5 s3 (j * wd + i) (pxs (imgL ⟨wd,ht,ms,mc,p0,p1,p2,p3,p4⟩ wd j i)))
   case atStart => exact ⟨0,by omega,rfl,HX.out,HE.out,HOWN.out⟩
   case round =>
    obtain ⟨i,hgk6,rfl,hX,eM,hown⟩:=hrel
    clear HX HE HOWN
    have HOWN:=hd_ hown
    clear hown
    by_cases hlt2:i < wd
    case neg =>
     obtain rfl:i = wd:=by omega
     have hd:decide ((i:Int) < (i:Int)) = false:=decide_eq_false (by omega)
     have Ms:=lt_of_heap eM
     have M_0:=cq0 eM rfl
     have M_1:=cq1 eM rfl
     have M_2:=cq2 eM rfl
     have fM:=frozA eM
     go_wp2_with fail
     go_roundg (g5 - 1)
     case measure => omega
     case rel => exact ⟨j + 1,by omega,by go_num,hX,eM,by rw [imgL_row,Nat.succ_mul]; exact HOWN.out⟩
    case pos =>
     have hd:decide ((i:Int) < (wd:Int)) = true:=decide_eq_true (by omega)
     have HP:=hd_ (hP.out i j hlt2 hlt)
     have hps:=imgL_succ ⟨wd,ht,ms,mc,p0,p1,p2,p3,p4⟩ wd j i
     have HPS:=hd_ hps
     clear hps
     generalize pxF ⟨wd,ht,ms,mc,p0,p1,p2,p3,p4⟩ i j = R at *
     obtain ⟨k,hk⟩:∃ k,k = j * wd + i:=⟨_,rfl⟩
     rw [← hk] at HOWN
     have hk5:k ≤ 20000:=by
      have:=Nat.mul_le_mul (show j ≤ 100 by omega) w5
      omega
     have HK:=hd_ hk
     have hbs:=hX.size'
     clear hk
     have Ms:=lt_of_heap eM
     have M_0:=cq0 eM rfl
     have M_1:=cq1 eM rfl
     have M_2:=cq2 eM rfl
     have fM:=frozA eM
     go_wp2_with (first | (go_at_call 40; (with_reducible refine (HP.out _ hX).mono ?_); rintro e w1 ⟨rfl,hb⟩; have HBB:=hd_ hb; replace hX:=hX.trans hb; replace eM:=hb.heap eM; clear Ms M_0 M_1 M_2 fM; have Ms:=lt_of_heap eM; have M_0:=cq0 eM rfl; have M_1:=cq1 eM rfl; have M_2:=cq2 eM rfl; have fM:=frozA eM; clear hb) | ((with_reducible show wpList _ _ _ (⟨some 22,_,_,_,_,_⟩ :: _) _ _); refine wpList_ld rfl rfl rfl (img_ld eM) ?_) | (at_builtin; refine wpList_append_own _ rfl _ _ 60 rfl w.heap.size 32 i0 (.agg #[.int .u16 0,.int .u16 0,.int .u16 0,.int .u16 0,.int .u16 0]) 5 10 Tryz.underlying60 hi hz0 hz1 hz2 rfl (by decide) _ _ _ rfl (own_ext HOWN.out (HBB.out.al _)) ⟨w1.heap.size,0,none⟩ 1 1 R.cs rfl rfl ?ca (px_one R) ?cc ?cd ?ce ?_) | fail)
     case ca => exact new_row w1 R.cs _
     case cc => unfold maxLen; omega
     case cd => omega
     case ce => have:=HBB.out.size'; simp; omega
     intro v' w3 hown' hgrow _
     have hbel3:Bel w w3:=hX.app (Nat.le_refl _) (own_ext HOWN.out HBB.out) hgrow
     have eM3:=(grown_heap (own_ext HOWN.out (HBB.out.al (.cells R.cs.toArray 32))) (at_old eM) (by decide) hgrow)
     have H3:=hd_ (And.intro hbel3 (And.intro eM3 hown'))
     clear hown' hgrow hbel3 eM3 Ms M_0 M_1 M_2 fM HBB hX eM
     go_wp2_with fail
     go_roundg (gk - 1)
     case measure => omega
     case rel =>
      refine ⟨i + 1,by omega,by go_num,H3.out.1,H3.out.2.1,?_⟩
      rw [HPS.out,pxs_append,← Nat.add_assoc,← HK.out]
      have h:=H3.out.2.2
      simpa [pxs] using h
theorem validI_parts {m:Img} {mx:Int} (h:validI m mx = 0):formB m = true ∧ ∀ X Y,inB m X Y = true → (pxF m X Y).vd mx = true:=by
 have hs:shapeI m = 0:=by
  unfold validI at h
  split at h
  ·exact h
  ·omega
 have hf:formB m = true:=by
  unfold shapeI at hs
  split at hs
  ·split at hs
   ·assumption
   ·omega
  ·omega
 refine ⟨hf,fun X Y hi => ?_⟩
 unfold validI at h
 rw [if_neg (by rw [hs]; decide)] at h
 by_cases hb:m.solid = true
 ·rw [if_pos hb] at h
  split at h
  ·unfold pxF
   rw [if_pos hb]
   assumption
  ·omega
 ·rw [if_neg hb] at h
  unfold codeV at h
  split at h
  ·rename_i ha
   unfold allV at ha
   rw [List.all_eq_true] at ha
   obtain ⟨a,b,c,d⟩:=inB_iff.1 hi
   refine ha (X,Y) ?_
   unfold uptoP
   refine List.mem_append.2 (.inl (List.mem_flatMap.2 ⟨Y.toNat,List.mem_range.2 (by omega),List.mem_map.2 ⟨X.toNat,List.mem_range.2 (by omega),?_⟩⟩))
   rw [Int.toNat_of_nonneg a,Int.toNat_of_nonneg c]
  ·omega
end Go.Proofs.YtepfoelgegljbaaGreatDoor
