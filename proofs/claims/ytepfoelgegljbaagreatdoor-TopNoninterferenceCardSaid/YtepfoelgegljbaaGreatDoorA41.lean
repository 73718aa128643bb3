/- Part A41. -/
import Derived.Test.YtepfoelgegljbaaGreatDoorA35
import Derived.Test.YtepfoelgegljbaaGreatDoorA40
namespace Go.Proofs.YtepfoelgegljbaaGreatDoor
set_option maxRecDepth 100000
open Go.RowKit
set_option linter.unusedVariables false
set_option linter.unusedSimpArgs false
theorem wvpx_call (p:Px) (mx:Int) (w:World):Calls Tryz.prog 39 #[p.v,.int .u16 mx] w fun e w' => e = .returned (.bool (p.vd mx)) ∧ Bel w w':=calls_bel (calls_ext1 (refValid_call p.x p.y p.z p.a p.f mx w))
set_option maxHeartbeats 8000000 in
theorem wvalid_call (m:Img) (mx:Int) (wd ht:Nat) (ew:m.w = wd) (eh:m.h = ht) (hf:formB m = true) (hB:m.solid = false) (hall:∀ i j:Nat,i < wd → j < ht → (pxF m i j).vd mx = true) (w:World) (hm:m.In w) :
  Calls Tryz.prog 14 #[m.v,.int .u16 mx] w fun e w' => e = .returned (.int .i64 0) ∧ Bel w w':=by
 have hsz:=size_le (form_parts hf).1
 have hS:=hd_ (fun W => calls_bs (fits_call m.w m.h W))
 rw [(form_parts hf).1] at hS
 have hFo:=hd_ (fun (W:World) (hb:Bel w W) => wformed_call m hf W (hm.bel hb))
 have hP:=hd_ (fun (i j:Nat) (hi:i < wd) (hj:j < ht) (W:World) (hb:Bel w W) => wpixel_call m i j hf (inB_iff.2 ⟨by omega,by omega,by omega,by omega⟩) W (hm.bel hb))
 have hV:=hd_ (fun (i j:Nat) (hi:i < wd) (hj:j < ht) (W:World) => (hall i j hi hj) ▸ wvpx_call (pxF m i j) mx W)
 have hwd:wd ≤ 16777216:=by omega
 have hht:ht ≤ 16777216:=by omega
 obtain ⟨mw,mh,ms,mc,p0,p1,p2,p3,p4⟩:=m
 dsimp only at ew eh hB hS
 subst ew eh hB
 clear hf hm hall hsz
 go_enter Tryz.func14,Tryz.ntmps14
 go_upto_region 1 with fail
 refine at_world (fun V => Bel w V ∧ V.heap[w.heap.size]? = some (.cells #[.int .i64 (wd:Int),.int .i64 (ht:Int),.bool false,.int .u16 mc.x,.int .u16 mc.y,.int .u16 mc.z,.int .u16 mc.a,.int .u16 mc.f,.int .i64 p0.w,.int .i64 p0.h,.int .i64 p0.st,.slice p0.A p0.n p0.c,.int .i64 p1.w,.int .i64 p1.h,.int .i64 p1.st,.slice p1.A p1.n p1.c,.int .i64 p2.w,.int .i64 p2.h,.int .i64 p2.st,.slice p2.A p2.n p2.c,.int .i64 p3.w,.int .i64 p3.h,.int .i64 p3.st,.slice p3.A p3.n p3.c,.int .i64 p4.w,.int .i64 p4.h,.int .i64 p4.st,.slice p4.A p4.n p4.c] 46)) ⟨(Bel.refl w).al _,at_new (by first | rfl | simp)⟩ ?_
 rintro V ⟨hX,eM⟩
 have Ms:=lt_of_heap eM
 have M_0:=cq0 eM rfl
 have M_1:=cq1 eM rfl
 have M_2:=cq2 eM rfl
 have fM:=frozA eM
 go_wp2_with (first | ((first | (go_at_call 37; (with_reducible refine (hS.out _).mono ?_)) | (go_at_call 38; (with_reducible refine (hFo.out _ hX).mono ?_))); rintro e w1 ⟨rfl,hb⟩; replace hX:=hX.trans hb; replace eM:=hb.heap eM; clear Ms M_0 M_1 M_2 fM; have Ms:=lt_of_heap eM; have M_0:=cq0 eM rfl; have M_1:=cq1 eM rfl; have M_2:=cq2 eM rfl; have fM:=frozA eM; clear hb) | ((with_reducible show wpList _ _ _ (⟨some 13,_,_,_,_,_⟩ :: _) _ _); refine wpList_ld rfl rfl rfl (img_ld eM) ?_) | fail)
 clear Ms M_0 M_1 M_2 fM
 go_loopg [5] ht (fun gk s5 wr => ∃ j:Nat,j + gk = ht ∧ s5 = .int .i64 j ∧ Bel w wr ∧ wr.heap[w.heap.size]? = some (.cells #[.int .i64 (wd:Int),.int .i64 (ht:Int),.bool false,.int .u16 mc.x,.int .u16 mc.y,.int .u16 mc.z,.int .u16 mc.a,.int .u16 mc.f,.int .i64 p0.w,.int .i64 p0.h,.int .i64 p0.st,.slice p0.A p0.n p0.c,.int .i64 p1.w,.int .i64 p1.h,.int .i64 p1.st,.slice p1.A p1.n p1.c,.int .i64 p2.w,.int .i64 p2.h,.int .i64 p2.st,.slice p2.A p2.n p2.c,.int .i64 p3.w,.int .i64 p3.h,.int .i64 p3.st,.slice p3.A p3.n p3.c,.int .i64 p4.w,.int .i64 p4.h,.int .i64 p4.st,.slice p4.A p4.n p4.c] 46))
 case atStart => exact ⟨0,by omega,rfl,hX,eM⟩
 case round =>
  clear hX eM
  obtain ⟨j,hgk,rfl,hX,eM⟩:=hrel
  by_cases hlt:j < ht
  case neg =>
   obtain rfl:j = ht:=by omega
   have hd:decide ((j:Int) < (j:Int)) = false:=decide_eq_false (by omega)
   have Ms:=lt_of_heap eM
   have M_0:=cq0 eM rfl
   have M_1:=cq1 eM rfl
   have M_2:=cq2 eM rfl
   have fM:=frozA eM
   go_wp2_with fail
   go_returns
   exact ⟨rfl,hX⟩
  case pos =>
   have hd:decide ((j:Int) < (ht:Int)) = true:=decide_eq_true (by omega)
   have HX:=hd_ hX
   have HE:=hd_ eM
   have Ms:=lt_of_heap eM
   have M_0:=cq0 eM rfl
   have M_1:=cq1 eM rfl
   have M_2:=cq2 eM rfl
   have fM:=frozA eM
   clear hX eM
   go_wp2_with fail
   clear hd Ms M_0 M_1 M_2 fM
   obtain ⟨g5,rfl⟩:∃ x:Nat,x = gk:=⟨_,rfl⟩
   go_loopg [6] wd (fun gk s6 wr => ∃ i:Nat,i + gk = wd ∧ s6 = .int .i64 i ∧ Bel w wr ∧ wr.heap[w.heap.size]? = some (.cells #[.int .i64 (wd:Int),.int .i64 (ht:Int),.bool false,.int .u16 mc.x,.int .u16 mc.y,.int .u16 mc.z,.int .u16 mc.a,.int .u16 mc.f,.int .i64 p0.w,.int .i64 p0.h,.int .i64 p0.st,.slice p0.A p0.n p0.c,.int .i64 p1.w,.int .i64 p1.h,.int .i64 p1.st,.slice p1.A p1.n p1.c,.int .i64 p2.w,.int .i64 p2.h,.int .i64 p2.st,.slice p2.A p2.n p2.c,.int .i64 p3.w,.int .i64 p3.h,.int .i64 p3.st,.slice p3.A p3.n p3.c,.int .i64 p4.w,.int .i64 p4.h,.int .i64 p4.st,.slice p4.A p4.n p4.c] 46))
   case atStart => exact ⟨0,by omega,rfl,HX.out,HE.out⟩
   case round =>
    clear HX HE
    obtain ⟨i,hgk6,rfl,hX,eM⟩:=hrel
    by_cases hlt2:i < wd
    case neg =>
     obtain rfl:i = wd:=by omega
     have hd:decide ((i:Int) < (i:Int)) = false:=decide_eq_false (by omega)
     have Ms:=lt_of_heap eM
     have M_0:=cq0 eM rfl
     have M_1:=cq1 eM rfl
     have M_2:=cq2 eM rfl
     have fM:=frozA eM
     go_wp2_with fail
     go_roundg (g5 - 1)
     case measure => omega
     case rel => exact ⟨j + 1,by omega,by go_num,hX,eM⟩
    case pos =>
     have hd:decide ((i:Int) < (wd:Int)) = true:=decide_eq_true (by omega)
     have HP:=hd_ (hP.out i j hlt2 hlt)
     have HV:=hd_ (hV.out i j hlt2 hlt)
     generalize pxF ⟨wd,ht,false,mc,p0,p1,p2,p3,p4⟩ i j = R at *
     have Ms:=lt_of_heap eM
     have M_0:=cq0 eM rfl
     have M_1:=cq1 eM rfl
     have M_2:=cq2 eM rfl
     have fM:=frozA eM
     go_wp2_with (first | ((first | (go_at_call 40; (with_reducible refine (HP.out _ hX).mono ?_)) | (go_at_call 39; (with_reducible refine (HV.out _).mono ?_))); rintro e w1 ⟨rfl,hb⟩; replace hX:=hX.trans hb; replace eM:=hb.heap eM; clear Ms M_0 M_1 M_2 fM; have Ms:=lt_of_heap eM; have M_0:=cq0 eM rfl; have M_1:=cq1 eM rfl; have M_2:=cq2 eM rfl; have fM:=frozA eM; clear hb) | ((with_reducible show wpList _ _ _ (⟨some 35,_,_,_,_,_⟩ :: _) _ _); refine wpList_ld rfl rfl rfl (img_ld eM) ?_) | fail)
     go_roundg (gk - 1)
     case measure => omega
     case rel => exact ⟨i + 1,by omega,by go_num,hX,eM⟩
end Go.Proofs.YtepfoelgegljbaaGreatDoor
