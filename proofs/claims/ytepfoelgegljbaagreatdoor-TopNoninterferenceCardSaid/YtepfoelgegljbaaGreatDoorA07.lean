/- Part A7. -/
import Derived.Laws.StructEq
import Derived.Test.YtepfoelgegljbaaGreatDoorA05
import Derived.Test.YtepfoelgegljbaaGreatDoorA06
namespace Go.Proofs.YtepfoelgegljbaaGreatDoor
set_option maxRecDepth 100000
open Go.RowKit
set_option linter.unusedVariables false
def Img.pl (m:Img):Nat → Pln
 | 0 => m.p0
 | 1 => m.p1
 | 2 => m.p2
 | 3 => m.p3
 | _ => m.p4
def pxz:Px:=⟨0,0,0,0,0⟩
def Px.isz (p:Px):Bool:=decide (p.x = 0) && decide (p.y = 0) && decide (p.z = 0) && decide (p.a = 0) && decide (p.f = 0)
def okP (m:Img) (p:Pln):Bool:=if m.solid then zeroB p else plB p && decide (p.w = m.w) && decide (p.h = m.h)
theorem idx_pl (m:Img) (i:Nat) (hi:i < 5) (W:World):Sem.run Tryz.prog (Instr.index 44 (.agg #[.int .i64 m.p0.w,.int .i64 m.p0.h,.int .i64 m.p0.st,.slice m.p0.A m.p0.n m.p0.c,.int .i64 m.p1.w,.int .i64 m.p1.h,.int .i64 m.p1.st,.slice m.p1.A m.p1.n m.p1.c,.int .i64 m.p2.w,.int .i64 m.p2.h,.int .i64 m.p2.st,.slice m.p2.A m.p2.n m.p2.c,.int .i64 m.p3.w,.int .i64 m.p3.h,.int .i64 m.p3.st,.slice m.p3.A m.p3.n m.p3.c,.int .i64 m.p4.w,.int .i64 m.p4.h,.int .i64 m.p4.st,.slice m.p4.A m.p4.n m.p4.c]) (.int .i64 (i:Int))) W = .ok (m.pl i).v W:=by
 have h:i = 0 ∨ i = 1 ∨ i = 2 ∨ i = 3 ∨ i = 4:=by omega
 rcases h with rfl | rfl | rfl | rfl | rfl
 all_goals (refine Eq.trans (b:=Result.ok _ W) ?_ rfl; kernel_rfl)
def plsB (m:Img):Bool:=okP m m.p0 && okP m m.p1 && okP m m.p2 && okP m m.p3 && okP m m.p4
def formB (m:Img):Bool:=sizeB m.w m.h && (m.solid || m.col.isz) && plsB m
structure Img.lens (m:Img):Prop where
 l0:m.p0.n ≤ 1000000
 l1:m.p1.n ≤ 1000000
 l2:m.p2.n ≤ 1000000
 l3:m.p3.n ≤ 1000000
 l4:m.p4.n ≤ 1000000
theorem Img.In.lens {W:World} {m:Img} (h:m.In W):m.lens:=⟨h.i0.1,h.i1.1,h.i2.1,h.i3.1,h.i4.1⟩
theorem Img.lens.pl {m:Img} (h:m.lens) (i:Nat):(m.pl i).n ≤ 1000000:=by
 unfold Img.pl
 split
 ·exact h.l0
 ·exact h.l1
 ·exact h.l2
 ·exact h.l3
 ·exact h.l4
def preB (m:Img) (i:Nat):Prop:=∀ j < i,okP m (m.pl j) = true
theorem pre_all {m:Img} (h:preB m 5):plsB m = true:=by
 unfold plsB
 rw [show okP m m.p0 = true from h 0 (by decide),show okP m m.p1 = true from h 1 (by decide),show okP m m.p2 = true from h 2 (by decide),show okP m m.p3 = true from h 3 (by decide),show okP m m.p4 = true from h 4 (by decide)]
 rfl
theorem pre_bad {m:Img} {i:Nat} (hi:i < 5) (h:okP m (m.pl i) = false):plsB m = false:=by
 unfold plsB
 have:i = 0 ∨ i = 1 ∨ i = 2 ∨ i = 3 ∨ i = 4:=by omega
 rcases this with rfl | rfl | rfl | rfl | rfl
 ·rw [show okP m m.p0 = false from h]; simp
 ·rw [show okP m m.p1 = false from h]; simp
 ·rw [show okP m m.p2 = false from h]; simp
 ·rw [show okP m m.p3 = false from h]; simp
 ·rw [show okP m m.p4 = false from h]; simp
theorem pre_succ {m:Img} {i:Nat} (h:preB m i) (hi:okP m (m.pl i) = true):preB m (i + 1):=fun j hj => by
 rcases Nat.lt_or_ge j i with h1 | h1
 ·exact h j h1
 ·obtain rfl:j = i:=by omega
  exact hi
theorem neq_of_eql {P:Program} {t:TypeId} {xs ys:Array Value} {w:World} {B:Bool} (h:(binOp .eql t (.agg xs) (.agg ys)).run P w = .ok (.bool B) w):(binOp .neq t (.agg xs) (.agg ys)).run P w = .ok (.bool (!B)) w:=by
 rw [run_eql_struct] at h
 rw [run_neq_struct]
 cases hh:(Op.equalIn 10000 t (.agg xs) (.agg ys)).run P w with
 | ok b w1 =>
  rw [hh] at h
  simp [Result.andThen] at h ⊢
  exact ⟨by rw [h.1],h.2⟩
 | _ => rw [hh] at h; simp [Result.andThen] at h
theorem neq_px (x y z a f:Int) (w:World):(binOp .neq 32 (.agg #[.int .u16 x,.int .u16 y,.int .u16 z,.int .u16 a,.int .u16 f]) (.agg #[.int .u16 0,.int .u16 0,.int .u16 0,.int .u16 0,.int .u16 0])).run Tryz.prog w = .ok (.bool (!(x == 0 && y == 0 && z == 0 && a == 0 && f == 0))) w:=neq_of_eql (eql_pixel _ _ _ _ _ _ _ _ _ _ w)
set_option maxHeartbeats 4000000 in
theorem formed_size (m:Img) (hl:m.lens) (w:World) (h1:sizeB m.w m.h = false):Calls Tryz.prog 67 #[m.v] w fun e w' => e = .returned (.bool false) ∧ Bel w w':=by
 have HL:=hd_ hl
 clear hl
 have hS:=hd_ (fun w => calls_bs (isize_call m.w m.h w))
 rw [h1] at hS
 clear h1
 go_enter Tryz.func67,Tryz.ntmps67
 go_upto_region 1 with fail
 refine at_world (fun V => Bel w V ∧ V.heap[w.heap.size]? = some (oIm m)) ⟨(Bel.refl w).al _,at_new (by first | rfl | simp)⟩ ?_
 rintro V ⟨hX,eM⟩
 have Ms:=lt_of_heap eM
 have M_0:=cq0 eM rfl
 have M_1:=cq1 eM rfl
 have M_2:=cq2 eM rfl
 have M_3:=cq3 eM rfl
 have M_4:=cq4 eM rfl
 have M_5:=cq5 eM rfl
 have M_6:=cq6 eM rfl
 have M_7:=cq7 eM rfl
 have fM:=frozA eM
 go_wp2_with (first | (go_at_call 62; (with_reducible refine (hS.out _).mono ?_); rintro e w1 ⟨rfl,hb⟩; replace hX:=hX.trans hb; replace eM:=hb.heap eM; clear Ms M_0 M_1 M_2 M_3 M_4 M_5 M_6 M_7 fM; have Ms:=lt_of_heap eM; have M_0:=cq0 eM rfl; have M_1:=cq1 eM rfl; have M_2:=cq2 eM rfl; have M_3:=cq3 eM rfl; have M_4:=cq4 eM rfl; have M_5:=cq5 eM rfl; have M_6:=cq6 eM rfl; have M_7:=cq7 eM rfl; have fM:=frozA eM; clear hb) | fail)
 go_returns
 exact ⟨rfl,hX⟩
set_option maxHeartbeats 4000000 in
theorem formed_col (m:Img) (hl:m.lens) (w:World) (h1:sizeB m.w m.h = true) (hB:m.solid = false) (hz:m.col.isz = false):Calls Tryz.prog 67 #[m.v] w fun e w' => e = .returned (.bool false) ∧ Bel w w':=by
 have HL:=hd_ hl
 clear hl
 have hS:=hd_ (fun w => calls_bs (isize_call m.w m.h w))
 rw [h1] at hS
 clear h1
 have hne:=neq_px m.col.x m.col.y m.col.z m.col.a m.col.f
 have hiz:(m.col.x == 0 && m.col.y == 0 && m.col.z == 0 && m.col.a == 0 && m.col.f == 0) = m.col.isz:=rfl
 rw [hiz,hz] at hne
 have HBB:=hd_ hB
 clear hiz hz hB
 go_enter Tryz.func67,Tryz.ntmps67
 go_upto_region 1 with fail
 refine at_world (fun V => Bel w V ∧ V.heap[w.heap.size]? = some (oIm m)) ⟨(Bel.refl w).al _,at_new (by first | rfl | simp)⟩ ?_
 rintro V ⟨hX,eM⟩
 have Ms:=lt_of_heap eM
 have M_0:=cq0 eM rfl
 have M_1:=cq1 eM rfl
 have M_2:=cq2 eM rfl
 have M_3:=cq3 eM rfl
 have M_4:=cq4 eM rfl
 have M_5:=cq5 eM rfl
 have M_6:=cq6 eM rfl
 have M_7:=cq7 eM rfl
 have fM:=frozA eM
 have hB:=HBB.out
 go_wp2_with (first | (go_at_call 62; (with_reducible refine (hS.out _).mono ?_); rintro e w1 ⟨rfl,hb⟩; replace hX:=hX.trans hb; replace eM:=hb.heap eM; clear Ms M_0 M_1 M_2 M_3 M_4 M_5 M_6 M_7 fM; have Ms:=lt_of_heap eM; have M_0:=cq0 eM rfl; have M_1:=cq1 eM rfl; have M_2:=cq2 eM rfl; have M_3:=cq3 eM rfl; have M_4:=cq4 eM rfl; have M_5:=cq5 eM rfl; have M_6:=cq6 eM rfl; have M_7:=cq7 eM rfl; have fM:=frozA eM; clear hb) | ((with_reducible show wpList _ _ _ (⟨some 23,_,_,_,_,_⟩ :: _) _ _); refine wpList_ld rfl rfl rfl (pls_ld eM) ?_) | fail)
 go_returns
 exact ⟨rfl,hX⟩
theorem tlUImage0 {p:Prop} (h:p:=by
  go_wp2_with (first | ((first | (go_at_call 80; (with_reducible refine (hZ.out _).mono ?_)) | (go_at_call 81; (with_reducible refine (hV.out _).mono ?_))); rintro e w1 ⟨rfl,hb⟩; replace hX:=hX.trans hb; replace eM:=hb.heap eM; replace eP:=hb.heap eP; clear Ms M_0 M_1 M_2 fM Ps P_0 P_1 P_2 P_3 fP; have Ms:=lt_of_heap eM; have Ps:=lt_of_heap eP; have M_0:=cq0 eM rfl; have M_1:=cq1 eM rfl; have M_2:=cq2 eM rfl; have P_0:=cq0 eP rfl; have P_1:=cq1 eP rfl; have P_2:=cq2 eP rfl; have P_3:=cq3 eP rfl; have fM:=frozA eM; have fP:=frozA eP; clear hb) | fail)
  go_returns
  exact ⟨by rw [pre_bad hlt (by rw [← HOK.out]; exact HZ.out)]; simp,hX⟩):p:=h
theorem tlUImage1 {p:Prop} (h:p:=by
  go_wp2_with (first | ((first | (go_at_call 80; (with_reducible refine (hZ.out _).mono ?_)) | (go_at_call 81; (with_reducible refine (hV.out _).mono ?_))); rintro e w1 ⟨rfl,hb⟩; replace hX:=hX.trans hb; replace eM:=hb.heap eM; replace eP:=hb.heap eP; clear Ms M_0 M_1 M_2 fM Ps P_0 P_1 P_2 P_3 fP; have Ms:=lt_of_heap eM; have Ps:=lt_of_heap eP; have M_0:=cq0 eM rfl; have M_1:=cq1 eM rfl; have M_2:=cq2 eM rfl; have P_0:=cq0 eP rfl; have P_1:=cq1 eP rfl; have P_2:=cq2 eP rfl; have P_3:=cq3 eP rfl; have fM:=frozA eM; have fP:=frozA eP; clear hb) | fail)
  go_roundg (gk - 1)
  case measure => omega
  case rel => exact ⟨i + 1,by omega,by go_num,hX,eM,pre_succ HP.out (by rw [← HOK.out]; exact HZ.out)⟩):p:=h
theorem tlUImage2 {p:Prop} (h:p:=by
  obtain rfl:i = 5:=by omega
  go_wp2_with fail
  go_returns
  exact ⟨by rw [pre_all HP.out]; simp,hX⟩):p:=h
set_option maxHeartbeats 4000000 in
theorem formed_solid (m:Img) (hl:m.lens) (w:World) (h1:sizeB m.w m.h = true) (hB:m.solid = true):Calls Tryz.prog 67 #[m.v] w fun e w' => e = .returned (.bool (plsB m)) ∧ Bel w w':=by
 have HL:=hd_ hl
 clear hl
 have hS:=hd_ (fun w => calls_bs (isize_call m.w m.h w))
 rw [h1] at hS
 have HBB:=hd_ hB
 clear h1 hB
 go_enter Tryz.func67,Tryz.ntmps67
 go_upto_region 1 with fail
 refine at_world (fun V => Bel w V ∧ V.heap[w.heap.size]? = some (oIm m)) ⟨(Bel.refl w).al _,at_new (by first | rfl | simp)⟩ ?_
 rintro V ⟨hX,eM⟩
 have Ms:=lt_of_heap eM
 have M_0:=cq0 eM rfl
 have M_1:=cq1 eM rfl
 have M_2:=cq2 eM rfl
 have M_3:=cq3 eM rfl
 have M_4:=cq4 eM rfl
 have M_5:=cq5 eM rfl
 have M_6:=cq6 eM rfl
 have M_7:=cq7 eM rfl
 have fM:=frozA eM
 have hB:=HBB.out
 go_wp2_with (first | (go_at_call 62; (with_reducible refine (hS.out _).mono ?_); rintro e w1 ⟨rfl,hb⟩; replace hX:=hX.trans hb; replace eM:=hb.heap eM; clear Ms M_0 M_1 M_2 M_3 M_4 M_5 M_6 M_7 fM; have Ms:=lt_of_heap eM; have M_0:=cq0 eM rfl; have M_1:=cq1 eM rfl; have M_2:=cq2 eM rfl; have M_3:=cq3 eM rfl; have M_4:=cq4 eM rfl; have M_5:=cq5 eM rfl; have M_6:=cq6 eM rfl; have M_7:=cq7 eM rfl; have fM:=frozA eM; clear hb) | ((with_reducible show wpList _ _ _ (⟨some 23,_,_,_,_,_⟩ :: _) _ _); refine wpList_ld rfl rfl rfl (pls_ld eM) ?_) | fail)
 go_loopg [24] 5 (fun gk s24 wr => ∃ i:Nat,i + gk = 5 ∧ s24 = .int .i64 i ∧ Bel w wr ∧ wr.heap[w.heap.size]? = some (oIm m) ∧ preB m i)
 case atStart => exact ⟨0,by omega,rfl,hX,eM,fun j hj => absurd hj (by omega)⟩
 case round => as_aux_lemma =>
  obtain ⟨i,hgk,rfl,hX,eM,hpre⟩:=hrel
  have HP:=hd_ hpre
  clear hpre
  by_cases hlt:i < 5
  case neg =>
   exact tlUImage2
  case pos =>
   obtain ⟨p,hp⟩:∃ p,p = m.pl i:=⟨_,rfl⟩
   have hidx:=idx_pl m i hlt
   rw [← hp] at hidx
   have HPP:=hd_ hp
   clear hp
   go_upto_region 6 with fail
   refine at_world (fun V => Bel w V ∧ V.heap[w.heap.size]? = some (oIm m) ∧ V.heap[wr.heap.size]? = some (.cells #[.int .i64 p.w,.int .i64 p.h,.int .i64 p.st,.slice p.A p.n p.c] 43)) ⟨hX.al _,at_old eM,at_new rfl⟩ ?_
   rintro V ⟨hX,eM,eP⟩
   have hn:p.n ≤ 1000000:=by rw [HPP.out]; exact HL.out.pl i
   have hok:okP m p = okP m (m.pl i):=by rw [HPP.out]
   have HOK:=hd_ hok
   clear hok hidx
   have Ms:=lt_of_heap eM
   have Ps:=lt_of_heap eP
   have M_0:=cq0 eM rfl
   have M_1:=cq1 eM rfl
   have M_2:=cq2 eM rfl
   have P_0:=cq0 eP rfl
   have P_1:=cq1 eP rfl
   have P_2:=cq2 eP rfl
   have P_3:=cq3 eP rfl
   have fM:=frozA eM
   have fP:=frozA eP
   have hZ:=hd_ (fun w => izero_call p hn w)
   have hV:=hd_ (fun w => pvalid_call p hn w)
   clear hn
   have hz:okP m p = zeroB p:=by unfold okP; rw [HBB.out]; rfl
   generalize zeroB p = Z at *
   have HZ:=hd_ hz
   clear hz
   cases Z
   case true => as_aux_lemma =>
    exact tlUImage1
   case false => as_aux_lemma =>
    exact tlUImage0
set_option maxHeartbeats 4000000 in
theorem formed_plain (m:Img) (hl:m.lens) (w:World) (h1:sizeB m.w m.h = true) (hB:m.solid = false) (hz:m.col.isz = true):Calls Tryz.prog 67 #[m.v] w fun e w' => e = .returned (.bool (plsB m)) ∧ Bel w w':=by
 have HL:=hd_ hl
 clear hl
 have hS:=hd_ (fun w => calls_bs (isize_call m.w m.h w))
 rw [h1] at hS
 have hne:=neq_px m.col.x m.col.y m.col.z m.col.a m.col.f
 have hiz:(m.col.x == 0 && m.col.y == 0 && m.col.z == 0 && m.col.a == 0 && m.col.f == 0) = m.col.isz:=rfl
 rw [hiz,hz] at hne
 have HBB:=hd_ hB
 clear hiz hz hB h1
 go_enter Tryz.func67,Tryz.ntmps67
 go_upto_region 1 with fail
 refine at_world (fun V => Bel w V ∧ V.heap[w.heap.size]? = some (oIm m)) ⟨(Bel.refl w).al _,at_new (by first | rfl | simp)⟩ ?_
 rintro V ⟨hX,eM⟩
 have Ms:=lt_of_heap eM
 have M_0:=cq0 eM rfl
 have M_1:=cq1 eM rfl
 have M_2:=cq2 eM rfl
 have M_3:=cq3 eM rfl
 have M_4:=cq4 eM rfl
 have M_5:=cq5 eM rfl
 have M_6:=cq6 eM rfl
 have M_7:=cq7 eM rfl
 have fM:=frozA eM
 have hB:=HBB.out
 go_wp2_with (first | (go_at_call 62; (with_reducible refine (hS.out _).mono ?_); rintro e w1 ⟨rfl,hb⟩; replace hX:=hX.trans hb; replace eM:=hb.heap eM; clear Ms M_0 M_1 M_2 M_3 M_4 M_5 M_6 M_7 fM; have Ms:=lt_of_heap eM; have M_0:=cq0 eM rfl; have M_1:=cq1 eM rfl; have M_2:=cq2 eM rfl; have M_3:=cq3 eM rfl; have M_4:=cq4 eM rfl; have M_5:=cq5 eM rfl; have M_6:=cq6 eM rfl; have M_7:=cq7 eM rfl; have fM:=frozA eM; clear hb) | ((with_reducible show wpList _ _ _ (⟨some 23,_,_,_,_,_⟩ :: _) _ _); refine wpList_ld rfl rfl rfl (pls_ld eM) ?_) | fail)
 go_loopg [24] 5 (fun gk s24 wr => ∃ i:Nat,i + gk = 5 ∧ s24 = .int .i64 i ∧ Bel w wr ∧ wr.heap[w.heap.size]? = some (oIm m) ∧ preB m i)
 case atStart => exact ⟨0,by omega,rfl,hX,eM,fun j hj => absurd hj (by omega)⟩
 case round => as_aux_lemma =>
  obtain ⟨i,hgk,rfl,hX,eM,hpre⟩:=hrel
  have HP:=hd_ hpre
  clear hpre
  by_cases hlt:i < 5
  case neg =>
   exact tlUImage2
  case pos =>
   obtain ⟨p,hp⟩:∃ p,p = m.pl i:=⟨_,rfl⟩
   have hidx:=idx_pl m i hlt
   rw [← hp] at hidx
   have HPP:=hd_ hp
   clear hp
   go_upto_region 6 with fail
   refine at_world (fun V => Bel w V ∧ V.heap[w.heap.size]? = some (oIm m) ∧ V.heap[wr.heap.size]? = some (.cells #[.int .i64 p.w,.int .i64 p.h,.int .i64 p.st,.slice p.A p.n p.c] 43)) ⟨hX.al _,at_old eM,at_new rfl⟩ ?_
   rintro V ⟨hX,eM,eP⟩
   have hn:p.n ≤ 1000000:=by rw [HPP.out]; exact HL.out.pl i
   have hok:okP m p = okP m (m.pl i):=by rw [HPP.out]
   have HOK:=hd_ hok
   clear hok hidx
   have Ms:=lt_of_heap eM
   have Ps:=lt_of_heap eP
   have M_0:=cq0 eM rfl
   have M_1:=cq1 eM rfl
   have M_2:=cq2 eM rfl
   have P_0:=cq0 eP rfl
   have P_1:=cq1 eP rfl
   have P_2:=cq2 eP rfl
   have P_3:=cq3 eP rfl
   have fM:=frozA eM
   have fP:=frozA eP
   have hZ:=hd_ (fun w => izero_call p hn w)
   have hV:=hd_ (fun w => pvalid_call p hn w)
   clear hn
   have hz:okP m p = (plB p && decide (p.w = m.w) && decide (p.h = m.h)):=by unfold okP; rw [HBB.out]; rfl
   generalize plB p = Z at *
   cases Z
   case false => as_aux_lemma =>
    have HZ:=hd_ hz
    clear hz
    exact tlUImage0
   case true =>
    rw [Bool.true_and] at hz
    by_cases hw:p.w = m.w
    case neg =>
     rw [decide_eq_false hw,Bool.false_and] at hz
     have HZ:=hd_ hz
     clear hz
     have hw1:(p.w == m.w) = false:=beq_eq_false_iff_ne.2 hw
     have hw2:(p.w != m.w) = true:=by rw [bne,hw1]; rfl
     clear hw
     exact tlUImage0
    by_cases hh:p.h = m.h
    case neg =>
     rw [decide_eq_false hh,Bool.and_false] at hz
     have HZ:=hd_ hz
     clear hz
     have hw1:(p.w == m.w) = true:=beq_iff_eq.2 hw
     have hw2:(p.w != m.w) = false:=by rw [bne,hw1]; rfl
     have hh1:(p.h == m.h) = false:=beq_eq_false_iff_ne.2 hh
     have hh2:(p.h != m.h) = true:=by rw [bne,hh1]; rfl
     clear hw hh
     exact tlUImage0
    rw [decide_eq_true hw,decide_eq_true hh,Bool.true_and] at hz
    have HZ:=hd_ hz
    clear hz
    have hw1:(p.w == m.w) = true:=beq_iff_eq.2 hw
    have hw2:(p.w != m.w) = false:=by rw [bne,hw1]; rfl
    have hh1:(p.h == m.h) = true:=beq_iff_eq.2 hh
    have hh2:(p.h != m.h) = false:=by rw [bne,hh1]; rfl
    clear hw hh
    exact tlUImage1
theorem formed_call (m:Img) (hl:m.lens) (w:World):Calls Tryz.prog 67 #[m.v] w fun e w' => e = .returned (.bool (formB m)) ∧ Bel w w':=by
 unfold formB
 cases h1:sizeB m.w m.h
 ·exact formed_size m hl w h1
 ·cases hB:m.solid
  ·cases hz:m.col.isz
   ·exact formed_col m hl w h1 hB hz
   ·exact formed_plain m hl w h1 hB hz
  ·exact formed_solid m hl w h1 hB
def Pln.at (p:Pln) (x y:Int):Int:=(p.xs[(y * p.st + x).toNat]?).getD 0
def pxF (m:Img) (x y:Int):Px:=if m.solid then m.col else ⟨m.p0.at x y,m.p1.at x y,m.p2.at x y,m.p3.at x y,m.p4.at x y⟩
def inB (m:Img) (x y:Int):Bool:=decide (0 ≤ x) && decide (x < m.w) && decide (0 ≤ y) && decide (y < m.h)
def atF (m:Img) (x y:Int):Px:=if formB m && inB m x y then pxF m x y else ⟨0,0,0,0,0⟩
def pick5 (f:Nat → Int) (i:Nat):Array Value:=#[.int .u16 (if 0 < i then f 0 else 0),.int .u16 (if 1 < i then f 1 else 0),.int .u16 (if 2 < i then f 2 else 0),.int .u16 (if 3 < i then f 3 else 0),.int .u16 (if 4 < i then f 4 else 0)]
theorem tlUImage25 {p:Prop} (h:p:=by
  have h:i = 0 ∨ i = 1 ∨ i = 2 ∨ i = 3 ∨ i = 4:=by omega
  rcases h with rfl | rfl | rfl | rfl | rfl <;> rfl):p:=h
theorem pick5_succ (f:Nat → Int) (i:Nat) (hi:i < 5):(pick5 f i).setIfInBounds i (.int .u16 (f i)) = pick5 f (i + 1):=by
 exact tlUImage25
theorem pick5_zero (f:Nat → Int) (i:Nat) (hi:i < 5):(pick5 f i)[i]? = some (.int .u16 0):=by
 exact tlUImage25
theorem pls_all {m:Img} (h:plsB m = true) (i:Nat):okP m (m.pl i) = true:=by
 unfold plsB at h
 simp only [Bool.and_eq_true] at h
 unfold Img.pl
 split
 ·exact h.1.1.1.1
 ·exact h.1.1.1.2
 ·exact h.1.1.2
 ·exact h.1.2
 ·exact h.2
theorem Img.In.pl {W:World} {m:Img} (h:m.In W) (i:Nat):(m.pl i).In W:=by
 unfold Img.pl
 split
 ·exact h.i0
 ·exact h.i1
 ·exact h.i2
 ·exact h.i3
 ·exact h.i4
theorem plane_in {p:Pln} {x y:Int} (h:plB p = true) (x0:0 ≤ x) (x1:x < p.w) (y0:0 ≤ y) (y1:y < p.h):0 ≤ y * p.st ∧ y * p.st + x < p.n ∧ y * p.st ≤ 281474976710656:=by
 unfold plB at h
 simp only [Bool.and_eq_true,decide_eq_true_eq] at h
 obtain ⟨⟨⟨h1,h2⟩,h3⟩,h4⟩:=h
 obtain ⟨s0,s1,s2,s3⟩:=size_le h1
 have m0:0 ≤ y * p.st:=Int.mul_nonneg y0 (by omega)
 have m1:y * p.st ≤ (p.h - 1) * p.st:=Int.mul_le_mul_of_nonneg_right (by omega) (by omega)
 have m2:y * p.st ≤ 16777216 * 16777216:=Int.mul_le_mul (by omega) h3 (by omega) (by decide)
 omega
theorem form_parts {m:Img} (h:formB m = true):sizeB m.w m.h = true ∧ (m.solid || m.col.isz) = true ∧ plsB m = true:=by
 unfold formB at h
 simp only [Bool.and_eq_true] at h
 exact ⟨h.1.1,h.1.2,h.2⟩
theorem form_pl {m:Img} (h:formB m = true) (hs:m.solid = false) (i:Nat):plB (m.pl i) = true ∧ (m.pl i).w = m.w ∧ (m.pl i).h = m.h:=by
 have:=pls_all (form_parts h).2.2 i
 unfold okP at this
 rw [hs] at this
 simp only [Bool.false_eq_true,if_false,Bool.and_eq_true,decide_eq_true_eq] at this
 exact ⟨this.1.1,this.1.2,this.2⟩
theorem tlUImage22 {p:Prop} (h:p:=by
  repeat (with_reducible first | exact hX | refine Bel.setCell ?_ (by omega) _ | refine Bel.al ?_ _ | refine Bel.dr ?_ | refine Bel.mo ?_ _ | refine Bel.dn ?_ _)):p:=h
theorem tlUImage24 {p:Prop} (h:p:=by
  go_wp2_with fail
  refine bodyPost_ret (v:=.agg #[_,_,_,_,_]) (by simp [results,Tryz.results56,go_sem, *]) rfl ⟨rfl,?_⟩
  exact tlUImage22):p:=h
set_option maxHeartbeats 4000000 in
theorem pixel_solid (m:Img) (hB:m.solid = true) (x y:Int) (w:World):Calls Tryz.prog 56 #[m.v,.int .i64 x,.int .i64 y] w fun e w' => e = .returned m.col.v ∧ Bel w w':=by
 have HBB:=hd_ hB
 clear hB
 go_enter Tryz.func56,Tryz.ntmps56
 go_upto_region 1 with fail
 refine at_world (fun V => Bel w V ∧ V.heap[w.heap.size]? = some (oIm m) ∧ V.heap[w.heap.size + 1]? = some (.cells #[.int .u16 0,.int .u16 0,.int .u16 0,.int .u16 0,.int .u16 0] 32)) ⟨((Bel.refl w).al _).al _,at_old (at_new (by first | rfl | simp)),at_new (by first | rfl | simp)⟩ ?_
 rintro V ⟨hX,eM,eO⟩
 have Ms:=lt_of_heap eM
 have Os:=lt_of_heap eO
 have M_0:=cq0 eM rfl
 have M_1:=cq1 eM rfl
 have M_2:=cq2 eM rfl
 have M_3:=cq3 eM rfl
 have M_4:=cq4 eM rfl
 have M_5:=cq5 eM rfl
 have M_6:=cq6 eM rfl
 have M_7:=cq7 eM rfl
 have O_0:=cq0 eO rfl
 have O_1:=cq1 eO rfl
 have O_2:=cq2 eO rfl
 have O_3:=cq3 eO rfl
 have O_4:=cq4 eO rfl
 have fM:=frozA eM
 have fO:=frozA eO
 have hB:=HBB.out
 exact tlUImage24
set_option maxHeartbeats 4000000 in
theorem pixel_plain (m:Img) (hB:m.solid = false) (x y:Int) (x0:0 ≤ x) (x1:x ≤ 16777216) (hi:∀ i,0 ≤ y * (m.pl i).st ∧ y * (m.pl i).st + x < (m.pl i).n ∧ y * (m.pl i).st ≤ 281474976710656) (w:World) (hm:m.In w) :
  Calls Tryz.prog 56 #[m.v,.int .i64 x,.int .i64 y] w fun e w' => e = .returned (Px.v ⟨m.p0.at x y,m.p1.at x y,m.p2.at x y,m.p3.at x y,m.p4.at x y⟩) ∧ Bel w w':=by
 have HBB:=hd_ hB
 have HI:=hd_ hi
 have HM:=hd_ hm
 clear hB hi hm
 go_enter Tryz.func56,Tryz.ntmps56
 go_upto_region 1 with fail
 refine at_world (fun V => Bel w V ∧ V.heap[w.heap.size]? = some (oIm m) ∧ V.heap[w.heap.size + 1]? = some (.cells #[.int .u16 0,.int .u16 0,.int .u16 0,.int .u16 0,.int .u16 0] 32)) ⟨((Bel.refl w).al _).al _,at_old (at_new (by first | rfl | simp)),at_new (by first | rfl | simp)⟩ ?_
 rintro V ⟨hX,eM,eO⟩
 have Ms:=lt_of_heap eM
 have Os:=lt_of_heap eO
 have M_0:=cq0 eM rfl
 have M_1:=cq1 eM rfl
 have M_2:=cq2 eM rfl
 have M_3:=cq3 eM rfl
 have M_4:=cq4 eM rfl
 have M_5:=cq5 eM rfl
 have M_6:=cq6 eM rfl
 have M_7:=cq7 eM rfl
 have O_0:=cq0 eO rfl
 have O_1:=cq1 eO rfl
 have O_2:=cq2 eO rfl
 have O_3:=cq3 eO rfl
 have O_4:=cq4 eO rfl
 have fM:=frozA eM
 have fO:=frozA eO
 have hB:=HBB.out
 have HB1:=Ms
 go_wp2_with (first | (refine wpList_ld rfl rfl rfl (pls_ld (at_old eM)) ?_) | fail)
 go_loopg [16] 5 (fun gk s16 wr => ∃ i:Nat,i + gk = 5 ∧ s16 = .int .i64 i ∧ Bel w wr ∧ wr.heap[w.heap.size]? = some (oIm m) ∧ wr.heap[w.heap.size + 1]? = some (.cells #[.int .u16 0,.int .u16 0,.int .u16 0,.int .u16 0,.int .u16 0] 32) ∧ wr.heap[V.heap.size]? = some (.cells (pick5 (fun i => (m.pl i).at x y) i) 121))
 case atStart => exact ⟨0,by omega,rfl,hX.al _,at_old eM,at_old eO,at_new rfl⟩
 case round =>
  obtain ⟨i,hgk,rfl,hX,eM,eO,eV⟩:=hrel
  by_cases hlt:i < 5
  case neg =>
   obtain rfl:i = 5:=by omega
   have hV5:pick5 (fun i => (m.pl i).at x y) 5 = #[.int .u16 (m.p0.at x y),.int .u16 (m.p1.at x y),.int .u16 (m.p2.at x y),.int .u16 (m.p3.at x y),.int .u16 (m.p4.at x y)]:=rfl
   rw [hV5] at eV
   clear hV5
   have Vs:=lt_of_heap eV
   have Os:=lt_of_heap eO
   have V_0:=cq0 eV rfl
   have V_1:=cq1 eV rfl
   have V_2:=cq2 eV rfl
   have V_3:=cq3 eV rfl
   have V_4:=cq4 eV rfl
   have O_0:=cq0 eO rfl
   have O_1:=cq1 eO rfl
   have O_2:=cq2 eO rfl
   have O_3:=cq3 eO rfl
   have O_4:=cq4 eO rfl
   have fV:=frozA eV
   have fO:=frozA eO
   exact tlUImage24
  case pos =>
   have HSs:V.heap.size < wr.heap.size:=lt_of_heap eV
   have HM':=(HM.out.bel hX).pl i
   have HI':=HI.out i
   obtain ⟨p,hp⟩:∃ p,p = m.pl i:=⟨_,rfl⟩
   have hidx:=idx_pl m i hlt
   have hpk:=pick5_succ (fun i => (m.pl i).at x y) i hlt
   rw [← hp] at hidx HM' HI'
   rw [← hp] at hpk
   have HPK:=hd_ hpk
   clear hp hpk
   obtain ⟨Y,hY⟩:∃ Y,Y = y * p.st:=⟨_,rfl⟩
   rw [← hY] at HI'
   obtain ⟨i0,i1,i2⟩:=HI'
   have hyw:IntKind.i64.wrap (y * p.st) = Y:=by rw [← hY]; exact wrap_i64 _ (by omega) (by omega)
   have hn:=HM'.1
   obtain ⟨v,hv⟩:∃ v,p.xs[(Y + x).toNat]? = some v:=⟨_,List.getElem?_eq_getElem (by rw [HM'.len]; omega)⟩
   have hat:p.at x y = v:=by unfold Pln.at; rw [← hY,hv]; rfl
   obtain ⟨g,off,hA,d0⟩:=HM'.2.sm hv (by omega)
   rw [hat] at HPK
   have hgw:g < wr.heap.size:=World.block_lt_of_cell? wr _ d0
   have HM2:=hd_ HM'
   have hnn:0 ≤ Y + x:=by omega
   have hltn:(Y + x).toNat < p.n:=by omega
   clear hY hv hat HM'
   go_upto_region 7 with fail
   refine at_world (fun U => Bel w U ∧ U.heap[w.heap.size]? = some (oIm m) ∧ U.heap[w.heap.size + 1]? = some (.cells #[.int .u16 0,.int .u16 0,.int .u16 0,.int .u16 0,.int .u16 0] 32) ∧ U.heap[V.heap.size]? = some (.cells (pick5 (fun i => (m.pl i).at x y) i) 121) ∧ U.heap[wr.heap.size]? = some (.cells #[.int .i64 p.w,.int .i64 p.h,.int .i64 p.st,.slice (some ⟨g,off,none⟩) p.n p.c] 43) ∧ U.cell? ⟨g,off + (Y + x).toNat,none⟩ = some (.int .u16 v) ∧ g < U.heap.size ∧ w.heap.size < V.heap.size ∧ V.heap.size < wr.heap.size) ⟨hX.al _,at_old eM,at_old eO,at_old eV,at_new rfl,((Bel.refl wr).al _).cell d0,by simp; omega,HB1,HSs⟩ ?_
   rintro U ⟨hX,eM,eO,eV,eP,d0,hg,hb1,hb2⟩
   have Ms:=lt_of_heap eM
   have Vs:=lt_of_heap eV
   have Ps:=lt_of_heap eP
   have M_0:=cq0 eM rfl
   have M_1:=cq1 eM rfl
   have M_2:=cq2 eM rfl
   have P_0:=cq0 eP rfl
   have P_1:=cq1 eP rfl
   have P_2:=cq2 eP rfl
   have P_3:=cq3 eP rfl
   have fM:=frozA eM
   have fV:=frozA eV
   have fP:=frozA eP
   have V_i:=cell_of (i:=i) eV (show (pick5 (fun i => (m.pl i).at x y) i)[i]? = some (.int .u16 0) from pick5_zero _ i hlt)
   go_wp2_with fail
   go_roundg (gk - 1)
   case measure => omega
   case rel => exact ⟨i + 1,by omega,by go_num,hX.setCell (by omega) _,heap_set_other _ (by omega) eM,heap_set_other _ (by omega) eO,by rw [← HPK.out]; exact heap_set _ eV⟩
theorem inB_iff {m:Img} {x y:Int}:inB m x y = true ↔ 0 ≤ x ∧ x < m.w ∧ 0 ≤ y ∧ y < m.h:=by unfold inB; simp [and_assoc]
theorem pixel_call (m:Img) (x y:Int) (hf:formB m = true) (hi:inB m x y = true) (w:World) (hm:m.In w):Calls Tryz.prog 56 #[m.v,.int .i64 x,.int .i64 y] w fun e w' => e = .returned (pxF m x y).v ∧ Bel w w':=by
 obtain ⟨x0,x1,y0,y1⟩:=inB_iff.1 hi
 unfold pxF
 cases hB:m.solid
 ·exact pixel_plain m hB x y x0 (by have:=size_le (form_parts hf).1; omega) (fun i => by
   obtain ⟨h1,h2,h3⟩:=form_pl hf hB i
   exact plane_in h1 x0 (by omega) y0 (by omega)) w hm
 ·exact pixel_solid m hB x y w
def shapeI (m:Img):Int:=if sizeB m.w m.h then if formB m then 0 else 7 else 6
theorem tlUImage21 {p:Prop} (h:p:=by
  clear hl
  go_enter Tryz.func53,Tryz.ntmps53
  go_upto_region 1 with fail
  refine at_world (fun V => Bel w V ∧ V.heap[w.heap.size]? = some (oIm m)) ⟨(Bel.refl w).al _,at_new (by first | rfl | simp)⟩ ?_
  rintro V ⟨hX,eM⟩
  have Ms:=lt_of_heap eM
  have M_0:=cq0 eM rfl
  have M_1:=cq1 eM rfl
  have M_2:=cq2 eM rfl
  have fM:=frozA eM
  go_wp2_with (first | ((first | (go_at_call 62; (with_reducible refine (hS.out _).mono ?_)) | (go_at_call 67; (with_reducible refine (hF.out _).mono ?_))); rintro e w1 ⟨rfl,hb⟩; replace hX:=hX.trans hb; replace eM:=hb.heap eM; clear Ms M_0 M_1 M_2 fM; have Ms:=lt_of_heap eM; have M_0:=cq0 eM rfl; have M_1:=cq1 eM rfl; have M_2:=cq2 eM rfl; have fM:=frozA eM; clear hb) | (refine wpList_ld rfl rfl rfl (img_ld eM) ?_) | fail)
  go_returns
  exact ⟨rfl,hX⟩):p:=h
set_option maxHeartbeats 4000000 in
theorem shape_size (m:Img) (hl:m.lens) (w:World) (h1:sizeB m.w m.h = false):Calls Tryz.prog 53 #[m.v] w fun e w' => e = .returned (.int .i64 6) ∧ Bel w w':=by
 have hS:=hd_ (fun w => calls_bs (isize_call m.w m.h w))
 have hF:=hd_ (fun w => formed_call m hl w)
 rw [h1] at hS
 clear h1
 exact tlUImage21
theorem tlUImage23 {p:Prop} (h:p:=by
  have hS:=hd_ (fun w => calls_bs (isize_call m.w m.h w))
  have hF:=hd_ (fun w => formed_call m hl w)
  rw [h1] at hS
  rw [h2] at hF
  clear h1 h2
  exact tlUImage21):p:=h
set_option maxHeartbeats 4000000 in
theorem shape_form (m:Img) (hl:m.lens) (w:World) (h1:sizeB m.w m.h = true) (h2:formB m = false):Calls Tryz.prog 53 #[m.v] w fun e w' => e = .returned (.int .i64 7) ∧ Bel w w':=by
 exact tlUImage23
set_option maxHeartbeats 4000000 in
theorem shape_ok (m:Img) (hl:m.lens) (w:World) (h1:sizeB m.w m.h = true) (h2:formB m = true):Calls Tryz.prog 53 #[m.v] w fun e w' => e = .returned (.int .i64 0) ∧ Bel w w':=by
 exact tlUImage23
theorem shape_call (m:Img) (hl:m.lens) (w:World):Calls Tryz.prog 53 #[m.v] w fun e w' => e = .returned (.int .i64 (shapeI m)) ∧ Bel w w':=by
 unfold shapeI
 cases h1:sizeB m.w m.h
 ·exact shape_size m hl w h1
 ·cases h2:formB m
  ·exact shape_form m hl w h1 h2
  ·exact shape_ok m hl w h1 h2
theorem tlUImage20 {p:Prop} (h:p:=by
  have hF:=hd_ (fun w => formed_call m hm.lens w)
  rw [h] at hF
  clear h hm
  go_enter Tryz.func92,Tryz.ntmps92
  go_upto_region 1 with fail
  refine at_world (fun V => Bel w V ∧ V.heap[w.heap.size]? = some (oIm m) ∧ V.heap[w.heap.size + 1]? = some (.cells #[.int .u16 0,.int .u16 0,.int .u16 0,.int .u16 0,.int .u16 0] 32)) ⟨((Bel.refl w).al _).al _,at_old (at_new (by first | rfl | simp)),at_new (by first | rfl | simp)⟩ ?_
  rintro V ⟨hX,eM,eO⟩
  have Ms:=lt_of_heap eM
  have Os:=lt_of_heap eO
  have M_0:=cq0 eM rfl
  have M_1:=cq1 eM rfl
  have M_2:=cq2 eM rfl
  have O_0:=cq0 eO rfl
  have O_1:=cq1 eO rfl
  have O_2:=cq2 eO rfl
  have O_3:=cq3 eO rfl
  have O_4:=cq4 eO rfl
  have fM:=frozA eM
  have fO:=frozA eO
  go_wp2_with (first | ((first | (go_at_call 67; (with_reducible refine (hF.out _).mono ?_)) | (go_at_call 67; (with_reducible refine (hF.out _).mono ?_))); rintro e w1 ⟨rfl,hb⟩; replace hX:=hX.trans hb; replace eM:=hb.heap eM; replace eO:=hb.heap eO; clear Ms M_0 M_1 M_2 fM Os O_0 O_1 O_2 O_3 O_4 fO; have Ms:=lt_of_heap eM; have Os:=lt_of_heap eO; have M_0:=cq0 eM rfl; have M_1:=cq1 eM rfl; have M_2:=cq2 eM rfl; have O_0:=cq0 eO rfl; have O_1:=cq1 eO rfl; have O_2:=cq2 eO rfl; have O_3:=cq3 eO rfl; have O_4:=cq4 eO rfl; have fM:=frozA eM; have fO:=frozA eO; clear hb) | (refine wpList_ld rfl rfl rfl (img_ld eM) ?_) | (refine wpList_ld rfl rfl rfl (img_ld eM) ?_) | fail)
  refine bodyPost_ret (v:=.agg #[_,_,_,_,_]) (by simp [results,Tryz.results92,go_sem, *]) rfl ⟨rfl,?_⟩
  repeat (with_reducible first | exact hX | refine Bel.setCell ?_ (by omega) _ | refine Bel.al ?_ _ | refine Bel.dr ?_ | refine Bel.mo ?_ _ | refine Bel.dn ?_ _)):p:=h
set_option maxHeartbeats 4000000 in
theorem at_form (m:Img) (x y:Int) (w:World) (hm:m.In w) (h:formB m = false):Calls Tryz.prog 92 #[m.v,.int .i64 x,.int .i64 y] w fun e w' => e = .returned (⟨0,0,0,0,0⟩:Px).v ∧ Bel w w':=by
 exact tlUImage20
set_option maxHeartbeats 4000000 in
theorem at_x0 (m:Img) (x y:Int) (w:World) (hm:m.In w) (h:formB m = true) (h1:x < 0):Calls Tryz.prog 92 #[m.v,.int .i64 x,.int .i64 y] w fun e w' => e = .returned (⟨0,0,0,0,0⟩:Px).v ∧ Bel w w':=by
 exact tlUImage20
set_option maxHeartbeats 4000000 in
theorem at_x1 (m:Img) (x y:Int) (w:World) (hm:m.In w) (h:formB m = true) (h0:0 ≤ x) (h1:m.w ≤ x):Calls Tryz.prog 92 #[m.v,.int .i64 x,.int .i64 y] w fun e w' => e = .returned (⟨0,0,0,0,0⟩:Px).v ∧ Bel w w':=by
 exact tlUImage20
set_option maxHeartbeats 4000000 in
theorem at_y0 (m:Img) (x y:Int) (w:World) (hm:m.In w) (h:formB m = true) (h0:0 ≤ x) (h1:x < m.w) (h2:y < 0):Calls Tryz.prog 92 #[m.v,.int .i64 x,.int .i64 y] w fun e w' => e = .returned (⟨0,0,0,0,0⟩:Px).v ∧ Bel w w':=by
 exact tlUImage20
set_option maxHeartbeats 4000000 in
theorem at_y1 (m:Img) (x y:Int) (w:World) (hm:m.In w) (h:formB m = true) (h0:0 ≤ x) (h1:x < m.w) (h2:0 ≤ y) (h3:m.h ≤ y):Calls Tryz.prog 92 #[m.v,.int .i64 x,.int .i64 y] w fun e w' => e = .returned (⟨0,0,0,0,0⟩:Px).v ∧ Bel w w':=by
 exact tlUImage20
set_option maxHeartbeats 4000000 in
theorem at_ok (m:Img) (x y:Int) (w:World) (hm:m.In w) (h:formB m = true) (h0:0 ≤ x) (h1:x < m.w) (h2:0 ≤ y) (h3:y < m.h):Calls Tryz.prog 92 #[m.v,.int .i64 x,.int .i64 y] w fun e w' => e = .returned (pxF m x y).v ∧ Bel w w':=by
 have hF:=hd_ (fun w => formed_call m hm.lens w)
 have hP:=hd_ (pixel_call m x y h (inB_iff.2 ⟨h0,h1,h2,h3⟩))
 rw [h] at hF
 have HM:=hd_ hm
 generalize pxF m x y = R at *
 clear h hm
 go_enter Tryz.func92,Tryz.ntmps92
 go_upto_region 1 with fail
 refine at_world (fun V => Bel w V ∧ V.heap[w.heap.size]? = some (oIm m) ∧ V.heap[w.heap.size + 1]? = some (.cells #[.int .u16 0,.int .u16 0,.int .u16 0,.int .u16 0,.int .u16 0] 32)) ⟨((Bel.refl w).al _).al _,at_old (at_new (by first | rfl | simp)),at_new (by first | rfl | simp)⟩ ?_
 rintro V ⟨hX,eM,eO⟩
 have Ms:=lt_of_heap eM
 have Os:=lt_of_heap eO
 have M_0:=cq0 eM rfl
 have M_1:=cq1 eM rfl
 have M_2:=cq2 eM rfl
 have O_0:=cq0 eO rfl
 have O_1:=cq1 eO rfl
 have O_2:=cq2 eO rfl
 have O_3:=cq3 eO rfl
 have O_4:=cq4 eO rfl
 have fM:=frozA eM
 have fO:=frozA eO
 go_wp2_with (first | ((first | (go_at_call 67; (with_reducible refine (hF.out _).mono ?_)) | (go_at_call 56; (with_reducible refine (hP.out _ (HM.out.bel hX)).mono ?_))); rintro e w1 ⟨rfl,hb⟩; replace hX:=hX.trans hb; replace eM:=hb.heap eM; replace eO:=hb.heap eO; clear Ms M_0 M_1 M_2 fM Os O_0 O_1 O_2 O_3 O_4 fO; have Ms:=lt_of_heap eM; have Os:=lt_of_heap eO; have M_0:=cq0 eM rfl; have M_1:=cq1 eM rfl; have M_2:=cq2 eM rfl; have O_0:=cq0 eO rfl; have O_1:=cq1 eO rfl; have O_2:=cq2 eO rfl; have O_3:=cq3 eO rfl; have O_4:=cq4 eO rfl; have fM:=frozA eM; have fO:=frozA eO; clear hb) | (refine wpList_ld rfl rfl rfl (img_ld eM) ?_) | (refine wpList_ld rfl rfl rfl (img_ld eM) ?_) | fail)
 refine bodyPost_ret (v:=.agg #[_,_,_,_,_]) (by simp [results,Tryz.results92,go_sem, *]) rfl ⟨rfl,?_⟩
 exact tlUImage22
theorem at_call (m:Img) (x y:Int) (w:World) (hm:m.In w):Calls Tryz.prog 92 #[m.v,.int .i64 x,.int .i64 y] w fun e w' => e = .returned (atF m x y).v ∧ Bel w w':=by
 unfold atF
 cases h:formB m
 ·exact at_form m x y w hm h
 by_cases h0:0 ≤ x
 case neg =>
  rw [show inB m x y = false from Bool.eq_false_iff.2 fun hi => h0 (inB_iff.1 hi).1]
  exact at_x0 m x y w hm h (by omega)
 by_cases h1:x < m.w
 case neg =>
  rw [show inB m x y = false from Bool.eq_false_iff.2 fun hi => h1 (inB_iff.1 hi).2.1]
  exact at_x1 m x y w hm h h0 (by omega)
 by_cases h2:0 ≤ y
 case neg =>
  rw [show inB m x y = false from Bool.eq_false_iff.2 fun hi => h2 (inB_iff.1 hi).2.2.1]
  exact at_y0 m x y w hm h h0 h1 (by omega)
 by_cases h3:y < m.h
 case neg =>
  rw [show inB m x y = false from Bool.eq_false_iff.2 fun hi => h3 (inB_iff.1 hi).2.2.2]
  exact at_y1 m x y w hm h h0 h1 h2 (by omega)
 rw [show inB m x y = true from inB_iff.2 ⟨h0,h1,h2,h3⟩]
 exact at_ok m x y w hm h h0 h1 h2 h3
end Go.Proofs.YtepfoelgegljbaaGreatDoor
