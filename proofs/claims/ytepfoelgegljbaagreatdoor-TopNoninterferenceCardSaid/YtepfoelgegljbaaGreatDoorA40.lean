/- Part A40. -/
import Derived.Test.YtepfoelgegljbaaGreatDoorA08
namespace Go.Proofs.YtepfoelgegljbaaGreatDoor
set_option maxRecDepth 100000
open Go.RowKit
set_option linter.unusedVariables false
set_option linter.unusedSimpArgs false
theorem wpList_ldg {P:Program} {ops:Array Oper} {rest:List Oper} {op:Oper} {a:Act} {w:World} {Q:Exit → Act → World → Prop} {ty:TypeId} {x:Operand} {g o:Nat} {v:Value} (hw:Region.wanted op (yielded ops a.tmps) = true) (ho:op.op = .load ty x)
  (hx:a.eval x = .pointer (some ⟨g,o,none⟩)) (hl:Sem.run P (Instr.loadAt ty (.pointer (some ⟨g,o,none⟩))) w = .ok v w) (h:wpList P ops Q rest (a.put op.dst v) w):wpList P ops Q (op :: rest) a w :=
 wpList_step fun K hK => by
  rw [if_pos hw]
  unfold Oper.wp execOp
  simp only [ho,hx]
  rw [Sem.run_bind,hl]
  exact hK _ _ h
theorem pli_ld {W:World} {g:Nat} {m:Img} {t:TypeId} (e:W.heap[g]? = some (.cells m.cs.toArray t)) (i:Nat) (hi:i < 5):Sem.run Tryz.prog (Instr.loadAt 43 (.pointer (some ⟨g,8 + i * 4,none⟩))) W = .ok (m.pl i).v W:=by
 have h:i = 0 ∨ i = 1 ∨ i = 2 ∨ i = 3 ∨ i = 4:=by omega
 rcases h with rfl | rfl | rfl | rfl | rfl
 ·exact run_loadAt_mid (P:=Tryz.prog) W g 8 43 m.p0.cs _ (fun j v hv => by
   have hj:j < 4:=by have:=(List.getElem?_eq_some_iff.1 hv).1; simpa using this
   have hh:j = 0 ∨ j = 1 ∨ j = 2 ∨ j = 3:=by omega
   rcases hh with rfl | rfl | rfl | rfl <;> exact cell_of e hv) Tryz.underlying43 (by rfl) (by kernel_rfl)
 ·exact run_loadAt_mid (P:=Tryz.prog) W g 12 43 m.p1.cs _ (fun j v hv => by
   have hj:j < 4:=by have:=(List.getElem?_eq_some_iff.1 hv).1; simpa using this
   have hh:j = 0 ∨ j = 1 ∨ j = 2 ∨ j = 3:=by omega
   rcases hh with rfl | rfl | rfl | rfl <;> exact cell_of e hv) Tryz.underlying43 (by rfl) (by kernel_rfl)
 ·exact run_loadAt_mid (P:=Tryz.prog) W g 16 43 m.p2.cs _ (fun j v hv => by
   have hj:j < 4:=by have:=(List.getElem?_eq_some_iff.1 hv).1; simpa using this
   have hh:j = 0 ∨ j = 1 ∨ j = 2 ∨ j = 3:=by omega
   rcases hh with rfl | rfl | rfl | rfl <;> exact cell_of e hv) Tryz.underlying43 (by rfl) (by kernel_rfl)
 ·exact run_loadAt_mid (P:=Tryz.prog) W g 20 43 m.p3.cs _ (fun j v hv => by
   have hj:j < 4:=by have:=(List.getElem?_eq_some_iff.1 hv).1; simpa using this
   have hh:j = 0 ∨ j = 1 ∨ j = 2 ∨ j = 3:=by omega
   rcases hh with rfl | rfl | rfl | rfl <;> exact cell_of e hv) Tryz.underlying43 (by rfl) (by kernel_rfl)
 ·exact run_loadAt_mid (P:=Tryz.prog) W g 24 43 m.p4.cs _ (fun j v hv => by
   have hj:j < 4:=by have:=(List.getElem?_eq_some_iff.1 hv).1; simpa using this
   have hh:j = 0 ∨ j = 1 ∨ j = 2 ∨ j = 3:=by omega
   rcases hh with rfl | rfl | rfl | rfl <;> exact cell_of e hv) Tryz.underlying43 (by rfl) (by kernel_rfl)
theorem sti_cell {W:World} {g:Nat} {m:Img} {t:TypeId} (e:W.heap[g]? = some (.cells m.cs.toArray t)) (i:Nat) (hi:i < 5):W.cell? ⟨g,8 + i * 4 + 2,none⟩ = some (.int .i64 (m.pl i).st):=by
 have h:i = 0 ∨ i = 1 ∨ i = 2 ∨ i = 3 ∨ i = 4:=by omega
 rcases h with rfl | rfl | rfl | rfl | rfl <;> exact cell_of e rfl
set_option maxHeartbeats 4000000 in
theorem wformed_solid (m:Img) (hf:formB m = true) (hB:m.solid = true) (w:World) (hm:m.In w):Calls Tryz.prog 38 #[m.v] w fun e w' => e = .returned (.bool true) ∧ Bel w w':=by
 have HF:=hd_ hf
 have HM:=hd_ hm
 have HB:=hd_ hB
 clear hf hm hB
 go_enter Tryz.func38,Tryz.ntmps38
 go_upto_region 1 with fail
 refine at_world (fun V => Bel w V ∧ V.heap[w.heap.size]? = some (oIm m)) ⟨(Bel.refl w).al _,at_new (by first | rfl | simp)⟩ ?_
 rintro V ⟨hX,eM⟩
 have Ms:=lt_of_heap eM
 have M_0:=cq0 eM rfl
 have M_1:=cq1 eM rfl
 have M_2:=cq2 eM rfl
 have M_3:=cq3 eM rfl
 have M_4:=cq4 eM rfl
 have M_5:=cq5 eM rfl
 have M_6:=cq6 eM rfl
 have M_7:=cq7 eM rfl
 have fM:=frozA eM
 clear Ms M_0 M_1 M_2 M_3 M_4 M_5 M_6 M_7 fM
 go_wp2_with fail
 go_loopg [3] 5 (fun gk s3 wr => ∃ i:Nat,i + gk = 5 ∧ s3 = .int .i64 i ∧ Bel w wr ∧ wr.heap[w.heap.size]? = some (oIm m))
 case atStart => exact ⟨0,by omega,rfl,hX,eM⟩
 case round =>
  obtain ⟨i,hgk,rfl,hX,eM⟩:=hrel
  by_cases hlt:i < 5
  case neg =>
   obtain rfl:i = 5:=by omega
   have Ms:=lt_of_heap eM
   have M_0:=cq0 eM rfl
   have M_1:=cq1 eM rfl
   have M_2:=cq2 eM rfl
   have M_3:=cq3 eM rfl
   have M_4:=cq4 eM rfl
   have M_5:=cq5 eM rfl
   have M_6:=cq6 eM rfl
   have M_7:=cq7 eM rfl
   have fM:=frozA eM
   have hB:=HB.out
   go_wp2_with fail
   go_returns
   exact ⟨rfl,hX⟩
  case pos =>
   obtain ⟨p,hp⟩:∃ p,p = m.pl i:=⟨_,rfl⟩
   have hpl:=pli_ld eM i hlt
   rw [← hp] at hpl
   have HPP:=hd_ hp
   clear hp
   go_upto_region 5 with (first | ((with_reducible show wpList _ _ _ (⟨some 12,_,_,_,_,_⟩ :: _) _ _); refine wpList_ld rfl rfl rfl (hpl) ?_) | fail)
   refine at_world (fun V => Bel w V ∧ V.heap[w.heap.size]? = some (oIm m) ∧ V.heap[wr.heap.size]? = some (.cells #[.int .i64 p.w,.int .i64 p.h,.int .i64 p.st,.slice p.A p.n p.c] 43)) ⟨hX.al _,at_old eM,at_new rfl⟩ ?_
   clear hpl hX eM
   rintro V ⟨hX,eM,eP⟩
   have Ms:=lt_of_heap eM
   have Ps:=lt_of_heap eP
   have M_0:=cq0 eM rfl
   have M_1:=cq1 eM rfl
   have M_2:=cq2 eM rfl
   have P_0:=cq0 eP rfl
   have P_1:=cq1 eP rfl
   have P_2:=cq2 eP rfl
   have P_3:=cq3 eP rfl
   have fM:=frozA eM
   have fP:=frozA eP
   have hz:zeroB p = true:=by have h:=pls_all (form_parts HF.out).2.2 i; rw [← HPP.out] at h; unfold okP at h; rw [if_pos HB.out] at h; exact h
   obtain ⟨z1,z2,z3,z4⟩:=(pz_iff p).1 hz
   clear hz
   have hB:=HB.out
   have z5:((p.n:Nat):Int) = 0:=by omega
   go_wp2_with fail
   go_roundg (gk - 1)
   case measure => omega
   case rel => exact ⟨i + 1,by omega,by go_num,hX,eM⟩
set_option maxHeartbeats 4000000 in
theorem wformed_plain (m:Img) (hf:formB m = true) (hB:m.solid = false) (w:World) (hm:m.In w):Calls Tryz.prog 38 #[m.v] w fun e w' => e = .returned (.bool true) ∧ Bel w w':=by
 have HF:=hd_ hf
 have HM:=hd_ hm
 have HB:=hd_ hB
 have hcz:m.col.isz = true:=by have h:=(form_parts hf).2.1; rw [hB,Bool.false_or] at h; exact h
 have hez:∀ W,(binOp .eql 32 (.agg #[.int .u16 m.col.x,.int .u16 m.col.y,.int .u16 m.col.z,.int .u16 m.col.a,.int .u16 m.col.f]) (.agg #[.int .u16 0,.int .u16 0,.int .u16 0,.int .u16 0,.int .u16 0])).run Tryz.prog W = .ok (.bool true) W:=fun W => by rw [eql_pixel]; exact congrArg (fun b => Result.ok (Value.bool b) W) hcz
 have HEZ:=hd_ hez
 clear hcz hez
 clear hf hm hB
 go_enter Tryz.func38,Tryz.ntmps38
 go_upto_region 1 with fail
 refine at_world (fun V => Bel w V ∧ V.heap[w.heap.size]? = some (oIm m)) ⟨(Bel.refl w).al _,at_new (by first | rfl | simp)⟩ ?_
 rintro V ⟨hX,eM⟩
 have Ms:=lt_of_heap eM
 have M_0:=cq0 eM rfl
 have M_1:=cq1 eM rfl
 have M_2:=cq2 eM rfl
 have M_3:=cq3 eM rfl
 have M_4:=cq4 eM rfl
 have M_5:=cq5 eM rfl
 have M_6:=cq6 eM rfl
 have M_7:=cq7 eM rfl
 have fM:=frozA eM
 clear Ms M_0 M_1 M_2 M_3 M_4 M_5 M_6 M_7 fM
 go_wp2_with fail
 go_loopg [3] 5 (fun gk s3 wr => ∃ i:Nat,i + gk = 5 ∧ s3 = .int .i64 i ∧ Bel w wr ∧ wr.heap[w.heap.size]? = some (oIm m))
 case atStart => exact ⟨0,by omega,rfl,hX,eM⟩
 case round =>
  obtain ⟨i,hgk,rfl,hX,eM⟩:=hrel
  by_cases hlt:i < 5
  case neg =>
   obtain rfl:i = 5:=by omega
   have Ms:=lt_of_heap eM
   have M_0:=cq0 eM rfl
   have M_1:=cq1 eM rfl
   have M_2:=cq2 eM rfl
   have M_3:=cq3 eM rfl
   have M_4:=cq4 eM rfl
   have M_5:=cq5 eM rfl
   have M_6:=cq6 eM rfl
   have M_7:=cq7 eM rfl
   have fM:=frozA eM
   have hB:=HB.out
   have hez:=HEZ.out
   go_wp2_with fail
   go_returns
   exact ⟨rfl,hX⟩
  case pos =>
   obtain ⟨p,hp⟩:∃ p,p = m.pl i:=⟨_,rfl⟩
   have hpl:=pli_ld eM i hlt
   rw [← hp] at hpl
   have HPP:=hd_ hp
   clear hp
   go_upto_region 5 with (first | ((with_reducible show wpList _ _ _ (⟨some 12,_,_,_,_,_⟩ :: _) _ _); refine wpList_ld rfl rfl rfl (hpl) ?_) | fail)
   refine at_world (fun V => Bel w V ∧ V.heap[w.heap.size]? = some (oIm m) ∧ V.heap[wr.heap.size]? = some (.cells #[.int .i64 p.w,.int .i64 p.h,.int .i64 p.st,.slice p.A p.n p.c] 43)) ⟨hX.al _,at_old eM,at_new rfl⟩ ?_
   clear hpl hX eM
   rintro V ⟨hX,eM,eP⟩
   have Ms:=lt_of_heap eM
   have Ps:=lt_of_heap eP
   have M_0:=cq0 eM rfl
   have M_1:=cq1 eM rfl
   have M_2:=cq2 eM rfl
   have P_0:=cq0 eP rfl
   have P_1:=cq1 eP rfl
   have P_2:=cq2 eP rfl
   have P_3:=cq3 eP rfl
   have fM:=frozA eM
   have fP:=frozA eP
   obtain ⟨hv,hw,hh⟩:=form_pl HF.out HB.out i
   rw [← HPP.out] at hv hw hh
   have hn:p.n ≤ 1000000:=by rw [HPP.out]; exact HM.out.lens.pl i
   have hV:=hd_ (fun w => rpvalid_call p hn w)
   rw [hv] at hV
   have hw1:(p.w == m.w) = true:=beq_iff_eq.2 hw
   have hw2:(p.w != m.w) = false:=by rw [bne,hw1]; rfl
   have hh1:(p.h == m.h) = true:=beq_iff_eq.2 hh
   have hh2:(p.h != m.h) = false:=by rw [bne,hh1]; rfl
   clear hv hw hh hn
   have hB:=HB.out
   go_wp2_with (first | (go_at_call 63; (with_reducible refine (hV.out _).mono ?_); rintro e w1 ⟨rfl,hb⟩; replace hX:=hX.trans hb; replace eM:=hb.heap eM; replace eP:=hb.heap eP; clear Ms M_0 M_1 M_2 fM Ps P_0 P_1 P_2 P_3 fP; have Ms:=lt_of_heap eM; have Ps:=lt_of_heap eP; have M_0:=cq0 eM rfl; have M_1:=cq1 eM rfl; have M_2:=cq2 eM rfl; have P_0:=cq0 eP rfl; have P_1:=cq1 eP rfl; have P_2:=cq2 eP rfl; have P_3:=cq3 eP rfl; have fM:=frozA eM; have fP:=frozA eP; clear hb) | fail)
   go_roundg (gk - 1)
   case measure => omega
   case rel => exact ⟨i + 1,by omega,by go_num,hX,eM⟩
theorem wformed_call (m:Img) (hf:formB m = true) (w:World) (hm:m.In w):Calls Tryz.prog 38 #[m.v] w fun e w' => e = .returned (.bool true) ∧ Bel w w':=by
 cases hB:m.solid
 ·exact wformed_plain m hf hB w hm
 ·exact wformed_solid m hf hB w hm
set_option maxHeartbeats 4000000 in
theorem wFormed_call (m:Img) (hf:formB m = true) (w:World) (hm:m.In w):Calls Tryz.prog 41 #[m.v] w fun e w' => e = .returned (.bool true) ∧ Bel w w':=by
 have hS:=hd_ (fun W => calls_bs (fits_call m.w m.h W))
 rw [(form_parts hf).1] at hS
 have hFo:=hd_ (fun (W:World) (hb:Bel w W) => wformed_call m hf W (hm.bel hb))
 clear hf hm
 go_enter Tryz.func41,Tryz.ntmps41
 go_upto_region 1 with fail
 refine at_world (fun V => Bel w V ∧ V.heap[w.heap.size]? = some (oIm m)) ⟨(Bel.refl w).al _,at_new (by first | rfl | simp)⟩ ?_
 rintro V ⟨hX,eM⟩
 have Ms:=lt_of_heap eM
 have M_0:=cq0 eM rfl
 have M_1:=cq1 eM rfl
 have fM:=frozA eM
 go_wp2_with (first | ((first | (go_at_call 37; (with_reducible refine (hS.out _).mono ?_)) | (go_at_call 38; (with_reducible refine (hFo.out _ hX).mono ?_))); rintro e w1 ⟨rfl,hb⟩; replace hX:=hX.trans hb; replace eM:=hb.heap eM; clear Ms M_0 M_1 fM; have Ms:=lt_of_heap eM; have M_0:=cq0 eM rfl; have M_1:=cq1 eM rfl; have fM:=frozA eM; clear hb) | ((with_reducible show wpList _ _ _ (⟨some 9,_,_,_,_,_⟩ :: _) _ _); refine wpList_ldg (op:=⟨some 9,_,_,_,_,_⟩) (by rfl) rfl rfl (img_ld eM) ?_) | fail)
 go_returns
 exact ⟨rfl,hX⟩
theorem tlWForm0 {p:Prop} (h:p:=by
  repeat (with_reducible first | exact hX | refine Bel.setCell ?_ (by omega) _ | refine Bel.al ?_ _ | refine Bel.dr ?_ | refine Bel.mo ?_ _ | refine Bel.dn ?_ _)):p:=h
theorem tlWForm1 {p:Prop} (h:p:=by
  go_wp2_with fail
  refine bodyPost_ret (v:=.agg #[_,_,_,_,_]) (by simp [results,Tryz.results40,go_sem, *]) rfl ⟨rfl,?_⟩
  exact tlWForm0):p:=h
set_option maxHeartbeats 4000000 in
theorem wpixel_solid (m:Img) (hB:m.solid = true) (x y:Int) (w:World):Calls Tryz.prog 40 #[m.v,.int .i64 x,.int .i64 y] w fun e w' => e = .returned m.col.v ∧ Bel w w':=by
 have HBB:=hd_ hB
 clear hB
 go_enter Tryz.func40,Tryz.ntmps40
 go_upto_region 1 with fail
 refine at_world (fun V => Bel w V ∧ V.heap[w.heap.size]? = some (oIm m) ∧ V.heap[w.heap.size + 1]? = some (.cells #[.int .u16 0,.int .u16 0,.int .u16 0,.int .u16 0,.int .u16 0] 32)) ⟨((Bel.refl w).al _).al _,at_old (at_new (by first | rfl | simp)),at_new (by first | rfl | simp)⟩ ?_
 rintro V ⟨hX,eM,eO⟩
 have Ms:=lt_of_heap eM
 have Os:=lt_of_heap eO
 have M_0:=cq0 eM rfl
 have M_1:=cq1 eM rfl
 have M_2:=cq2 eM rfl
 have M_3:=cq3 eM rfl
 have M_4:=cq4 eM rfl
 have M_5:=cq5 eM rfl
 have M_6:=cq6 eM rfl
 have M_7:=cq7 eM rfl
 have O_0:=cq0 eO rfl
 have O_1:=cq1 eO rfl
 have O_2:=cq2 eO rfl
 have O_3:=cq3 eO rfl
 have O_4:=cq4 eO rfl
 have fM:=frozA eM
 have fO:=frozA eO
 have hB:=HBB.out
 exact tlWForm1
def picki (f:Nat → Int) (i:Nat):Array Value:=#[.int .i64 (if 0 < i then f 0 else 0),.int .i64 (if 1 < i then f 1 else 0),.int .i64 (if 2 < i then f 2 else 0),.int .i64 (if 3 < i then f 3 else 0),.int .i64 (if 4 < i then f 4 else 0)]
theorem tlWForm2 {p:Prop} (h:p:=by
  have h:i = 0 ∨ i = 1 ∨ i = 2 ∨ i = 3 ∨ i = 4:=by omega
  rcases h with rfl | rfl | rfl | rfl | rfl <;> rfl):p:=h
theorem picki_succ (f:Nat → Int) (i:Nat) (hi:i < 5):(picki f i).setIfInBounds i (.int .i64 (f i)) = picki f (i + 1):=by
 exact tlWForm2
theorem picki_zero (f:Nat → Int) (i:Nat) (hi:i < 5):(picki f i)[i]? = some (.int .i64 0):=by
 exact tlWForm2
theorem at_where {W:World} {p:Pln} (hp:p.In W) {x y:Int} (h0:0 ≤ y * p.st + x) (h1:y * p.st + x < p.n):∃ g off,p.A = some ⟨g,off,none⟩ ∧ W.cell? ⟨g,off + (y * p.st + x).toNat,none⟩ = some (.int .u16 (p.at x y)):=by
 obtain ⟨v,hv⟩:∃ v,p.xs[(y * p.st + x).toNat]? = some v:=⟨_,List.getElem?_eq_getElem (by rw [hp.len]; omega)⟩
 obtain ⟨g,off,hA,d0⟩:=hp.2.sm hv (by omega)
 refine ⟨g,off,hA,?_⟩
 unfold Pln.at
 rw [hv]
 exact d0
set_option maxHeartbeats 8000000 in
theorem wpixel_plain (m:Img) (hB:m.solid = false) (x y:Int) (x0:0 ≤ x) (x1:x ≤ 16777216) (hi:∀ i,0 ≤ y * (m.pl i).st ∧ y * (m.pl i).st + x < (m.pl i).n ∧ y * (m.pl i).st ≤ 281474976710656) (w:World) (hm:m.In w) :
  Calls Tryz.prog 40 #[m.v,.int .i64 x,.int .i64 y] w fun e w' => e = .returned (Px.v ⟨m.p0.at x y,m.p1.at x y,m.p2.at x y,m.p3.at x y,m.p4.at x y⟩) ∧ Bel w w':=by
 have HBB:=hd_ hB
 have HI:=hd_ hi
 have HM:=hd_ hm
 clear hB hi hm
 go_enter Tryz.func40,Tryz.ntmps40
 go_upto_region 1 with fail
 refine at_world (fun V => Bel w V ∧ V.heap[w.heap.size]? = some (oIm m) ∧ V.heap[w.heap.size + 1]? = some (.cells #[.int .u16 0,.int .u16 0,.int .u16 0,.int .u16 0,.int .u16 0] 32)) ⟨((Bel.refl w).al _).al _,at_old (at_new (by first | rfl | simp)),at_new (by first | rfl | simp)⟩ ?_
 rintro V ⟨hX,eM,eO⟩
 have Ms:=lt_of_heap eM
 have Os:=lt_of_heap eO
 have M_2:=cq2 eM rfl
 have fM:=frozA eM
 have fO:=frozA eO
 have hB:=HBB.out
 have HB1:=Os
 go_wp2_with fail
 go_loopg [8] 5 (fun gk s8 wr => ∃ i:Nat,i + gk = 5 ∧ s8 = .int .i64 i ∧ Bel w wr ∧ wr.heap[w.heap.size]? = some (oIm m) ∧ wr.heap[w.heap.size + 1]? = some (.cells #[.int .u16 0,.int .u16 0,.int .u16 0,.int .u16 0,.int .u16 0] 32) ∧ wr.heap[V.heap.size]? = some (.cells (picki (fun i => y * (m.pl i).st + x) i) 95))
 case atStart => exact ⟨0,by omega,rfl,hX.al _,at_old eM,at_old eO,at_new rfl⟩
 case round =>
  clear Ms M_2 fM Os fO hX eM eO
  obtain ⟨i,hgk,rfl,hX,eM,eO,eV⟩:=hrel
  by_cases hlt:i < 5
  case neg =>
   obtain rfl:i = 5:=by omega
   have hV5:picki (fun i => y * (m.pl i).st + x) 5 = #[.int .i64 (y * m.p0.st + x),.int .i64 (y * m.p1.st + x),.int .i64 (y * m.p2.st + x),.int .i64 (y * m.p3.st + x),.int .i64 (y * m.p4.st + x)]:=rfl
   rw [hV5] at eV
   clear hV5
   obtain ⟨a0,b0,c0⟩:0 ≤ y * m.p0.st ∧ y * m.p0.st + x < m.p0.n ∧ y * m.p0.st ≤ 281474976710656:=HI.out 0
   obtain ⟨g0,off0,A0,d0⟩:∃ g off,m.p0.A = some ⟨g,off,none⟩ ∧ wr.cell? ⟨g,off + (y * m.p0.st + x).toNat,none⟩ = some (.int .u16 (m.p0.at x y)):=at_where ((HM.out.bel hX).pl 0) (show 0 ≤ y * m.p0.st + x by omega) b0
   obtain ⟨a1,b1,c1⟩:0 ≤ y * m.p1.st ∧ y * m.p1.st + x < m.p1.n ∧ y * m.p1.st ≤ 281474976710656:=HI.out 1
   obtain ⟨g1,off1,A1,d1⟩:∃ g off,m.p1.A = some ⟨g,off,none⟩ ∧ wr.cell? ⟨g,off + (y * m.p1.st + x).toNat,none⟩ = some (.int .u16 (m.p1.at x y)):=at_where ((HM.out.bel hX).pl 1) (show 0 ≤ y * m.p1.st + x by omega) b1
   obtain ⟨a2,b2,c2⟩:0 ≤ y * m.p2.st ∧ y * m.p2.st + x < m.p2.n ∧ y * m.p2.st ≤ 281474976710656:=HI.out 2
   obtain ⟨g2,off2,A2,d2⟩:∃ g off,m.p2.A = some ⟨g,off,none⟩ ∧ wr.cell? ⟨g,off + (y * m.p2.st + x).toNat,none⟩ = some (.int .u16 (m.p2.at x y)):=at_where ((HM.out.bel hX).pl 2) (show 0 ≤ y * m.p2.st + x by omega) b2
   obtain ⟨a3,b3,c3⟩:0 ≤ y * m.p3.st ∧ y * m.p3.st + x < m.p3.n ∧ y * m.p3.st ≤ 281474976710656:=HI.out 3
   obtain ⟨g3,off3,A3,d3⟩:∃ g off,m.p3.A = some ⟨g,off,none⟩ ∧ wr.cell? ⟨g,off + (y * m.p3.st + x).toNat,none⟩ = some (.int .u16 (m.p3.at x y)):=at_where ((HM.out.bel hX).pl 3) (show 0 ≤ y * m.p3.st + x by omega) b3
   obtain ⟨a4,b4,c4⟩:0 ≤ y * m.p4.st ∧ y * m.p4.st + x < m.p4.n ∧ y * m.p4.st ≤ 281474976710656:=HI.out 4
   obtain ⟨g4,off4,A4,d4⟩:∃ g off,m.p4.A = some ⟨g,off,none⟩ ∧ wr.cell? ⟨g,off + (y * m.p4.st + x).toNat,none⟩ = some (.int .u16 (m.p4.at x y)):=at_where ((HM.out.bel hX).pl 4) (show 0 ≤ y * m.p4.st + x by omega) b4
   have e0:∃ Y,Y = y * m.p0.st + x:=⟨_,rfl⟩
   obtain ⟨Y0,hY0⟩:=e0
   rw [← hY0] at b0 d0
   have e1:∃ Y,Y = y * m.p1.st + x:=⟨_,rfl⟩
   obtain ⟨Y1,hY1⟩:=e1
   rw [← hY1] at b1 d1
   have e2:∃ Y,Y = y * m.p2.st + x:=⟨_,rfl⟩
   obtain ⟨Y2,hY2⟩:=e2
   rw [← hY2] at b2 d2
   have e3:∃ Y,Y = y * m.p3.st + x:=⟨_,rfl⟩
   obtain ⟨Y3,hY3⟩:=e3
   rw [← hY3] at b3 d3
   have e4:∃ Y,Y = y * m.p4.st + x:=⟨_,rfl⟩
   obtain ⟨Y4,hY4⟩:=e4
   rw [← hY4] at b4 d4
   rw [← hY0,← hY1,← hY2,← hY3,← hY4] at eV
   have n0:0 ≤ Y0:=by omega
   have u0:Y0.toNat < m.p0.n:=by omega
   have n1:0 ≤ Y1:=by omega
   have u1:Y1.toNat < m.p1.n:=by omega
   have n2:0 ≤ Y2:=by omega
   have u2:Y2.toNat < m.p2.n:=by omega
   have n3:0 ≤ Y3:=by omega
   have u3:Y3.toNat < m.p3.n:=by omega
   have n4:0 ≤ Y4:=by omega
   have u4:Y4.toNat < m.p4.n:=by omega
   clear hY0 a0 c0 hY1 a1 c1 hY2 a2 c2 hY3 a3 c3 hY4 a4 c4
   have q0:=fun q:Bw wr => q.h.cell (show wr.cell? ⟨w.heap.size,11,none⟩ = some (.slice (some ⟨g0,off0,none⟩) m.p0.n m.p0.c) by rw [← A0]; exact cq11 eM rfl)
   have q1:=fun q:Bw wr => q.h.cell (show wr.cell? ⟨w.heap.size,15,none⟩ = some (.slice (some ⟨g1,off1,none⟩) m.p1.n m.p1.c) by rw [← A1]; exact cq15 eM rfl)
   have q2:=fun q:Bw wr => q.h.cell (show wr.cell? ⟨w.heap.size,19,none⟩ = some (.slice (some ⟨g2,off2,none⟩) m.p2.n m.p2.c) by rw [← A2]; exact cq19 eM rfl)
   have q3:=fun q:Bw wr => q.h.cell (show wr.cell? ⟨w.heap.size,23,none⟩ = some (.slice (some ⟨g3,off3,none⟩) m.p3.n m.p3.c) by rw [← A3]; exact cq23 eM rfl)
   have q4:=fun q:Bw wr => q.h.cell (show wr.cell? ⟨w.heap.size,27,none⟩ = some (.slice (some ⟨g4,off4,none⟩) m.p4.n m.p4.c) by rw [← A4]; exact cq27 eM rfl)
   have r0:=fun q:Bw wr => q.h.cell (cq0 eV rfl)
   have r1:=fun q:Bw wr => q.h.cell (cq1 eV rfl)
   have r2:=fun q:Bw wr => q.h.cell (cq2 eV rfl)
   have r3:=fun q:Bw wr => q.h.cell (cq3 eV rfl)
   have r4:=fun q:Bw wr => q.h.cell (cq4 eV rfl)
   have s0:=fun q:Bw wr => q.h.cell d0
   have s1:=fun q:Bw wr => q.h.cell d1
   have s2:=fun q:Bw wr => q.h.cell d2
   have s3:=fun q:Bw wr => q.h.cell d3
   have s4:=fun q:Bw wr => q.h.cell d4
   have HE:=hd_ (And.intro hX (And.intro eM (And.intro eO eV)))
   clear hX eM eO eV A0 d0 A1 d1 A2 d2 A3 d3 A4 d4
   go_upto_region 8 with fail
   refine region_btail 42 (by kernel_rfl) (by kernel_rfl) ?_
   simp only [List.take_succ_cons,List.take_zero]
   repeat (go_big_quiet_step (fail))
   refine wpQuiet_nil ?_
   rintro w6 ⟨q,rfl⟩
   simp only [List.drop_succ_cons,List.drop_zero]
   have eO6:=q.h.heap HE.out.2.2.1
   have O_0:=cq0 eO6 rfl
   have O_1:=cq1 eO6 rfl
   have O_2:=cq2 eO6 rfl
   have O_3:=cq3 eO6 rfl
   have O_4:=cq4 eO6 rfl
   have Os:=lt_of_heap eO6
   have fO:=frozA eO6
   have hX:=HE.out.1.trans q.h
   clear q0 r0 s0 q1 r1 s1 q2 r2 s2 q3 r3 s3 q4 r4 s4
   exact tlWForm1
  case pos =>
   have HSs:V.heap.size < wr.heap.size:=lt_of_heap eV
   have HI':=HI.out i
   have hst:=sti_cell eM i hlt
   have hpk:=picki_succ (fun i => y * (m.pl i).st + x) i hlt
   have HPK:=hd_ hpk
   clear hpk
   obtain ⟨i0,i1,i2⟩:=HI'
   have hyw:IntKind.i64.wrap (y * (m.pl i).st) = y * (m.pl i).st:=wrap_i64 _ (by omega) (by omega)
   have hyx:IntKind.i64.wrap (y * (m.pl i).st + x) = y * (m.pl i).st + x:=wrap_i64 _ (by omega) (by omega)
   have fV:=frozA eV
   have V_i:=cell_of (i:=i) eV (show (picki (fun i => y * (m.pl i).st + x) i)[i]? = some (.int .i64 0) from picki_zero _ i hlt)
   clear i0 i1 i2
   go_wp2_with fail
   go_roundg (gk - 1)
   case measure => omega
   case rel => exact ⟨i + 1,by omega,by go_num,hX.setCell (by omega) _,heap_set_other _ (by omega) eM,heap_set_other _ (by omega) eO,by rw [← HPK.out]; exact heap_set _ eV⟩
theorem wpixel_call (m:Img) (x y:Int) (hf:formB m = true) (hi:inB m x y = true) (w:World) (hm:m.In w):Calls Tryz.prog 40 #[m.v,.int .i64 x,.int .i64 y] w fun e w' => e = .returned (pxF m x y).v ∧ Bel w w':=by
 obtain ⟨x0,x1,y0,y1⟩:=inB_iff.1 hi
 unfold pxF
 cases hB:m.solid
 ·exact wpixel_plain m hB x y x0 (by have:=size_le (form_parts hf).1; omega) (fun i => by
   obtain ⟨h1,h2,h3⟩:=form_pl hf hB i
   exact plane_in h1 x0 (by omega) y0 (by omega)) w hm
 ·exact wpixel_solid m hB x y w
set_option maxHeartbeats 4000000 in
theorem wat_call (m:Img) (x y:Int) (hf:formB m = true) (hi:inB m x y = true) (w:World) (hm:m.In w):Calls Tryz.prog 20 #[m.v,.int .i64 x,.int .i64 y] w fun e w' => e = .returned (pxF m x y).v ∧ Bel w w':=by
 have hF:=hd_ (fun (W:World) (hb:Bel w W) => wFormed_call m hf W (hm.bel hb))
 have hP:=hd_ (fun (W:World) (hb:Bel w W) => wpixel_call m x y hf hi W (hm.bel hb))
 obtain ⟨h0,h1,h2,h3⟩:=inB_iff.1 hi
 generalize pxF m x y = R at *
 clear hf hi hm
 go_enter Tryz.func20,Tryz.ntmps20
 go_upto_region 1 with fail
 refine at_world (fun V => Bel w V ∧ V.heap[w.heap.size]? = some (oIm m) ∧ V.heap[w.heap.size + 1]? = some (.cells #[.int .u16 0,.int .u16 0,.int .u16 0,.int .u16 0,.int .u16 0] 32)) ⟨((Bel.refl w).al _).al _,at_old (at_new (by first | rfl | simp)),at_new (by first | rfl | simp)⟩ ?_
 rintro V ⟨hX,eM,eO⟩
 have Ms:=lt_of_heap eM
 have Os:=lt_of_heap eO
 have M_0:=cq0 eM rfl
 have M_1:=cq1 eM rfl
 have M_2:=cq2 eM rfl
 have O_0:=cq0 eO rfl
 have O_1:=cq1 eO rfl
 have O_2:=cq2 eO rfl
 have O_3:=cq3 eO rfl
 have O_4:=cq4 eO rfl
 have fM:=frozA eM
 have fO:=frozA eO
 go_wp2_with (first | ((first | (go_at_call 41; (with_reducible refine (hF.out _ hX).mono ?_)) | (go_at_call 40; (with_reducible refine (hP.out _ hX).mono ?_))); rintro e w1 ⟨rfl,hb⟩; replace hX:=hX.trans hb; replace eM:=hb.heap eM; replace eO:=hb.heap eO; clear Ms M_0 M_1 M_2 fM Os O_0 O_1 O_2 O_3 O_4 fO; have Ms:=lt_of_heap eM; have Os:=lt_of_heap eO; have M_0:=cq0 eM rfl; have M_1:=cq1 eM rfl; have M_2:=cq2 eM rfl; have O_0:=cq0 eO rfl; have O_1:=cq1 eO rfl; have O_2:=cq2 eO rfl; have O_3:=cq3 eO rfl; have O_4:=cq4 eO rfl; have fM:=frozA eM; have fO:=frozA eO; clear hb) | ((with_reducible show wpList _ _ _ (⟨some 7,_,_,_,_,_⟩ :: _) _ _); refine wpList_ld rfl rfl rfl (img_ld eM) ?_) | ((with_reducible show wpList _ _ _ (⟨some 31,_,_,_,_,_⟩ :: _) _ _); refine wpList_ld rfl rfl rfl (img_ld eM) ?_) | fail)
 refine bodyPost_ret (v:=.agg #[_,_,_,_,_]) (by simp [results,Tryz.results20,go_sem, *]) rfl ⟨rfl,?_⟩
 exact tlWForm0
end Go.Proofs.YtepfoelgegljbaaGreatDoor
