/- Part A43. -/
import Derived.Test.YtepfoelgegljbaaGreatDoorA42
namespace Go.Proofs.YtepfoelgegljbaaGreatDoor
set_option maxRecDepth 100000
open Go.RowKit
set_option linter.unusedVariables false
set_option linter.unusedSimpArgs false
theorem wpQuiet_ldg {P:Program} {ops:Array Oper} {C:World → Prop} {Q:Act → Prop} {rest:List Oper} {op:Oper} {a:Act} {ty:TypeId} {x:Operand} {g o:Nat} {v:Value} (hw:Region.wanted op (yielded ops a.tmps) = true) (ho:op.op = .load ty x)
  (hx:a.eval x = .pointer (some ⟨g,o,none⟩)) (hl:∀ w,C w → Sem.run P (Instr.loadAt ty (.pointer (some ⟨g,o,none⟩))) w = .ok v w) (h:wpQuiet P ops C Q rest (a.put op.dst v)):wpQuiet P ops C Q (op :: rest) a:=by
 unfold wpQuiet
 rw [if_pos hw]
 refine ⟨v,fun w hw => ?_,h⟩
 unfold Oper.quietAt execOp
 simp only [ho,hx]
 rw [Sem.run_bind,hl w hw]
 exact ⟨rfl,rfl⟩
set_option maxHeartbeats 1000000 in
theorem wmax_call (b:Int) (hb:b = 8 ∨ b = 16) (w:World):Calls Tryz.prog 13 #[.int .i64 b] w fun e w' => e = .returned (.tuple #[.int .u16 (maxI b),.bool true]) ∧ w = w':=by
 rcases hb with rfl | rfl
 ·go_enter Tryz.func13,Tryz.ntmps13
  go_wp2_with fail
  go_ret2
  exact ⟨rfl,rfl⟩
 ·go_enter Tryz.func13,Tryz.ntmps13
  go_wp2_with fail
  go_ret2
  exact ⟨rfl,rfl⟩
theorem aw_In (W:World) (g h:Nat) (hi:W.heap[g]? = some (.cells #[.int .i64 1,.int .i64 1,.bool true,.int .u16 200,.int .u16 0,.int .u16 0,.int .u16 255,.int .u16 255,.int .i64 0,.int .i64 0,.int .i64 0,.slice none 0 0,.int .i64 0,.int .i64 0,.int .i64 0,.slice none 0 0,.int .i64 0,.int .i64 0,.int .i64 0,.slice none 0 0,.int .i64 0,.int .i64 0,.int .i64 0,.slice none 0 0,.int .i64 0,.int .i64 0,.int .i64 0,.slice none 0 0] 46)) (ho:W.heap[h]? = some (.cells #[.int .i64 1,.int .i64 0,.int .i64 2,.int .i64 1,.int .i64 0,.int .i64 0,.int .i64 0,.int .u16 255,.int .i64 4,.int .i64 1,.bool false,.bool false] 29)):(awS (some ⟨g,0,none⟩) (some ⟨h,0,none⟩)).In W:=by
 refine ⟨by show 0 ≤ 1000; decide,by show 1 ≤ 1000; decide,by show 1 ≤ 1000; decide,⟨rfl,fun h => absurd h (Nat.lt_irrefl 0)⟩,⟨rfl,fun _ => ⟨g,0,rfl,fun j u hj => ?_⟩⟩,⟨rfl,fun _ => ⟨h,0,rfl,fun j u hj => ?_⟩⟩,fun m hm => ?_⟩
 ·rw [Nat.zero_add]
  have e:imgs (awS (some ⟨g,0,none⟩) (some ⟨h,0,none⟩)).ims = [.int .i64 1,.int .i64 1,.bool true,.int .u16 200,.int .u16 0,.int .u16 0,.int .u16 255,.int .u16 255,.int .i64 0,.int .i64 0,.int .i64 0,.slice none 0 0,.int .i64 0,.int .i64 0,.int .i64 0,.slice none 0 0,.int .i64 0,.int .i64 0,.int .i64 0,.slice none 0 0,.int .i64 0,.int .i64 0,.int .i64 0,.slice none 0 0,.int .i64 0,.int .i64 0,.int .i64 0,.slice none 0 0]:=rfl
  rw [e] at hj
  exact cell_of hi (by simpa using hj)
 ·rw [Nat.zero_add]
  have e:oprs (awS (some ⟨g,0,none⟩) (some ⟨h,0,none⟩)).ops = [.int .i64 1,.int .i64 0,.int .i64 2,.int .i64 1,.int .i64 0,.int .i64 0,.int .i64 0,.int .u16 255,.int .i64 4,.int .i64 1,.bool false,.bool false]:=rfl
  rw [e] at hj
  exact cell_of ho (by simpa using hj)
 ·rw [aw_im m hm]
  exact solid_In W 1 1 _
set_option maxHeartbeats 8000000 in
theorem awake_call (w:World) (hN:Named w) (hR:Ruled w):Calls Tryz.prog 11 #[] w fun e w' => e = .returned (.bool true) ∧ Bel w w':=by
 obtain ⟨a,ha⟩:∃ a:Option Addr,a = some ⟨w.heap.size + 1,0,none⟩:=⟨_,rfl⟩
 obtain ⟨b,hb⟩:∃ b:Option Addr,b = some ⟨w.heap.size + 1 + 1,0,none⟩:=⟨_,rfl⟩
 have HRE:=hd_ (show ∀ (W:World) (hX:Bel w W) (hi:W.heap[w.heap.size + 1]? = some (.cells #[.int .i64 1,.int .i64 1,.bool true,.int .u16 200,.int .u16 0,.int .u16 0,.int .u16 255,.int .u16 255,.int .i64 0,.int .i64 0,.int .i64 0,.slice none 0 0,.int .i64 0,.int .i64 0,.int .i64 0,.slice none 0 0,.int .i64 0,.int .i64 0,.int .i64 0,.slice none 0 0,.int .i64 0,.int .i64 0,.int .i64 0,.slice none 0 0,.int .i64 0,.int .i64 0,.int .i64 0,.slice none 0 0] 46)) (ho:W.heap[w.heap.size + 1 + 1]? = some (.cells #[.int .i64 1,.int .i64 0,.int .i64 2,.int .i64 1,.int .i64 0,.int .i64 0,.int .i64 0,.int .u16 255,.int .i64 4,.int .i64 1,.bool false,.bool false] 29)),
   Calls Tryz.prog 10 #[.agg #[.int .i64 8,.int .i64 0,.int .i64 0,.int .i64 3,.int .i64 2,.int .i64 2,.int .i64 1,.slice none 0 0,.slice (some ⟨w.heap.size + 1,0,none⟩) 1 1,.slice (some ⟨w.heap.size + 1 + 1,0,none⟩) 1 1]] W fun e w' => ∃ m:Img,e = .returned (.tuple #[m.v,.int .i64 0,.int .i64 0]) ∧ (formB m = true ∧ m.In w' ∧ (m.w = 3 ∧ m.h = 2) ∧ pxF m 2 1 = ⟨200,0,0,255,255⟩ ∧ pxF m 1 1 = ⟨0,0,0,0,0⟩) ∧ Bel W w' from fun W hX hi ho => by
  have h:=render_ok (awS a b) awF (aw_sm a b) (aw_vb a b) (aw_src a b) aw_pos (.inl (aw_mx a b)) (aw_chk a b) W (by rw [ha,hb]; exact aw_In W _ _ hi ho) (named_bel hN hX) (ruled_bel hR hX)
  rw [ha,hb] at h
  refine h.mono ?_
  rintro e w' ⟨m,rfl,H,hb⟩
  obtain ⟨e1,e2,-⟩:=im_dims (aw_sm _ _) H
  exact ⟨m,rfl,⟨im_form (aw_sm _ _) H,im_In (aw_sm _ _) H,⟨e1,e2⟩,(im_px (aw_sm _ _) H (i:=2) (j:=1) (by show 2 < ((3:Int) - 0).toNat; decide) (by show 1 < ((2:Int) - 0).toNat; decide)).trans (aw_in _ _),(im_px (aw_sm _ _) H (i:=1) (j:=1) (by show 1 < ((3:Int) - 0).toNat; decide) (by show 1 < ((2:Int) - 0).toNat; decide)).trans (aw_out _ _)⟩,hb⟩)
 clear ha hb hN hR a b
 go_enter Tryz.func11,Tryz.ntmps11
 go_upto_region 3 with fail
 refine at_world (fun V => Bel w V ∧ V.heap[w.heap.size]? = some (.cells #[.int .u16 200,.int .u16 0,.int .u16 0,.int .u16 255,.int .u16 255] 32) ∧ V.heap[w.heap.size + 1]? = some (.cells #[.int .i64 1,.int .i64 1,.bool true,.int .u16 200,.int .u16 0,.int .u16 0,.int .u16 255,.int .u16 255,.int .i64 0,.int .i64 0,.int .i64 0,.slice none 0 0,.int .i64 0,.int .i64 0,.int .i64 0,.slice none 0 0,.int .i64 0,.int .i64 0,.int .i64 0,.slice none 0 0,.int .i64 0,.int .i64 0,.int .i64 0,.slice none 0 0,.int .i64 0,.int .i64 0,.int .i64 0,.slice none 0 0] 46) ∧ V.heap[w.heap.size + 1 + 1]? = some (.cells #[.int .i64 1,.int .i64 0,.int .i64 2,.int .i64 1,.int .i64 0,.int .i64 0,.int .i64 0,.int .u16 255,.int .i64 4,.int .i64 1,.bool false,.bool false] 29) ∧ V.heap[w.heap.size + 1 + 1 + 1]? = some (.cells #[.int .i64 8,.int .i64 0,.int .i64 0,.int .i64 3,.int .i64 2,.int .i64 2,.int .i64 1,.slice none 0 0,.slice (some ⟨w.heap.size + 1,0,none⟩) 1 1,.slice (some ⟨w.heap.size + 1 + 1,0,none⟩) 1 1] 38)) ⟨((((Bel.refl w).al _).al _).al _).al _,at_old (at_old (at_old (at_new rfl))),at_old (at_old (at_new (by simp))),at_old (at_new (by simp)),at_new (by simp)⟩ ?_
 rintro V ⟨hX,eP,eI,eO,eS⟩
 have lscr:=scr_ld eS
 go_upto_region 4 with (first | ((with_reducible show wpList _ _ _ (⟨some 16,_,_,_,_,_⟩ :: _) _ _); refine wpList_ld rfl rfl rfl (lscr) ?_) | (go_at_call 10; (with_reducible refine (HRE.out _ hX eI eO).mono ?_); rintro e w1 ⟨m,rfl,hm,hb1⟩) | ((with_reducible show wpList _ _ _ (⟨none,.store _ _ _,_,_,_,_⟩ :: _) _ _); refine wpList_st (n:=0) (g:=w1.heap.size) (cells:=m.cs) rfl rfl rfl rfl (at_new rfl) rfl (by kernel_rfl) (im_one m) ?_; intro Y eM hU) | fail)
 have hbY:=hU.bel (hb1.al _) hb1.size'
 obtain ⟨hf,hm1,⟨mw,mh⟩,p1,p2⟩:=hm
 have hmY:m.In Y:=hm1.bel (hU.bel ((Bel.refl w1).al _) (Nat.le_refl _))
 have hXY:=hX.trans hbY
 have eP':=hbY.heap eP
 have h1:=hd_ (fun q:Bw Y => calls_bq (q:=q) (by have h:=wat_call m 2 1 hf (inB_iff.2 ⟨by omega,by omega,by omega,by omega⟩) q.W (hmY.bel q.h); rw [p1] at h; exact h))
 have h2:=hd_ (fun q:Bw Y => calls_bq (q:=q) (by have h:=wat_call m 1 1 hf (inB_iff.2 ⟨by omega,by omega,by omega,by omega⟩) q.W (hmY.bel q.h); rw [p2] at h; exact h))
 have hX9:=hd_ hXY
 have e1:∀ W,(binOp .eql 32 (.agg #[.int .u16 200,.int .u16 0,.int .u16 0,.int .u16 255,.int .u16 255]) (.agg #[.int .u16 200,.int .u16 0,.int .u16 0,.int .u16 255,.int .u16 255])).run Tryz.prog W = .ok (.bool true) W:=fun W => eql_pixel_same _ _ _ _ _ W
 have e2:∀ W,(binOp .eql 32 (.agg #[.int .u16 0,.int .u16 0,.int .u16 0,.int .u16 0,.int .u16 0]) (.agg #[.int .u16 0,.int .u16 0,.int .u16 0,.int .u16 0,.int .u16 0])).run Tryz.prog W = .ok (.bool true) W:=fun W => eql_pixel_same _ _ _ _ _ W
 have qM:=fun q:Bw Y => img_ld (q.h.heap eM)
 have qP:=fun q:Bw Y => px_ld (q.h.heap eP')
 clear hf hm1 mw mh p1 p2 hmY hXY eP' eP eI eO eS lscr hb1 hU hbY eM hX
 refine region_bel (by kernel_rfl) (by kernel_rfl) ?_
 repeat (first | ((with_reducible show wpQuiet _ _ _ _ (⟨some 24,_,_,_,_,_⟩ :: _) _); refine wpQuiet_ldg (op:=⟨some 24,_,_,_,_,_⟩) (by rfl) rfl rfl (fun w2 hw => by obtain ⟨q,rfl⟩:=hw; exact qM q) ?_; simp only [Act.put,lA_,l0_,lS_]) | ((with_reducible show wpQuiet _ _ _ _ (⟨some 26,_,_,_,_,_⟩ :: _) _); refine wpQuiet_ldg (op:=⟨some 26,_,_,_,_,_⟩) (by rfl) rfl rfl (fun w2 hw => by obtain ⟨q,rfl⟩:=hw; exact qP q) ?_; simp only [Act.put,lA_,l0_,lS_]) | ((with_reducible show wpQuiet _ _ _ _ (⟨some 30,_,_,_,_,_⟩ :: _) _); refine wpQuiet_ldg (op:=⟨some 30,_,_,_,_,_⟩) (by rfl) rfl rfl (fun w2 hw => by obtain ⟨q,rfl⟩:=hw; exact qM q) ?_; simp only [Act.put,lA_,l0_,lS_]) | go_big_quiet_step (first | (go_at_call 20; with_reducible exact h1.out _) | (go_at_call 20; with_reducible exact h2.out _)))
 refine wpQuiet_nil ?_
 rintro w5 ⟨q,rfl⟩
 go_wp2_with fail
 go_returns
 exact ⟨rfl,hX9.out.trans q.h⟩
theorem scn_ld {W:World} {g:Nat} {v0 v1 v2 v3 v4 v5 v6 v7 v8 v9:Value} {t:TypeId} (e:W.heap[g]? = some (.cells #[v0,v1,v2,v3,v4,v5,v6,v7,v8,v9] t)):Sem.run Tryz.prog (Instr.loadAt 26 (.pointer (some ⟨g,0,none⟩))) W = .ok (.agg #[v0,v1,v2,v3,v4,v5,v6,v7,v8,v9]) W :=
 run_loadAt_mid (P:=Tryz.prog) W g 0 26 [v0,v1,v2,v3,v4,v5,v6,v7,v8,v9] _ (fun j v hv => by
  have hj:j < 10:=by have:=(List.getElem?_eq_some_iff.1 hv).1; simpa using this
  have hh:(j = 0 ∨ j = 1 ∨ j = 2 ∨ j = 3 ∨ j = 4 ∨ j = 5 ∨ j = 6 ∨ j = 7 ∨ j = 8 ∨ j = 9):=by omega
  rcases hh with rfl | rfl | rfl | rfl | rfl | rfl | rfl | rfl | rfl | rfl <;> exact cell_of e hv) Tryz.underlying26 (by rfl) (by kernel_rfl)
section
variable {W:World} {base:Nat} {s:Scr} {F:Fo} (h:GScr W base s F)
include h
theorem GScr.kd:F.kd:=ok_kd F true h.ok
end
theorem own_setp {w:World} {base k n c g o:Nat} {t:TypeId} {xs ys vs:List Value} (h:w.ownsRow base t k (.slice (some ⟨g,0,none⟩) n c) n xs) (hb:o + vs.length ≤ n * k) (hl:ys.length = n * k)
  (h1:∀ j u,vs[j]? = some u → ys[o + j]? = some u) (h2:∀ j,j < o ∨ o + vs.length ≤ j → ys[j]? = xs[j]?):(w.setCells g o vs).ownsRow base t k (.slice (some ⟨g,0,none⟩) n c) n ys:=by
 obtain ⟨h1',h2'⟩:=h
 refine ⟨hl,.inr ?_⟩
 rcases h2' with ⟨hv,-⟩ | ⟨g',cap,cur,e1,e2,e3,e4,e5,e6,e7⟩
 ·cases hv
 cases e1
 obtain ⟨cs',e',hs',hlo,hhi,hin⟩:=setCells_heap g t vs o w cur e3
 refine ⟨g,c,cs',rfl,e2,e',e4,e5,by rw [hs',e6],?_⟩
 have hnc:n * k ≤ cur.size:=by rw [e6]; exact Nat.mul_le_mul_right k e4
 apply List.ext_getElem?
 intro j
 rcases Nat.lt_or_ge j (n * k) with hj | hj
 ·rw [List.getElem?_take,if_pos hj,Array.getElem?_toList]
  have hcur:xs[j]? = cur[j]?:=by rw [← e7,List.getElem?_take,if_pos hj,Array.getElem?_toList]
  rcases Nat.lt_or_ge j o with h | h
  ·rw [hlo j h,h2 j (.inl h),hcur]
  ·rcases Nat.lt_or_ge j (o + vs.length) with h3 | h3
   ·obtain ⟨r,rfl⟩:∃ r,j = o + r:=⟨j - o,by omega⟩
    have e:=List.getElem?_eq_getElem (show r < vs.length by omega)
    rw [hin (by omega) r _ e,h1 r _ e]
   ·rw [hhi j h3,h2 j (.inr h3),hcur]
 ·rw [List.getElem?_eq_none (by rw [List.length_take]; omega),List.getElem?_eq_none (by omega)]
theorem own_therep {w:World} {base k n c g o m:Nat} {t:TypeId} {xs:List Value} (h:w.ownsRow base t k (.slice (some ⟨g,0,none⟩) n c) n xs) (hb:o + m ≤ n * k):w.there g o m:=by
 intro j hj
 refine ⟨?_,h.frozenAt _⟩
 rw [h.cellAt _ (by omega),List.getElem?_eq_getElem (by rw [h.1]; omega)]
 rfl
theorem wpList_sop {P:Program} {ops:Array Oper} {rest:List Oper} {op:Oper} {a:Act} {w:World} {Q:Exit → Act → World → Prop} {ty t:TypeId} {x y:Operand} {base k n c g o':Nat} {xs:List Value} (o:Nat) (vs ys:List Value) (hgd:op.guard = none) (ho:op.op = .store ty x y)
  (hx:a.eval x = .pointer (some ⟨g,o',none⟩)) (hy:a.eval y = .agg vs.toArray) (hown:w.ownsRow base t k (.slice (some ⟨g,0,none⟩) n c) n xs) (ho':o' = o) (hb:o + vs.length ≤ n * k) (hl:ys.length = n * k)
  (h1:∀ j u,vs[j]? = some u → ys[o + j]? = some u) (h2:∀ j,j < o ∨ o + vs.length ≤ j → ys[j]? = xs[j]?) (hin:(P.info? ty).map (·.size) = some vs.length) (hc:∀ u ∈ vs,u.oneCell' = true)
  (h:∀ W,W.ownsRow base t k (.slice (some ⟨g,0,none⟩) n c) n ys → Upd g w W → wpList P ops Q rest (a.put op.dst undef) W):wpList P ops Q (op :: rest) a w:=by
 subst ho'
 refine wpList_store_mid hgd ty x y ho g o' vs.toArray hx hy (by rw [List.size_toArray]; exact own_therep hown hb) (by rw [List.size_toArray]; exact hin) (all_oneCell_toArray hc) ?_
 have h4:=own_setp hown hb hl h1 h2
 have h5:=setCells_upd g vs o' w
 simpa using h _ h4 h5
end Go.Proofs.YtepfoelgegljbaaGreatDoor
