/- Part A33. -/
import Derived.Test.YtepfoelgegljbaaGreatDoorA30
namespace Go.Proofs.YtepfoelgegljbaaGreatDoor
set_option maxRecDepth 100000
open Go.RowKit
set_option linter.unusedVariables false
set_option linter.unusedSimpArgs false
structure PnZ (w0:World) (s:Scr) (el:List Int) (gp:Nat) (ev:Value) (W:World) (sv:Value):Prop where
 hB:Bel w0 W
 g0:w0.heap.size ≤ gp
 eP:W.heap[gp]? = some (pnO s ev sv)
 en:W.ownsRow w0.heap.size 3 1 ev s.pn (ints64 el)
 sk:∃ k xs,W.ownsRow w0.heap.size 131 14 sv k xs
theorem PnI.z {w0 W:World} {s:Scr} {el:List Int} {gp n:Nat} {ev sv:Value} {st:List Fm} (I:PnI w0 s el gp n ev W sv st):PnZ w0 s el gp ev W sv:=⟨I.hB,I.g0,I.eP,I.en,_,_,I.sk⟩
theorem PnZ.cut {w0 W:World} {s:Scr} {el:List Int} {gp:Nat} {ev sv:Value} (Z:PnZ w0 s el gp ev W sv):∃ A k c,sv = .slice A k c ∧ k ≤ c ∧ W.ownsRow w0.heap.size 131 14 (.slice A 0 c) 0 []:=by
 obtain ⟨k,xs,h⟩:=Z.sk
 rcases h.2 with ⟨rfl,rfl⟩ | ⟨g,cap,cur,rfl,e2,e3,e4,e5,e6,e7⟩
 ·exact ⟨none,0,0,rfl,Nat.le_refl _,World.ownsRow_nil _ _ _ _⟩
 ·exact ⟨_,_,_,rfl,e4,rfl,.inr ⟨g,cap,cur,rfl,e2,e3,Nat.zero_le _,e5,e6,by simp⟩⟩
theorem PnI.base {w0 W1 W6:World} {s:Scr} {el:List Int} {gp n c:Nat} {A:Option Addr} {ev sv sv':Value} {f':Fm} (Z:PnZ w0 s el gp ev W1 sv) (hsk:W1.ownsRow w0.heap.size 131 14 (.slice A 0 c) 0 []) (hg:W1.grownBy W6 (Value.slice A 0 c).ownBlock) (hown:W6.ownsRow w0.heap.size 131 14 sv' 1 (f'.cs n)) (hf:f'.In n w0.heap.size W1) :
  PnI w0 s el gp n ev (W6.setCell ⟨gp,12,none⟩ sv') sv' [f'] ∧ Kept W1 (W6.setCell ⟨gp,12,none⟩ sv') ∧ W6.heap[gp]? = some (pnO s ev sv):=by
 have hk1:=Kept.app hsk hg
 have hgp:(Value.slice A 0 c).ownBlock ≠ some gp:=own_ne_heap hsk Z.eP (by decide)
 have eP6:W6.heap[gp]? = some (pnO s ev sv):=(hg.block gp (lt_of_heap Z.eP) fun e => hgp e.symm).trans Z.eP
 have hk2:Kept W6 (W6.setCell ⟨gp,12,none⟩ sv'):=Kept.of_upd (setCells_upd gp [sv'] 12 W6) eP6 (.inl rfl)
 have hk:=hk1.trans hk2
 refine ⟨⟨((Z.hB.grown hg fun k h => (hsk.lt k h).1).setCell Z.g0 _),Z.g0,heap_set sv' eP6,own_keep Z.en hk (by decide) (by decide),?_,fun f hf' => ?_⟩,hk,eP6⟩
 ·have h:=own_upd hown (setCells_upd gp [sv'] 12 W6) (own_ne_heap hown eP6 (by decide))
  rw [show [f'].flatMap (Fm.cs n) = f'.cs n by simp]
  exact h
 ·obtain rfl:=List.mem_singleton.1 hf'
  exact hf.keep hk
theorem PnZ.bel {w0 W:World} {s:Scr} {el:List Int} {gp:Nat} {ev sv:Value} (I:PnZ w0 s el gp ev W sv) {W':World} (hb:Bel W W'):PnZ w0 s el gp ev W' sv :=
 ⟨I.hB.trans hb,I.g0,hb.heap I.eP,own_ext I.en hb,let ⟨k,xs,h⟩:=I.sk; ⟨k,xs,own_ext h hb⟩⟩
theorem tlVRowW0 {p:Prop} (h:p:=by
  obtain ⟨hP1,hP2,eP6⟩:=hP
  have k12:=cq12 eP6 rfl
  have f12:=frozA eP6 12
  have HP:=hd_ (And.intro hP1 ((Kept.of_bel (HX.out.trans hS3)).trans hP2))
  clear hP1 hP2 eP6 hIn hown6 hgr6 hS1 hS2 hS3 hsk3 hYw lp hYd hmA hmB
  refine any_of_C (c:=16) (S:=fun _ => True) _ _ _ _ ?_
  refine C_take0a (i:=14) (v:=?_) rfl trivial (Or.inl ⟨by rfl,?_⟩) ?_
  rotate_left
  ·(intro W hW; go_simp; try with_reducible rfl)
  simp only [Act.put,lA_,l0_,lS_]
  refine C_take0a (i:=15) (v:=?_) rfl trivial (Or.inl ⟨by rfl,?_⟩) ?_
  rotate_left
  ·(intro W hW; go_simp; try with_reducible rfl)
  simp only [Act.put,lA_,l0_,lS_]
  refine C_tail (c:=16) (g:=0) (l:=_) rfl rfl (by kernel_rfl) (by kernel_rfl) ?_
  simp only [List.drop_succ_cons,List.drop_zero]
  go_wp2_with fail
  go_meet
  exact ⟨rfl,_,_,_,_,_,HP.out.1,HP.out.2⟩):p:=h
set_option maxHeartbeats 8000000 in
theorem row_call (w0:World) (s:Scr) (hs:s.In w0) (hm:s.Sm) (hR:Ruled w0) (F:Fo) (hV:s.Vb F) (hS:SrcOk s.ims s.mx) (hpos:F.pos) (hmx:s.mx = 255 ∨ s.mx = 65535) (R:Rc) (al:List Bool) (hal:al.length = s.pn) (hac:acOk R s.can s.ims al F 0) (el:List Int) (hen:endsOk el F 0)
  (gp n:Nat) (ev sv:Value) (w:World) (Z:PnZ w0 s el gp ev w sv) (n1:1 ≤ n) (n2:n ≤ 100) (x y:Int) (x0:-1050000 ≤ x) (x1:x ≤ 1050000) (y0:-1050000 ≤ y) (y1:y ≤ 1050000) (ba:Nat) (aA:Option Addr) (ac:Nat) (hrow:w.ownsRow ba 4 1 (.slice aA s.pn ac) s.pn (bls al)) :
  Calls Tryz.prog 61 #[.pointer (some ⟨gp,0,none⟩),.int .i64 x,.int .i64 y,.int .i64 n,.slice aA s.pn ac] w fun e w' => ∃ v,e = .returned v ∧ (∃ sv',PnZ w0 s el gp ev w' sv') ∧ w'.ownsRow w.heap.size 32 5 v n (pxs ((List.range n).map fun k:Nat => ptF s.can s.ims s.mx R F (x + k) y)) ∧ Kept w w':=by
 have hop:s.ops = F.flat:=hV.fo
 have hRW0:∀ aA ca bA cb,RwS s R el al F n x y 0 [F] [⟨baseO,aA,ca,bA,cb,List.replicate n acz,List.replicate n pxz⟩]:=fun aA ca bA cb => by
  have hat:∀ k,k < n → Fm.at ⟨baseO,aA,ca,bA,cb,List.replicate n acz,List.replicate n pxz⟩ k = baseF:=fun k hk => Fm.at_of (by rw [List.getElem?_replicate,if_pos hk]) (by rw [List.getElem?_replicate,if_pos hk])
  refine ⟨by rw [hop]; rfl,⟨hV.ok,hpos⟩,fun f hf => ?_,⟨hac,trivial⟩,⟨hen,trivial⟩,fun k hk => ?_⟩
  ·obtain rfl:=List.mem_singleton.1 hf
   refine ⟨List.length_replicate,List.length_replicate,fun k hk => ?_⟩
   rw [hat k hk]
   exact baseF_ok (by omega)
  ·rw [List.map_cons,hat k hk]
   rfl
 have HRW:=hd_ hRW0
 have HRO:=hd_ hrow
 have HS:=hd_ hS
 have HIN:=hd_ hs
 have HR:=hd_ hR
 have HV:=hd_ hV
 have HAL:=hd_ hal
 have hpn:=hm.p0
 clear hRW0 hrow hS hs hR hV hal hac hen hop
 obtain ⟨i0,hi,hz0,hz1,hz2⟩:=info_parts info_fm
 obtain ⟨As,ks,cs,rfl,hkc,hcut⟩:=Z.cut
 have HZ:=hd_ Z
 have HCUT:=hd_ hcut
 clear hcut
 go_enter Tryz.func61,Tryz.ntmps61
 go_upto_region 1 with fail
 refine at_world (fun Y => Bel w Y) (Bel.refl w) ?_
 rintro Y hX
 have hlp:=cq12 (Z.bel hX).eP rfl
 have lp:=fun (W:World) (h:Bel Y W) => h.cell hlp
 have hYd:=(Bel.refl Y).dr
 have hmA:=fun W:World => run_make_rows (P:=Tryz.prog) 129 151 (.agg #[.int .u16 0,.int .u16 0,.int .u16 0,.int .u16 0,.int .u16 0,.int .u16 0]) 6 12 Tryz.underlying129 (by kernel_rfl) n (by omega) (by omega) W
 have hmB:=fun W:World => run_make_rows (P:=Tryz.prog) 60 32 (.agg #[.int .u16 0,.int .u16 0,.int .u16 0,.int .u16 0,.int .u16 0]) 5 10 Tryz.underlying60 (by kernel_rfl) n (by omega) (by omega) W
 have HX:=hd_ hX
 clear hlp hX Z
 go_cut [10] (fun s10 Z => s10 = .slice none 0 0 ∧ ∃ sv' aA ca bA cb,PnI w0 s el gp n ev Z sv' [⟨baseO,aA,ca,bA,cb,List.replicate n acz,List.replicate n pxz⟩] ∧ Kept w Z)
 case first =>
  refine C_region 13 (fun W => Bel Y W) (by kernel_rfl) ?_
  refine C_take0a (i:=0) (v:=?_) rfl hYd (Or.inl ⟨by rfl,?_⟩) ?_
  rotate_left
  ·(intro W hW; go_simp; try with_reducible rfl)
  simp only [Act.put,lA_,l0_,lS_]
  refine C_take0a (i:=1) (v:=?_) rfl hYd (Or.inl ⟨by rfl,?_⟩) ?_
  rotate_left
  ·(intro W hW; go_simp; try with_reducible rfl)
  simp only [Act.put,lA_,l0_,lS_]
  refine C_take0a (i:=2) (v:=?_) rfl hYd (Or.inl ⟨by rfl,?_⟩) ?_
  rotate_left
  ·(intro W hW; go_simp; try with_reducible rfl)
  simp only [Act.put,lA_,l0_,lS_]
  refine C_take0a (i:=3) (v:=?_) rfl hYd (Or.inl ⟨by rfl,?_⟩) ?_
  rotate_left
  ·(intro W hW; go_simp; try with_reducible rfl)
  simp only [Act.put,lA_,l0_,lS_]
  refine C_take2 5 (i:=4) (v:=?_) rfl (by kernel_rfl) (by kernel_rfl) (by kernel_rfl) (by kernel_rfl) (by kernel_rfl) (by kernel_rfl) (by kernel_rfl) (fun _ _ _ h => h) hYd (Or.inl ⟨by rfl,?_⟩) ?_
  rotate_left
  ·(intro W hW; (try dsimp only at hW); go_simp; try with_reducible rfl)
  simp only [Act.put,lA_,l0_,lS_]
  refine C_take0a (i:=5) (v:=?_) rfl hYd (Or.inl ⟨by rfl,?_⟩) ?_
  rotate_left
  ·(intro W hW; go_simp; try with_reducible rfl)
  simp only [Act.put,lA_,l0_,lS_]
  refine C_take0a (i:=6) (v:=?_) rfl hYd (Or.inl ⟨by rfl,?_⟩) ?_
  rotate_left
  ·(intro W hW; go_simp; try with_reducible rfl)
  simp only [Act.put,lA_,l0_,lS_]
  refine C_take0a (i:=7) (v:=?_) rfl hYd (Or.inl ⟨by rfl,?_⟩) ?_
  rotate_left
  ·(intro W hW; go_simp; try with_reducible rfl)
  simp only [Act.put,lA_,l0_,lS_]
  refine C_take0a (i:=9) (v:=?_) rfl hYd (Or.inl ⟨by rfl,?_⟩) ?_
  rotate_left
  ·(intro W hW; go_simp; try with_reducible rfl)
  simp only [Act.put,lA_,l0_,lS_]
  refine C_branch (rs:=[8,10]) (by kernel_rfl) (by simp) (AllC.cons rfl (by rfl) (fun K hK => ?_) (AllC.cons rfl (by rfl) (fun K hK => ?_) AllC.nil))
  ·go_simp
   have hS1:=hYd.al (.cells (madeCells (Value.agg #[.int .u16 0,.int .u16 0,.int .u16 0,.int .u16 0,.int .u16 0,.int .u16 0]).cells (n * 6)) 151)
   refine hK.out _ _ hS1 ?_
   clear hK K
   refine C_do (i:=10) (by kernel_rfl) rfl (by rfl) fun K hK => ?_
   go_simp
   have hS2:=hS1.al (.cells (madeCells (Value.agg #[.int .u16 0,.int .u16 0,.int .u16 0,.int .u16 0,.int .u16 0]).cells (n * 5)) 32)
   refine hK.out _ _ hS2 ?_
   clear hK K
   refine C_take0a (i:=11) (v:=?_) rfl hS2 (Or.inl ⟨by rfl,?_⟩) ?_
   rotate_left
   ·(intro W hW; go_simp; try with_reducible rfl)
   simp only [Act.put,lA_,l0_,lS_]
   refine C_do (i:=12) (by kernel_rfl) rfl (by rfl) fun K hK => ?_
   go_simp
   have hS3:=hS2.al (.cells #[.int .i64 2,.int .i64 0,.int .i64 0,.int .i64 0,.int .i64 0,.int .i64 0,.int .i64 0,.int .u16 0,.int .i64 0,.int .i64 0,.bool true,.bool false,.slice (some ⟨Y.heap.size,0,none⟩) n n,.slice (some ⟨(Y.heap.size + 1),0,none⟩) n n] 131)
   refine hK.out _ _ hS3 ?_
   clear hK K
   refine C_step (by kernel_rfl) rfl (by kernel_rfl) (by rfl) fun K hK => ?_
   have hsk3:=own_ext HCUT.out (HX.out.trans hS3)
   refine wp_append_own _ (.tmp 23) (.tmp 30) 110 rfl w0.heap.size 131 i0 (.agg #[.int .i64 0,.int .i64 0,.int .i64 0,.int .i64 0,.int .i64 0,.int .i64 0,.int .i64 0,.int .u16 0,.int .i64 0,.int .i64 0,.bool false,.bool false,.slice none 0 0,.slice none 0 0]) 14 136 Tryz.underlying110 hi hz0 hz1 hz2 rfl (by decide) _ _ _ rfl hsk3 _ 1 1 [.int .i64 2,.int .i64 0,.int .i64 0,.int .i64 0,.int .i64 0,.int .i64 0,.int .i64 0,.int .u16 0,.int .i64 0,.int .i64 0,.bool true,.bool false,.slice (some ⟨Y.heap.size,0,none⟩) n n,.slice (some ⟨(Y.heap.size + 1),0,none⟩) n n] rfl rfl ?ca ?cb ?cc ?cd ?ce ?_
   case ca => (intro j u h; have h2:=new_row ((Y.alloc (.cells (madeCells (Value.agg #[.int .u16 0,.int .u16 0,.int .u16 0,.int .u16 0,.int .u16 0,.int .u16 0]).cells (n * 6)) 151)).alloc (.cells (madeCells (Value.agg #[.int .u16 0,.int .u16 0,.int .u16 0,.int .u16 0,.int .u16 0]).cells (n * 5)) 32)) [.int .i64 2,.int .i64 0,.int .i64 0,.int .i64 0,.int .i64 0,.int .i64 0,.int .i64 0,.int .u16 0,.int .i64 0,.int .i64 0,.bool true,.bool false,.slice (some ⟨Y.heap.size,0,none⟩) n n,.slice (some ⟨(Y.heap.size + 1),0,none⟩) n n] 131 j u h; rw [show ((Y.alloc (.cells (madeCells (Value.agg #[.int .u16 0,.int .u16 0,.int .u16 0,.int .u16 0,.int .u16 0,.int .u16 0]).cells (n * 6)) 151)).alloc (.cells (madeCells (Value.agg #[.int .u16 0,.int .u16 0,.int .u16 0,.int .u16 0,.int .u16 0]).cells (n * 5)) 32)).heap.size = Y.heap.size + 1 + 1 by simp] at h2; exact h2)
   case cb => intro u hu; simp at hu; rcases hu with rfl | rfl | rfl | rfl | rfl | rfl | rfl | rfl | rfl | rfl | rfl | rfl | rfl | rfl; all_goals (first | rfl | skip)
   case cc => unfold maxLen; omega
   case cd => omega
   case ce => exact Nat.le_trans HZ.out.hB.size' (HX.out.trans hS3).size'
   intro v6 W6 hown6 hgr6 hnil6
   clear hnil6
   obtain ⟨A6,c6,rfl,-⟩:=own_sl hown6
   refine hK.out _ _ ?_
   clear hK K
   have hYw:=(HZ.out.hB.trans HX.out).size'
   have hIn:Fm.In n w0.heap.size (((Y.drew.alloc (.cells (madeCells (Value.agg #[.int .u16 0,.int .u16 0,.int .u16 0,.int .u16 0,.int .u16 0,.int .u16 0]).cells (n * 6)) 151)).alloc (.cells (madeCells (Value.agg #[.int .u16 0,.int .u16 0,.int .u16 0,.int .u16 0,.int .u16 0]).cells (n * 5)) 32)).alloc (.cells #[.int .i64 2,.int .i64 0,.int .i64 0,.int .i64 0,.int .i64 0,.int .i64 0,.int .i64 0,.int .u16 0,.int .i64 0,.int .i64 0,.bool true,.bool false,.slice (some ⟨Y.heap.size,0,none⟩) n n,.slice (some ⟨(Y.heap.size + 1),0,none⟩) n n] 131)) (⟨baseO,some ⟨Y.heap.size,0,none⟩,n,some ⟨(Y.heap.size + 1),0,none⟩,n,List.replicate n acz,List.replicate n pxz⟩:Fm):=⟨List.length_replicate,List.length_replicate,own_made (base:=w0.heap.size) (f:=Ac.cs) (k:=6) acz _ (fun _ => rfl) (by rfl) (by (first | exact at_drew1 (at_new (by first | rfl | simp)) | exact at_drew1 (at_old (at_new (by first | rfl | simp))) | exact at_drew1 (at_old (at_old (at_new (by first | rfl | simp)))))) (by omega) (by unfold maxLen; omega),own_made (base:=w0.heap.size) (f:=Px.cs) (k:=5) pxz _ (fun _ => rfl) (by rfl) (by (first | exact at_drew1 (at_new (by first | rfl | simp)) | exact at_drew1 (at_old (at_new (by first | rfl | simp))) | exact at_drew1 (at_old (at_old (at_new (by first | rfl | simp)))))) (by omega) (by unfold maxLen; omega)⟩
   have hP:=PnI.base (HZ.out.bel (HX.out.trans hS3)) hsk3 (f':=(⟨baseO,some ⟨Y.heap.size,0,none⟩,n,some ⟨(Y.heap.size + 1),0,none⟩,n,List.replicate n acz,List.replicate n pxz⟩:Fm)) hgr6 hown6 hIn
   exact tlVRowW0
  ·go_simp
   have hS1:=hYd.al (.cells (madeCells (Value.agg #[.int .u16 0,.int .u16 0,.int .u16 0,.int .u16 0,.int .u16 0]).cells (n * 5)) 32)
   refine hK.out _ _ hS1 ?_
   clear hK K
   refine C_do (i:=8) (by kernel_rfl) rfl (by rfl) fun K hK => ?_
   go_simp
   have hS2:=hS1.al (.cells (madeCells (Value.agg #[.int .u16 0,.int .u16 0,.int .u16 0,.int .u16 0,.int .u16 0,.int .u16 0]).cells (n * 6)) 151)
   refine hK.out _ _ hS2 ?_
   clear hK K
   refine C_take0a (i:=11) (v:=?_) rfl hS2 (Or.inl ⟨by rfl,?_⟩) ?_
   rotate_left
   ·(intro W hW; go_simp; try with_reducible rfl)
   simp only [Act.put,lA_,l0_,lS_]
   refine C_do (i:=12) (by kernel_rfl) rfl (by rfl) fun K hK => ?_
   go_simp
   have hS3:=hS2.al (.cells #[.int .i64 2,.int .i64 0,.int .i64 0,.int .i64 0,.int .i64 0,.int .i64 0,.int .i64 0,.int .u16 0,.int .i64 0,.int .i64 0,.bool true,.bool false,.slice (some ⟨(Y.heap.size + 1),0,none⟩) n n,.slice (some ⟨Y.heap.size,0,none⟩) n n] 131)
   refine hK.out _ _ hS3 ?_
   clear hK K
   refine C_step (by kernel_rfl) rfl (by kernel_rfl) (by rfl) fun K hK => ?_
   have hsk3:=own_ext HCUT.out (HX.out.trans hS3)
   refine wp_append_own _ (.tmp 23) (.tmp 30) 110 rfl w0.heap.size 131 i0 (.agg #[.int .i64 0,.int .i64 0,.int .i64 0,.int .i64 0,.int .i64 0,.int .i64 0,.int .i64 0,.int .u16 0,.int .i64 0,.int .i64 0,.bool false,.bool false,.slice none 0 0,.slice none 0 0]) 14 136 Tryz.underlying110 hi hz0 hz1 hz2 rfl (by decide) _ _ _ rfl hsk3 _ 1 1 [.int .i64 2,.int .i64 0,.int .i64 0,.int .i64 0,.int .i64 0,.int .i64 0,.int .i64 0,.int .u16 0,.int .i64 0,.int .i64 0,.bool true,.bool false,.slice (some ⟨(Y.heap.size + 1),0,none⟩) n n,.slice (some ⟨Y.heap.size,0,none⟩) n n] rfl rfl ?ca ?cb ?cc ?cd ?ce ?_
   case ca => (intro j u h; have h2:=new_row ((Y.alloc (.cells (madeCells (Value.agg #[.int .u16 0,.int .u16 0,.int .u16 0,.int .u16 0,.int .u16 0]).cells (n * 5)) 32)).alloc (.cells (madeCells (Value.agg #[.int .u16 0,.int .u16 0,.int .u16 0,.int .u16 0,.int .u16 0,.int .u16 0]).cells (n * 6)) 151)) [.int .i64 2,.int .i64 0,.int .i64 0,.int .i64 0,.int .i64 0,.int .i64 0,.int .i64 0,.int .u16 0,.int .i64 0,.int .i64 0,.bool true,.bool false,.slice (some ⟨(Y.heap.size + 1),0,none⟩) n n,.slice (some ⟨Y.heap.size,0,none⟩) n n] 131 j u h; rw [show ((Y.alloc (.cells (madeCells (Value.agg #[.int .u16 0,.int .u16 0,.int .u16 0,.int .u16 0,.int .u16 0]).cells (n * 5)) 32)).alloc (.cells (madeCells (Value.agg #[.int .u16 0,.int .u16 0,.int .u16 0,.int .u16 0,.int .u16 0,.int .u16 0]).cells (n * 6)) 151)).heap.size = Y.heap.size + 1 + 1 by simp] at h2; exact h2)
   case cb => intro u hu; simp at hu; rcases hu with rfl | rfl | rfl | rfl | rfl | rfl | rfl | rfl | rfl | rfl | rfl | rfl | rfl | rfl; all_goals (first | rfl | skip)
   case cc => unfold maxLen; omega
   case cd => omega
   case ce => exact Nat.le_trans HZ.out.hB.size' (HX.out.trans hS3).size'
   intro v6 W6 hown6 hgr6 hnil6
   clear hnil6
   obtain ⟨A6,c6,rfl,-⟩:=own_sl hown6
   refine hK.out _ _ ?_
   clear hK K
   have hYw:=(HZ.out.hB.trans HX.out).size'
   have hIn:Fm.In n w0.heap.size (((Y.drew.alloc (.cells (madeCells (Value.agg #[.int .u16 0,.int .u16 0,.int .u16 0,.int .u16 0,.int .u16 0]).cells (n * 5)) 32)).alloc (.cells (madeCells (Value.agg #[.int .u16 0,.int .u16 0,.int .u16 0,.int .u16 0,.int .u16 0,.int .u16 0]).cells (n * 6)) 151)).alloc (.cells #[.int .i64 2,.int .i64 0,.int .i64 0,.int .i64 0,.int .i64 0,.int .i64 0,.int .i64 0,.int .u16 0,.int .i64 0,.int .i64 0,.bool true,.bool false,.slice (some ⟨(Y.heap.size + 1),0,none⟩) n n,.slice (some ⟨Y.heap.size,0,none⟩) n n] 131)) (⟨baseO,some ⟨(Y.heap.size + 1),0,none⟩,n,some ⟨Y.heap.size,0,none⟩,n,List.replicate n acz,List.replicate n pxz⟩:Fm):=⟨List.length_replicate,List.length_replicate,own_made (base:=w0.heap.size) (f:=Ac.cs) (k:=6) acz _ (fun _ => rfl) (by rfl) (by (first | exact at_drew1 (at_new (by first | rfl | simp)) | exact at_drew1 (at_old (at_new (by first | rfl | simp))) | exact at_drew1 (at_old (at_old (at_new (by first | rfl | simp)))))) (by omega) (by unfold maxLen; omega),own_made (base:=w0.heap.size) (f:=Px.cs) (k:=5) pxz _ (fun _ => rfl) (by rfl) (by (first | exact at_drew1 (at_new (by first | rfl | simp)) | exact at_drew1 (at_old (at_new (by first | rfl | simp))) | exact at_drew1 (at_old (at_old (at_new (by first | rfl | simp)))))) (by omega) (by unfold maxLen; omega)⟩
   have hP:=PnI.base (HZ.out.bel (HX.out.trans hS3)) hsk3 (f':=(⟨baseO,some ⟨(Y.heap.size + 1),0,none⟩,n,some ⟨Y.heap.size,0,none⟩,n,List.replicate n acz,List.replicate n pxz⟩:Fm)) hgr6 hown6 hIn
   exact tlVRowW0
 case rest =>
  obtain ⟨rfl,sv1,aA1,ca1,bA1,cb1,I1,hK1⟩:=hcut
  have HI:=hd_ I1
  have HK:=hd_ hK1
  clear I1 hK1 lp hYd hmA hmB
  go_wp2_with fail
  go_loopg [11] s.pn (fun gk s11 wr => ∃ (i:Nat) (Fs:List Fo) (fs:List Fm) (sv2:Value),i + gk = s.pn ∧ s11 = .int .i64 i ∧ RwS s R el al F n x y i Fs fs ∧ PnI w0 s el gp n ev wr sv2 fs.reverse ∧ Kept w wr)
  case atStart => exact ⟨0,[F],_,sv1,by omega,rfl,HRW.out _ _ _ _,HI.out,HK.out⟩
  case round =>
   obtain ⟨i,Fs,fs,sv2,hgk,rfl,hRS,hI2,hK2⟩:=hrel
   by_cases hlt:i < s.pn
   case pos =>
    have hd:decide ((i:Int) < (s.pn:Int)) = true:=decide_eq_true (by omega)
    obtain ⟨o,ho⟩:∃ o,s.ops[i]? = some o:=⟨s.ops[i]'(by rw [HIN.out.lops]; exact hlt),List.getElem?_eq_getElem _⟩
    obtain ⟨g,off,eA,lg,hLD⟩:=HIN.out.ops.opld ho hlt
    have hld:=hLD _ hI2.hB
    have q9:wr.cell? ⟨gp,9,none⟩ = some (.slice (some ⟨g,off,none⟩) s.pn s.pc):=by rw [← eA]; exact cq9 hI2.eP rfl
    have hd2:o :: s.ops.drop (i + 1) = conc Fs:=by rw [← drop_at ho]; exact hRS.ops
    have hdp:=hRS.deep
    rw [HIN.out.lops] at hdp
    have HI2:=hd_ hI2
    have HK2:=hd_ hK2
    have HRS:=hd_ hRS
    have HD2:=hd_ hd2
    clear hI2 hK2 hRS hLD eA ho hd2
    go_upto_region 7 with (first | ((with_reducible show wpList _ _ _ (⟨some 51,_,_,_,_,_⟩ :: _) _ _); refine wpList_ld rfl rfl rfl (hld) ?_) | fail)
    refine at_world (fun Y => PnI w0 s el gp n ev Y sv2 fs.reverse ∧ Kept w Y ∧ Y.heap[wr.heap.size]? = some (oOp o)) ⟨HI2.out.bel ((Bel.refl wr).al _),HK2.out.trans (Kept.of_bel ((Bel.refl wr).al _)),at_new (by first | rfl | simp)⟩ ?_
    clear q9 hld HI2 HK2 hd
    rintro Y ⟨IY,hKY,eO⟩
    have O_0:=cq0 eO rfl
    have HKY:=hd_ hKY
    have hgt:gp < wr.heap.size ∨ True:=.inr trivial
    rcases conc_step HD2.out.symm with ⟨r,Fs',rfl,hDt⟩ | ⟨k,r,Fs',rfl,hDt⟩ | ⟨G,Fs',rfl,rfl,hDt⟩
    ·obtain ⟨f,fs',rfl⟩:∃ f fs',fs = f :: fs':=by
      cases fs with
      | nil => exact absurd (okR_len HRS.out.fit) (by simp)
      | cons f fs' => exact ⟨f,fs',rfl⟩
     have hfit:=okR_head HRS.out.fit
     obtain ⟨⟨hk1,hoo,-⟩,hp0,-⟩:=hfit
     have k3:(o.k == 3) = false:=by rw [hk1]; rfl
     have k2:(o.k == 2) = false:=by rw [hk1]; rfl
     have hac:=HRS.out.ac
     have hen:=HRS.out.en
     simp only [acOkZ,acOk] at hac
     simp only [endsOkZ,endsOk] at hen
     obtain ⟨ge,ce,eev,-,-,-⟩:=own_at IY.en (by omega) (by decide)
     subst eev
     have hI:=hac.1.1
     obtain ⟨ga,eaA,hca⟩:=bl_cell (own_keep HRO.out hKY (by decide) (by decide)) hI hlt
     subst eaA
     have hce:=in_cell IY.en hen.1.1 hlt
     clear hac hen hI
     cases hh:hits (dBox s.can s.ims o) R with
     | false =>
      rw [hh] at hca
      have p11:=cq11 IY.eP rfl
      have HIY:=hd_ IY
      clear IY eO hKY hk1 hoo hp0
      go_wp2_with fail
      go_roundg (gk - 1)
      case measure => omega
      case rel => exact ⟨i + 1,r :: Fs',f :: fs',sv2,by omega,by go_num,HRS.out.drawOff hh,HIY.out,HKY.out⟩
     | true =>
      rw [hh] at hca
      obtain ⟨iM,hiM⟩:∃ j:Nat,o.im = j:=⟨o.im.toNat,by have:=hoo.im hk1; omega⟩
      have hiL:iM < s.ims.length:=by have:=hoo.im hk1; have:=HIN.out.lims; omega
      obtain ⟨m,hmi⟩:∃ m,s.ims[iM]? = some m:=⟨_,List.getElem?_eq_getElem hiL⟩
      have hsm:=HV.out.im m (List.mem_of_getElem? hmi)
      obtain ⟨b0,b1,b2,b3⟩:=near_xy hoo.nr
      have hPX:=fun (W:World) (hb:Bel Y W) => pixels_call s iM m hmi hsm (x - o.x) (y - o.y) (by omega) (by omega) (by omega) (by omega) n n2 gp (.slice (some ⟨ge,0,none⟩) s.pn ce) sv2 W (HIN.out.bel (IY.hB.trans hb)) (hb.heap IY.eP)
      rw [← hiM] at hPX
      have hwx:IntKind.i64.wrap (x - o.x) = x - o.x:=wrap_i64 _ (by omega) (by omega)
      have hwy:IntKind.i64.wrap (y - o.y) = y - o.y:=wrap_i64 _ (by omega) (by omega)
      have hps:∀ k:Nat,k < n → (pixL m (x - o.x) (y - o.y) n)[k]? = some (sAt s.ims o (x + k) y):=fun k hk => pixL_src hiM hmi x y hk
      have hpl:(pixL m (x - o.x) (y - o.y) n).length = n:=by unfold pixL; simp
      have hpk:∀ (j:Nat) (p:Px),(pixL m (x - o.x) (y - o.y) n)[j]? = some p → Px.ok s.mx p:=fun j p hj => by
       rw [hps j (by rw [← hpl]; exact (List.getElem?_eq_some_iff.1 hj).1)] at hj
       obtain rfl:=Option.some.inj hj
       exact HS.out.px _ _ _
      obtain ⟨ps,ePS⟩:∃ ps,pixL m (x - o.x) (y - o.y) n = ps:=⟨_,rfl⟩
      rw [ePS] at hPX hps hpl hpk
      have hIR:PnI w0 s el gp n (.slice (some ⟨ge,0,none⟩) s.pn ce) Y sv2 (fs'.reverse ++ [f]):=by rw [← List.reverse_cons]; exact IY
      have hro:=HRS.out.rows f List.mem_cons_self
      have hPT:=fun (W:World) (hb:Bel Y W) (A1:Option Addr) (c1:Nat) (hsl:Sl W 5 n A1 (pxs ps)) => paint_any w0 s el gp n (.slice (some ⟨ge,0,none⟩) s.pn ce) sv2 fs'.reverse f W HIN.out HR.out HV.out.im hmx HS.out (hIR.bel hb) (by rw [List.length_reverse]; simp only [List.length_cons] at hdp; omega) n1 n2 o s.inn rfl hoo hp0 hro x y (by omega) (by omega) (by omega) (by omega) ps hpl hpk A1 c1 hsl
      have HPX:=hd_ hPX
      have HPT:=hd_ hPT
      have HPS:=hd_ (And.intro hpl hps)
      have hoK:=fun (W:World) (h:Kept Y W) => h.2 _ _ _ _ eO (by decide) (by decide)
      have y0:=fun (W:World) (h:Kept Y W) => cq0 (hoK W h) rfl
      have y1:=fun (W:World) (h:Kept Y W) => cq1 (hoK W h) rfl
      have y2:=fun (W:World) (h:Kept Y W) => cq2 (hoK W h) rfl
      have y3:=fun (W:World) (h:Kept Y W) => cq3 (hoK W h) rfl
      have y4:=fun (W:World) (h:Kept Y W) => cq4 (hoK W h) rfl
      have y5:=fun (W:World) (h:Kept Y W) => cq5 (hoK W h) rfl
      have y6:=fun (W:World) (h:Kept Y W) => cq6 (hoK W h) rfl
      have y7:=fun (W:World) (h:Kept Y W) => cq7 (hoK W h) rfl
      have y8:=fun (W:World) (h:Kept Y W) => cq8 (hoK W h) rfl
      have y9:=fun (W:World) (h:Kept Y W) => cq9 (hoK W h) rfl
      have y10:=fun (W:World) (h:Kept Y W) => cq10 (hoK W h) rfl
      have y11:=fun (W:World) (h:Kept Y W) => cq11 (hoK W h) rfl
      clear hoK eO
      clear IY hKY hk1 hoo hp0 hiM hiL hmi hsm hPX hPT hps hpl hpk hIR hro ePS
      have hYK:=(Kept.refl Y).dr
      go_upto_region 6 with fail
      go_region_held3 (fun W => Kept Y W) (first | assumption | exact (Kept.refl Y).dr) (first | (go_at_call 78; (with_reducible refine (HPX.out _ (Bel.refl Y).dr).mono ?_); rintro e w5 ⟨v5,rfl,hv5,hb5⟩; obtain ⟨A5,c5,rfl,-⟩:=own_sl hv5; have hS5:Kept Y w5:=Kept.of_bel ((Bel.refl Y).dr.trans hb5)) | (go_at_call 76; (with_reducible refine (HPT.out _ ((Bel.refl Y).dr.trans hb5) A5 c5 (own_sl' hv5)).mono ?_); rintro e w6 ⟨rfl,aA6,ca6,hP6,hK6⟩; have hS6:Kept Y w6:=hS5.trans hK6))
      clear y0 y1 y2 y3 y4 y5 y6 y7 y8 y9 y10 y11 O_0 hca hce
      go_wp2_with fail
      go_roundg (gk - 1)
      case measure => omega
      case rel => exact ⟨i + 1,r :: Fs',_,sv2,by omega,by go_num,HRS.out.drawOn hmx HS.out hh HPS.out.1 HPS.out.2 aA6 ca6,by rw [List.reverse_cons]; exact hP6,HKY.out.trans hS6⟩
    ·obtain ⟨f,fs',rfl⟩:∃ f fs',fs = f :: fs':=by
      cases fs with
      | nil => exact absurd (okR_len HRS.out.fit) (by simp)
      | cons f fs' => exact ⟨f,fs',rfl⟩
     have hfit:=okR_head HRS.out.fit
     obtain ⟨⟨hk1,-⟩,-⟩:=hfit
     have k3:(o.k == 3) = false:=by rw [hk1]; rfl
     have k2:(o.k == 2) = true:=by rw [hk1]; rfl
     have hgl:=HRS.out.grpLen
     rw [HIN.out.lops] at hgl
     have hac:=HRS.out.ac
     have hen:=HRS.out.en
     simp only [acOkZ,acOk] at hac
     simp only [endsOkZ,endsOk] at hen
     obtain ⟨ge,ce,eev,-,-,-⟩:=own_at IY.en (by omega) (by decide)
     subst eev
     have hI:=hac.1.1
     obtain ⟨ga,eaA,hca⟩:=bl_cell (own_keep HRO.out hKY (by decide) (by decide)) hI hlt
     subst eaA
     have hce:=in_cell IY.en hen.1.1 hlt
     clear hac hen hI
     cases hh:hits (gBox s.can s.ims o k) R with
     | false =>
      rw [hh] at hca
      have p11:=cq11 IY.eP rfl
      have HIY:=hd_ IY
      clear IY eO hKY hk1
      go_wp2_with fail
      go_roundg (gk - (k.sz + 2))
      case measure => omega
      case rel => exact ⟨i + k.sz + 2,r :: Fs',f :: fs',sv2,by omega,by go_num,HRS.out.grpOff hh,HIY.out,HKY.out⟩
     | true =>
      rw [hh] at hca
      have hIR:PnI w0 s el gp n (.slice (some ⟨ge,0,none⟩) s.pn ce) Y sv2 (fs'.reverse ++ [f]):=by rw [← List.reverse_cons]; exact IY
      have HPU:=hd_ (push_call w0 s el gp n (.slice (some ⟨ge,0,none⟩) s.pn ce) sv2 fs'.reverse f Y hIR (by rw [List.length_reverse]; simp only [List.length_cons] at hdp; omega) n1 n2 o)
      have hld2:=opr_ld eO
      clear IY hKY hk1 hIR
      go_wp2_with (first | ((with_reducible show wpList _ _ _ (⟨some 137,_,_,_,_,_⟩ :: _) _ _); refine wpList_ld rfl rfl rfl (hld2) ?_) | (go_at_call 77; (with_reducible refine HPU.out.mono ?_); rintro e w6 ⟨rfl,sv6,aA6,ca6,bA6,cb6,hP6,hK6⟩) | fail)
      go_roundg (gk - 1)
      case measure => omega
      case rel => exact ⟨i + 1,k :: r :: Fs',f.psh o aA6 ca6 bA6 cb6 :: f :: fs',sv6,by omega,by go_num,HRS.out.grpOn hmx hh aA6 bA6 ca6 cb6,by simpa using hP6,HKY.out.trans hK6⟩
    ·obtain ⟨f,g1,fs',rfl⟩:∃ f g1 fs',fs = f :: g1 :: fs':=by
      have hl:=okR_len HRS.out.fit
      cases fs with
      | nil => simp at hl
      | cons f fs' => cases fs' with
       | nil => simp at hl
       | cons g1 fs' => exact ⟨f,g1,fs',rfl⟩
     have k3:((popO).k == 3) = true:=rfl
     obtain ⟨-,⟨hf1,hf2,-⟩,-⟩:=HRS.out.fit
     have hrf:=HRS.out.rows f List.mem_cons_self
     have hrg:=HRS.out.rows g1 (List.mem_cons_of_mem _ List.mem_cons_self)
     have HF:=hd_ (And.intro hf1 (And.intro hf2 (And.intro hrf hrg)))
     obtain ⟨st,hst⟩:∃ st,fs'.reverse ++ [g1] = st:=⟨_,rfl⟩
     have IZ:PnI w0 s el gp n ev Y sv2 (st ++ [f]):=by rw [← hst,← List.reverse_cons,← List.reverse_cons]; exact IY
     obtain ⟨d,hdl⟩:∃ d,st.length = d:=⟨_,rfl⟩
     have hd100:d ≤ 101:=by
      rw [← hdl,← hst]
      simp only [List.length_append,List.length_reverse,List.length_cons,List.length_nil] at hdp ⊢
      omega
     have HM:=hd_ hdl
     have hlen:(st ++ [f]).length = d + 1:=by simp [hdl]
     obtain ⟨gs,cs2,rfl,hgs,hgss,hcap⟩:=own_at IZ.sk (by rw [hlen]; omega) (by decide)
     rw [hlen] at IZ hcap
     have hlx:(st ++ [f])[d]? = some f:=by rw [List.getElem?_append_right (by rw [hdl]; exact Nat.le_refl _),hdl,Nat.sub_self]; rfl
     have hskV:=IZ.sk
     rw [hlen] at hskV
     have l0:Y.cell? ⟨gs,d * 14,none⟩ = some (.int .i64 f.o.k):=by rw [hskV.cellAt _ (by omega)]; exact (fm_at 0 (by decide) hlx).trans rfl
     have l1:Y.cell? ⟨gs,d * 14 + 1,none⟩ = some (.int .i64 f.o.im):=by rw [hskV.cellAt _ (by omega)]; exact (fm_at 1 (by decide) hlx).trans rfl
     have l2:Y.cell? ⟨gs,d * 14 + 2,none⟩ = some (.int .i64 f.o.x):=by rw [hskV.cellAt _ (by omega)]; exact (fm_at 2 (by decide) hlx).trans rfl
     have l3:Y.cell? ⟨gs,d * 14 + 3,none⟩ = some (.int .i64 f.o.y):=by rw [hskV.cellAt _ (by omega)]; exact (fm_at 3 (by decide) hlx).trans rfl
     have l4:Y.cell? ⟨gs,d * 14 + 4,none⟩ = some (.int .i64 f.o.ms):=by rw [hskV.cellAt _ (by omega)]; exact (fm_at 4 (by decide) hlx).trans rfl
     have l5:Y.cell? ⟨gs,d * 14 + 5,none⟩ = some (.int .i64 f.o.mx):=by rw [hskV.cellAt _ (by omega)]; exact (fm_at 5 (by decide) hlx).trans rfl
     have l6:Y.cell? ⟨gs,d * 14 + 6,none⟩ = some (.int .i64 f.o.my):=by rw [hskV.cellAt _ (by omega)]; exact (fm_at 6 (by decide) hlx).trans rfl
     have l7:Y.cell? ⟨gs,d * 14 + 7,none⟩ = some (.int .u16 f.o.oc):=by rw [hskV.cellAt _ (by omega)]; exact (fm_at 7 (by decide) hlx).trans rfl
     have l8:Y.cell? ⟨gs,d * 14 + 8,none⟩ = some (.int .i64 f.o.op):=by rw [hskV.cellAt _ (by omega)]; exact (fm_at 8 (by decide) hlx).trans rfl
     have l9:Y.cell? ⟨gs,d * 14 + 9,none⟩ = some (.int .i64 f.o.md):=by rw [hskV.cellAt _ (by omega)]; exact (fm_at 9 (by decide) hlx).trans rfl
     have l10:Y.cell? ⟨gs,d * 14 + 10,none⟩ = some (.bool f.o.iso):=by rw [hskV.cellAt _ (by omega)]; exact (fm_at 10 (by decide) hlx).trans rfl
     have l11:Y.cell? ⟨gs,d * 14 + 11,none⟩ = some (.bool f.o.kn):=by rw [hskV.cellAt _ (by omega)]; exact (fm_at 11 (by decide) hlx).trans rfl
     have l12:Y.cell? ⟨gs,d * 14 + 12,none⟩ = some (.slice f.aA n f.ca):=by rw [hskV.cellAt _ (by omega)]; exact (fm_at 12 (by decide) hlx).trans rfl
     have l13:Y.cell? ⟨gs,d * 14 + 13,none⟩ = some (.slice f.bA n f.cb):=by rw [hskV.cellAt _ (by omega)]; exact (fm_at 13 (by decide) hlx).trans rfl
     have lp:=cq12 IZ.eP rfl
     have ep:=fun (W:World) (h:Bel Y W) => h.cell lp
     have e0:=fun (W:World) (h:Bel Y W) => h.cell l0
     have e1:=fun (W:World) (h:Bel Y W) => h.cell l1
     have e2:=fun (W:World) (h:Bel Y W) => h.cell l2
     have e3:=fun (W:World) (h:Bel Y W) => h.cell l3
     have e4:=fun (W:World) (h:Bel Y W) => h.cell l4
     have e5:=fun (W:World) (h:Bel Y W) => h.cell l5
     have e6:=fun (W:World) (h:Bel Y W) => h.cell l6
     have e7:=fun (W:World) (h:Bel Y W) => h.cell l7
     have e8:=fun (W:World) (h:Bel Y W) => h.cell l8
     have e9:=fun (W:World) (h:Bel Y W) => h.cell l9
     have e10:=fun (W:World) (h:Bel Y W) => h.cell l10
     have e11:=fun (W:World) (h:Bel Y W) => h.cell l11
     have e12:=fun (W:World) (h:Bel Y W) => h.cell l12
     have e13:=fun (W:World) (h:Bel Y W) => h.cell l13
     have HIZ:=hd_ IZ
     have HST:=hd_ hst
     clear hskV hlx lp hlen hdl hst IY IZ hKY l0 l1 l2 l3 l4 l5 l6 l7 l8 l9 l10 l11 l12 l13 hf1 hf2 hrf hrg hDt
     have hi0:(0:Int) ≤ (d:Int):=by omega
     have hi1:(d:Int) < (d:Int) + 1:=by omega
     have hi3:((d:Int) + 1 - 1) = (d:Int):=by omega
     have hi2:IntKind.i64.wrap (d:Int) = (d:Int):=wrap_i64 _ (by omega) (by omega)
     have hi4:IntKind.i64.wrap ((d:Int) + 1 - 1) = (d:Int):=by rw [hi3,hi2]
     go_upto_region 8 with fail
     go_region_held3 (fun W => Bel Y W) (first | assumption | exact (Bel.refl Y).dr | exact ((Bel.refl Y).al _).dr | exact ((Bel.refl Y).dr).al _) (fail)
     clear ep e0 e1 e2 e3 e4 e5 e6 e7 e8 e9 e10 e11 e12 e13 O_0 eO
     go_upto_region 9 with fail
     obtain ⟨gf,hgf⟩:∃ gf,gf = Y.heap.size:=⟨_,rfl⟩
     rw [← hgf]
     have hgpf:gp < gf:=by rw [hgf]; exact lt_of_heap HIZ.out.eP
     refine at_world (fun Z => PnI w0 s el gp n ev Z (.slice (some ⟨gs,0,none⟩) (d + 1) cs2) (st ++ [f]) ∧ Kept w Z ∧ Z.heap[gf]? = some (.cells (f.cs n).toArray 131)) ⟨HIZ.out.bel ((Bel.refl Y).al _).dr,HKY.out.trans (Kept.of_bel ((Bel.refl Y).al _).dr),by rw [hgf]; exact at_drew (at_new rfl)⟩ ?_
     clear HIZ HKY hgf
     rintro Z ⟨IZ,hKZ,eF⟩
     have lp:=cq12 IZ.eP rfl
     have ep:=fun q:Bw Z => q.h.cell lp
     have HIZ:=hd_ IZ
     have HKZ:=hd_ hKZ
     have HEF:=hd_ eF
     have hc1:(d:Int) ≤ (cs2:Int):=by omega
     clear IZ hKZ eF lp
     refine region_btail 14 (by kernel_rfl) (by kernel_rfl) ?_
     simp only [List.take_succ_cons,List.take_zero]
     repeat (go_big_quiet_step (fail))
     refine wpQuiet_nil ?_
     rintro w4 ⟨q,rfl⟩
     simp only [List.drop_succ_cons,List.drop_zero]
     clear ep
     have I4:=HIZ.out.bel q.h
     have k12:=cq12 I4.eP rfl
     have f12:=frozA I4.eP 12
     have hpp:=PnI.popped I4 HM.out
     have hfn:f.In n w0.heap.size (q.W.setCell ⟨gp,12,none⟩ (.slice (some ⟨gs,0,none⟩) d cs2)):=(I4.fr f (by simp)).keep hpp.2
     have eF4:(q.W.setCell ⟨gp,12,none⟩ (.slice (some ⟨gs,0,none⟩) d cs2)).heap[gf]? = some (.cells (f.cs n).toArray 131):=((setCells_upd gp [.slice (some ⟨gs,0,none⟩) d cs2] 12 q.W).block gf (by omega)).trans (q.h.heap HEF.out)
     have HPP:=hd_ (And.intro hpp.1 (And.intro (HKZ.out.trans ((Kept.of_bel q.h).trans hpp.2)) (And.intro eF4 hfn)))
     clear I4 hpp hfn eF4 HIZ HKZ HEF
     go_upto_region 10 with fail
     refine at_world (fun X => PnI w0 s el gp n ev X (.slice (some ⟨gs,0,none⟩) d cs2) st ∧ Kept w X ∧ X.heap[gf]? = some (.cells (f.cs n).toArray 131) ∧ f.In n w0.heap.size X) HPP.out ?_
     clear k12 f12 HPP
     rintro X ⟨IX,hKX,eF,hff⟩
     have hA6:Sl X 6 n f.aA (acs f.acc):=own_sl' hff.ac
     have hB5:Sl X 5 n f.bA (pxs f.back):=own_sl' hff.bk
     have p10:=cq10 IX.eP rfl
     have p112:=cq12 eF rfl
     have p113:=cq13 eF rfl
     have HRC:=hd_ (fun (W:World) (h:Bel X W) => (spanResult_call hmx f.acc f.back n (by omega) HF.out.2.2.1.la HF.out.2.2.1.lb (fun i c b h1 h2 => HF.out.2.2.1.ac h1 h2) f.aA f.bA f.ca f.cb W (hA6.bel h) (hB5.bel h)).mono fun e w2 k => (let ⟨v,k1,k2,k3⟩:=k; ⟨v,k1,k2,h.trans k3⟩:∃ v,e = .returned (.tuple #[v,.bool true]) ∧ w2.ownsRow W.heap.size 32 5 v n (pxs (resL s.mx f.acc f.back)) ∧ Bel X w2))
     have r10:=fun (W:World) (h:Bel X W) => h.cell p10
     have r112:=fun (W:World) (h:Bel X W) => h.cell p112
     have r113:=fun (W:World) (h:Bel X W) => h.cell p113
     have HIX:=hd_ IX
     have HKX:=hd_ hKX
     have HEF:=hd_ eF
     clear IX hKX hff hA6 hB5 p10 p112 p113 eF
     go_region_held3 (fun W => Bel X W) (first | assumption | exact (Bel.refl X).dr) (first | (go_at_call 75; (with_reducible refine (HRC.out _ (by assumption)).mono ?_); rintro e w3 ⟨v3,rfl,hv3,hS3⟩; obtain ⟨A3,c3,rfl,-⟩:=own_sl hv3))
     clear r10 r112 r113
     have hIR:PnI w0 s el gp n ev w3 (.slice (some ⟨gs,0,none⟩) d cs2) (fs'.reverse ++ [g1]):=by rw [HST.out]; exact HIX.out.bel hS3
     have hld3:=fm_opld (hS3.heap HEF.out)
     have HPT:=hd_ (paint_any w0 s el gp n ev (.slice (some ⟨gs,0,none⟩) d cs2) fs'.reverse g1 w3 HIN.out HR.out HV.out.im hmx HS.out hIR (by rw [List.length_reverse]; simp only [List.length_cons] at hdp; omega) n1 n2 f.o s.inn rfl HF.out.1 HF.out.2.1 HF.out.2.2.2 x y (by omega) (by omega) (by omega) (by omega) (resL s.mx f.acc f.back) (res_len HF.out.2.2.1) (res_ok hmx HF.out.2.2.1) A3 c3 (own_sl' hv3))
     clear hIR
     go_wp2_with (first | ((with_reducible show wpList _ _ _ (⟨some 114,_,_,_,_,_⟩ :: _) _ _); refine wpList_ld rfl rfl rfl (hld3) ?_) | (go_at_call 76; (with_reducible refine HPT.out.mono ?_); rintro e w6 ⟨rfl,aA6,ca6,hP6,hK6⟩) | fail)
     go_roundg (gk - 1)
     case measure => omega
     case rel => exact ⟨i + 1,G :: Fs',_,_,by omega,by go_num,HRS.out.pop hmx HS.out aA6 ca6,by rw [List.reverse_cons]; exact hP6,HKX.out.trans ((Kept.of_bel hS3).trans hK6)⟩
   case neg =>
    have hd:decide ((i:Int) < (s.pn:Int)) = false:=decide_eq_false (by omega)
    obtain ⟨f,rfl,rfl,hrf,hres⟩:=hRS.done (by rw [HIN.out.lops]; omega)
    have I2:PnI w0 s el gp n ev wr sv2 [f]:=hI2
    have q9:=cq9 I2.eP rfl
    have HI2:=hd_ I2
    have HK2:=hd_ hK2
    have HRF:=hd_ hrf
    have HRES:=hd_ hres
    clear hI2 I2 hK2 hrf hres hRS
    go_upto_region 16 with fail
    refine at_world (fun Y => PnI w0 s el gp n ev Y sv2 [f] ∧ Kept w Y) ⟨HI2.out,HK2.out⟩ ?_
    clear q9 HI2 HK2
    rintro Y ⟨IY,hKY⟩
    obtain ⟨gs,c2,rfl,hg1,hg2,hcap⟩:=own_at IY.sk (by simp) (by decide)
    have hff:=IY.fr f (by simp)
    have hA6:Sl Y 6 n f.aA (acs f.acc):=own_sl' hff.ac
    have hB5:Sl Y 5 n f.bA (pxs f.back):=own_sl' hff.bk
    have p10:=cq10 IY.eP rfl
    have p12:=cq12 IY.eP rfl
    have p112:Y.cell? ⟨gs,12,none⟩ = some (.slice f.aA n f.ca):=by rw [IY.sk.cellAt _ (by simp)]; rfl
    have p113:Y.cell? ⟨gs,13,none⟩ = some (.slice f.bA n f.cb):=by rw [IY.sk.cellAt _ (by simp)]; rfl
    have HRC:=hd_ (fun (W:World) (h:Bel Y W) => (spanResult_call hmx f.acc f.back n (by omega) HRF.out.la HRF.out.lb (fun i c b h1 h2 => HRF.out.ac h1 h2) f.aA f.bA f.ca f.cb W (hA6.bel h) (hB5.bel h)).mono fun e w2 k => (let ⟨v,k1,k2,k3⟩:=k; ⟨v,k1,own_base k2 h.size',h.trans k3⟩:∃ v,e = .returned (.tuple #[v,.bool true]) ∧ w2.ownsRow Y.heap.size 32 5 v n (pxs (resL s.mx f.acc f.back)) ∧ Bel Y w2))
    have r10:=fun (W:World) (h:Bel Y W) => h.cell p10
    have r12:=fun (W:World) (h:Bel Y W) => h.cell p12
    have r112:=fun (W:World) (h:Bel Y W) => h.cell p112
    have r113:=fun (W:World) (h:Bel Y W) => h.cell p113
    have HIY:=hd_ IY
    have HKY:=hd_ hKY
    clear IY hKY hff hA6 hB5 p10 p12 p112 p113
    go_region_held3 (fun W => Bel Y W) (first | assumption | exact (Bel.refl Y).dr) (first | (go_at_call 75; (with_reducible refine (HRC.out _ (by assumption)).mono ?_); rintro e w3 ⟨v3,rfl,hv3,hS3⟩; obtain ⟨A3,c3,rfl,-⟩:=own_sl hv3))
    go_wp2_with fail
    go_returns
    refine ⟨_,rfl,⟨_,(HIY.out.bel hS3).z⟩,?_,HKY.out.trans (Kept.of_bel hS3)⟩
    rw [← HRES.out]
    exact own_base hv3 HKY.out.1
end Go.Proofs.YtepfoelgegljbaaGreatDoor
