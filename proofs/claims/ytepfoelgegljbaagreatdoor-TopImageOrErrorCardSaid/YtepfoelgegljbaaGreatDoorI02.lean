/- Part I2. -/
import Derived.Test.YtepfoelgegljbaaGreatDoorA42
import Derived.Test.YtepfoelgegljbaaGreatDoorI01
namespace Go.Proofs.YtepfoelgegljbaaGreatDoor
set_option maxRecDepth 100000
open Go.RowKit
set_option linter.unusedVariables false
set_option linter.unusedSimpArgs false
set_option maxHeartbeats 8000000 in
theorem render_bad (s:Scr) (hm:s.Sm) (hck:(checkE s).1 ≠ 0) (w:World) (hs:s.In w) (hN:Named w) (hR:Ruled w) :
  Calls Tryz.prog 10 #[s.v] w fun e w' => e = .returned (.tuple #[.agg #[.int .i64 0,.int .i64 0,.bool false,.int .u16 0,.int .u16 0,.int .u16 0,.int .u16 0,.int .u16 0,.int .i64 0,.int .i64 0,.int .i64 0,.slice none 0 0,.int .i64 0,.int .i64 0,.int .i64 0,.slice none 0 0,.int .i64 0,.int .i64 0,.int .i64 0,.slice none 0 0,.int .i64 0,.int .i64 0,.int .i64 0,.slice none 0 0,.int .i64 0,.int .i64 0,.int .i64 0,.slice none 0 0],.int .i64 (checkE s).1,.int .i64 (checkE s).2]) ∧ Bel w w':=by
 have HCH:=hd_ (fun (W:World) (hb:Bel w W) => check_call s hm W (hs.bel hb) (named_bel hN hb) (ruled_bel hR hb))
 generalize checkE s = CE at *
 have k0:(CE.1 == 0) = false:=beq_eq_false_iff_ne.2 hck
 have k1:(CE.1 != 0) = true:=by rw [bne,k0]; rfl
 clear hm hck hs hN hR
 go_enter Tryz.func10,Tryz.ntmps10
 go_upto_region 1 with fail
 refine at_world (fun V => Bel w V ∧ V.heap[w.heap.size]? = some (oSc s) ∧ V.heap[w.heap.size + 1]? = some (.cells #[.int .i64 0,.int .i64 0,.bool false,.int .u16 0,.int .u16 0,.int .u16 0,.int .u16 0,.int .u16 0,.int .i64 0,.int .i64 0,.int .i64 0,.slice none 0 0,.int .i64 0,.int .i64 0,.int .i64 0,.slice none 0 0,.int .i64 0,.int .i64 0,.int .i64 0,.slice none 0 0,.int .i64 0,.int .i64 0,.int .i64 0,.slice none 0 0,.int .i64 0,.int .i64 0,.int .i64 0,.slice none 0 0] 46)) ⟨((Bel.refl w).al _).al _,at_old (at_new (by first | rfl | simp)),at_new (by first | rfl | simp)⟩ ?_
 rintro V ⟨hX,eS,eR⟩
 have Ss:=lt_of_heap eS
 have Rs:=lt_of_heap eR
 have S_1:=cq1 eS rfl
 have S_2:=cq2 eS rfl
 have S_3:=cq3 eS rfl
 have S_4:=cq4 eS rfl
 have fS:=frozA eS
 have fR:=frozA eR
 have lscr:=scr_ld eS
 go_upto_region 3 with (first | (go_at_call 9; (with_reducible refine (HCH.out _ hX).mono ?_); rintro e w1 ⟨rfl,hb⟩; replace hX:=hX.trans hb; replace eS:=hb.heap eS; replace eR:=hb.heap eR; clear Ss S_1 S_2 S_3 S_4 fS Rs fR lscr; have lscr:=scr_ld eS; have Ss:=lt_of_heap eS; have Rs:=lt_of_heap eR; have S_1:=cq1 eS rfl; have S_2:=cq2 eS rfl; have S_3:=cq3 eS rfl; have S_4:=cq4 eS rfl; have fS:=frozA eS; have fR:=frozA eR; clear hb) | ((with_reducible show wpList _ _ _ (⟨some 21,_,_,_,_,_⟩ :: _) _ _); refine wpList_ld rfl rfl rfl (lscr) ?_) | fail)
 go_wp2_with (first | ((with_reducible show wpList _ _ _ (⟨none,.store _ _ _,_,_,_,_⟩ :: _) _ _); refine wpList_st (n:=0) (g:=w.heap.size + 1) (cells:=[.int .i64 0,.int .i64 0,.bool false,.int .u16 0,.int .u16 0,.int .u16 0,.int .u16 0,.int .u16 0,.int .i64 0,.int .i64 0,.int .i64 0,.slice none 0 0,.int .i64 0,.int .i64 0,.int .i64 0,.slice none 0 0,.int .i64 0,.int .i64 0,.int .i64 0,.slice none 0 0,.int .i64 0,.int .i64 0,.int .i64 0,.slice none 0 0,.int .i64 0,.int .i64 0,.int .i64 0,.slice none 0 0]) rfl rfl rfl rfl eR rfl (by kernel_rfl) (by decide) ?_; intro W6 eR6 hU6; have hX6:=hU6.bel hX (Nat.le_succ _)) | fail)
 refine bodyPost_ret (v:=.tuple #[.agg #[.int .i64 0,.int .i64 0,.bool false,.int .u16 0,.int .u16 0,.int .u16 0,.int .u16 0,.int .u16 0,.int .i64 0,.int .i64 0,.int .i64 0,.slice none 0 0,.int .i64 0,.int .i64 0,.int .i64 0,.slice none 0 0,.int .i64 0,.int .i64 0,.int .i64 0,.slice none 0 0,.int .i64 0,.int .i64 0,.int .i64 0,.slice none 0 0,.int .i64 0,.int .i64 0,.int .i64 0,.slice none 0 0],_,_]) (results_row_tmp2 (fn:=Tryz.f10) rfl _ _ (w.heap.size + 1) 46 _ (0,0) _ _ _ rfl rfl rfl eR6 Tryz.underlying46 rfl (by kernel_rfl)) rfl ⟨rfl,hX6⟩
theorem fold_ind {can:Rc} {l:List Img} {mx:Int} {F:Fo} (P:Px → Prop) (j i:Nat) (Rs:List Rc)
  (h:∀ R ∈ Rs,inT can R j i → P (ptF can l mx R F (can.x + i) (can.y + j))) :
  ∀ g:Nat → Nat → Px,P (g j i) → P (Rs.foldl (tileW can l mx F) g j i):=by
 induction Rs with
 | nil => exact fun g e => e
 | cons R Rs ih =>
  intro g e
  rw [List.foldl_cons]
  refine ih (fun R hR => h R (List.mem_cons_of_mem _ hR)) _ ?_
  unfold tileW
  by_cases hi:inT can R j i
  ·rw [if_pos hi]
   exact h R (List.mem_cons_self ..) hi
  ·rw [if_neg hi]
   exact e
theorem gF_ok {s:Scr} {F:Fo} (hm:s.Sm) (hV:s.Vb F) (hS:SrcOk s.ims s.mx) (hpos:F.pos) (hmx:s.mx = 255 ∨ s.mx = 65535) (j i:Nat):Px.ok s.mx (s.gF F j i):=by
 unfold Scr.gF
 refine fold_ind (fun p => Px.ok s.mx p) j i s.tls (fun R hR hin => ?_) _ ?_
 ·have h:=evalF_ok s.can s.ims s.inn s.mx R (s.can.x + i) (s.can.y + j) hmx hS F baseF hV.ok hpos (baseF_ok (by omega))
  unfold ptF
  have hb:(evalF s.can s.ims s.mx R (s.can.x + i) (s.can.y + j) F baseF).b = pxz:=h.2.2
  rw [← hb]
  exact resF_ok hmx h.1.ac
 ·have z:=Int.le_refl (0:Int)
  exact (⟨z,z,z,z,z,z,z,show (0:Int) ≤ s.mx by omega⟩:Px.ok s.mx pxz)
end Go.Proofs.YtepfoelgegljbaaGreatDoor
