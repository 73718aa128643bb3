/- Part A26. -/
import Derived.Test.YtepfoelgegljbaaGreatDoorA24
import Derived.Test.YtepfoelgegljbaaGreatDoorA25
namespace Go.Proofs.YtepfoelgegljbaaGreatDoor
set_option maxRecDepth 100000
open Go.RowKit
set_option linter.unusedVariables false
theorem info_rc:(Tryz.prog.info? 34).map (fun i => (i.zero,i.size,i.bytes)) = some (some (.agg #[.int .i64 0,.int .i64 0,.int .i64 0,.int .i64 0]),4,32):=by kernel_rfl
theorem rc_one (p:Rc):∀ u ∈ p.cs,u.oneCell' = true:=by
 intro u hu
 simp [Rc.cs] at hu
 rcases hu with rfl | rfl | rfl | rfl <;> rfl
def st4 (W:World) (g o:Nat) (r:Rc):World:=(((W.setCell ⟨g,o,none⟩ (.int .i64 r.x)).setCell ⟨g,o + 1,none⟩ (.int .i64 r.y)).setCell ⟨g,o + 2,none⟩ (.int .i64 r.u)).setCell ⟨g,o + 3,none⟩ (.int .i64 r.v)
theorem rcs_set (l:List Rc) (i:Nat) (r:Rc) (hi:i < l.length):((((rcs l).set (i * 4) (.int .i64 r.x)).set (i * 4 + 1) (.int .i64 r.y)).set (i * 4 + 2) (.int .i64 r.u)).set (i * 4 + 3) (.int .i64 r.v) = rcs (l.set i r):=by
 induction l generalizing i with
 | nil => simp at hi
 | cons a l ih =>
  cases i with
  | zero => simp [rcs,Rc.cs]
  | succ i =>
   have e:∀ (xs:List Value) (j:Nat) (v:Value),(Rc.cs a ++ xs).set ((i + 1) * 4 + j) v = Rc.cs a ++ xs.set (i * 4 + j) v:=fun xs j v => by
    rw [List.set_append_right _ _ (by simp [Rc.cs]; omega)]
    congr 2
    simp [Rc.cs]; omega
   have h:=ih i (by simpa using hi)
   rw [show rcs (a :: l) = Rc.cs a ++ rcs l by rfl,lS_,show rcs (a :: l.set i r) = Rc.cs a ++ rcs (l.set i r) by rfl,← h]
   have e0:=e (rcs l) 0 (.int .i64 r.x)
   simp only [Nat.add_zero] at e0
   rw [e0,e,e,e]
theorem own_at {w:World} {base k n:Nat} {e:TypeId} {v:Value} {xs:List Value} (h:w.ownsRow base e k v n xs) (hn:0 < n) (hk:0 < k):∃ g c,v = .slice (some ⟨g,0,none⟩) n c ∧ base ≤ g ∧ g < w.heap.size ∧ n ≤ c:=by
 rcases h.2 with ⟨rfl,rfl⟩ | ⟨g,cap,cur,rfl,e2,e3,e4,e5,e6,e7⟩
 ·exact absurd hn (Nat.lt_irrefl 0)
 ·exact ⟨g,cap,rfl,e2,lt_of_heap e3,e4⟩
theorem own_rc {w:World} {base g n c i:Nat} {l:List Rc} {r:Rc} {t:TypeId} (h:w.ownsRow base t 4 (.slice (some ⟨g,0,none⟩) n c) n (rcs l)) (hl:l.length = n) (hi:l[i]? = some r) :
  w.cell? ⟨g,i * 4,none⟩ = some (.int .i64 r.x) ∧ w.cell? ⟨g,i * 4 + 1,none⟩ = some (.int .i64 r.y) ∧ w.cell? ⟨g,i * 4 + 2,none⟩ = some (.int .i64 r.u) ∧ w.cell? ⟨g,i * 4 + 3,none⟩ = some (.int .i64 r.v):=by
 have hlt:i < n:=by rw [← hl]; exact (List.getElem?_eq_some_iff.1 hi).1
 have k:∀ j u,j < 4 → r.cs[j]? = some u → w.cell? ⟨g,i * 4 + j,none⟩ = some u:=fun j u hj hu => by
  rw [h.cellAt (i * 4 + j) (by omega)]
  exact (flat_get (f:=Rc.cs) (fun _ => rfl) l i j r hi hj).trans hu
 exact ⟨k 0 _ (by decide) rfl,k 1 _ (by decide) rfl,k 2 _ (by decide) rfl,k 3 _ (by decide) rfl⟩
theorem own_st4 {w:World} {base g n c i:Nat} {l:List Rc} {t:TypeId} (r:Rc) (h:w.ownsRow base t 4 (.slice (some ⟨g,0,none⟩) n c) n (rcs l)) (hi:i < l.length):(st4 w g (i * 4) r).ownsRow base t 4 (.slice (some ⟨g,0,none⟩) n c) n (rcs (l.set i r)):=by
 rw [← rcs_set l i r hi]
 exact ((((h.stored _ _).1.stored _ _).1.stored _ _).1.stored _ _).1
theorem own_st4_other {w:World} {base g n k o:Nat} {v:Value} {xs:List Value} {t:TypeId} (r:Rc) (h:w.ownsRow base t k v n xs) (hg:v.ownBlock ≠ some g):(st4 w g o r).ownsRow base t k v n xs :=
 ownsRow_setCell_other (ownsRow_setCell_other (ownsRow_setCell_other (ownsRow_setCell_other h hg _) hg _) hg _) hg _
theorem bel_st4 {w W:World} {g o:Nat} (r:Rc) (h:Bel w W) (hg:w.heap.size ≤ g):Bel w (st4 W g o r):=(((h.setCell hg _).setCell hg _).setCell hg _).setCell hg _
theorem heap_st4 {W:World} {g b o:Nat} {x:Option Obj} (r:Rc) (hne:b ≠ g) (e:W.heap[g]? = x):(st4 W b o r).heap[g]? = x :=
 heap_set_other _ hne (heap_set_other _ hne (heap_set_other _ hne (heap_set_other _ hne e)))
theorem own_ty {w:World} {b1 b2 k1 k2 n1 n2:Nat} {e1 e2:TypeId} {v1 v2:Value} {x1 x2:List Value} (h1:w.ownsRow b1 e1 k1 v1 n1 x1) (h2:w.ownsRow b2 e2 k2 v2 n2 x2) (hne:e1 ≠ e2):v1.ownBlock = none ∨ v1.ownBlock ≠ v2.ownBlock:=by
 rcases h1.2 with ⟨rfl,-⟩ | ⟨g,cap,cur,rfl,e2',e3,_⟩
 ·exact .inl rfl
 ·rcases h2.2 with ⟨rfl,-⟩ | ⟨g',cap',cur',rfl,_,f3,_⟩
  ·exact .inr (by simp [Value.ownBlock])
  ·refine .inr fun he => ?_
   simp [Value.ownBlock] at he
   subst he
   rw [e3] at f3
   simp at f3
   exact hne f3.2
theorem made4 (n:Nat):(madeCells #[.int .i64 0,.int .i64 0,.int .i64 0,.int .i64 0] (n * 4)).toList = rcs (List.replicate n zRc):=by
 apply List.ext_getElem?
 intro j
 rcases Nat.lt_or_ge j (n * 4) with h | h
 ·have e:j = j / 4 * 4 + j % 4:=by omega
  rw [e,show (rcs (List.replicate n zRc))[j / 4 * 4 + j % 4]? = zRc.cs[j % 4]? from flat_get (f:=Rc.cs) (fun _ => rfl) _ _ _ _ (by rw [List.getElem?_replicate,if_pos (by omega)]) (by omega),← e]
  have h4:j % 4 = 0 ∨ j % 4 = 1 ∨ j % 4 = 2 ∨ j % 4 = 3:=by omega
  have e2:(madeCells #[.int .i64 0,.int .i64 0,.int .i64 0,.int .i64 0] (n * 4)).toList[j]? = some (.int .i64 0):=by
   rw [Array.getElem?_toList,Array.getElem?_eq_getElem (by rw [size_madeCells]; exact h)]
   simp only [madeCells,Array.getElem_map,Array.getElem_range]
   rw [show (#[Value.int .i64 0,.int .i64 0,.int .i64 0,.int .i64 0]:Array Value).size = 4 from rfl]
   rcases h4 with h4 | h4 | h4 | h4 <;> rw [h4] <;> rfl
  rw [e2]
  rcases h4 with h4 | h4 | h4 | h4 <;> rw [h4] <;> rfl
 ·rw [List.getElem?_eq_none (by rw [Array.length_toList,size_madeCells]; exact h),List.getElem?_eq_none (by rw [rcs_len]; simp; exact h)]
structure BxI (w:World) (so:Obj) (n go:Nat) (W:World) (v5 v8:Value) (gs:List Og) (h:Rc) (out:List Rc):Prop where
 hB:Bel w W
 eS:W.heap[w.heap.size]? = some so
 gt:w.heap.size < go
 lo:out.length = n
 own:W.ownsRow w.heap.size 34 4 (.slice (some ⟨go,0,none⟩) n n) n (rcs out)
 op:W.ownsRow (w.heap.size + 1) 3 1 v5 gs.length (ints64 (natI (gs.map Og.p).reverse))
 hu:W.ownsRow (go + 1) 34 4 v8 (gs.length + 1) (rcs ((gs.map Og.h).reverse ++ [h]))
section
variable {w W:World} {so:Obj} {n go:Nat} {v5 v8:Value} {gs:List Og} {h:Rc} {out:List Rc}
theorem BxI.bel (I:BxI w so n go W v5 v8 gs h out) {W':World} (hb:Bel W W'):BxI w so n go W' v5 v8 gs h out :=
 ⟨I.hB.trans hb,hb.heap I.eS,I.gt,I.lo,own_ext I.own hb,own_ext I.op hb,own_ext I.hu hb⟩
theorem BxI.ne5 (I:BxI w so n go W v5 v8 gs h out):v5.ownBlock ≠ some go:=by
 rcases own_ty I.op I.own (by decide) with h | h
 ·rw [h]; simp
 ·exact h
theorem BxI.ne8 (I:BxI w so n go W v5 v8 gs h out):v8.ownBlock ≠ some go:=fun e => by
 have:=(I.hu.lt _ e).1
 omega
theorem BxI.stO (I:BxI w so n go W v5 v8 gs h out) (i:Nat) (hi:i < n) (r:Rc):BxI w so n go (st4 W go (i * 4) r) v5 v8 gs h (out.set i r) :=
 ⟨bel_st4 r I.hB (by have:=I.gt; omega),heap_st4 r (by have:=I.gt; omega) I.eS,I.gt,by rw [List.length_set,I.lo],own_st4 r I.own (by rw [I.lo]; exact hi),own_st4_other r I.op I.ne5,own_st4_other r I.hu I.ne8⟩
theorem BxI.stH (I:BxI w so n go W v5 v8 gs h out) {gh c:Nat} (hv:v8 = .slice (some ⟨gh,0,none⟩) (gs.length + 1) c) (r:Rc):BxI w so n go (st4 W gh (gs.length * 4) r) v5 v8 gs r out:=by
 have hg:go + 1 ≤ gh:=(I.hu.lt gh (by rw [hv]; rfl)).1
 have:=I.gt
 refine ⟨bel_st4 r I.hB (by omega),heap_st4 r (by omega) I.eS,I.gt,I.lo,own_st4_other r I.own (by simp [Value.ownBlock]; omega),own_st4_other r I.op ?_,?_⟩
 ·rcases own_ty I.op I.hu (by decide) with h | h
  ·rw [h]; simp
  ·rw [hv] at h
   exact h
 ·have k:=I.hu
  subst hv
  have k2:=own_st4 (i:=gs.length) r k (by simp)
  have e:((gs.map Og.h).reverse ++ [h]).set gs.length r = (gs.map Og.h).reverse ++ [r]:=by
   rw [List.set_append_right _ _ (by simp)]
   simp
  rw [e] at k2
  exact k2
theorem BxI.cut (I:BxI w so n go W v5 v8 gs h out) {g:Og} {gs':List Og} (hg:gs = g :: gs') {A8:Option Addr} {c8:Nat} (e8:v8 = .slice A8 (gs.length + 1) c8) {A5:Option Addr} {c5:Nat} (e5:v5 = .slice A5 gs.length c5) :
  BxI w so n go W (.slice A5 gs'.length c5) (.slice A8 (gs'.length + 1) c8) gs' g.h out:=by
 subst hg e8 e5
 have h1:=own_cut (m:=gs'.length) I.op (by simp) (by simp)
 have h2:=own_cut (m:=gs'.length + 1) I.hu (by simp) (by simp)
 have e1:(ints64 (natI ((g :: gs').map Og.p).reverse)).take (gs'.length * 1) = ints64 (natI (gs'.map Og.p).reverse):=by
  rw [Nat.mul_one]
  have:ints64 (natI ((g :: gs').map Og.p).reverse) = ints64 (natI (gs'.map Og.p).reverse) ++ [.int .i64 (g.p:Int)]:=by simp [ints64,natI]
  rw [this,List.take_append_of_le_length (by simp [ints64,natI]),List.take_of_length_le (by simp [ints64,natI])]
 have e2:(rcs (((g :: gs').map Og.h).reverse ++ [h])).take ((gs'.length + 1) * 4) = rcs ((gs'.map Og.h).reverse ++ [g.h]):=by
  have h3:=rcs_len ((gs'.map Og.h).reverse ++ [g.h])
  have:rcs (((g :: gs').map Og.h).reverse ++ [h]) = rcs ((gs'.map Og.h).reverse ++ [g.h]) ++ h.cs:=by rw [List.map_cons,List.reverse_cons,rcs_snoc]
  rw [this,List.take_append_of_le_length (by rw [h3]; simp),List.take_of_length_le (by rw [h3]; simp)]
 rw [e1] at h1
 rw [e2] at h2
 exact ⟨I.hB,I.eS,I.gt,I.lo,I.own,h1,h2⟩
end
structure BxA (w:World) (so:Obj) (n go:Nat) (W:World) (v5 v8:Value) (gs:List Og) (i:Nat) (h:Rc) (out:List Rc):Prop where
 hB:Bel w W
 eS:W.heap[w.heap.size]? = some so
 gt:w.heap.size < go
 lo:out.length = n
 own:W.ownsRow w.heap.size 34 4 (.slice (some ⟨go,0,none⟩) n n) n (rcs out)
 op:W.ownsRow (w.heap.size + 1) 3 1 v5 (gs.length + 1) (ints64 (natI ((gs.map Og.p).reverse ++ [i])))
 hu:W.ownsRow (go + 1) 34 4 v8 (gs.length + 1) (rcs ((gs.map Og.h).reverse ++ [h]))
theorem BxI.push5 {w W W':World} {so ob:Obj} {n go i:Nat} {v5 v8 v5':Value} {gs:List Og} {h:Rc} {out:List Rc} (I:BxI w so n go W v5 v8 gs h out) (hown:W'.ownsRow (w.heap.size + 1) 3 1 v5' (gs.length + 1) (ints64 (natI (gs.map Og.p).reverse) ++ [.int .i64 (i:Int)])) (hg:(W.alloc ob).grownBy W' v5.ownBlock):BxA w so n go W' v5' v8 gs i h out:=by
 have I2:=I.bel ((Bel.refl W).al ob)
 refine ⟨I2.hB.grown hg fun k hk => by have:=(I2.op.lt k hk).1; omega,(hg.block _ (lt_of_heap I2.eS) fun e => by have:=(I2.op.lt _ e.symm).1; omega).trans I2.eS,I.gt,I.lo,I2.own.kept hg ?_,?_,I2.hu.kept hg ?_⟩
 ·exact .inr fun e => I2.ne5 e.symm
 ·have e:ints64 (natI ((gs.map Og.p).reverse ++ [i])) = ints64 (natI (gs.map Og.p).reverse) ++ [.int .i64 (i:Int)]:=by simp [ints64,natI]
  rw [e]
  exact hown
 ·exact own_ty I2.hu I2.op (by decide)
theorem BxA.push8 {w W W':World} {so ob:Obj} {n go i:Nat} {v5 v8 v8':Value} {gs:List Og} {h:Rc} {out:List Rc} (J:BxA w so n go W v5 v8 gs i h out) (o:Opr) (hown:W'.ownsRow (go + 1) 34 4 v8' (gs.length + 1 + 1) (rcs ((gs.map Og.h).reverse ++ [h]) ++ zRc.cs)) (hg:(W.alloc ob).grownBy W' v8.ownBlock):BxI w so n go W' v5 v8' (⟨i,o,h⟩ :: gs) zRc out:=by
 have hb:Bel W (W.alloc ob):=(Bel.refl W).al ob
 have own:=own_ext J.own hb
 have op:=own_ext J.op hb
 have hu:=own_ext J.hu hb
 have:=J.gt
 refine ⟨(J.hB.trans hb).grown hg fun k hk => by have:=(hu.lt k hk).1; omega,(hg.block _ (lt_of_heap (hb.heap J.eS)) fun e => by have:=(hu.lt _ e.symm).1; omega).trans (hb.heap J.eS),J.gt,J.lo,own.kept hg (.inr fun e => by have h1:go + 1 ≤ go:=(hu.lt go e.symm).1; omega),?_,?_⟩
 ·have hq:=op.kept hg (own_ty op hu (by decide))
  rw [List.map_cons,List.reverse_cons]
  exact hq
 ·have e:rcs ((List.map Og.h (⟨i,o,h⟩ :: gs)).reverse ++ [zRc]) = rcs ((gs.map Og.h).reverse ++ [h]) ++ zRc.cs:=by rw [List.map_cons,List.reverse_cons,rcs_snoc]
  rw [e]
  exact hown
theorem sl_two {W:World} {g:Nat} {a b:Rc} {t:TypeId} (e:W.heap[g]? = some (.cells #[.int .i64 a.x,.int .i64 a.y,.int .i64 a.u,.int .i64 a.v,.int .i64 b.x,.int .i64 b.y,.int .i64 b.u,.int .i64 b.v] t)):Sl W 4 2 (some ⟨g,0,none⟩) (rcs [a,b]) :=
 ⟨rfl,fun _ => ⟨_,0,rfl,fun j u hj => by rw [Nat.zero_add]; exact cell_of e (by simpa [rcs,Rc.cs] using hj)⟩⟩
structure Scr.Vb (s:Scr) (F:Fo):Prop where
 fo:s.ops = F.flat
 ok:F.ok s.inn s.mx true
 im:∀ m ∈ s.ims,m.sm
 fr:frameE s = 0
 ps:(opsE s.inn s.mx s.ops 0 []) = (0,0)
set_option maxHeartbeats 8000000 in
theorem boxes_call (s:Scr) (hm:s.Sm) (F:Fo) (hV:s.Vb F) (w:World) (hs:s.In w) (hN:Named w) (hR:Ruled w) :
  Calls Tryz.prog 73 #[s.v] w fun e w' => ∃ v,e = .returned (.tuple #[v,.int .i64 0]) ∧ w'.ownsRow w.heap.size 34 4 v s.pn (rcs (bxF s.can s.ims F 0 (List.replicate s.pn zRc) zRc).1) ∧ Bel w w':=by
 obtain ⟨i0,hi,hz0,hz1,hz2⟩:=info_parts info_int
 obtain ⟨j0,ji,jz0,jz1,jz2⟩:=info_parts info_rc
 have hOps:=hd_ (fun W (hb:Bel w W) => ops_call s hm W (hs.bel hb) (named_bel hN hb) (ruled_bel hR hb))
 have hOE:opsEs s = (0,0):=by unfold opsEs; rw [if_neg (by rw [hV.fr]; decide),hV.ps]
 rw [hOE] at hOps
 obtain ⟨TE,hTE⟩:∃ TE,TE = (bxF s.can s.ims F 0 (List.replicate s.pn zRc) zRc).1:=⟨_,rfl⟩
 rw [← hTE]
 have HTE:=hd_ hTE
 have HS:=hd_ hs
 have HR:=hd_ hR
 have HVB:=hd_ hV
 have hpn:=hm.p0
 have hin:=hm.i0
 obtain ⟨n,hn⟩:∃ n,n = s.pn:=⟨_,rfl⟩
 rw [← hn] at hpn ⊢
 have HN:=hd_ hn
 generalize hPA:s.pA = PA
 have HPA:=hd_ hPA
 unfold Scr.v at hOps ⊢
 rw [hPA,← hn] at hOps ⊢
 obtain ⟨so,hso⟩:∃ so,so = (oSp s PA n s.pc):=⟨_,rfl⟩
 have HSO:=hd_ hso
 clear hOE hTE hs hm hN hR hV hPA hn hso
 go_enter Tryz.func73,Tryz.ntmps73
 go_upto_region 1 with fail
 refine at_world (fun V => Bel w V ∧ V.heap[w.heap.size]? = some (oSp s PA n s.pc)) ⟨(Bel.refl w).al _,at_new (by first | rfl | simp)⟩ ?_
 rintro V ⟨hX,eS⟩
 have lscr:=scr_ld eS
 have Ss:=lt_of_heap eS
 have S_0:=cq0 eS rfl
 have S_1:=cq1 eS rfl
 have S_2:=cq2 eS rfl
 have S_3:=cq3 eS rfl
 have S_4:=cq4 eS rfl
 have S_5:=cq5 eS rfl
 have S_6:=cq6 eS rfl
 have S_7:=cq7 eS rfl
 have S_8:=cq8 eS rfl
 have S_9:=cq9 eS rfl
 have fS:=frozA eS
 go_upto_region 4 with (first | (go_at_call 31; (with_reducible refine (hOps.out _ hX).mono ?_); rintro e w1 ⟨rfl,hb⟩; replace hX:=hX.trans hb; replace eS:=hb.heap eS; clear Ss S_0 S_1 S_2 S_3 S_4 S_5 S_6 S_7 S_8 S_9 fS lscr; have lscr:=scr_ld eS; have Ss:=lt_of_heap eS; have S_0:=cq0 eS rfl; have S_1:=cq1 eS rfl; have S_2:=cq2 eS rfl; have S_3:=cq3 eS rfl; have S_4:=cq4 eS rfl; have S_5:=cq5 eS rfl; have S_6:=cq6 eS rfl; have S_7:=cq7 eS rfl; have S_8:=cq8 eS rfl; have S_9:=cq9 eS rfl; have fS:=frozA eS; clear hb) | ((with_reducible show wpList _ _ _ (⟨some 14,_,_,_,_,_⟩ :: _) _ _); refine wpList_ld rfl rfl rfl (lscr) ?_) | fail)
 go_wp2_with (first | (refine wpList_make_full _ rfl _ _ 88 rfl w.heap.size 34 j0 (.agg #[.int .i64 0,.int .i64 0,.int .i64 0,.int .i64 0]) 4 Tryz.underlying88 ji jz0 jz1 .i64 .i64 n n n rfl rfl rfl rfl (by rw [jz2]; omega) (by unfold maxLen; omega) hX.size' ?_) | fail)
 intro w2 hmade hgrown
 have hgo:=lt_of_heap eS
 obtain ⟨go,ego⟩:∃ go,go = w1.heap.size:=⟨_,rfl⟩
 have hB2:Bel w w2:=hX.grown hgrown (by simp)
 have eS2:w2.heap[w.heap.size]? = some so:=(hgrown.block _ (by omega) (by simp)).trans (by rw [HSO.out]; exact eS)
 have hz2':go < w2.heap.size:=by rw [ego]; exact (hmade.lt _ rfl).2
 rw [← ego] at hmade hgo ⊢
 rw [made4] at hmade
 have I0:BxI w so n go (w2.alloc (.cells #[.int .i64 0,.int .i64 0,.int .i64 0,.int .i64 0] 34)) (.slice none 0 0) (.slice (some ⟨w2.heap.size,0,none⟩) 1 1) [] zRc (List.replicate n zRc) :=
  ⟨hB2.al _,at_old eS2,hgo,List.length_replicate,own_ext hmade ((Bel.refl _).al _),World.ownsRow_nil _ _ _ _,rfl,.inr ⟨w2.heap.size,1,_,rfl,hz2',at_new rfl,Nat.le_refl _,by decide,rfl,rfl⟩⟩
 have II:=hd_ I0
 have HGO:=hd_ ego
 have ES2:=hd_ eS2
 rw [HSO.out] at eS2
 clear I0 hmade hgrown ego hz2' hX eS lscr Ss S_0 S_1 S_2 S_3 S_4 S_5 S_6 S_7 S_8 S_9 fS 
 have S_9:=cq9 eS2 rfl
 have sS:=lt_of_heap eS2
 clear eS2
 go_wp2_with fail
 go_loopg [7,8,30] n (fun gk s7 s8 s30 wr => ∃ (i:Nat) (Fs:List Fo) (gs:List Og) (h:Rc) (out:List Rc),i + gk = n ∧ s30 = .int .i64 i ∧ F.flat.drop i = conc Fs ∧ okZ s.inn s.mx Fs (gs.map Og.o) ∧ (∀ g ∈ gs,g.p < i ∧ s.ops[g.p]? = some g.o ∧ (0 ≤ g.o.ms ∧ g.o.ms ≤ s.inn) ∧ nearB [g.o.x,g.o.y,g.o.mx,g.o.my] = true) ∧ gs.length ≤ i ∧ BxI w so n go wr s7 s8 gs h out ∧ bxZ s.can s.ims Fs gs i out h = TE)
 case atStart => exact ⟨0,[F],[],zRc,List.replicate n zRc,by omega,rfl,rfl,⟨HVB.out.ok,rfl⟩,by simp,by simp,II.out,by rw [HTE.out,← HN.out]; rfl⟩
 case round =>
  obtain ⟨i,Fs,gs,h,out,hgk,rfl,hD,hok,hgs,hgi,I,hE⟩:=hrel
  clear II ES2 S_9 hB2
  have HI:=hd_ I
  have HD:=hd_ hD
  have HOK:=hd_ hok
  have HGS:=hd_ hgs
  have HE:=hd_ hE
  clear hD hok hgs hE
  have lF:F.flat.length = n:=by rw [← HVB.out.fo,HN.out,HS.out.lops]
  by_cases hlt:i < n
  case neg =>
   obtain rfl:i = n:=by omega
   have hq:out = TE:=by
    have hd:=HD.out
    rw [List.drop_of_length_le (by omega)] at hd
    have hl:=okZ_len HOK.out
    cases Fs with
    | nil => simp at hl
    | cons G Gs =>
     obtain ⟨rfl,rfl⟩:=conc_empty hd.symm
     have:gs = []:=by cases gs with | nil => rfl | cons p ps => simp at hl
     subst this
     exact HE.out
   subst hq
   clear I lF
   go_wp2_with fail
   go_ret2
   exact ⟨_,rfl,HI.out.own,HI.out.hB⟩
  case pos =>
   have hX:=I.hB
   obtain ⟨o,ho⟩:∃ o,s.ops[i]? = some o:=⟨s.ops[i]'(by have:=HS.out.lops; have:=HN.out; omega),List.getElem?_eq_getElem _⟩
   obtain ⟨g,off,eA,lg,hLD⟩:=HS.out.ops.opld ho (by rw [← HN.out]; exact hlt)
   obtain rfl:=HPA.out.symm.trans eA
   have HPA2:=HSO.out
   have hd:=HD.out
   rw [← HVB.out.fo,drop_at ho,HVB.out.fo] at hd
   have HD2:=hd_ hd
   have HO:=hd_ ho
   have HEA:=hd_ eA
   have HLD:=hd_ hLD
   have hld:=hLD _ hX
   have hok2:=HOK.out
   have hE2:=HE.out
   have hgs2:=HGS.out
   clear hd ho eA hLD
   have go1:=I.gt
   have gosz:go < wr.heap.size:=(I.own.lt go rfl).2
   rcases conc_step HD2.out.symm with ⟨r,Fs',rfl,hDt⟩ | ⟨k,r,Fs',rfl,hDt⟩ | ⟨G,Fs',rfl,rfl,hDt⟩
   ·have hoo:=(okZ_head hok2).2.1
    have hk1:=(okZ_head hok2).1
    have hrok:=okZ_swap hok2 (okZ_head hok2).2.2
    rw [bxZ_draw] at hE2
    have k1:(o.k == 1) = true:=beq_iff_eq.2 hk1
    have k2:(o.k == 2) = false:=by rw [hk1]; rfl
    obtain ⟨iM,hiM⟩:∃ j:Nat,o.im = j:=⟨o.im.toNat,by have:=hoo.im hk1; omega⟩
    have hiL:iM < s.ims.length:=by have:=hoo.im hk1; have:=HS.out.lims; omega
    have hIm:=fun (W:World) (hb:Bel w W) => imageRect_call s o hk1 iM hiM _ (List.getElem?_eq_getElem hiL) (HVB.out.im _ (List.getElem_mem hiL)) hoo.nr W (HS.out.bel hb)
    have hBx:=fun (W:World) (hb:Bel w W) => box_call s o (placedF s.can s.ims o.im o.x o.y) W (ruled_bel HR.out hb) hoo.ms HVB.out.im hoo.nr (HS.out.bel hb)
    have hdb:boxF s.can s.ims o (placedF s.can s.ims o.im o.x o.y) = dBox s.can s.ims o:=rfl
    rw [hdb] at hBx
    unfold Scr.v at hIm hBx
    rw [HEA.out,← HN.out] at hIm hBx
    generalize placedF s.can s.ims o.im o.x o.y = PF at *
    have HIM:=hd_ hIm
    have HBX:=hd_ hBx
    generalize dBox s.can s.ims o = B at *
    obtain ⟨gh,ch,rfl,hg8,hg8s,hcap⟩:=own_at I.hu (Nat.succ_pos _) (by decide)
    obtain ⟨ri,hri⟩:∃ ri,out[i]? = some ri:=⟨out[i]'(by rw [I.lo]; exact hlt),List.getElem?_eq_getElem _⟩
    have HRI:=hd_ hri
    have W:=hd_ (And.intro hDt (And.intro hrok hE2))
    clear hDt hrok hE2 hk1 hoo hIm hBx hdb hok2 hgs2 hri hiL hiM
    go_upto_region 10 with (first | ((with_reducible show wpList _ _ _ (⟨some 34,_,_,_,_,_⟩ :: _) _ _); refine wpList_ld rfl rfl rfl (hld) ?_) | fail)
    refine at_world (fun Y => Bel wr Y ∧ Y.heap[w.heap.size]? = some (oSp s (some ⟨g,off,none⟩) n s.pc) ∧ Y.heap[wr.heap.size]? = some (oOp o)) ⟨(Bel.refl wr).al _,at_old (HPA2 ▸ I.eS),at_new (by first | rfl | simp)⟩ ?_
    clear hld
    rintro Y ⟨hY,eS,eO⟩
    have Ss:=lt_of_heap eS
    have Os:=lt_of_heap eO
    have S_0:=cq0 eS rfl
    have S_9:=cq9 eS rfl
    have O_0:=cq0 eO rfl
    have fS:=frozA eS
    have fO:=frozA eO
    go_upto_region 18 with fail
    have HY:=hd_ hY
    refine region_btail 9 (by kernel_rfl) (by kernel_rfl) ?_
    have qs:=fun q:Bw Y => scr_ld (q.h.heap eS)
    have qo:=fun q:Bw Y => opr_ld (q.h.heap eO)
    have hMq:=hd_ (fun q:Bw Y => calls_bq (q:=q) (HIM.out q.W (HI.out.hB.trans (HY.out.trans q.h))))
    have hBq:=hd_ (fun q:Bw Y => calls_bq (q:=q) (HBX.out q.W (HI.out.hB.trans (HY.out.trans q.h))))
    simp only [List.take_succ_cons,List.take_zero]
    repeat (go_big_quiet_step (fail))
    refine wpQuiet_ld (op:=⟨some 90,_,_,_,_,_⟩) rfl rfl rfl (fun w2 hw => by obtain ⟨q,rfl⟩:=hw; exact qs q) ?_
    refine wpQuiet_ld (op:=⟨some 91,_,_,_,_,_⟩) rfl rfl rfl (fun w2 hw => by obtain ⟨q,rfl⟩:=hw; exact qo q) ?_
    refine wpQuiet_ld (op:=⟨some 92,_,_,_,_,_⟩) rfl rfl rfl (fun w2 hw => by obtain ⟨q,rfl⟩:=hw; exact qs q) ?_
    refine wpQuiet_ld (op:=⟨some 93,_,_,_,_,_⟩) rfl rfl rfl (fun w2 hw => by obtain ⟨q,rfl⟩:=hw; exact qo q) ?_
    simp only [Act.put,lA_,lS_,l0_]
    repeat (go_big_quiet_step (first | (go_at_call 85; exact hMq.out _) | (go_at_call 84; exact hBq.out _)))
    refine wpQuiet_nil ?_
    rintro w4 ⟨q,rfl⟩
    simp only [List.drop_succ_cons,List.drop_zero]
    have I2:=HI.out.bel (HY.out.trans q.h)
    obtain ⟨c0,c1,c2,c3⟩:=own_rc I2.own I2.lo HRI.out
    have fc:=I2.own.frozenAt
    go_upto_region 20 with fail
    refine at_world (fun Y3 => BxI w so n go Y3 u7 (.slice (some ⟨gh,0,none⟩) (gs.length + 1) ch) gs h (out.set i B)) (I2.stO i hlt B) ?_
    clear I2 c0 c1 c2 c3 fc qs qo hMq hBq Ss S_0 S_9 fS Os O_0 fO eS eO hY
    rintro Y3 I3
    have HI3:=hd_ I3
    have hl8:((gs.map Og.h).reverse ++ [h])[gs.length]? = some h:=by
     rw [List.getElem?_append_right (by simp)]
     simp
    have ho8:(out.set i B)[i]? = some B:=List.getElem?_set_self (by have:=HI.out.lo; omega)
    obtain ⟨c0,c1,c2,c3⟩:=own_rc I3.hu (by simp) hl8
    obtain ⟨d0,d1,d2,d3⟩:=own_rc I3.own I3.lo ho8
    have f8:=I3.hu.frozenAt
    have hgm:gs.length ≤ 100:=by omega
    have hg8t:=(I3.hu.lt _ rfl).2
    have hgo3:=(I3.own.lt go rfl).2
    have hgg:go < gh:=Nat.lt_of_lt_of_le (Nat.lt_succ_self go) hg8
    have hgg1:(go = gh) = False:=eq_false (by omega)
    have hgg2:(gh = go) = False:=eq_false (by omega)
    have hH:=hd_ (fun (W:World) (g c:Nat) (hh:Sl W 4 2 (some ⟨g,0,none⟩) (rcs [h,B])) => rhull_call [h,B] 2 (by decide) rfl _ c W hh)
    clear I3
    go_region_with (go_at_call 86; (with_reducible refine (hH.out _ _ _ ?_).mono ?_); exact sl_two (at_drew1 (at_new (by first | rfl | simp))); rintro e w6 ⟨rfl,hb⟩; replace hb:=((Bel.refl _).al _).dr.trans hb; have I5:=HI3.out.bel hb; obtain ⟨z0,z1,z2,z3⟩:=own_rc I5.hu (by simp) hl8; have zf:=I5.hu.frozenAt; have HI5:=hd_ I5; clear I5)
    all_goals go_wp2_with fail
    all_goals
     go_roundg (gk - 1)
     case measure => omega
     case rel =>
      obtain ⟨hDt,hrok,hE2⟩:=W.out
      exact ⟨i + 1,r :: Fs',gs,_,out.set i B,by omega,by go_num,hDt,hrok,fun g hg => by have:=HGS.out g hg; exact ⟨by omega,this.2⟩,by omega,(HI5.out.stH rfl (hullF [h,B])),hE2⟩
   ·have hoo:=(okZ_head hok2).2.1
    have hk1:=(okZ_head hok2).1
    have hrok:okZ s.inn s.mx (k :: r :: Fs') ((⟨i,o,h⟩ :: gs).map Og.o):=⟨(okZ_head hok2).2.2.1,okZ_swap hok2 (okZ_head hok2).2.2.2⟩
    rw [bxZ_grp] at hE2
    have k2:(o.k == 2) = true:=beq_iff_eq.2 hk1
    have hoi:=HO.out
    have W:=hd_ (And.intro hDt (And.intro hrok (And.intro hE2 (And.intro hoi (And.intro hoo.ms hoo.nr)))))
    have hgm:gs.length ≤ 100:=by omega
    clear hDt hrok hE2 hk1 hoo hok2 hgs2 hoi
    go_upto_region 10 with (first | ((with_reducible show wpList _ _ _ (⟨some 34,_,_,_,_,_⟩ :: _) _ _); refine wpList_ld rfl rfl rfl (hld) ?_) | fail)
    refine at_world (fun Y => Bel wr Y ∧ Y.heap[wr.heap.size]? = some (oOp o)) ⟨(Bel.refl wr).al _,at_new (by first | rfl | simp)⟩ ?_
    clear hld
    rintro Y ⟨hY,eO⟩
    have O_0:=cq0 eO rfl
    have Os:=lt_of_heap eO
    have IY:=I.bel hY
    have HIY:=hd_ IY
    clear I
    go_wp2_with (at_builtin; refine wpList_append_own _ rfl (.tmp 78) (.tmp 80) 22 rfl (w.heap.size + 1) 3 i0 (.int .i64 0) 1 8 Tryz.underlying22 hi hz0 hz1 hz2 rfl (by decide) _ _ _ rfl (own_ext HIY.out.op ((Bel.refl _).al _)) ⟨Y.heap.size,0,none⟩ 1 1 [.int .i64 (i:Int)] rfl rfl ?ca ?cb ?cc ?cd ?ce ?_)
    case ca => exact new_row Y [.int .i64 (i:Int)] _
    case cb => intro u hu; simp at hu; subst hu; rfl
    case cc => unfold maxLen; omega
    case cd => omega
    case ce => have:=HIY.out.gt; simp; omega
    intro v5 w5 hown5 hgrow5 _
    have hne:HIY.out.op = HIY.out.op:=rfl
    have J5:BxA w so n go w5 v5 u8 gs i h out:=BxI.push5 HIY.out hown5 hgrow5
    have HJ:=hd_ J5
    clear hown5 hgrow5 hne IY O_0 eO Os J5
    go_wp2_with (at_builtin; refine wpList_append_own _ rfl (.tmp 82) (.tmp 84) 88 rfl (go + 1) 34 j0 (.agg #[.int .i64 0,.int .i64 0,.int .i64 0,.int .i64 0]) 4 32 Tryz.underlying88 ji jz0 jz1 jz2 rfl (by decide) _ _ _ rfl (own_ext HJ.out.hu ((Bel.refl _).al _)) ⟨w5.heap.size,0,none⟩ 1 1 zRc.cs rfl rfl ?da ?db ?dc ?dd ?de ?_)
    case da => exact new_row w5 zRc.cs _
    case db => exact rc_one zRc
    case dc => unfold maxLen; omega
    case dd => omega
    case de => have:=(HJ.out.own.lt go rfl).2; simp; omega
    intro v8 w6 hown6 hgrow6 _
    have J6:BxI w so n go w6 v5 v8 (⟨i,o,h⟩ :: gs) zRc out:=BxA.push8 HJ.out o hown6 hgrow6
    have HJ6:=hd_ J6
    clear hown6 hgrow6 J6
    go_wp2_with fail
    go_roundg (gk - 1)
    case measure => omega
    case rel =>
     obtain ⟨hDt,hrok,hE2,hoi,hms,hnr⟩:=W.out
     refine ⟨i + 1,k :: r :: Fs',⟨i,o,h⟩ :: gs,zRc,out,by omega,by go_num,hDt,hrok,fun g hg => ?_,by simp; omega,HJ6.out,hE2⟩
     rcases List.mem_cons.1 hg with rfl | hg
     ·exact ⟨by simp,hoi,hms,hnr⟩
     ·have:=HGS.out g hg
      exact ⟨by omega,this.2⟩
   ·obtain ⟨g0,gs',rfl⟩:∃ g0 gs',gs = g0 :: gs':=by
     cases gs with
     | nil => exact absurd hok2.2 (by simp)
     | cons g0 gs' => exact ⟨g0,gs',rfl⟩
    have hrok:okZ s.inn s.mx (G :: Fs') (gs'.map Og.o):=hok2.2
    obtain ⟨hp,hpo,hms,hnr⟩:=hgs2 g0 (List.mem_cons_self ..)
    rw [bxZ_pop] at hE2
    have hBx:=fun (W:World) (hb:Bel w W) => box_call s g0.o h W (ruled_bel HR.out hb) hms HVB.out.im hnr (HS.out.bel hb)
    unfold Scr.v at hBx
    rw [HEA.out,← HN.out] at hBx
    generalize boxF s.can s.ims g0.o h = B at *
    have HBX:=hd_ hBx
    obtain ⟨g',off',eA',-,hLDp⟩:=HS.out.ops.opld hpo (by rw [← HN.out]; omega)
    have heq:g = g' ∧ off = off':=by
     have:=HEA.out.symm.trans eA'
     simp at this
     exact ⟨this.1,this.2⟩
    obtain ⟨rfl,rfl⟩:=heq
    have HLDP:=hd_ hLDp
    obtain ⟨gh,ch,rfl,hg8,hg8s,hcap8⟩:=own_at I.hu (Nat.succ_pos _) (by decide)
    obtain ⟨g5,c5,rfl,hg5,hg5s,hcap5⟩:=own_at I.op (by simp) (by decide)
    obtain ⟨m,hm⟩:∃ m,m = gs'.length:=⟨_,rfl⟩
    have hlg:(g0 :: gs').length = m + 1:=by rw [hm]; rfl
    have W:=hd_ (And.intro hDt (And.intro hrok hE2))
    have HM:=hd_ hm
    obtain ⟨ri,hri⟩:∃ ri,out[i]? = some ri:=⟨out[i]'(by rw [I.lo]; exact hlt),List.getElem?_eq_getElem _⟩
    obtain ⟨rp,hrp⟩:∃ rp,out[g0.p]? = some rp:=⟨out[g0.p]'(by rw [I.lo]; omega),List.getElem?_eq_getElem _⟩
    have HRI:=hd_ hri
    have HRP:=hd_ hrp
    have hm100:m ≤ 100:=by omega
    have hcp:wr.cell? ⟨g5,m,none⟩ = some (.int .i64 (g0.p:Int)):=by
     have h:=I.op
     rw [h.cellAt m (by omega)]
     simp [ints64,natI,hm]
    rw [hlg] at I HI hcap5 hcap8 ⊢
    have hlg8:(((g0 :: gs').map Og.h).reverse ++ [h])[m + 1]? = some h:=by
     rw [← hlg,List.getElem?_append_right (by simp)]
     simp
    have HLG:=hd_ hlg8
    have HLEN:=hd_ (show (g0 :: gs').length = m + 1 by rw [hm]; rfl)
    clear hDt hrok hE2 hBx hok2 hgs2 hri hrp hpo hms hnr eA' hLDp hm hlg hlg8
    go_upto_region 10 with (first | ((with_reducible show wpList _ _ _ (⟨some 34,_,_,_,_,_⟩ :: _) _ _); refine wpList_ld rfl rfl rfl (hld) ?_) | fail)
    refine at_world (fun Y => Bel wr Y ∧ Y.heap[w.heap.size]? = some (oSp s (some ⟨g,off,none⟩) n s.pc) ∧ Y.heap[wr.heap.size]? = some (oOp popO)) ⟨(Bel.refl wr).al _,at_old (HPA2 ▸ I.eS),at_new (by first | rfl | simp)⟩ ?_
    clear hld
    rintro Y ⟨hY,eS,eO⟩
    have Ss:=lt_of_heap eS
    have Os:=lt_of_heap eO
    have S_0:=cq0 eS rfl
    have S_9:=cq9 eS rfl
    have O_0:=cq0 eO rfl
    have fS:=frozA eS
    have fO:=frozA eO
    have p1:(popO.k == 1) = false:=rfl
    have p2:(popO.k == 2) = false:=rfl
    have hcpY:=hY.cell hcp
    clear hcp
    go_upto_region 12 with fail
    have HY:=hd_ hY
    have IY:=HI.out.bel hY
    have hu':=IY.hu
    rw [HLEN.out] at hu'
    have t0:=own_rc hu' (by rw [List.length_append,List.length_reverse,List.length_map,HLEN.out]; rfl) HLG.out
    clear hu'
    refine region_btail 16 (by kernel_rfl) (by kernel_rfl) ?_
    have qs:=fun q:Bw Y => scr_ld (q.h.heap eS)
    have qs9:=fun q:Bw Y => q.h.cell S_9
    have qo:=fun q:Bw Y => HLDP.out q.W (HI.out.hB.trans (HY.out.trans q.h))
    have qt0:=fun q:Bw Y => q.h.cell t0.1
    have qt1:=fun q:Bw Y => q.h.cell t0.2.1
    have qt2:=fun q:Bw Y => q.h.cell t0.2.2.1
    have qt3:=fun q:Bw Y => q.h.cell t0.2.2.2
    have hBq:=hd_ (fun q:Bw Y => calls_bq (q:=q) (HBX.out q.W (HI.out.hB.trans (HY.out.trans q.h))))
    simp only [List.take_succ_cons,List.take_zero]
    repeat (go_big_quiet_step (fail))
    refine wpQuiet_ld (op:=⟨some 45,_,_,_,_,_⟩) rfl rfl rfl (fun w2 hw => by obtain ⟨q,rfl⟩:=hw; exact qs q) ?_
    simp only [Act.put,lA_,lS_,l0_]
    repeat (go_big_quiet_step (fail))
    refine wpQuiet_ld (op:=⟨some 50,_,_,_,_,_⟩) rfl rfl rfl (fun w2 hw => by obtain ⟨q,rfl⟩:=hw; exact qo q) ?_
    simp only [Act.put,lA_,lS_,l0_]
    repeat (go_big_quiet_step (first | (go_at_call 84; exact hBq.out _)))
    refine wpQuiet_nil ?_
    rintro w4 ⟨q,rfl⟩
    simp only [List.drop_succ_cons,List.drop_zero]
    have I2:=HI.out.bel (HY.out.trans q.h)
    obtain ⟨c0,c1,c2,c3⟩:=own_rc I2.own I2.lo HRI.out
    have fc:=I2.own.frozenAt
    go_upto_region 13 with fail
    refine at_world (fun Y3 => BxI w so n go Y3 (.slice (some ⟨g5,0,none⟩) (m + 1) c5) (.slice (some ⟨gh,0,none⟩) (m + 1 + 1) ch) (g0 :: gs') h (out.set i B)) (I2.stO i hlt B) ?_
    clear I2 c0 c1 c2 c3 fc qs qs9 qo qt0 qt1 qt2 qt3 t0 hBq Ss S_0 S_9 fS Os O_0 fO eS eO hY IY hcpY
    rintro Y4 I4
    obtain ⟨c0,c1,c2,c3⟩:=own_rc I4.own I4.lo (show (out.set i B)[i]? = some B from List.getElem?_set_self (by have:=HI.out.lo; omega))
    obtain ⟨d0,d1,d2,d3⟩:=own_rc I4.own I4.lo (show (out.set i B)[g0.p]? = some rp by rw [List.getElem?_set_ne (by omega)]; exact HRP.out)
    have fc:=I4.own.frozenAt
    have HI4b:=hd_ I4
    have hpn2:g0.p < n:=by omega
    clear I4
    go_upto_region 14 with fail
    refine at_world (fun Y3 => BxI w so n go Y3 (.slice (some ⟨g5,0,none⟩) (m + 1) c5) (.slice (some ⟨gh,0,none⟩) (m + 1 + 1) ch) (g0 :: gs') h ((out.set i B).set g0.p B)) (HI4b.out.stO g0.p hpn2 B) ?_
    clear c0 c1 c2 c3 d0 d1 d2 d3 fc
    rintro Y5 I5
    have HI5b:=hd_ I5
    clear I5
    refine region_bel (by kernel_rfl) (by kernel_rfl) ?_
    repeat (go_big_quiet_step (fail))
    refine wpQuiet_nil ?_
    rintro w4 ⟨q,rfl⟩
    go_upto_region 20 with fail
    refine at_world (fun Y3 => BxI w so n go Y3 (.slice (some ⟨g5,0,none⟩) gs'.length c5) (.slice (some ⟨gh,0,none⟩) (gs'.length + 1) ch) gs' g0.h ((out.set i B).set g0.p B)) (by
     have hc:=(HI5b.out.bel q.h)
     have hm:=HM.out
     subst hm
     exact hc.cut rfl rfl rfl) ?_
    have hmm:=HM.out
    subst hmm
    rintro Y3 I3
    have HI3:=hd_ I3
    have hl8:((gs'.map Og.h).reverse ++ [g0.h])[gs'.length]? = some g0.h:=by
     rw [List.getElem?_append_right (by simp)]
     simp
    have ho8:((out.set i B).set g0.p B)[i]? = some B:=by rw [List.getElem?_set_ne (by omega),List.getElem?_set_self (by have:=HI.out.lo; omega)]
    obtain ⟨c0,c1,c2,c3⟩:=own_rc I3.hu (by simp) hl8
    obtain ⟨d0,d1,d2,d3⟩:=own_rc I3.own I3.lo ho8
    have f8:=I3.hu.frozenAt
    have hgm:gs'.length ≤ 100:=by omega
    have hg8t:=(I3.hu.lt _ rfl).2
    have hgo3:=(I3.own.lt go rfl).2
    have hgg:go < gh:=Nat.lt_of_lt_of_le (Nat.lt_succ_self go) hg8
    have hgg1:(go = gh) = False:=eq_false (by omega)
    have hgg2:(gh = go) = False:=eq_false (by omega)
    have hH:=hd_ (fun (W:World) (g c:Nat) (hh:Sl W 4 2 (some ⟨g,0,none⟩) (rcs [g0.h,B])) => rhull_call [g0.h,B] 2 (by decide) rfl _ c W hh)
    clear I3
    go_region_with (go_at_call 86; (with_reducible refine (hH.out _ _ _ ?_).mono ?_); exact sl_two (at_drew1 (at_new (by first | rfl | simp))); rintro e w6 ⟨rfl,hb⟩; replace hb:=((Bel.refl _).al _).dr.trans hb; have I5:=HI3.out.bel hb; obtain ⟨z0,z1,z2,z3⟩:=own_rc I5.hu (by simp) hl8; have zf:=I5.hu.frozenAt; have HI5:=hd_ I5; clear I5)
    all_goals go_wp2_with fail
    all_goals
     go_roundg (gk - 1)
     case measure => omega
     case rel =>
      obtain ⟨hDt,hrok,hE2⟩:=W.out
      exact ⟨i + 1,G :: Fs',gs',_,(out.set i B).set g0.p B,by omega,by go_num,hDt,hrok,fun g hg => by have:=HGS.out g (List.mem_cons_of_mem _ hg); exact ⟨by omega,this.2⟩,by have:=hgi; simp at this; omega,(HI5.out.stH rfl (hullF [g0.h,B])),hE2⟩
def bls (l:List Bool):List Value:=l.map (.bool)
theorem bls_at {l:List Bool} {i:Nat} {b:Bool} (h:l[i]? = some b):(bls l).toArray[i]? = some (.bool b):=by
 unfold bls
 rw [List.getElem?_toArray,List.getElem?_map,h]; rfl
theorem bls_set (l:List Bool) (i:Nat) (b:Bool):(bls l).toArray.setIfInBounds i (.bool b) = (bls (l.set i b)).toArray:=by
 unfold bls
 rw [lA_,List.map_set]
def endsZok (el:List Int):List Fo → Nat → Prop
 | [],_ => True
 | F :: Fs,i => endsOk el F i ∧ endsZok el Fs (i + F.sz + 1)
theorem endsZok_draw {el:List Int} {o:Opr} {r:Fo} {Fs:List Fo} {i:Nat} (h:endsZok el (.draw o r :: Fs) i):endsZok el (r :: Fs) (i + 1) ∧ el[i]? = some (i:Int):=by
 refine ⟨⟨h.1.2,?_⟩,h.1.1⟩
 have:=h.2
 rwa [show i + Fo.sz (.draw o r) + 1 = i + 1 + r.sz + 1 by simp [Fo.sz]; omega] at this
theorem endsZok_grp {el:List Int} {o:Opr} {k r:Fo} {Fs:List Fo} {i:Nat} (h:endsZok el (.grp o k r :: Fs) i):endsZok el (k :: r :: Fs) (i + 1) ∧ endsZok el (r :: Fs) (i + k.sz + 2) ∧ el[i]? = some ((i + k.sz + 1:Nat):Int):=by
 have h2:=h.2
 rw [show i + Fo.sz (.grp o k r) + 1 = i + k.sz + 2 + r.sz + 1 by simp [Fo.sz]; omega] at h2
 refine ⟨⟨h.1.2.1,?_⟩,⟨h.1.2.2,h2⟩,h.1.1⟩
 rw [show i + 1 + k.sz + 1 = i + k.sz + 2 by omega]
 exact ⟨h.1.2.2,h2⟩
theorem endsZok_pop {el:List Int} {G:Fo} {Fs:List Fo} {i:Nat} (h:endsZok el (.nil :: G :: Fs) i):endsZok el (G :: Fs) (i + 1):=h.2
theorem boxes_len (s:Scr) (F:Fo) (n:Nat):(bxF s.can s.ims F 0 (List.replicate n zRc) zRc).1.length = n:=by rw [bxF_len,List.length_replicate]
theorem own_base {w:World} {b b' k n:Nat} {e:TypeId} {v:Value} {xs:List Value} (h:w.ownsRow b e k v n xs) (hb:b' ≤ b):w.ownsRow b' e k v n xs :=
 ⟨h.1,h.2.imp id fun ⟨g,cap,cur,e1,e2,r⟩ => ⟨g,cap,cur,e1,Nat.le_trans hb e2,r⟩⟩
theorem own_ne_heap {W:World} {b k n g:Nat} {e t:TypeId} {v:Value} {xs:List Value} {cs:Array Value} (h:W.ownsRow b e k v n xs) (e':W.heap[g]? = some (.cells cs t)) (hne:e ≠ t):v.ownBlock ≠ some g:=by
 rcases h.2 with ⟨rfl,-⟩ | ⟨g',cap,cur,rfl,_,e3,_⟩
 ·simp [Value.ownBlock]
 ·intro he
  simp [Value.ownBlock] at he
  subst he
  rw [e3] at e'
  simp at e'
  exact hne e'.2
structure AcI (w:World) (so:Obj) (R:Rc) (bl:List Rc) (el:List Int) (n go:Nat) (bv ev:Value) (W:World) (al:List Bool):Prop where
 hB:Bel w W
 eS:W.heap[w.heap.size]? = some so
 eR:W.heap[w.heap.size + 1]? = some (.cells #[.int .i64 R.x,.int .i64 R.y,.int .i64 R.u,.int .i64 R.v] 34)
 gt:w.heap.size + 2 ≤ go
 lo:al.length = n
 bo:W.ownsRow (w.heap.size + 2) 34 4 bv n (rcs bl)
 eo:W.ownsRow (w.heap.size + 2) 3 1 ev n (ints64 el)
 eA:W.heap[go]? = some (.cells (bls al).toArray 4)
section
variable {w:World} {so:Obj} {R:Rc} {bl:List Rc} {el:List Int} {n go:Nat} {bv ev:Value} {W:World} {al:List Bool}
theorem AcI.bel (I:AcI w so R bl el n go bv ev W al) {W':World} (hb:Bel W W'):AcI w so R bl el n go bv ev W' al :=
 ⟨I.hB.trans hb,hb.heap I.eS,hb.heap I.eR,I.gt,I.lo,own_ext I.bo hb,own_ext I.eo hb,hb.heap I.eA⟩
theorem AcI.st (I:AcI w so R bl el n go bv ev W al) (i:Nat) (b:Bool):AcI w so R bl el n go bv ev (W.setCell ⟨go,i,none⟩ (.bool b)) (al.set i b):=by
 have:=I.gt
 refine ⟨I.hB.setCell (by omega) _,heap_set_other _ (by omega) I.eS,heap_set_other _ (by omega) I.eR,I.gt,by rw [List.length_set,I.lo],ownsRow_setCell_other I.bo (own_ne_heap I.bo I.eA (by decide)) _,ownsRow_setCell_other I.eo (own_ne_heap I.eo I.eA (by decide)) _,?_⟩
 rw [← bls_set]
 exact heap_set _ I.eA
end
set_option maxHeartbeats 8000000 in
theorem active_call (s:Scr) (hm:s.Sm) (F:Fo) (hV:s.Vb F) (R:Rc) (w:World) (hs:s.In w) (hN:Named w) (hR:Ruled w) :
  Calls Tryz.prog 60 #[s.v,R.val] w fun e w' => ∃ v al,e = .returned (.tuple #[v,.int .i64 0]) ∧ w'.ownsRow w.heap.size 4 1 v s.pn (bls al) ∧ al.length = s.pn ∧ acOk R s.can s.ims al F 0 ∧ Bel w w':=by
 have hBx:=hd_ (fun W (hb:Bel w W) => boxes_call s hm F hV W (hs.bel hb) (named_bel hN hb) (ruled_bel hR hb))
 have hlF:F.flat.length = s.pn:=by rw [← hV.fo,hs.lops]
 have hpn:=hm.p0
 have hEn:=hd_ (fun W (hb:Bel w W) => ends_call F hV.ok.kd s.pn hpn hlF s.pA s.pc W (by have:=(hs.bel hb).ops; rw [hV.fo] at this; exact this))
 have hbok:=bxF_ok s.can s.ims F 0 (List.replicate s.pn zRc) zRc (by rw [List.length_replicate,← hlF,F.len]; omega)
 have heok:=endsF_ok F 0 (List.replicate s.pn 0) (by rw [List.length_replicate,← hlF,F.len]; omega)
 have hbl:=boxes_len s F s.pn
 have hel:(endsF F 0 (List.replicate s.pn 0)).length = s.pn:=by rw [endsF_len,List.length_replicate]
 generalize (bxF s.can s.ims F 0 (List.replicate s.pn zRc) zRc).1 = bl at *
 generalize endsF F 0 (List.replicate s.pn 0) = el at *
 obtain ⟨TA,hTA⟩:∃ TA,TA = acF bl R F 0 (List.replicate s.pn false):=⟨_,rfl⟩
 have HTA:=hd_ (And.intro hTA (And.intro hbok (And.intro heok (And.intro hbl hel))))
 have HS:=hd_ hs
 have HVB:=hd_ hV
 have HLF:=hd_ hlF
 obtain ⟨n,hn⟩:∃ n,n = s.pn:=⟨_,rfl⟩
 rw [← hn] at hpn hBx hEn ⊢
 have HNN:=hd_ hn
 generalize hPA:s.pA = PA at *
 have HPA:=hd_ hPA
 unfold Scr.v at hBx ⊢
 rw [hPA,← hn] at hBx ⊢
 have hmk1:=fun w => run_make_row' (P:=Tryz.prog) 117 4 (.bool false) 1 Tryz.underlying117 (by kernel_rfl) rfl .i64 .i64 n (by omega) (by omega) w
 clear hTA hbok heok hbl hel hs hV hlF hm hN hR hPA hn
 go_enter Tryz.func60,Tryz.ntmps60
 go_upto_region 1 with fail
 refine at_world (fun V => Bel w V ∧ V.heap[w.heap.size]? = some (oSp s PA n s.pc) ∧ V.heap[w.heap.size + 1]? = some (.cells #[.int .i64 R.x,.int .i64 R.y,.int .i64 R.u,.int .i64 R.v] 34)) ⟨((Bel.refl w).al _).al _,at_old (at_new (by first | rfl | simp)),at_new (by first | rfl | simp)⟩ ?_
 rintro V ⟨hX,eS,eR⟩
 have lscr:=scr_ld eS
 have Ss:=lt_of_heap eS
 have Rs:=lt_of_heap eR
 have S_0:=cq0 eS rfl
 have S_1:=cq1 eS rfl
 have S_2:=cq2 eS rfl
 have S_3:=cq3 eS rfl
 have S_4:=cq4 eS rfl
 have S_5:=cq5 eS rfl
 have S_6:=cq6 eS rfl
 have S_7:=cq7 eS rfl
 have S_8:=cq8 eS rfl
 have S_9:=cq9 eS rfl
 have R_0:=cq0 eR rfl
 have R_1:=cq1 eR rfl
 have R_2:=cq2 eR rfl
 have R_3:=cq3 eR rfl
 have fS:=frozA eS
 have fR:=frozA eR
 have hV2:w.heap.size + 2 ≤ V.heap.size:=by have:=lt_of_heap eR; omega
 go_upto_region 4 with (first | (go_at_call 73; (with_reducible refine (hBx.out _ hX).mono ?_); rintro e w1 ⟨bv,rfl,hbv,hb⟩; have hB0:=hX; replace hX:=hX.trans hb; replace eS:=hb.heap eS; replace eR:=hb.heap eR; clear Ss S_0 S_1 S_2 S_3 S_4 S_5 S_6 S_7 S_8 S_9 fS Rs R_0 R_1 R_2 R_3 fR lscr; have lscr:=scr_ld eS; have Ss:=lt_of_heap eS; have Rs:=lt_of_heap eR; have S_0:=cq0 eS rfl; have S_1:=cq1 eS rfl; have S_2:=cq2 eS rfl; have S_3:=cq3 eS rfl; have S_4:=cq4 eS rfl; have S_5:=cq5 eS rfl; have S_6:=cq6 eS rfl; have S_7:=cq7 eS rfl; have S_8:=cq8 eS rfl; have S_9:=cq9 eS rfl; have R_0:=cq0 eR rfl; have R_1:=cq1 eR rfl; have R_2:=cq2 eR rfl; have R_3:=cq3 eR rfl; have fS:=frozA eS; have fR:=frozA eR; clear hb) | ((with_reducible show wpList _ _ _ (⟨some 13,_,_,_,_,_⟩ :: _) _ _); refine wpList_ld rfl rfl rfl (lscr) ?_) | fail)
 obtain ⟨w1,rfl⟩:∃ W:World,W = w1:=⟨_,rfl⟩
 obtain ⟨Ab,cb,rfl,-⟩:=own_sl hbv
 have HBV:=hd_ (own_base hbv (b':=w.heap.size + 2) hV2)
 have hW2:w.heap.size + 2 ≤ w1.heap.size:=by have:=lt_of_heap eR; omega
 clear hbv hV2 hB0
 have hB0:=hX
 go_upto_region 5 with (first | (go_at_call 58; (with_reducible refine (hEn.out _ hX).mono ?_); rintro e w1 ⟨ev,rfl,hev,hb⟩; have hb12:=hb; replace hX:=hX.trans hb; replace eS:=hb.heap eS; replace eR:=hb.heap eR; clear Ss S_0 S_1 S_2 S_3 S_4 S_5 S_6 S_7 S_8 S_9 fS Rs R_0 R_1 R_2 R_3 fR lscr; have lscr:=scr_ld eS; have Ss:=lt_of_heap eS; have Rs:=lt_of_heap eR; have S_0:=cq0 eS rfl; have S_1:=cq1 eS rfl; have S_2:=cq2 eS rfl; have S_3:=cq3 eS rfl; have S_4:=cq4 eS rfl; have S_5:=cq5 eS rfl; have S_6:=cq6 eS rfl; have S_7:=cq7 eS rfl; have S_8:=cq8 eS rfl; have S_9:=cq9 eS rfl; have R_0:=cq0 eR rfl; have R_1:=cq1 eR rfl; have R_2:=cq2 eR rfl; have R_3:=cq3 eR rfl; have fS:=frozA eS; have fR:=frozA eR; clear hb) | fail)
 obtain ⟨w2,rfl⟩:∃ W:World,W = w1:=⟨_,rfl⟩
 obtain ⟨Ae,ce,rfl,-⟩:=own_sl hev
 have HEV:=hd_ (own_base hev (b':=w.heap.size + 2) hW2)
 have HBV2:=hd_ (own_ext HBV.out hb12)
 have lA:=lt_of_heap eR
 have hX0:Bel w w2:=hX
 have I0:AcI w (oSp s PA n s.pc) R bl el n w2.heap.size (.slice Ab n cb) (.slice Ae n ce) (w2.alloc (.cells (madeCells #[.bool false] n) 4)) (List.replicate n false) :=
  ⟨hX0.al _,at_old eS,at_old eR,by omega,List.length_replicate,own_ext HBV2.out ((Bel.refl _).al _),own_ext HEV.out ((Bel.refl _).al _),by rw [made_one]; exact (at_new rfl).trans (by simp [bls])⟩
 have II:=hd_ I0
 clear hev hW2 hB0 hb12 lA I0 hX0 hX eS eR lscr Ss S_0 S_1 S_2 S_3 S_4 S_5 S_6 S_7 S_8 S_9 fS Rs R_0 R_1 R_2 R_3 fR
 go_wp2_with fail
 go_loopg [11] n (fun gk s11 wr => ∃ (i:Nat) (Fs:List Fo) (al:List Bool),i + gk = n ∧ s11 = .int .i64 i ∧ F.flat.drop i = conc Fs ∧ Fs ≠ [] ∧ (∀ G ∈ Fs,G.kd) ∧ endsZok el Fs i ∧ AcI w (oSp s PA n s.pc) R bl el n w2.heap.size (.slice Ab n cb) (.slice Ae n ce) wr al ∧ acZ bl R Fs i al = TA)
 case atStart => exact ⟨0,[F],List.replicate n false,by omega,rfl,rfl,by simp,by simp [HVB.out.ok.kd],⟨HTA.out.2.2.1,trivial⟩,II.out,by rw [HTA.out.1,← HNN.out]; rfl⟩
 case round =>
  obtain ⟨i,Fs,al,hgk,rfl,hD,hne,hkd,hez,I,hE⟩:=hrel
  clear hmk1 II
  have HI:=hd_ I
  have W:=hd_ (And.intro hD (And.intro hne (And.intro hkd (And.intro hez hE))))
  clear hD hne hkd hez hE
  by_cases hlt:i < n
  case neg =>
   obtain rfl:i = n:=by omega
   have hq:al = TA:=by
    obtain ⟨hd,hne,-,-,hE⟩:=W.out
    rw [List.drop_of_length_le (by rw [HLF.out,← HNN.out]; omega)] at hd
    cases Fs with
    | nil => exact absurd rfl hne
    | cons G Gs =>
     obtain ⟨rfl,rfl⟩:=conc_empty hd.symm
     exact hE
   subst hq
   clear I
   go_wp2_with fail
   go_ret2
   refine ⟨_,al,rfl,?_,by rw [HI.out.lo,HNN.out],?_,HI.out.hB⟩
   ·refine ⟨by unfold bls; rw [List.length_map,HI.out.lo,Nat.mul_one],.inr ⟨w2.heap.size,i,_,rfl,by have:=HI.out.gt; omega,HI.out.eA,Nat.le_refl _,by unfold maxLen; omega,?_,?_⟩⟩
    ·simp [bls,HI.out.lo]
    ·rw [Nat.mul_one]
     exact List.take_of_length_le (by simp [bls,HI.out.lo])
   ·rw [HTA.out.1]
    exact acF_ok bl R s.can s.ims F 0 _ (by rw [List.length_replicate,← F.len,HLF.out,← HNN.out]; omega) HTA.out.2.1
  case pos =>
   have hX:=I.hB
   obtain ⟨hd,hne,hkd,hez,hE⟩:=W.out
   obtain ⟨o,ho⟩:∃ o,s.ops[i]? = some o:=⟨s.ops[i]'(by have:=HS.out.lops; have:=HNN.out; omega),List.getElem?_eq_getElem _⟩
   obtain ⟨g,off,eA,d0,-⟩:=HS.out.ops.op ho (by rw [← HNN.out]; exact hlt)
   obtain rfl:=HPA.out.symm.trans eA
   have hhd:F.flat.drop i = o :: F.flat.drop (i + 1):=by
    have h2:=drop_at ho
    rwa [HVB.out.fo] at h2
   rw [hhd] at hd
   have hg:g < w.heap.size:=World.block_lt_of_cell? w _ d0
   have D0:=hd_ d0
   have HO:=hd_ ho
   obtain ⟨r,hr⟩:∃ r,bl[i]? = some r:=⟨bl[i]'(by rw [HTA.out.2.2.2.1,← HNN.out]; exact hlt),List.getElem?_eq_getElem _⟩
   have hhit:hitAt bl R i = hits r R:=by unfold hitAt; rw [hr]; rfl
   obtain ⟨b,hb⟩:∃ b,b = hits r R:=⟨_,rfl⟩
   have hIn:=hd_ (fun w => rinter_call r R w)
   have hEm:=hd_ (calls_b (rempty_call (r.inter R)))
   have hbe:(r.inter R).emp = !b:=by rw [hb]; unfold hits; simp
   rw [hbe] at hEm
   have HH:=hd_ (hhit.trans hb.symm)
   obtain ⟨e,hee⟩:∃ e,el[i]? = some e:=⟨el[i]'(by rw [HTA.out.2.2.2.2,← HNN.out]; exact hlt),List.getElem?_eq_getElem _⟩
   have HEE:=hd_ hee
   have HR1:=hd_ hr
   have W2:=hd_ (And.intro hd (And.intro hkd (And.intro hez hE)))
   obtain ⟨gb,cb',ebb,hgb,hgbs,hcb⟩:=own_at I.bo (by omega) (by decide)
   cases ebb
   obtain ⟨ge,ce',eee,hge,hges,hce⟩:=own_at I.eo (by omega) (by decide)
   cases eee
   generalize r.inter R = RI at *
   clear eA ho hhd d0 hr hhit hb hbe hee hd hkd hez hE hne
   have lb:bl.length = n:=HTA.out.2.2.2.1.trans HNN.out.symm
   have le:el.length = n:=HTA.out.2.2.2.2.trans HNN.out.symm
   have LE:=hd_ (And.intro lb le)
   go_upto_region 9 with fail
   refine region_btail 11 (by kernel_rfl) (by kernel_rfl) ?_
   have q0:=fun q:Bw wr => q.h.cell (own_rc I.bo lb HR1.out).1
   have q1:=fun q:Bw wr => q.h.cell (own_rc I.bo lb HR1.out).2.1
   have q2:=fun q:Bw wr => q.h.cell (own_rc I.bo lb HR1.out).2.2.1
   have q3:=fun q:Bw wr => q.h.cell (own_rc I.bo lb HR1.out).2.2.2
   have q4:=fun q:Bw wr => q.h.cell (cq0 I.eR rfl)
   have q5:=fun q:Bw wr => q.h.cell (cq1 I.eR rfl)
   have q6:=fun q:Bw wr => q.h.cell (cq2 I.eR rfl)
   have q7:=fun q:Bw wr => q.h.cell (cq3 I.eR rfl)
   have hIq:=hd_ (fun q:Bw wr => calls_bq (q:=q) (hIn.out q.W))
   have hEq:=hd_ (fun q:Bw wr => calls_bq (q:=q) (hEm.out q.W))
   simp only [List.take_succ_cons,List.take_zero]
   clear hX
   repeat (go_big_quiet_step (first | (go_at_call 74; exact hIq.out _) | (go_at_call 48; exact hEq.out _)))
   refine wpQuiet_nil ?_
   rintro w4 ⟨q,rfl⟩
   simp only [List.drop_succ_cons,List.drop_zero]
   have I2:=HI.out.bel q.h
   obtain ⟨ai,hai⟩:∃ ai,al[i]? = some ai:=⟨al[i]'(by rw [I2.lo]; exact hlt),List.getElem?_eq_getElem _⟩
   have kA:=cell_of I2.eA (bls_at hai)
   have fA:=frozA I2.eA i
   have HI2:=hd_ I2
   have HAI:=hd_ hai
   clear q0 q1 q2 q3 q4 q5 q6 q7 I2 hai
   go_upto_region 10 with fail
   refine at_world (fun Y => AcI w (oSp s (some ⟨g,off,none⟩) n s.pc) R bl el n w2.heap.size (.slice (some ⟨gb,0,none⟩) n cb) (.slice (some ⟨ge,0,none⟩) n ce) Y (al.set i b)) (HI2.out.st i b) ?_
   clear kA fA I
   rintro Y I3
   have k9:=cq9 I3.eS rfl
   have kk:=I3.hB.cell D0.out
   have kb:=cell_of I3.eA (bls_at (show (al.set i b)[i]? = some b from List.getElem?_set_self (by rw [HI2.out.lo]; exact hlt)))
   have ke:Y.cell? ⟨ge,i,none⟩ = some (.int .i64 e):=by
    have h:=I3.eo
    rw [h.cellAt i (by omega)]
    unfold ints64
    rw [List.getElem?_map,HEE.out]; rfl
   have zS:=lt_of_heap I3.eS
   have HI3:=hd_ I3
   obtain ⟨hd,hkd,hez,hE⟩:=W2.out
   clear I3
   rcases conc_step hd.symm with ⟨r',Fs',rfl,hDt⟩ | ⟨k,r',Fs',rfl,hDt⟩ | ⟨G,Fs',rfl,rfl,hDt⟩
   ·have hk1:o.k = 1:=(hkd _ (List.mem_cons_self ..)).1
    have k2:(o.k == 2) = false:=by rw [hk1]; rfl
    have hkr:∀ H ∈ r' :: Fs',H.kd:=fun H hH => by
     rcases List.mem_cons.1 hH with rfl | hH
     ·exact (hkd _ (List.mem_cons_self ..)).2
     ·exact hkd H (List.mem_cons_of_mem _ hH)
    rw [acZ_draw,HH.out] at hE
    have W3:=hd_ (And.intro hDt (And.intro hkr (And.intro (endsZok_draw hez).1 hE)))
    clear hDt hkr hez hE hk1 hkd hd
    go_wp2_with fail
    go_roundg (gk - 1)
    case measure => omega
    case rel =>
     obtain ⟨hDt,hkr,hez,hE⟩:=W3.out
     exact ⟨i + 1,r' :: Fs',al.set i b,by omega,by go_num,hDt,by simp,hkr,hez,HI3.out,hE⟩
   ·have hk1:o.k = 2:=(hkd _ (List.mem_cons_self ..)).1
    have k2:(o.k == 2) = true:=beq_iff_eq.2 hk1
    have hkk:=hkd _ (List.mem_cons_self ..)
    cases b
    ·have hkr:∀ H ∈ r' :: Fs',H.kd:=fun H hH => by
      rcases List.mem_cons.1 hH with rfl | hH
      ·exact hkk.2.2
      ·exact hkd H (List.mem_cons_of_mem _ hH)
     have hsk:=(endsZok_grp hez).2
     have hee:e = ((i + k.sz + 1:Nat):Int):=Option.some.inj (HEE.out.symm.trans hsk.2)
     have hdd:F.flat.drop (i + k.sz + 2) = conc (r' :: Fs'):=by
      refine (drop_skip (o:=o) ?_).1
      rw [conc_grp,← hDt]
      have h2:=drop_at (show s.ops[i]? = some o from HO.out)
      rwa [HVB.out.fo] at h2
     have hlen:i + k.sz + 2 ≤ n:=by
      have h2:(F.flat.drop i).length = n - i:=by rw [List.length_drop,HLF.out,← HNN.out]
      have h3:=drop_at (show s.ops[i]? = some o from HO.out)
      rw [HVB.out.fo,hDt,← conc_grp] at h3
      rw [h3,conc_grp,conc_flat] at h2
      simp [k.len] at h2
      omega
     rw [acZ_skip _ _ _ _ _ _ _ _ HH.out] at hE
     have W3:=hd_ (And.intro hdd (And.intro hkr (And.intro hsk.1 hE)))
     have hks:k.sz ≤ 100:=by omega
     subst hee
     generalize k.sz = K at *
     clear hDt hkr hez hE hk1 hkd hd hsk hkk hdd
     go_wp2_with fail
     go_roundg (n - (i + K + 2))
     case measure => omega
     case rel =>
      obtain ⟨hDt,hkr,hez,hE⟩:=W3.out
      exact ⟨i + K + 2,r' :: Fs',al.set i false,by omega,by go_num,hDt,by simp,hkr,hez,HI3.out,hE⟩
    ·have hkr:∀ H ∈ k :: r' :: Fs',H.kd:=fun H hH => by
      rcases List.mem_cons.1 hH with rfl | hH
      ·exact hkk.2.1
      rcases List.mem_cons.1 hH with rfl | hH
      ·exact hkk.2.2
      ·exact hkd H (List.mem_cons_of_mem _ hH)
     rw [acZ_in _ _ _ _ _ _ _ _ HH.out] at hE
     have W3:=hd_ (And.intro hDt (And.intro hkr (And.intro (endsZok_grp hez).1 hE)))
     clear hDt hkr hez hE hk1 hkd hd hkk
     go_wp2_with fail
     go_roundg (gk - 1)
     case measure => omega
     case rel =>
      obtain ⟨hDt,hkr,hez,hE⟩:=W3.out
      exact ⟨i + 1,k :: r' :: Fs',al.set i true,by omega,by go_num,hDt,by simp,hkr,hez,HI3.out,hE⟩
   ·have k2:(popO.k == 2) = false:=rfl
    have hkr:∀ H ∈ G :: Fs',H.kd:=fun H hH => hkd H (List.mem_cons_of_mem _ hH)
    rw [acZ_pop,HH.out] at hE
    have W3:=hd_ (And.intro hDt (And.intro hkr (And.intro (endsZok_pop hez) hE)))
    clear hDt hkr hez hE hkd hd
    go_wp2_with fail
    go_roundg (gk - 1)
    case measure => omega
    case rel =>
     obtain ⟨hDt,hkr,hez,hE⟩:=W3.out
     exact ⟨i + 1,G :: Fs',al.set i b,by omega,by go_num,hDt,by simp,hkr,hez,HI3.out,hE⟩
theorem own_upd {w W:World} {base k n g:Nat} {e:TypeId} {v:Value} {xs:List Value} (h:w.ownsRow base e k v n xs) (hu:Upd g w W) (hg:v.ownBlock ≠ some g):W.ownsRow base e k v n xs:=by
 refine ⟨h.1,h.2.imp id ?_⟩
 rintro ⟨g',cap,cur,rfl,e2,e3,r⟩
 refine ⟨g',cap,cur,rfl,e2,?_,r⟩
 rw [hu.block g' (fun e => hg (by rw [e]; rfl))]
 exact e3
theorem flat_set {α:Type} {f:α → List Value} {k:Nat} (hf:∀ a,(f a).length = k) (l:List α) (i:Nat) (a:α) (xs:List Value) (hi:i < l.length) (hx:xs.length = l.length * k)
  (h1:∀ j u,(f a)[j]? = some u → xs[i * k + j]? = some u) (h2:∀ j,j < i * k ∨ i * k + k ≤ j → xs[j]? = (l.flatMap f)[j]?):xs = (l.set i a).flatMap f:=by
 apply List.ext_getElem?
 intro j
 have hk0:k = 0 ∨ 0 < k:=Nat.eq_zero_or_pos k
 rcases hk0 with rfl | hk
 ·rw [List.getElem?_eq_none (by rw [hx]; omega),List.getElem?_eq_none (by rw [flat_len hf]; omega)]
 have hj:j = j / k * k + j % k:=by rw [Nat.mul_comm]; exact (Nat.div_add_mod j k).symm
 have hm:j % k < k:=Nat.mod_lt _ hk
 by_cases hlt:j / k < l.length
 ·by_cases hji:j / k = i
  ·have e:(f a)[j % k]? = some ((f a)[j % k]'(by rw [hf]; exact hm)):=List.getElem?_eq_getElem _
   rw [hj,hji,h1 _ _ e,flat_get hf (l.set i a) i (j % k) a (List.getElem?_set_self hi) hm,e]
  ·have hb:l[j / k]? = some (l[j / k]'hlt):=List.getElem?_eq_getElem _
   rw [h2 j ?_,hj,flat_get hf l (j / k) (j % k) _ hb hm,flat_get hf (l.set i a) (j / k) (j % k) _ (by rw [List.getElem?_set_ne (fun e => hji e.symm)]; exact hb) hm]
   rcases Nat.lt_or_gt_of_ne hji with h | h
   ·refine .inl ?_
    have:(j / k + 1) * k ≤ i * k:=Nat.mul_le_mul_right k h
    rw [Nat.succ_mul] at this
    omega
   ·refine .inr ?_
    have:(i + 1) * k ≤ j / k * k:=Nat.mul_le_mul_right k h
    rw [Nat.succ_mul] at this
    omega
 ·have hge:l.length * k ≤ j:=by
   have:l.length * k ≤ j / k * k:=Nat.mul_le_mul_right k (by omega)
   omega
  rw [List.getElem?_eq_none (by rw [hx]; exact hge),List.getElem?_eq_none (by rw [flat_len hf,List.length_set]; exact hge)]
theorem own_there {w:World} {base k n c g i:Nat} {t:TypeId} {xs:List Value} (h:w.ownsRow base t k (.slice (some ⟨g,0,none⟩) n c) n xs) (hi:i < n):w.there g (i * k) k:=by
 intro j hj
 refine ⟨?_,h.frozenAt _⟩
 rw [h.cellAt _ (by have:(i + 1) * k ≤ n * k:=Nat.mul_le_mul_right k hi; rw [Nat.succ_mul] at this; omega),List.getElem?_eq_getElem (by rw [h.1]; have:(i + 1) * k ≤ n * k:=Nat.mul_le_mul_right k hi; rw [Nat.succ_mul] at this; omega)]
 rfl
theorem own_sets {α:Type} {f:α → List Value} {w:World} {base k n c g i:Nat} {t:TypeId} {l:List α} (a:α) (hf:∀ a,(f a).length = k) (h:w.ownsRow base t k (.slice (some ⟨g,0,none⟩) n c) n (l.flatMap f)) (hi:i < n) :
  (w.setCells g (i * k) (f a)).ownsRow base t k (.slice (some ⟨g,0,none⟩) n c) n ((l.set i a).flatMap f):=by
 obtain ⟨h1,h2⟩:=h
 have hll:l.length * k = n * k:=by rw [← flat_len hf l,h1]
 refine ⟨by rw [flat_len hf,List.length_set,hll],.inr ?_⟩
 rcases h2 with ⟨hv,-⟩ | ⟨g',cap,cur,e1,e2,e3,e4,e5,e6,e7⟩
 ·cases hv
 cases e1
 obtain ⟨cs',e',hs',hlo,hhi,hin⟩:=setCells_heap g t (f a) (i * k) w cur e3
 refine ⟨g,c,cs',rfl,e2,e',e4,e5,by rw [hs',e6],?_⟩
 have hik:i * k + k ≤ n * k:=by have:(i + 1) * k ≤ n * k:=Nat.mul_le_mul_right k hi; rw [Nat.succ_mul] at this; exact this
 have hnc:n * k ≤ cur.size:=by rw [e6]; exact Nat.mul_le_mul_right k e4
 rcases Nat.eq_zero_or_pos k with rfl | hk
 ·have:((l.set i a).flatMap f) = []:=List.length_eq_zero_iff.1 (by rw [flat_len hf]; simp)
  rw [this]; simp
 have hil:i < l.length:=by
  have:(i + 1) * k ≤ l.length * k:=by rw [hll,Nat.succ_mul]; exact hik
  exact Nat.lt_of_mul_lt_mul_right (a:=k) (by rw [Nat.succ_mul] at this; omega)
 refine flat_set hf l i a _ hil (by rw [List.length_take,Array.length_toList,hs',hll]; omega) (fun j u hu => ?_) (fun j hj => ?_)
 ·have hj:j < k:=by rw [← hf a]; exact (List.getElem?_eq_some_iff.1 hu).1
  rw [List.getElem?_take,if_pos (by omega),Array.getElem?_toList]
  exact hin (by rw [hf]; omega) j u hu
 ·rw [List.getElem?_take,← e7,List.getElem?_take,Array.getElem?_toList,Array.getElem?_toList]
  split
  ·rcases hj with hj | hj
   ·rw [hlo j hj]
   ·rw [hhi j (by rw [hf]; exact hj)]
  ·rfl
theorem wpList_so {α:Type} {f:α → List Value} {P:Program} {ops:Array Oper} {rest:List Oper} {op:Oper} {a:Act} {w:World} {Q:Exit → Act → World → Prop} {ty t:TypeId} {x y:Operand} {base k n c g o i:Nat} {l:List α} (v:α) (hf:∀ a,(f a).length = k) (hgd:op.guard = none) (ho:op.op = .store ty x y)
  (hx:a.eval x = .pointer (some ⟨g,o,none⟩)) (hy:a.eval y = .agg (f v).toArray) (hown:w.ownsRow base t k (.slice (some ⟨g,0,none⟩) n c) n (l.flatMap f)) (ho':o = i * k) (hi:i < n) (hin:(P.info? ty).map (·.size) = some k) (h1:∀ u ∈ f v,u.oneCell' = true)
  (h:∀ W,W.ownsRow base t k (.slice (some ⟨g,0,none⟩) n c) n ((l.set i v).flatMap f) → Upd g w W → wpList P ops Q rest (a.put op.dst undef) W):wpList P ops Q (op :: rest) a w:=by
 subst ho'
 refine wpList_store_mid hgd ty x y ho g (i * k) (f v).toArray hx hy (by rw [List.size_toArray,hf]; exact own_there hown hi) (by rw [List.size_toArray,hf]; exact hin) (all_oneCell_toArray h1) ?_
 have h2:=own_sets v hf hown hi
 have h3:=setCells_upd g (f v) (i * k) w
 simpa using h _ h2 h3
end Go.Proofs.YtepfoelgegljbaaGreatDoor
