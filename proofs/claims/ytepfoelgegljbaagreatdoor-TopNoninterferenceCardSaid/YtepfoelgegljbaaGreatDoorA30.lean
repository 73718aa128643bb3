/- Part A30. -/
import Derived.Test.YtepfoelgegljbaaGreatDoorA29
namespace Go.Proofs.YtepfoelgegljbaaGreatDoor
set_option maxRecDepth 100000
open Go.RowKit
set_option linter.unusedVariables false
set_option linter.unusedSimpArgs false
def bgL (iso:Bool) (f:Fm):List Px:=List.zipWith (beginC iso f.o.kn) f.acc f.back
def Fm.psh (f:Fm) (o:Opr) (aA:Option Addr) (ca:Nat) (bA:Option Addr) (cb:Nat):Fm:=⟨o,aA,ca,bA,cb,(bgL o.iso f).map beginA,bgL o.iso f⟩
theorem Kept.app {w0 W W':World} {m:Nat} {sv:Value} {xs:List Value} (hsk:W.ownsRow w0.heap.size 131 14 sv m xs) (hg:W.grownBy W' sv.ownBlock):Kept W W':=by
 refine ⟨hg.size,fun b cs t fr e h1 h2 => ?_⟩
 refine (hg.block b (lt_of_heap e) ?_).trans e
 rcases hsk.2 with ⟨rfl,-⟩ | ⟨g,cap,cur,rfl,e2,e3,_⟩
 ·simp [Value.ownBlock]
 ·simp only [Value.ownBlock]
  intro h
  cases h
  rw [e] at e3
  cases e3
  exact h2 rfl
theorem PnI.pushed {w0 W1 W6:World} {s:Scr} {el:List Int} {gp n m:Nat} {ev sv sv':Value} {st:List Fm} {f':Fm} (I:PnI w0 s el gp n ev W1 sv st) (hm:st.length = m) (hg:W1.grownBy W6 sv.ownBlock) (hown:W6.ownsRow w0.heap.size 131 14 sv' (m + 1) (st.flatMap (Fm.cs n) ++ f'.cs n)) (hf:f'.In n w0.heap.size W1) :
  PnI w0 s el gp n ev (W6.setCell ⟨gp,12,none⟩ sv') sv' (st ++ [f']) ∧ Kept W1 (W6.setCell ⟨gp,12,none⟩ sv'):=by
 have hk1:=Kept.app I.sk hg
 have hgp:sv.ownBlock ≠ some gp:=own_ne_heap I.sk I.eP (by decide)
 have eP6:W6.heap[gp]? = some (pnO s ev sv):=(hg.block gp (lt_of_heap I.eP) fun e => hgp e.symm).trans I.eP
 have hk2:Kept W6 (W6.setCell ⟨gp,12,none⟩ sv'):=Kept.of_upd (setCells_upd gp [sv'] 12 W6) eP6 (.inl rfl)
 have hk:=hk1.trans hk2
 refine ⟨⟨((I.hB.grown hg fun k h => (I.sk.lt k h).1).setCell I.g0 _),I.g0,?_,own_keep I.en hk (by decide) (by decide),?_,fun f hf' => ?_⟩,hk⟩
 ·exact heap_set sv' eP6
 ·have h:=own_upd hown (setCells_upd gp [sv'] 12 W6) (own_ne_heap hown eP6 (by decide))
  have e:(st ++ [f']).flatMap (Fm.cs n) = st.flatMap (Fm.cs n) ++ f'.cs n:=by rw [List.flatMap_append]; simp
  rw [e,show (st ++ [f']).length = m + 1 by simp [hm]]
  exact h
 ·rcases List.mem_append.1 hf' with h | h
  ·exact (I.fr f h).keep hk
  ·obtain rfl:=List.mem_singleton.1 h
   exact hf.keep hk
theorem run_make_rows {P:Program} (t e:TypeId) (z:Value) (size bytes:Nat) (ht:P.underlying t = some (.slice e)) (hinfo:(P.info? e).map (fun i => (i.zero,i.size,i.bytes)) = some (some z,size,bytes)) (n:Nat) (hbytes:bytes * n ≤ 281474976710656) (h63:n ≤ 9223372036854775807) (w:World) :
  (Instr.makeSlice t (.int .i64 (n:Int)) (.int .i64 (n:Int))).run P w = .ok (.slice (some ⟨w.heap.size,0,none⟩) n n) (w.alloc (.cells (madeCells z.cells (n * size)) e)):=by
 obtain ⟨i,hi,hzz⟩:=Option.map_eq_some_iff.1 hinfo
 simp only [Prod.mk.injEq] at hzz
 obtain ⟨hz,hs,hb⟩:=hzz
 have hb':(i.bytes:Int) * (n:Int) ≤ 281474976710656:=by
  have h:((i.bytes * n:Nat):Int) ≤ 281474976710656:=by rw [hb]; omega
  rwa [Int.natCast_mul] at h
 have hr:=run_make (P:=P) w t e i z ht hi hz .i64 .i64 n n (by omega) (Int.le_refl _) hb' (by omega)
 simp only [Int.toNat_natCast,hs] at hr
 exact hr
theorem own_made {α:Type} {f:α → List Value} {k g base n:Nat} {t:TypeId} {W:World} (z:α) (zc:Array Value) (hf:∀ a,(f a).length = k) (hz:zc = (f z).toArray) (e:W.heap[g]? = some (.cells (madeCells zc (n * k)) t)) (hb:base ≤ g) (hn:n ≤ maxLen) :
  W.ownsRow base t k (.slice (some ⟨g,0,none⟩) n n) n ((List.replicate n z).flatMap f) :=
 ⟨by rw [flat_len hf,List.length_replicate],.inr ⟨g,n,_,rfl,hb,e,Nat.le_refl _,hn,size_madeCells _ _,by rw [madeN z zc hf hz n,List.take_of_length_le (by rw [flat_len hf]; simp)]⟩⟩
theorem begin_call (iso kn:Bool) (c:Ac) (b B:Px) (hB:beginC iso kn c b = B) (w:World) :
  Calls Tryz.prog 91 #[.bool iso,.bool kn,.agg #[.int .u16 c.x,.int .u16 c.y,.int .u16 c.z,.int .u16 c.a,.int .u16 c.o,.int .u16 c.f],.agg #[.int .u16 b.x,.int .u16 b.y,.int .u16 b.z,.int .u16 b.a,.int .u16 b.f]] w fun e w' => e = .returned (.tuple #[.agg #[.int .u16 B.x,.int .u16 B.y,.int .u16 B.z,.int .u16 B.a,.int .u16 0,.int .u16 0],.agg #[.int .u16 B.x,.int .u16 B.y,.int .u16 B.z,.int .u16 B.a,.int .u16 B.f]]) ∧ Bel w w':=by
 subst hB
 cases iso <;> cases kn
 ·exact (begin_own c.x c.y c.z c.a c.o c.f b.x b.y b.z b.a b.f w).mono fun e w' h => ⟨h.1,let ⟨p,hp⟩:=h.2; hp ▸ (Bel.refl w).mo p⟩
 ·exact (begin_kn c.x c.y c.z c.a c.o c.f b.x b.y b.z b.a b.f w).mono fun e w' h => ⟨h.1,let ⟨p,hp⟩:=h.2; hp ▸ (Bel.refl w).mo p⟩
 ·exact (begin_iso_false c.x c.y c.z c.a c.o c.f b.x b.y b.z b.a b.f w).mono fun e w' h => ⟨h.1,let ⟨p,hp⟩:=h.2; hp ▸ (Bel.refl w).mo p⟩
 ·exact (begin_iso_true c.x c.y c.z c.a c.o c.f b.x b.y b.z b.a b.f w).mono fun e w' h => ⟨h.1,let ⟨p,hp⟩:=h.2; hp ▸ (Bel.refl w).mo p⟩
def upto {α:Type} (z:α) (l:List α) (k:Nat):List α:=l.take k ++ List.replicate (l.length - k) z
theorem upto_zero {α:Type} (z:α) (l:List α):upto z l 0 = List.replicate l.length z:=by simp [upto]
theorem upto_all {α:Type} (z:α) (l:List α) {k:Nat} (h:l.length ≤ k):upto z l k = l:=by
 unfold upto
 rw [List.take_of_length_le h,show l.length - k = 0 by omega]
 simp
theorem upto_set {α:Type} (z:α) (l:List α) (k:Nat) (a:α) (h:l[k]? = some a):(upto z l k).set k a = upto z l (k + 1):=by
 unfold upto
 have hk:k < l.length:=(List.getElem?_eq_some_iff.1 h).1
 have hlt:(l.take k).length = k:=by rw [List.length_take]; omega
 rw [List.set_append_right _ _ (by omega),hlt,Nat.sub_self,show l.length - k = (l.length - (k + 1)) + 1 by omega,List.replicate_succ,l0_,List.take_add_one,h]
 simp
theorem info_fm:(Tryz.prog.info? 131).map (fun i => (i.zero,i.size,i.bytes)) = some (some (.agg #[.int .i64 0,.int .i64 0,.int .i64 0,.int .i64 0,.int .i64 0,.int .i64 0,.int .i64 0,.int .u16 0,.int .i64 0,.int .i64 0,.bool false,.bool false,.slice none 0 0,.slice none 0 0]),14,136):=by kernel_rfl
set_option maxHeartbeats 8000000 in
theorem push_call (w0:World) (s:Scr) (el:List Int) (gp n:Nat) (ev sv:Value) (st:List Fm) (f:Fm) (w:World) (I:PnI w0 s el gp n ev w sv (st ++ [f])) (hst:st.length ≤ 1000) (n1:1 ≤ n) (n2:n ≤ 100) (o:Opr) :
  Calls Tryz.prog 77 #[.pointer (some ⟨gp,0,none⟩),o.v] w fun e w' => e = .returned (.tuple #[]) ∧ ∃ sv' aA ca bA cb,PnI w0 s el gp n ev w' sv' (st ++ [f,f.psh o aA ca bA cb]) ∧ Kept w w':=by
 obtain ⟨i0,hi,hz0,hz1,hz2⟩:=info_parts info_fm
 obtain ⟨fo,faA,fca,fbA,fcb,fac,fbk⟩:=f
 have hff:=I.fr _ (List.mem_append.2 (.inr (List.mem_singleton.2 rfl)))
 obtain ⟨ga,ca0,ea,-,hga,-⟩:=own_at hff.ac (by omega) (by decide)
 obtain ⟨gb,cb0,eb,-,hgb,-⟩:=own_at hff.bk (by omega) (by decide)
 obtain ⟨rfl,-,-⟩:faA = some ⟨ga,0,none⟩ ∧ n = n ∧ fca = ca0:=by simpa using ea
 obtain ⟨rfl,-,-⟩:fbA = some ⟨gb,0,none⟩ ∧ n = n ∧ fcb = cb0:=by simpa using eb
 have HFM:=hd_ hff
 clear ea eb hff
 have HI:=hd_ I
 obtain ⟨d,hd⟩:∃ d,st.length = d:=⟨_,rfl⟩
 have HM:=hd_ hd
 have hlen:(st ++ [(⟨fo,some ⟨ga,0,none⟩,fca,some ⟨gb,0,none⟩,fcb,fac,fbk⟩:Fm)]).length = d + 1:=by simp [hd]
 obtain ⟨gs,cs,rfl,hgs,hgss,hcap⟩:=own_at I.sk (by rw [hlen]; omega) (by decide)
 rw [hlen] at I HI hcap
 have HLEN:=hd_ hlen
 rw [hd] at hst
 clear hd hlen
 go_enter Tryz.func77,Tryz.ntmps77
 go_upto_region 1 with fail
 refine at_world (fun V => Bel w V ∧ V.heap[w.heap.size]? = some (oOp o)) ⟨(Bel.refl w).al _,at_new (by first | rfl | simp)⟩ ?_
 rintro V ⟨hX,eO⟩
 have HX0:=hd_ hX
 have hlx:(st ++ [(⟨fo,some ⟨ga,0,none⟩,fca,some ⟨gb,0,none⟩,fcb,fac,fbk⟩:Fm)])[d]? = some (⟨fo,some ⟨ga,0,none⟩,fca,some ⟨gb,0,none⟩,fcb,fac,fbk⟩:Fm):=by rw [List.getElem?_append_right (by rw [HM.out]; exact Nat.le_refl _),HM.out,Nat.sub_self]; rfl
 have hskV:=(I.bel hX).sk
 rw [HLEN.out] at hskV
 have l0:V.cell? ⟨gs,d * 14,none⟩ = some (.int .i64 fo.k):=by rw [hskV.cellAt _ (by omega)]; exact (fm_at 0 (by decide) hlx).trans rfl
 have l1:V.cell? ⟨gs,d * 14 + 1,none⟩ = some (.int .i64 fo.im):=by rw [hskV.cellAt _ (by omega)]; exact (fm_at 1 (by decide) hlx).trans rfl
 have l2:V.cell? ⟨gs,d * 14 + 2,none⟩ = some (.int .i64 fo.x):=by rw [hskV.cellAt _ (by omega)]; exact (fm_at 2 (by decide) hlx).trans rfl
 have l3:V.cell? ⟨gs,d * 14 + 3,none⟩ = some (.int .i64 fo.y):=by rw [hskV.cellAt _ (by omega)]; exact (fm_at 3 (by decide) hlx).trans rfl
 have l4:V.cell? ⟨gs,d * 14 + 4,none⟩ = some (.int .i64 fo.ms):=by rw [hskV.cellAt _ (by omega)]; exact (fm_at 4 (by decide) hlx).trans rfl
 have l5:V.cell? ⟨gs,d * 14 + 5,none⟩ = some (.int .i64 fo.mx):=by rw [hskV.cellAt _ (by omega)]; exact (fm_at 5 (by decide) hlx).trans rfl
 have l6:V.cell? ⟨gs,d * 14 + 6,none⟩ = some (.int .i64 fo.my):=by rw [hskV.cellAt _ (by omega)]; exact (fm_at 6 (by decide) hlx).trans rfl
 have l7:V.cell? ⟨gs,d * 14 + 7,none⟩ = some (.int .u16 fo.oc):=by rw [hskV.cellAt _ (by omega)]; exact (fm_at 7 (by decide) hlx).trans rfl
 have l8:V.cell? ⟨gs,d * 14 + 8,none⟩ = some (.int .i64 fo.op):=by rw [hskV.cellAt _ (by omega)]; exact (fm_at 8 (by decide) hlx).trans rfl
 have l9:V.cell? ⟨gs,d * 14 + 9,none⟩ = some (.int .i64 fo.md):=by rw [hskV.cellAt _ (by omega)]; exact (fm_at 9 (by decide) hlx).trans rfl
 have l10:V.cell? ⟨gs,d * 14 + 10,none⟩ = some (.bool fo.iso):=by rw [hskV.cellAt _ (by omega)]; exact (fm_at 10 (by decide) hlx).trans rfl
 have l11:V.cell? ⟨gs,d * 14 + 11,none⟩ = some (.bool fo.kn):=by rw [hskV.cellAt _ (by omega)]; exact (fm_at 11 (by decide) hlx).trans rfl
 have l12:V.cell? ⟨gs,d * 14 + 12,none⟩ = some (.slice (some ⟨ga,0,none⟩) n fca):=by rw [hskV.cellAt _ (by omega)]; exact (fm_at 12 (by decide) hlx).trans rfl
 have l13:V.cell? ⟨gs,d * 14 + 13,none⟩ = some (.slice (some ⟨gb,0,none⟩) n fcb):=by rw [hskV.cellAt _ (by omega)]; exact (fm_at 13 (by decide) hlx).trans rfl
 have lp:=cq12 (I.bel hX).eP rfl
 have ep:=fun (W:World) (h:Bel V W) => h.cell lp
 have e0:=fun (W:World) (h:Bel V W) => h.cell l0
 have e1:=fun (W:World) (h:Bel V W) => h.cell l1
 have e2:=fun (W:World) (h:Bel V W) => h.cell l2
 have e3:=fun (W:World) (h:Bel V W) => h.cell l3
 have e4:=fun (W:World) (h:Bel V W) => h.cell l4
 have e5:=fun (W:World) (h:Bel V W) => h.cell l5
 have e6:=fun (W:World) (h:Bel V W) => h.cell l6
 have e7:=fun (W:World) (h:Bel V W) => h.cell l7
 have e8:=fun (W:World) (h:Bel V W) => h.cell l8
 have e9:=fun (W:World) (h:Bel V W) => h.cell l9
 have e10:=fun (W:World) (h:Bel V W) => h.cell l10
 have e11:=fun (W:World) (h:Bel V W) => h.cell l11
 have e12:=fun (W:World) (h:Bel V W) => h.cell l12
 have e13:=fun (W:World) (h:Bel V W) => h.cell l13
 clear hX I hskV hlx lp l0 l1 l2 l3 l4 l5 l6 l7 l8 l9 l10 l11 l12 l13
 have hi0:(0:Int) ≤ (d:Int):=by omega
 have hi1:(d:Int) < (d:Int) + 1:=by omega
 have hi3:((d:Int) + 1 - 1) = (d:Int):=by omega
 have hi2:IntKind.i64.wrap (d:Int) = (d:Int):=wrap_i64 _ (by omega) (by omega)
 have hi4:IntKind.i64.wrap ((d:Int) + 1 - 1) = (d:Int):=by rw [hi3,hi2]
 go_region_held3 (fun W => Bel V W) (first | assumption | exact (Bel.refl V).dr | exact ((Bel.refl V).al _).dr | exact ((Bel.refl V).dr).al _) (fail)
 clear ep e0 e1 e2 e3 e4 e5 e6 e7 e8 e9 e10 e11 e12 e13
 go_upto_region 2 with fail
 obtain ⟨gf,hgf⟩:∃ gf,gf = V.heap.size:=⟨_,rfl⟩
 rw [← hgf]
 refine at_world (fun Y => Bel w Y ∧ w.heap.size < gf ∧ Y.heap[w.heap.size]? = some (oOp o) ∧ Y.heap[gf]? = some (.cells #[.int .i64 fo.k,.int .i64 fo.im,.int .i64 fo.x,.int .i64 fo.y,.int .i64 fo.ms,.int .i64 fo.mx,.int .i64 fo.my,.int .u16 fo.oc,.int .i64 fo.op,.int .i64 fo.md,.bool fo.iso,.bool fo.kn,.slice (some ⟨ga,0,none⟩) n fca,.slice (some ⟨gb,0,none⟩) n fcb] 131)) ⟨(HX0.out.al _).dr,by rw [hgf]; exact lt_of_heap eO,at_drew (at_old eO),by rw [hgf]; exact at_drew (at_new rfl)⟩ ?_
 rintro Y ⟨hX,hgt,eO,eF⟩
 clear hgf
 obtain ⟨Os,O_0,O_1,O_2,O_3,O_4,O_5,O_6,O_7,O_8,O_9,O_10,O_11⟩:=cells12_of eO
 have hmA:=fun W:World => run_make_rows (P:=Tryz.prog) 129 151 (.agg #[.int .u16 0,.int .u16 0,.int .u16 0,.int .u16 0,.int .u16 0,.int .u16 0]) 6 12 Tryz.underlying129 (by kernel_rfl) n (by omega) (by omega) W
 have hmB:=fun W:World => run_make_rows (P:=Tryz.prog) 60 32 (.agg #[.int .u16 0,.int .u16 0,.int .u16 0,.int .u16 0,.int .u16 0]) 5 10 Tryz.underlying60 (by kernel_rfl) n (by omega) (by omega) W
 have yf0:=fun (W:World) (h:Bel Y W) => h.cell O_0
 have yf1:=fun (W:World) (h:Bel Y W) => h.cell O_1
 have yf2:=fun (W:World) (h:Bel Y W) => h.cell O_2
 have yf3:=fun (W:World) (h:Bel Y W) => h.cell O_3
 have yf4:=fun (W:World) (h:Bel Y W) => h.cell O_4
 have yf5:=fun (W:World) (h:Bel Y W) => h.cell O_5
 have yf6:=fun (W:World) (h:Bel Y W) => h.cell O_6
 have yf7:=fun (W:World) (h:Bel Y W) => h.cell O_7
 have yf8:=fun (W:World) (h:Bel Y W) => h.cell O_8
 have yf9:=fun (W:World) (h:Bel Y W) => h.cell O_9
 have yf10:=fun (W:World) (h:Bel Y W) => h.cell O_10
 have yf11:=fun (W:World) (h:Bel Y W) => h.cell O_11
 have lF:=cq12 eF rfl
 have eFr:=fun (W:World) (h:Bel Y W) => h.cell lF
 clear O_0 O_1 O_2 O_3 O_4 O_5 O_6 O_7 O_8 O_9 O_10 O_11 Os lF
 have hYY:=Bel.refl Y
 go_cut [5] (fun s5 Z => ∃ gA gB g5:Nat,s5 = .pointer (some ⟨g5,0,none⟩) ∧ Z.heap[g5]? = some (.cells #[.int .i64 o.k,.int .i64 o.im,.int .i64 o.x,.int .i64 o.y,.int .i64 o.ms,.int .i64 o.mx,.int .i64 o.my,.int .u16 o.oc,.int .i64 o.op,.int .i64 o.md,.bool o.iso,.bool o.kn,.slice (some ⟨gA,0,none⟩) n n,.slice (some ⟨gB,0,none⟩) n n] 131) ∧ Bel Y Z ∧ Z.heap[gA]? = some (.cells (madeCells (Value.agg #[.int .u16 0,.int .u16 0,.int .u16 0,.int .u16 0,.int .u16 0,.int .u16 0]).cells (n * 6)) 151) ∧ Z.heap[gB]? = some (.cells (madeCells (Value.agg #[.int .u16 0,.int .u16 0,.int .u16 0,.int .u16 0,.int .u16 0]).cells (n * 5)) 32) ∧ Y.heap.size ≤ gA ∧ Y.heap.size ≤ gB ∧ Y.heap.size ≤ g5)
 case first =>
  go_region_held3 (fun W => Bel Y W) ((repeat (with_reducible first | assumption | exact Bel.refl _ | refine Bel.al ?_ _ | refine Bel.dr ?_))) (fail)
  all_goals go_wp2_with fail
  all_goals go_meet
  all_goals (refine ⟨_,_,_,rfl,by (first | exact at_drew1 (at_new (by first | rfl | simp)) | exact at_drew1 (at_old (at_new (by first | rfl | simp))) | exact at_drew1 (at_old (at_old (at_new (by first | rfl | simp))))),by (repeat (with_reducible first | assumption | exact Bel.refl _ | refine Bel.al ?_ _ | refine Bel.dr ?_)),by (first | exact at_drew1 (at_new (by first | rfl | simp)) | exact at_drew1 (at_old (at_new (by first | rfl | simp))) | exact at_drew1 (at_old (at_old (at_new (by first | rfl | simp))))),by (first | exact at_drew1 (at_new (by first | rfl | simp)) | exact at_drew1 (at_old (at_new (by first | rfl | simp))) | exact at_drew1 (at_old (at_old (at_new (by first | rfl | simp))))),?_,?_,?_⟩ <;> first | exact Nat.le_refl _ | omega)
 case rest =>
  obtain ⟨gA,gB,g5,rfl,e5,hYZ,eA,eB,hyA,hyB,hy5⟩:=hcut
  have hX1:=hX.trans hYZ
  have eO1:=hYZ.heap eO
  have eF1:=hYZ.heap eF
  have hlY:=lt_of_heap eF
  have hfA:gf < gA:=by omega
  have hfB:gf < gB:=by omega
  have hf5:gf < g5:=by omega
  have hRA:=own_made (base:=w.heap.size) (f:=Ac.cs) (k:=6) acz _ (fun _ => rfl) (by rfl) eA (by omega) (by unfold maxLen; omega)
  have hRB:=own_made (base:=w.heap.size) (f:=Px.cs) (k:=5) pxz _ (fun _ => rfl) (by rfl) eB (by omega) (by unfold maxLen; omega)
  have hAB:gA ≠ gB:=fun e => by subst e; rw [eA] at eB; simp at eB
  have hA5:g5 ≠ gA:=fun e => by subst e; rw [eA] at e5; simp at e5
  have hB5:g5 ≠ gB:=fun e => by subst e; rw [eB] at e5; simp at e5
  clear hX eO eF yf0 yf1 yf2 yf3 yf4 yf5 yf6 yf7 yf8 yf9 yf10 yf11 eFr hmA hmB
  have hLB:∀ (k:Nat) (c:Ac) (b:Px),fac[k]? = some c → fbk[k]? = some b → (bgL o.iso (⟨fo,some ⟨ga,0,none⟩,fca,some ⟨gb,0,none⟩,fcb,fac,fbk⟩:Fm))[k]? = some (beginC o.iso fo.kn c b):=fun k c b h1 h2 => by
   unfold bgL
   rw [List.getElem?_zipWith]
   dsimp only
   rw [h1,h2]
  have hlB:(bgL o.iso (⟨fo,some ⟨ga,0,none⟩,fca,some ⟨gb,0,none⟩,fcb,fac,fbk⟩:Fm)).length = n:=by
   unfold bgL
   rw [List.length_zipWith]
   show min fac.length fbk.length = n
   have h1:fac.length = n:=HFM.out.la
   have h2:fbk.length = n:=HFM.out.lb
   omega
  obtain ⟨LB,eLB⟩:∃ L,bgL o.iso (⟨fo,some ⟨ga,0,none⟩,fca,some ⟨gb,0,none⟩,fcb,fac,fbk⟩:Fm) = L:=⟨_,rfl⟩
  rw [eLB] at hLB hlB
  have hla:(LB.map beginA).length = n:=by rw [List.length_map,hlB]
  obtain ⟨LA,eLA⟩:∃ L,LB.map beginA = L:=⟨_,rfl⟩
  rw [eLA] at hla
  have hLA:∀ (k:Nat) (b:Px),LB[k]? = some b → LA[k]? = some (beginA b):=fun k b h => by rw [← eLA,List.getElem?_map,h]; rfl
  rw [show List.replicate n acz = upto acz LA 0 by rw [upto_zero,hla]] at hRA
  rw [show List.replicate n pxz = upto pxz LB 0 by rw [upto_zero,hlB]] at hRB
  have HLB:=hd_ hLB
  have HLA:=hd_ hLA
  have HlA:=hd_ hla
  have HlB:=hd_ hlB
  have HeA:=hd_ eLA
  have HeB:=hd_ eLB
  have HRA:=hd_ hRA
  have HRB:=hd_ hRB
  have hn0:(0:Int) ≤ (n:Int):=by omega
  clear hLB hlB hla hLA eLA eLB hRA hRB eA eB hlY
  go_upto_region 3 with fail
  have k5:=cq12 e5 rfl
  go_wp2_with fail
  go_loopg [32] n (fun gk s32 wr => ∃ k:Nat,gk = n - k ∧ s32 = .int .i64 k ∧ k ≤ n ∧ Bel w wr ∧ wr.heap[w.heap.size]? = some (oOp o) ∧ wr.heap[gf]? = some (.cells #[.int .i64 fo.k,.int .i64 fo.im,.int .i64 fo.x,.int .i64 fo.y,.int .i64 fo.ms,.int .i64 fo.mx,.int .i64 fo.my,.int .u16 fo.oc,.int .i64 fo.op,.int .i64 fo.md,.bool fo.iso,.bool fo.kn,.slice (some ⟨ga,0,none⟩) n fca,.slice (some ⟨gb,0,none⟩) n fcb] 131) ∧ wr.heap[g5]? = some (.cells #[.int .i64 o.k,.int .i64 o.im,.int .i64 o.x,.int .i64 o.y,.int .i64 o.ms,.int .i64 o.mx,.int .i64 o.my,.int .u16 o.oc,.int .i64 o.op,.int .i64 o.md,.bool o.iso,.bool o.kn,.slice (some ⟨gA,0,none⟩) n n,.slice (some ⟨gB,0,none⟩) n n] 131) ∧ wr.ownsRow w.heap.size 151 6 (.slice (some ⟨gA,0,none⟩) n n) n (acs (upto acz LA k)) ∧ wr.ownsRow w.heap.size 32 5 (.slice (some ⟨gB,0,none⟩) n n) n (pxs (upto pxz LB k)))
  case atStart => exact ⟨0,rfl,rfl,by omega,hX1,eO1,eF1,e5,HRA.out,HRB.out⟩
  case round =>
   clear k5 hX1 eO1 eF1 e5 HRA HRB
   obtain ⟨k,hgk,rfl,hkn,hX,eO,eF,e5,hra,hrb⟩:=hrel
   by_cases hlt:k < n
   case pos =>
    have hd:decide ((k:Int) < (n:Int)) = true:=decide_eq_true (by omega)
    have HRA:=hd_ hra
    have HRB:=hd_ hrb
    clear hra hrb
    go_upto_region 6 with fail
    refine at_world (fun Y => Bel w Y ∧ Y.heap[w.heap.size]? = some (oOp o) ∧ Y.heap[gf]? = some (.cells #[.int .i64 fo.k,.int .i64 fo.im,.int .i64 fo.x,.int .i64 fo.y,.int .i64 fo.ms,.int .i64 fo.mx,.int .i64 fo.my,.int .u16 fo.oc,.int .i64 fo.op,.int .i64 fo.md,.bool fo.iso,.bool fo.kn,.slice (some ⟨ga,0,none⟩) n fca,.slice (some ⟨gb,0,none⟩) n fcb] 131) ∧ Y.heap[g5]? = some (.cells #[.int .i64 o.k,.int .i64 o.im,.int .i64 o.x,.int .i64 o.y,.int .i64 o.ms,.int .i64 o.mx,.int .i64 o.my,.int .u16 o.oc,.int .i64 o.op,.int .i64 o.md,.bool o.iso,.bool o.kn,.slice (some ⟨gA,0,none⟩) n n,.slice (some ⟨gB,0,none⟩) n n] 131) ∧ Y.ownsRow w.heap.size 151 6 (.slice (some ⟨gA,0,none⟩) n n) n (acs (upto acz LA k)) ∧ Y.ownsRow w.heap.size 32 5 (.slice (some ⟨gB,0,none⟩) n n) n (pxs (upto pxz LB k))) ⟨hX,eO,eF,e5,HRA.out,HRB.out⟩ ?_
    clear hX eO eF e5 HRA HRB
    rintro Y ⟨hX,eO,eF,e5,hra,hrb⟩
    obtain ⟨c,hc⟩:∃ c,fac[k]? = some c:=⟨_,List.getElem?_eq_getElem (by have h1:fac.length = n:=HFM.out.la; omega)⟩
    obtain ⟨b,hb⟩:∃ b,fbk[k]? = some b:=⟨_,List.getElem?_eq_getElem (by have h1:fbk.length = n:=HFM.out.lb; omega)⟩
    obtain ⟨B,hB⟩:∃ B,beginC o.iso fo.kn c b = B:=⟨_,rfl⟩
    have hBG:=hd_ (fun W:World => begin_call o.iso fo.kn c b B hB W)
    have hLk:LB[k]? = some B:=hB ▸ HLB.out k c b hc hb
    have HSA:=hd_ (upto_set acz LA k (beginA B) (HLA.out k B hLk))
    have HSB:=hd_ (upto_set pxz LB k B hLk)
    have hac:=own_ext HFM.out.ac hX
    have hbk:=own_ext HFM.out.bk hX
    have hkk:k * 6 + 6 ≤ n * 6:=by omega
    have hkj:k * 5 + 5 ≤ n * 5:=by omega
    have x0:Y.cell? ⟨ga,k * 6,none⟩ = some (.int .u16 c.x):=by rw [hac.cellAt _ (by omega)]; exact flat_get (f:=Ac.cs) (k:=6) (fun _ => rfl) fac k 0 c hc (by decide)
    have x1:Y.cell? ⟨ga,k * 6 + 1,none⟩ = some (.int .u16 c.y):=by rw [hac.cellAt _ (by omega)]; exact flat_get (f:=Ac.cs) (k:=6) (fun _ => rfl) fac k 1 c hc (by decide)
    have x2:Y.cell? ⟨ga,k * 6 + 2,none⟩ = some (.int .u16 c.z):=by rw [hac.cellAt _ (by omega)]; exact flat_get (f:=Ac.cs) (k:=6) (fun _ => rfl) fac k 2 c hc (by decide)
    have x3:Y.cell? ⟨ga,k * 6 + 3,none⟩ = some (.int .u16 c.a):=by rw [hac.cellAt _ (by omega)]; exact flat_get (f:=Ac.cs) (k:=6) (fun _ => rfl) fac k 3 c hc (by decide)
    have x4:Y.cell? ⟨ga,k * 6 + 4,none⟩ = some (.int .u16 c.o):=by rw [hac.cellAt _ (by omega)]; exact flat_get (f:=Ac.cs) (k:=6) (fun _ => rfl) fac k 4 c hc (by decide)
    have x5:Y.cell? ⟨ga,k * 6 + 5,none⟩ = some (.int .u16 c.f):=by rw [hac.cellAt _ (by omega)]; exact flat_get (f:=Ac.cs) (k:=6) (fun _ => rfl) fac k 5 c hc (by decide)
    have z0:Y.cell? ⟨gb,k * 5,none⟩ = some (.int .u16 b.x):=by rw [hbk.cellAt _ (by omega)]; exact flat_get (f:=Px.cs) (k:=5) (fun _ => rfl) fbk k 0 b hb (by decide)
    have z1:Y.cell? ⟨gb,k * 5 + 1,none⟩ = some (.int .u16 b.y):=by rw [hbk.cellAt _ (by omega)]; exact flat_get (f:=Px.cs) (k:=5) (fun _ => rfl) fbk k 1 b hb (by decide)
    have z2:Y.cell? ⟨gb,k * 5 + 2,none⟩ = some (.int .u16 b.z):=by rw [hbk.cellAt _ (by omega)]; exact flat_get (f:=Px.cs) (k:=5) (fun _ => rfl) fbk k 2 b hb (by decide)
    have z3:Y.cell? ⟨gb,k * 5 + 3,none⟩ = some (.int .u16 b.a):=by rw [hbk.cellAt _ (by omega)]; exact flat_get (f:=Px.cs) (k:=5) (fun _ => rfl) fbk k 3 b hb (by decide)
    have z4:Y.cell? ⟨gb,k * 5 + 4,none⟩ = some (.int .u16 b.f):=by rw [hbk.cellAt _ (by omega)]; exact flat_get (f:=Px.cs) (k:=5) (fun _ => rfl) fbk k 4 b hb (by decide)
    have X0:=fun (W:World) (h:Kp gA Y W) => h.cell x0 (by show ga ≠ gA; omega)
    have X1:=fun (W:World) (h:Kp gA Y W) => h.cell x1 (by show ga ≠ gA; omega)
    have X2:=fun (W:World) (h:Kp gA Y W) => h.cell x2 (by show ga ≠ gA; omega)
    have X3:=fun (W:World) (h:Kp gA Y W) => h.cell x3 (by show ga ≠ gA; omega)
    have X4:=fun (W:World) (h:Kp gA Y W) => h.cell x4 (by show ga ≠ gA; omega)
    have X5:=fun (W:World) (h:Kp gA Y W) => h.cell x5 (by show ga ≠ gA; omega)
    have Z0:=fun (W:World) (h:Kp gA Y W) => h.cell z0 (by show gb ≠ gA; omega)
    have Z1:=fun (W:World) (h:Kp gA Y W) => h.cell z1 (by show gb ≠ gA; omega)
    have Z2:=fun (W:World) (h:Kp gA Y W) => h.cell z2 (by show gb ≠ gA; omega)
    have Z3:=fun (W:World) (h:Kp gA Y W) => h.cell z3 (by show gb ≠ gA; omega)
    have Z4:=fun (W:World) (h:Kp gA Y W) => h.cell z4 (by show gb ≠ gA; omega)
    have k10:=fun (W:World) (h:Kp gA Y W) => h.cell (cq10 eO rfl) (by show w.heap.size ≠ gA; omega)
    have k11:=fun (W:World) (h:Kp gA Y W) => h.cell (cq11 eF rfl) (by show gf ≠ gA; omega)
    have k12:=fun (W:World) (h:Kp gA Y W) => h.cell (cq12 eF rfl) (by show gf ≠ gA; omega)
    have k13:=fun (W:World) (h:Kp gA Y W) => h.cell (cq13 eF rfl) (by show gf ≠ gA; omega)
    have m12:=fun (W:World) (h:Kp gA Y W) => h.cell (cq12 e5 rfl) hA5
    have m13:=fun (W:World) (h:Kp gA Y W) => h.cell (cq13 e5 rfl) hA5
    have HRA:=hd_ hra
    have HRB:=hd_ hrb
    have HX:=hd_ hX
    have HE:=hd_ (And.intro eO (And.intro eF e5))
    have hYd:=(Bel.refl Y).dr
    have hSY:Kp gA Y Y.drew:=Kp.of_bel (Bel.refl Y).dr
    have hk0:(0:Int) ≤ (k:Int):=by omega
    have hk1:(k:Int) < (n:Int):=by omega
    have hld:∀ l:List Nat,True:=fun _ => trivial
    clear hra hrb hc hb hB hLk hac hbk eO eF e5 hX hld x0 x1 x2 x3 x4 x5 z0 z1 z2 z3 z4
    refine C_region 28 (fun W => Kp gA Y W) (by kernel_rfl) ?_
    refine C_take0a (i:=0) (v:=?_) rfl hSY (Or.inl ⟨by rfl,?_⟩) ?_
    rotate_left
    ·(intro W hW; go_simp; try with_reducible rfl)
    simp only [Act.put,lA_,l0_,lS_]
    refine C_takea (i:=1) (v:=?_) rfl hSY (Or.inl ⟨by rfl,?_⟩) ?_
    rotate_left
    ·(intro W hW; (try dsimp only at hW); go_simp; try with_reducible rfl)
    simp only [Act.put,lA_,l0_,lS_]
    refine C_take0a (i:=2) (v:=?_) rfl hSY (Or.inl ⟨by rfl,?_⟩) ?_
    rotate_left
    ·(intro W hW; go_simp; try with_reducible rfl)
    simp only [Act.put,lA_,l0_,lS_]
    refine C_take0a (i:=3) (v:=?_) rfl hSY (Or.inl ⟨by rfl,?_⟩) ?_
    rotate_left
    ·(intro W hW; go_simp; try with_reducible rfl)
    simp only [Act.put,lA_,l0_,lS_]
    refine C_takea (i:=4) (v:=?_) rfl hSY (Or.inl ⟨by rfl,?_⟩) ?_
    rotate_left
    ·(intro W hW; (try dsimp only at hW); go_simp; try with_reducible rfl)
    simp only [Act.put,lA_,l0_,lS_]
    refine C_take0a (i:=5) (v:=?_) rfl hSY (Or.inl ⟨by rfl,?_⟩) ?_
    rotate_left
    ·(intro W hW; go_simp; try with_reducible rfl)
    simp only [Act.put,lA_,l0_,lS_]
    refine C_take0a (i:=6) (v:=?_) rfl hSY (Or.inl ⟨by rfl,?_⟩) ?_
    rotate_left
    ·(intro W hW; go_simp; try with_reducible rfl)
    simp only [Act.put,lA_,l0_,lS_]
    refine C_takea (i:=7) (v:=?_) rfl hSY (Or.inl ⟨by rfl,?_⟩) ?_
    rotate_left
    ·(intro W hW; (try dsimp only at hW); go_simp; try with_reducible rfl)
    simp only [Act.put,lA_,l0_,lS_]
    refine C_take0a (i:=8) (v:=?_) rfl hSY (Or.inl ⟨by rfl,?_⟩) ?_
    rotate_left
    ·(intro W hW; go_simp; try with_reducible rfl)
    simp only [Act.put,lA_,l0_,lS_]
    refine C_take0a (i:=9) (v:=?_) rfl hSY (Or.inl ⟨by rfl,?_⟩) ?_
    rotate_left
    ·(intro W hW; go_simp; try with_reducible rfl)
    simp only [Act.put,lA_,l0_,lS_]
    refine C_takea (i:=10) (v:=?_) rfl hSY (Or.inl ⟨by rfl,?_⟩) ?_
    rotate_left
    ·(intro W hW; (try dsimp only at hW); go_simp; try with_reducible rfl)
    simp only [Act.put,lA_,l0_,lS_]
    refine C_take0a (i:=11) (v:=?_) rfl hSY (Or.inl ⟨by rfl,?_⟩) ?_
    rotate_left
    ·(intro W hW; go_simp; try with_reducible rfl)
    simp only [Act.put,lA_,l0_,lS_]
    refine C_takea (i:=12) (v:=?_) rfl hSY (Or.inl ⟨by rfl,?_⟩) ?_
    rotate_left
    ·(intro W hW; (try dsimp only at hW); go_simp; try with_reducible rfl)
    simp only [Act.put,lA_,l0_,lS_]
    refine C_take0a (i:=13) (v:=?_) rfl hSY (Or.inl ⟨by rfl,?_⟩) ?_
    rotate_left
    ·(intro W hW; go_simp; try with_reducible rfl)
    simp only [Act.put,lA_,l0_,lS_]
    refine C_take0a (i:=14) (v:=?_) rfl hSY (Or.inl ⟨by rfl,?_⟩) ?_
    rotate_left
    ·(intro W hW; go_simp; try with_reducible rfl)
    simp only [Act.put,lA_,l0_,lS_]
    refine C_takea (i:=15) (v:=?_) rfl hSY (Or.inl ⟨by rfl,?_⟩) ?_
    rotate_left
    ·(intro W hW; (try dsimp only at hW); go_simp; try with_reducible rfl)
    simp only [Act.put,lA_,l0_,lS_]
    refine C_take0a (i:=16) (v:=?_) rfl hSY (Or.inl ⟨by rfl,?_⟩) ?_
    rotate_left
    ·(intro W hW; go_simp; try with_reducible rfl)
    simp only [Act.put,lA_,l0_,lS_]
    refine C_takea (i:=17) (v:=?_) rfl hSY (Or.inl ⟨by rfl,?_⟩) ?_
    rotate_left
    ·(intro W hW; (try dsimp only at hW); go_simp; try with_reducible rfl)
    simp only [Act.put,lA_,l0_,lS_]
    refine C_take0a (i:=18) (v:=?_) rfl hSY (Or.inl ⟨by rfl,?_⟩) ?_
    rotate_left
    ·(intro W hW; go_simp; try with_reducible rfl)
    simp only [Act.put,lA_,l0_,lS_]
    refine C_take0a (i:=19) (v:=?_) rfl hSY (Or.inl ⟨by rfl,?_⟩) ?_
    rotate_left
    ·(intro W hW; go_simp; try with_reducible rfl)
    simp only [Act.put,lA_,l0_,lS_]
    refine C_takea (i:=20) (v:=?_) rfl hSY (Or.inl ⟨by rfl,?_⟩) ?_
    rotate_left
    ·(intro W hW; (try dsimp only at hW); go_simp; try with_reducible rfl)
    simp only [Act.put,lA_,l0_,lS_]
    refine C_do (i:=21) (by kernel_rfl) rfl (by rfl) fun K hK => ?_
    go_simp
    go_at_call 91
    with_reducible refine (hBG.out _).mono ?_
    rintro e W5 ⟨rfl,hb5⟩
    have hS5:Kp gA Y W5:=hSY.bel hb5
    refine hK.out _ _ hS5 ?_
    clear hK K
    refine C_take0a (i:=22) (v:=?_) rfl hS5 (Or.inl ⟨by rfl,?_⟩) ?_
    rotate_left
    ·(intro W hW; go_simp; try with_reducible rfl)
    simp only [Act.put,lA_,l0_,lS_]
    refine C_take0a (i:=23) (v:=?_) rfl hS5 (Or.inl ⟨by rfl,?_⟩) ?_
    rotate_left
    ·(intro W hW; go_simp; try with_reducible rfl)
    simp only [Act.put,lA_,l0_,lS_]
    refine C_take0a (i:=24) (v:=?_) rfl hS5 (Or.inl ⟨by rfl,?_⟩) ?_
    rotate_left
    ·(intro W hW; go_simp; try with_reducible rfl)
    simp only [Act.put,lA_,l0_,lS_]
    refine C_take0a (i:=25) (v:=?_) rfl hS5 (Or.inl ⟨by rfl,?_⟩) ?_
    rotate_left
    ·(intro W hW; go_simp; try with_reducible rfl)
    simp only [Act.put,lA_,l0_,lS_]
    refine C_do (i:=26) (by kernel_rfl) rfl (by rfl) fun K hK => ?_
    have HRA5:=hd_ (own_ext HRA.out (hYd.trans hb5))
    have HRB5:=hd_ (own_ext HRB.out (hYd.trans hb5))
    have HX5:=hd_ ((HX.out.trans hYd).trans hb5)
    have HE5:=hd_ (And.intro (hb5.heap (hYd.heap HE.out.1)) (And.intro (hb5.heap (hYd.heap HE.out.2.1)) (hb5.heap (hYd.heap HE.out.2.2))))
    clear hb5
    refine wp_so (f:=Ac.cs) (i:=k) (beginA B) (fun _ => rfl) rfl rfl rfl HRA5.out rfl hlt (by kernel_rfl) (ac_one (beginA B)) ?_
    intro W6 hra6 hU6
    have hS6:Kp gA Y W6:=hS5.upd hU6
    refine hK.out _ _ hS6 ?_
    clear hK K
    have HRA6:=hd_ hra6
    have HRB6:=hd_ (own_upd HRB5.out hU6 (by simp [Value.ownBlock]; exact fun e => hAB e.symm))
    have HX6:=hd_ (hU6.bel HX5.out (by omega))
    have HE6:=hd_ (And.intro (hU6.heap HE5.out.1 (by omega)) (And.intro (hU6.heap HE5.out.2.1 (by omega)) (hU6.heap HE5.out.2.2 hA5)))
    clear hra6 hU6 HRA5 HRB5 HX5 HE5
    refine C_take0a (i:=27) (v:=?_) rfl hS6 (Or.inl ⟨by rfl,?_⟩) ?_
    rotate_left
    ·(intro W hW; go_simp; try with_reducible rfl)
    simp only [Act.put,lA_,l0_,lS_]
    refine C_tail (c:=28) (g:=0) (l:=_) rfl rfl (by kernel_rfl) (by kernel_rfl) ?_
    simp only [List.drop_succ_cons,List.drop_zero]
    refine wpList_so (f:=Px.cs) (i:=k) B (fun _ => rfl) rfl rfl rfl rfl HRB6.out rfl hlt (by kernel_rfl) (px_one B) ?_
    intro W7 hrb7 hU7
    have HRA7:=hd_ (own_upd HRA6.out hU7 (by simp [Value.ownBlock]; exact hAB))
    have HX7:=hd_ (hU7.bel HX6.out (by omega))
    have HE7:=hd_ (And.intro (hU7.heap HE6.out.1 (by omega)) (And.intro (hU7.heap HE6.out.2.1 (by omega)) (hU7.heap HE6.out.2.2 hB5)))
    have HRB7:=hd_ hrb7
    clear hrb7 hU7 HRA6 HRB6 HX6 HE6 X0 X1 X2 X3 X4 X5 Z0 Z1 Z2 Z3 Z4 k10 k11 k12 k13 m12 m13
    go_wp2_with fail
    go_roundg (gk - 1)
    case measure => omega
    case rel => exact ⟨k + 1,by omega,by go_num,by omega,HX7.out,HE7.out.1,HE7.out.2.1,HE7.out.2.2,HSA.out ▸ HRA7.out,HSB.out ▸ HRB7.out⟩
   case neg =>
    obtain rfl:n = k:=by omega
    have hd:decide ((n:Int) < (n:Int)) = false:=by simp
    rw [upto_all acz LA (by rw [HlA.out]; exact Nat.le_refl _)] at hra
    rw [upto_all pxz LB (by rw [HlB.out]; exact Nat.le_refl _)] at hrb
    have HRA:=hd_ hra
    have HRB:=hd_ hrb
    clear hra hrb hkn
    go_upto_region 8 with fail
    refine at_world (fun Y => Bel w Y ∧ Y.heap[g5]? = some (.cells #[.int .i64 o.k,.int .i64 o.im,.int .i64 o.x,.int .i64 o.y,.int .i64 o.ms,.int .i64 o.mx,.int .i64 o.my,.int .u16 o.oc,.int .i64 o.op,.int .i64 o.md,.bool o.iso,.bool o.kn,.slice (some ⟨gA,0,none⟩) n n,.slice (some ⟨gB,0,none⟩) n n] 131) ∧ Y.ownsRow w.heap.size 151 6 (.slice (some ⟨gA,0,none⟩) n n) n (acs LA) ∧ Y.ownsRow w.heap.size 32 5 (.slice (some ⟨gB,0,none⟩) n n) n (pxs LB)) ⟨hX,e5,HRA.out,HRB.out⟩ ?_
    clear hX eO eF e5 HRA HRB
    rintro Y ⟨hX,e5,hra,hrb⟩
    have IY:=HI.out.bel hX
    have hskY:=IY.sk
    rw [HLEN.out] at hskY
    have l0:=cq0 e5 rfl
    have l1:=cq1 e5 rfl
    have l2:=cq2 e5 rfl
    have l3:=cq3 e5 rfl
    have l4:=cq4 e5 rfl
    have l5:=cq5 e5 rfl
    have l6:=cq6 e5 rfl
    have l7:=cq7 e5 rfl
    have l8:=cq8 e5 rfl
    have l9:=cq9 e5 rfl
    have l10:=cq10 e5 rfl
    have l11:=cq11 e5 rfl
    have l12:=cq12 e5 rfl
    have l13:=cq13 e5 rfl
    have hlp:=cq12 IY.eP rfl
    have lp:=fun (W:World) (h:Bel Y W) => h.cell hlp
    have L0:=fun (W:World) (h:Bel Y W) => h.cell l0
    have L1:=fun (W:World) (h:Bel Y W) => h.cell l1
    have L2:=fun (W:World) (h:Bel Y W) => h.cell l2
    have L3:=fun (W:World) (h:Bel Y W) => h.cell l3
    have L4:=fun (W:World) (h:Bel Y W) => h.cell l4
    have L5:=fun (W:World) (h:Bel Y W) => h.cell l5
    have L6:=fun (W:World) (h:Bel Y W) => h.cell l6
    have L7:=fun (W:World) (h:Bel Y W) => h.cell l7
    have L8:=fun (W:World) (h:Bel Y W) => h.cell l8
    have L9:=fun (W:World) (h:Bel Y W) => h.cell l9
    have L10:=fun (W:World) (h:Bel Y W) => h.cell l10
    have L11:=fun (W:World) (h:Bel Y W) => h.cell l11
    have L12:=fun (W:World) (h:Bel Y W) => h.cell l12
    have L13:=fun (W:World) (h:Bel Y W) => h.cell l13
    have hYd:=(Bel.refl Y).dr
    have HIY:=hd_ IY
    have HSK:=hd_ hskY
    have HRA:=hd_ hra
    have HRB:=hd_ hrb
    have HX:=hd_ hX
    clear IY hskY hra hrb hX hlp e5 l0 l1 l2 l3 l4 l5 l6 l7 l8 l9 l10 l11 l12 l13
    refine C_region 7 (fun W => Bel Y W) (by kernel_rfl) ?_
    refine C_take0a (i:=0) (v:=?_) rfl hYd (Or.inl ⟨by rfl,?_⟩) ?_
    rotate_left
    ·(intro W hW; go_simp; try with_reducible rfl)
    simp only [Act.put,lA_,l0_,lS_]
    refine C_take0a (i:=1) (v:=?_) rfl hYd (Or.inl ⟨by rfl,?_⟩) ?_
    rotate_left
    ·(intro W hW; go_simp; try with_reducible rfl)
    simp only [Act.put,lA_,l0_,lS_]
    refine C_take0a (i:=2) (v:=?_) rfl hYd (Or.inl ⟨by rfl,?_⟩) ?_
    rotate_left
    ·(intro W hW; go_simp; try with_reducible rfl)
    simp only [Act.put,lA_,l0_,lS_]
    refine C_take0a (i:=3) (v:=?_) rfl hYd (Or.inl ⟨by rfl,?_⟩) ?_
    rotate_left
    ·(intro W hW; go_simp; try with_reducible rfl)
    simp only [Act.put,lA_,l0_,lS_]
    refine C_takea (i:=4) (v:=?_) rfl hYd (Or.inl ⟨by rfl,?_⟩) ?_
    rotate_left
    ·(intro W hW; (try dsimp only at hW); go_simp; try with_reducible rfl)
    simp only [Act.put,lA_,l0_,lS_]
    refine C_do (i:=5) (by kernel_rfl) rfl (by rfl) fun K hK => ?_
    go_simp
    refine hK.out _ _ hYd ?_
    clear hK K
    refine C_do (i:=6) (by kernel_rfl) rfl (by rfl) fun K hK => ?_
    go_simp
    have hS6:=hYd.al (.cells #[.int .i64 o.k,.int .i64 o.im,.int .i64 o.x,.int .i64 o.y,.int .i64 o.ms,.int .i64 o.mx,.int .i64 o.my,.int .u16 o.oc,.int .i64 o.op,.int .i64 o.md,.bool o.iso,.bool o.kn,.slice (some ⟨gA,0,none⟩) n n,.slice (some ⟨gB,0,none⟩) n n] 131)
    refine hK.out _ _ hS6 ?_
    clear hK K
    refine C_step (by kernel_rfl) rfl (by kernel_rfl) (by rfl) fun K hK => ?_
    refine wp_append_own _ (.tmp 67) (.tmp 69) 110 rfl w0.heap.size 131 i0 (.agg #[.int .i64 0,.int .i64 0,.int .i64 0,.int .i64 0,.int .i64 0,.int .i64 0,.int .i64 0,.int .u16 0,.int .i64 0,.int .i64 0,.bool false,.bool false,.slice none 0 0,.slice none 0 0]) 14 136 Tryz.underlying110 hi hz0 hz1 hz2 rfl (by decide) _ _ _ rfl (own_ext HSK.out hS6) ⟨Y.heap.size,0,none⟩ 1 1 [.int .i64 o.k,.int .i64 o.im,.int .i64 o.x,.int .i64 o.y,.int .i64 o.ms,.int .i64 o.mx,.int .i64 o.my,.int .u16 o.oc,.int .i64 o.op,.int .i64 o.md,.bool o.iso,.bool o.kn,.slice (some ⟨gA,0,none⟩) n n,.slice (some ⟨gB,0,none⟩) n n] rfl rfl ?ca ?cb ?cc ?cd ?ce ?_
    case ca => exact new_row Y.drew [.int .i64 o.k,.int .i64 o.im,.int .i64 o.x,.int .i64 o.y,.int .i64 o.ms,.int .i64 o.mx,.int .i64 o.my,.int .u16 o.oc,.int .i64 o.op,.int .i64 o.md,.bool o.iso,.bool o.kn,.slice (some ⟨gA,0,none⟩) n n,.slice (some ⟨gB,0,none⟩) n n] 131
    case cb => intro u hu; simp at hu; rcases hu with rfl | rfl | rfl | rfl | rfl | rfl | rfl | rfl | rfl | rfl | rfl | rfl | rfl | rfl; all_goals (first | rfl | skip)
    case cc => unfold maxLen; omega
    case cd => omega
    case ce => exact Nat.le_trans HIY.out.hB.size' hS6.size'
    intro v6 W6 hown6 hgr6 hnil6
    clear hnil6
    obtain ⟨A6,c6,rfl,-⟩:=own_sl hown6
    refine hK.out _ _ ?_
    clear hK K
    have hIn:Fm.In n w0.heap.size (Y.drew.alloc (.cells #[.int .i64 o.k,.int .i64 o.im,.int .i64 o.x,.int .i64 o.y,.int .i64 o.ms,.int .i64 o.mx,.int .i64 o.my,.int .u16 o.oc,.int .i64 o.op,.int .i64 o.md,.bool o.iso,.bool o.kn,.slice (some ⟨gA,0,none⟩) n n,.slice (some ⟨gB,0,none⟩) n n] 131)) ⟨o,some ⟨gA,0,none⟩,n,some ⟨gB,0,none⟩,n,LA,LB⟩:=⟨HlA.out,HlB.out,own_ext (own_base HRA.out HI.out.hB.size') hS6,own_ext (own_base HRB.out HI.out.hB.size') hS6⟩
    have hP:=(HIY.out.bel hS6).pushed HLEN.out (f':=⟨o,some ⟨gA,0,none⟩,n,some ⟨gB,0,none⟩,n,LA,LB⟩) hgr6 hown6 hIn
    have eP6:=(hgr6.block gp (lt_of_heap (HIY.out.bel hS6).eP) (fun e => own_ne_heap (HIY.out.bel hS6).sk (HIY.out.bel hS6).eP (by decide) e.symm)).trans (HIY.out.bel hS6).eP
    have HP:=hd_ hP
    have k12:=cq12 eP6 rfl
    have f12:=frozA eP6 12
    have HKS:=hd_ (Kept.of_bel (HX.out.trans hS6))
    clear hown6 hgr6 hIn hP eP6 L0 L1 L2 L3 L4 L5 L6 L7 L8 L9 L10 L11 L12 L13 lp hS6 hYd HSK HRA HRB HX
    refine any_of_C (c:=10) (S:=fun _ => True) _ _ _ _ ?_
    refine C_take0a (i:=8) (v:=?_) rfl trivial (Or.inl ⟨by rfl,?_⟩) ?_
    rotate_left
    ·(intro W hW; go_simp; try with_reducible rfl)
    simp only [Act.put,lA_,l0_,lS_]
    refine C_take0a (i:=9) (v:=?_) rfl trivial (Or.inl ⟨by rfl,?_⟩) ?_
    rotate_left
    ·(intro W hW; go_simp; try with_reducible rfl)
    simp only [Act.put,lA_,l0_,lS_]
    refine C_tail (c:=10) (g:=0) (l:=_) rfl rfl (by kernel_rfl) (by kernel_rfl) ?_
    simp only [List.drop_succ_cons,List.drop_zero]
    go_wp2_with fail
    go_end0
    refine ⟨rfl,.slice A6 (d + 1 + 1) c6,some ⟨gA,0,none⟩,n,some ⟨gB,0,none⟩,n,?_,HKS.out.trans HP.out.2⟩
    have h:=HP.out.1
    rw [List.append_assoc] at h
    unfold Fm.psh
    rw [HeB.out,HeA.out]
    exact h
def Fm.at (f:Fm) (k:Nat):Fr:=⟨f.o,(f.acc[k]?).getD acz,(f.back[k]?).getD pxz⟩
theorem Fm.at_of {f:Fm} {k:Nat} {c:Ac} {b:Px} (hc:f.acc[k]? = some c) (hb:f.back[k]? = some b):f.at k = ⟨f.o,c,b⟩:=by
 unfold Fm.at
 rw [hc,hb]
 rfl
theorem ksL_at (s:Scr) (o:Opr) (x y:Int) {n k:Nat} (h:k < n):(ksL s o x y n)[k]? = some (kAt s.ims s.mx o (x + k) y):=by
 unfold ksL
 rw [List.getElem?_map,List.getElem?_range h]
 rfl
theorem pixL_at (m:Img) (x y:Int) {n k:Nat} (h:k < n):(pixL m x y n)[k]? = some (atF m (x + k) y):=by
 unfold pixL
 rw [List.getElem?_map,List.getElem?_range h]
 rfl
theorem pixL_src {s:Scr} {o:Opr} {i:Nat} {m:Img} (ho:o.im = i) (hm:s.ims[i]? = some m) (x y:Int) {n k:Nat} (h:k < n):(pixL m (x - o.x) (y - o.y) n)[k]? = some (sAt s.ims o (x + k) y):=by
 rw [pixL_at m _ _ h]
 unfold sAt
 rw [ho,imAt_of hm,show x - o.x + (k:Int) = x + k - o.x by omega]
structure RowOk (s:Scr) (n:Nat) (f:Fm):Prop where
 la:f.acc.length = n
 lb:f.back.length = n
 ok:∀ k,k < n → (f.at k).ok s.mx
theorem RowOk.get {s:Scr} {n:Nat} {f:Fm} (h:RowOk s n f) {k:Nat} (hk:k < n):∃ c b,f.acc[k]? = some c ∧ f.back[k]? = some b ∧ f.at k = ⟨f.o,c,b⟩:=by
 have ec:f.acc[k]? = some (f.acc[k]'(by rw [h.la]; exact hk)):=List.getElem?_eq_getElem _
 have eb:f.back[k]? = some (f.back[k]'(by rw [h.lb]; exact hk)):=List.getElem?_eq_getElem _
 exact ⟨_,_,ec,eb,Fm.at_of ec eb⟩
theorem RowOk.ac {s:Scr} {n:Nat} {f:Fm} (h:RowOk s n f) {i:Nat} {c:Ac} {b:Px} (hc:f.acc[i]? = some c) (hb:f.back[i]? = some b):Ac.ok s.mx c b:=by
 have hi:i < n:=by rw [← h.la]; exact (List.getElem?_eq_some_iff.1 hc).1
 have:=(h.ok i hi).ac
 rw [Fm.at_of hc hb] at this
 exact this
theorem pt_at {s:Scr} {o:Opr} {n:Nat} {x y:Int} {ps:List Px} {f:Fm} (h:RowOk s n f) {k:Nat} (hk:k < n) {p:Px} (hp:ps[k]? = some p) (aA:Option Addr) (ca:Nat) :
  ({ f with aA:=aA,ca:=ca,acc:=f.pt s o x y n ps }:Fm).at k = (f.at k).paint s.ims s.mx (x + k) y o p:=by
 obtain ⟨c,b,hc,hb,e⟩:=h.get hk
 rw [e]
 refine Fm.at_of ?_ hb
 unfold Fm.pt
 refine stepL_at ?_ hc hb
 unfold scL
 rw [List.getElem?_zipWith,hp,ksL_at s o x y hk]
theorem pt_len {s:Scr} {o:Opr} {n:Nat} {x y:Int} {ps:List Px} {f:Fm} (h:RowOk s n f) (hl:ps.length = n):(f.pt s o x y n ps).length = n:=by
 unfold Fm.pt
 exact stepL_len _ _ _ _ (scL_len hl (ksL_len s o x y n)) h.la h.lb
theorem psh_at {s:Scr} {o:Opr} {n:Nat} {f:Fm} (h:RowOk s n f) {k:Nat} (hk:k < n) (aA bA:Option Addr) (ca cb:Nat):(f.psh o aA ca bA cb).at k = (f.at k).push o:=by
 obtain ⟨c,b,hc,hb,e⟩:=h.get hk
 have hB:(bgL o.iso f)[k]? = some (beginC o.iso f.o.kn c b):=by
  unfold bgL
  rw [List.getElem?_zipWith,hc,hb]
 rw [e]
 exact Fm.at_of (by show ((bgL o.iso f).map beginA)[k]? = _; rw [List.getElem?_map,hB]; rfl) hB
theorem res_at {s:Scr} {n:Nat} {f:Fm} (h:RowOk s n f) {k:Nat} (hk:k < n):(resL s.mx f.acc f.back)[k]? = some (resF s.mx (f.at k).c (f.at k).b):=by
 obtain ⟨c,b,hc,hb,e⟩:=h.get hk
 rw [e]
 unfold resL
 rw [List.getElem?_zipWith,hc,hb]
theorem res_len {s:Scr} {n:Nat} {f:Fm} (h:RowOk s n f):(resL s.mx f.acc f.back).length = n:=by
 unfold resL
 rw [List.length_zipWith,h.la,h.lb,Nat.min_self]
theorem RowOk.push {s:Scr} {n:Nat} {f:Fm} (hm:0 ≤ s.mx) (h:RowOk s n f) (o:Opr) (aA bA:Option Addr) (ca cb:Nat):RowOk s n (f.psh o aA ca bA cb):=by
 have hl:(bgL o.iso f).length = n:=by unfold bgL; rw [List.length_zipWith,h.la,h.lb,Nat.min_self]
 refine ⟨by show ((bgL o.iso f).map beginA).length = n; rw [List.length_map,hl],hl,fun k hk => ?_⟩
 rw [psh_at h hk]
 exact Fr.ok_push hm (h.ok k hk) o
theorem ptC_of {s:Scr} {o:Opr} {n:Nat} {x y nn:Int} {ps:List Px} {f:Fm} (hm:s.mx = 255 ∨ s.mx = 65535) (hS:SrcOk s.ims s.mx) (h:RowOk s n f) (ho:o.ok nn s.mx f.o.free) (hj:0 ≤ o.oc) (hl:ps.length = n) (hp:∀ (i:Nat) (p:Px),ps[i]? = some p → Px.ok s.mx p):PtC s o f.o.kn n x y ps f:=by
 refine ⟨hm,stepC_of ho,hj,ho.oc,hl,hp,fun i k hi => ?_,fun i c b hc hb => ⟨h.ac hc hb,?_⟩⟩
 ·have hin:i < n:=by rw [← ksL_len s o x y n]; exact (List.getElem?_eq_some_iff.1 hi).1
  rw [ksL_at s o x y hin] at hi
  obtain rfl:=Option.some.inj hi
  exact mask_ok hm hS o _ _
 ·have hi:i < n:=by rw [← h.la]; exact (List.getElem?_eq_some_iff.1 hc).1
  have k:=Fr.ok_step ho (by have:=h.ok i hi; rw [Fm.at_of hc hb] at this; exact this:Fr.ok s.mx ⟨f.o,c,b⟩)
  exact k
theorem RowOk.paint {s:Scr} {o:Opr} {n:Nat} {x y nn:Int} {ps:List Px} {f:Fm} (hm:s.mx = 255 ∨ s.mx = 65535) (hS:SrcOk s.ims s.mx) (h:RowOk s n f) (ho:o.ok nn s.mx f.o.free) (hj:0 ≤ o.oc) (hl:ps.length = n) (hp:∀ (i:Nat) (p:Px),ps[i]? = some p → Px.ok s.mx p) (aA:Option Addr) (ca:Nat) :
  RowOk s n { f with aA:=aA,ca:=ca,acc:=f.pt s o x y n ps }:=by
 refine ⟨pt_len h hl,h.lb,fun k hk => ?_⟩
 have e:ps[k]? = some (ps[k]'(by rw [hl]; exact hk)):=List.getElem?_eq_getElem _
 rw [pt_at h hk e]
 obtain ⟨k0,k1⟩:=mask_ok hm hS o (x + k) y
 exact Fr.ok_paint hm (h.ok k hk) ho (hp k _ e) hj k0 k1
theorem res_ok {s:Scr} {n:Nat} {f:Fm} (hm:s.mx = 255 ∨ s.mx = 65535) (h:RowOk s n f):∀ (i:Nat) (p:Px),(resL s.mx f.acc f.back)[i]? = some p → Px.ok s.mx p:=fun i p hi => by
 have hin:i < n:=by rw [← res_len h]; exact (List.getElem?_eq_some_iff.1 hi).1
 rw [res_at h hin] at hi
 obtain rfl:=Option.some.inj hi
 exact resF_ok hm (h.ok i hin).ac
section
variable {P:Program} {ops:Array Oper} {Q:Exit → Act → World → Prop} {md:Region.Mode} {S:World → Prop}
theorem C_first2 {c i m:Nat} {oi oc om:Oper} {v:Value} (hi:ops[i]? = some oi) (hoc:ops[c]? = some oc) (hom:ops[m]? = some om) (hw:∃ e ∈ oc.after,Region.binds md e = true ∧ e.on = m) (hw2:∃ e ∈ om.after,Region.binds md e = true ∧ e.on = i) (hsel:∀ (j:Nat) (o:Oper) cs b,ops[j]? = some o → o.op ≠ .select cs b)
  (hQ:∀ p a w,Q (.panic p) (a.put oi.dst v) w → Q (.panic p) a w) :
  ∀ (fuel:Nat) (listed:Array Bool) (a:Act) (w:World),
   (∀ j oj,ops[j]? = some oj → j ≠ i → listed.getD j true = false → (∀ e ∈ oj.after,Region.binds md e = true → e.on ≠ i) → oi.apart ops oj = true) →
   i ∈ Region.ready md ops listed → listed.getD c true = false → listed.getD m true = false → YieldsIf P ops S oi v a → S w →
   wpAnyC P md ops Q c S fuel (listed.setIfInBounds i true) (a.put oi.dst v) w → wpAnyC P md ops Q c S (fuel + 1) listed a w:=by
 intro fuel
 induction fuel with
 | zero =>
  intro listed a w _ hr hcl hml hy hS H
  refine ⟨fun h => (by rw [h] at hr; cases hr),fun j hj => ?_⟩
  by_cases hji:j = i
  ·subst hji
   exact hy.wpOp hi hS ⟨fun _ => hS,H⟩
  ·have h0:=ready_mono hj hji
   rw [H.1] at h0
   cases h0
 | succ fuel ih =>
  intro listed a w hfree hr hcl hml hy hS H
  have hun:=(mem_ready.1 hr).1
  refine ⟨fun h => (by rw [h] at hr; cases hr),fun j hj => ?_⟩
  by_cases hji:j = i
  ·subst hji
   exact hy.wpOp hi hS ⟨fun _ => hS,H⟩
  ·obtain ⟨hjun,oj,hoj,hall⟩:=mem_ready.1 hj
   have hno:∀ e ∈ oj.after,Region.binds md e = true → e.on ≠ i:=fun e he hb heq => by
    have h1:=hall e he hb
    rw [heq,getD_both hun] at h1
    cases h1
   have hjc:j ≠ c:=by
    rintro rfl
    obtain ⟨e,he,hb,heq⟩:=hw
    obtain rfl:=Option.some.inj (hoj.symm.trans hoc)
    have h1:=hall e he hb
    rw [heq,getD_both hml] at h1
    cases h1
   have hjm:j ≠ m:=by
    rintro rfl
    obtain ⟨e,he,hb,heq⟩:=hw2
    obtain rfl:=Option.some.inj (hoj.symm.trans hom)
    exact hno e he hb heq
   have h2:=wpOp_putIf hoj (hfree j oj hoj hji hjun hno) (fun cs b => hsel i oi cs b hi) (fun cs b => hsel j oj cs b hoj) hQ hy (H.2 j (ready_mono hj hji))
   have hic:i ≠ c:=by
    rintro rfl
    obtain ⟨e,he,hb,heq⟩:=hw
    obtain rfl:=Option.some.inj (hi.symm.trans hoc)
    obtain ⟨_,oi',hoi',hall'⟩:=mem_ready.1 hr
    obtain rfl:=Option.some.inj (hoi'.symm.trans hi)
    have h1:=hall' e he hb
    rw [heq,getD_both hml] at h1
    cases h1
   have hml2:(listed.setIfInBounds j true).getD m true = false:=by rw [getD_set_ne true hjm]; exact hml
   have hcl2:(listed.setIfInBounds j true).getD c true = false:=by rw [getD_set_ne true hjc]; exact hcl
   have hcl3:((listed.setIfInBounds i true).setIfInBounds j true).getD c true = false:=by rw [getD_set_ne true hjc,getD_set_ne true hic]; exact hcl
   refine wpOp_mono (fun a' w' h3 => ⟨fun _ => h3.2.1 hcl3,ih (listed.setIfInBounds j true) a' w' (fun k ok hk hki hku hnk => hfree k ok hk hki ?_ hnk) (ready_mono hr (Ne.symm hji)) hcl2 hml2 h3.1 (h3.2.1 hcl3) ?_⟩) h2
   ·by_cases hjk:j = k
    ·subst hjk
     exact hjun
    ·rwa [getD_set_ne true hjk] at hku
   ·rw [Array.setIfInBounds_comm _ _ hji]
    exact h3.2.2
theorem C_take2 {c i:Nat} (m:Nat) {oi:Oper} {v:Value} {fuel:Nat} {listed:Array Bool} {a:Act} {w:World} (hi:ops[i]? = some oi) (hs:Region.noSelect ops = true) (hf:Region.free md ops listed i = true) (hr:(Region.ready md ops listed).contains i = true)
  (hw:Region.waitsFor md ops c m = true) (hw2:Region.waitsFor md ops m i = true) (hcl:listed.getD c true = false) (hml:listed.getD m true = false) (hQ:∀ p a w,Q (.panic p) (a.put oi.dst v) w → Q (.panic p) a w) (hS:S w) (hy:YieldsIf P ops S oi v a)
  (h:wpAnyC P md ops Q c S fuel (listed.setIfInBounds i true) (a.put oi.dst v) w):wpAnyC P md ops Q c S (fuel + 1) listed a w:=by
 obtain ⟨oc,hoc,hw⟩:=Region.waitsFor_spec hw
 obtain ⟨om,hom,hw2⟩:=Region.waitsFor_spec hw2
 exact C_first2 hi hoc hom hw hw2 (Region.noSelect_spec hs) hQ fuel listed a w (Region.free_spec hi hf) (by simpa using hr) hcl hml hy hS h
end
def acOkZ (R can:Rc) (l:List Img) (al:List Bool):List Fo → Nat → Prop
 | [],_ => True
 | F :: Fs,i => acOk R can l al F i ∧ acOkZ R can l al Fs (i + F.sz + 1)
def endsOkZ (el:List Int):List Fo → Nat → Prop
 | [],_ => True
 | F :: Fs,i => endsOk el F i ∧ endsOkZ el Fs (i + F.sz + 1)
def okR (n mx:Int):List Fo → List Fm → Prop
 | [F],[f] => F.ok n mx f.o.free ∧ F.pos
 | F :: G :: Fs,f :: g :: fs => (F.ok n mx f.o.free ∧ F.pos) ∧ (f.o.ok n mx g.o.free ∧ 0 ≤ f.o.oc ∧ f.o.k = 2) ∧ okR n mx (G :: Fs) (g :: fs)
 | _,_ => False
theorem okR_head {n mx:Int} {F:Fo} {Fs:List Fo} {f:Fm} {fs:List Fm} (h:okR n mx (F :: Fs) (f :: fs)):F.ok n mx f.o.free ∧ F.pos:=by
 cases Fs with
 | nil => cases fs with
  | nil => exact h
  | cons g fs => exact False.elim h
 | cons G Fs => cases fs with
  | nil => exact False.elim h
  | cons g fs => exact h.1
theorem okR_swap {n mx:Int} {F F':Fo} {Fs:List Fo} {f f':Fm} {fs:List Fm} (h:okR n mx (F :: Fs) (f :: fs)) (hF:F'.ok n mx f.o.free ∧ F'.pos) (ho:f'.o = f.o):okR n mx (F' :: Fs) (f' :: fs):=by
 cases Fs with
 | nil => cases fs with
  | nil => exact (ho ▸ hF:F'.ok n mx f'.o.free ∧ F'.pos)
  | cons g fs => exact False.elim h
 | cons G Fs => cases fs with
  | nil => exact False.elim h
  | cons g fs => exact ⟨(ho ▸ hF:F'.ok n mx f'.o.free ∧ F'.pos),(ho ▸ h.2.1:f'.o.ok n mx g.o.free ∧ 0 ≤ f'.o.oc ∧ f'.o.k = 2),h.2.2⟩
theorem evalF_b (can:Rc) (l:List Img) (mx:Int) (R:Rc) (X Y:Int) (F:Fo):∀ f:Fr,(evalF can l mx R X Y F f).b = f.b:=by
 induction F with
 | nil => exact fun f => rfl
 | draw o r ih =>
  intro f
  unfold evalF
  rw [ih]
  split <;> rfl
 | grp o k r _ ihr =>
  intro f
  unfold evalF
  rw [ihr]
  split <;> rfl
structure RwS (s:Scr) (R:Rc) (el:List Int) (al:List Bool) (F:Fo) (n:Nat) (x y:Int) (i:Nat) (Fs:List Fo) (fs:List Fm):Prop where
 ops:s.ops.drop i = conc Fs
 fit:okR s.inn s.mx Fs fs
 rows:∀ f ∈ fs,RowOk s n f
 ac:acOkZ R s.can s.ims al Fs i
 en:endsOkZ el Fs i
 ev:∀ k,k < n → evalZ s.can s.ims s.mx R (x + k) y Fs (fs.map (·.at k)) = evalF s.can s.ims s.mx R (x + k) y F baseF
section
variable {s:Scr} {R:Rc} {el:List Int} {al:List Bool} {F:Fo} {n:Nat} {x y:Int} {i:Nat} {Fs:List Fo} {f:Fm} {fs:List Fm}
theorem dropCons {α:Type} {l r:List α} {a:α} {i:Nat} (h:l.drop i = a :: r):l[i]? = some a ∧ l.drop (i + 1) = r:=by
 refine ⟨?_,?_⟩
 ·have:=congrArg (fun m => m[0]?) h
  simpa using this
 ·rw [← List.drop_drop,h]
  rfl
theorem RwS.drawOff {o:Opr} {r:Fo} (h:RwS s R el al F n x y i (.draw o r :: Fs) (f :: fs)) (hh:hits (dBox s.can s.ims o) R = false):RwS s R el al F n x y (i + 1) (r :: Fs) (f :: fs):=by
 have ho:=h.ops
 rw [conc_draw] at ho
 have hf:=okR_head h.fit
 have hac:=h.ac
 have hen:=h.en
 simp only [acOkZ,acOk,Fo.sz] at hac
 simp only [endsOkZ,endsOk,Fo.sz] at hen
 refine ⟨(dropCons ho).2,okR_swap h.fit ⟨hf.1.2.2,hf.2.2⟩ rfl,h.rows,⟨hac.1.2,?_⟩,⟨hen.1.2,?_⟩,fun k hk => ?_⟩
 ·rw [show i + 1 + r.sz + 1 = i + (r.sz + 1) + 1 by omega]; exact hac.2
 ·rw [show i + 1 + r.sz + 1 = i + (r.sz + 1) + 1 by omega]; exact hen.2
 ·rw [← h.ev k hk,List.map_cons,evalZ_draw,hh]
  rfl
theorem RwS.drawOn {o:Opr} {r:Fo} {ps:List Px} (hm:s.mx = 255 ∨ s.mx = 65535) (hS:SrcOk s.ims s.mx) (h:RwS s R el al F n x y i (.draw o r :: Fs) (f :: fs)) (hh:hits (dBox s.can s.ims o) R = true) (hl:ps.length = n) (hps:∀ k,k < n → ps[k]? = some (sAt s.ims o (x + k) y)) (aA:Option Addr) (ca:Nat) :
  RwS s R el al F n x y (i + 1) (r :: Fs) ({ f with aA:=aA,ca:=ca,acc:=f.pt s o x y n ps } :: fs):=by
 have ho:=h.ops
 rw [conc_draw] at ho
 have hf:=okR_head h.fit
 have hac:=h.ac
 have hen:=h.en
 simp only [acOkZ,acOk,Fo.sz] at hac
 simp only [endsOkZ,endsOk,Fo.sz] at hen
 have hp:∀ (j:Nat) (p:Px),ps[j]? = some p → Px.ok s.mx p:=fun j p hj => by
  have hjn:j < n:=by rw [← hl]; exact (List.getElem?_eq_some_iff.1 hj).1
  rw [hps j hjn] at hj
  obtain rfl:=Option.some.inj hj
  exact hS.px _ _ _
 have hr:=h.rows f (List.mem_cons_self)
 refine ⟨(dropCons ho).2,okR_swap h.fit ⟨hf.1.2.2,hf.2.2⟩ rfl,fun g hg => ?_,⟨hac.1.2,?_⟩,⟨hen.1.2,?_⟩,fun k hk => ?_⟩
 ·rcases List.mem_cons.1 hg with rfl | hg
  ·exact RowOk.paint hm hS hr hf.1.2.1 hf.2.1 hl hp aA ca
  ·exact h.rows g (List.mem_cons_of_mem _ hg)
 ·rw [show i + 1 + r.sz + 1 = i + (r.sz + 1) + 1 by omega]; exact hac.2
 ·rw [show i + 1 + r.sz + 1 = i + (r.sz + 1) + 1 by omega]; exact hen.2
 ·rw [← h.ev k hk,List.map_cons,List.map_cons,evalZ_draw,hh,pt_at hr hk (hps k hk)]
  rfl
theorem RwS.grpOff {o:Opr} {k r:Fo} (h:RwS s R el al F n x y i (.grp o k r :: Fs) (f :: fs)) (hh:hits (gBox s.can s.ims o k) R = false):RwS s R el al F n x y (i + k.sz + 2) (r :: Fs) (f :: fs):=by
 have ho:=h.ops
 rw [conc_grp] at ho
 have hf:=okR_head h.fit
 have hac:=h.ac
 have hen:=h.en
 simp only [acOkZ,acOk,Fo.sz] at hac
 simp only [endsOkZ,endsOk,Fo.sz] at hen
 refine ⟨?_,okR_swap h.fit ⟨hf.1.2.2.2,hf.2.2.2⟩ rfl,h.rows,⟨hac.1.2.2,?_⟩,⟨hen.1.2.2,?_⟩,fun j hj => ?_⟩
 ·have h1:=(dropCons ho).2
  rw [conc_flat] at h1
  have h2:s.ops.drop (i + 1 + k.sz) = popO :: conc (r :: Fs):=by
   rw [← List.drop_drop,h1,List.drop_append_of_le_length (by rw [k.len]; exact Nat.le_refl _),List.drop_of_length_le (by rw [k.len]; exact Nat.le_refl _)]
   rfl
  have h3:=(dropCons h2).2
  rw [show i + k.sz + 2 = i + 1 + k.sz + 1 by omega]
  exact h3
 ·rw [show i + k.sz + 2 + r.sz + 1 = i + (k.sz + r.sz + 2) + 1 by omega]; exact hac.2
 ·rw [show i + k.sz + 2 + r.sz + 1 = i + (k.sz + r.sz + 2) + 1 by omega]; exact hen.2
 ·rw [← h.ev j hj,List.map_cons,evalZ_skip _ _ _ _ _ _ _ _ _ _ _ _ hh]
theorem RwS.grpOn {o:Opr} {k r:Fo} (hm:s.mx = 255 ∨ s.mx = 65535) (h:RwS s R el al F n x y i (.grp o k r :: Fs) (f :: fs)) (hh:hits (gBox s.can s.ims o k) R = true) (aA bA:Option Addr) (ca cb:Nat):RwS s R el al F n x y (i + 1) (k :: r :: Fs) (f.psh o aA ca bA cb :: f :: fs):=by
 have ho:=h.ops
 rw [conc_grp] at ho
 have hf:=okR_head h.fit
 have hac:=h.ac
 have hen:=h.en
 simp only [acOkZ,acOk,Fo.sz] at hac
 simp only [endsOkZ,endsOk,Fo.sz] at hen
 have hr:=h.rows f (List.mem_cons_self)
 refine ⟨(dropCons ho).2,⟨⟨hf.1.2.2.1,hf.2.2.1⟩,⟨hf.1.2.1,hf.2.1,hf.1.1⟩,okR_swap h.fit ⟨hf.1.2.2.2,hf.2.2.2⟩ rfl⟩,fun g hg => ?_,⟨hac.1.2.1 hh,?_⟩,⟨hen.1.2.1,?_⟩,fun j hj => ?_⟩
 ·rcases List.mem_cons.1 hg with rfl | hg
  ·exact RowOk.push (by omega) hr o aA bA ca cb
  ·exact h.rows g hg
 ·rw [show i + 1 + k.sz + 1 = i + k.sz + 2 by omega]
  refine ⟨hac.1.2.2,?_⟩
  rw [show i + k.sz + 2 + r.sz + 1 = i + (k.sz + r.sz + 2) + 1 by omega]; exact hac.2
 ·rw [show i + 1 + k.sz + 1 = i + k.sz + 2 by omega]
  refine ⟨hen.1.2.2,?_⟩
  rw [show i + k.sz + 2 + r.sz + 1 = i + (k.sz + r.sz + 2) + 1 by omega]; exact hen.2
 ·rw [← h.ev j hj,List.map_cons,List.map_cons,evalZ_in _ _ _ _ _ _ _ _ _ _ _ _ hh,psh_at hr hj]
theorem RwS.pop {G:Fo} {g:Fm} (hm:s.mx = 255 ∨ s.mx = 65535) (hS:SrcOk s.ims s.mx) (h:RwS s R el al F n x y i (.nil :: G :: Fs) (f :: g :: fs)) (aA:Option Addr) (ca:Nat) :
  RwS s R el al F n x y (i + 1) (G :: Fs) ({ g with aA:=aA,ca:=ca,acc:=g.pt s f.o x y n (resL s.mx f.acc f.back) } :: fs):=by
 have ho:=h.ops
 rw [conc_nil] at ho
 have hac:=h.ac
 have hen:=h.en
 simp only [acOkZ,acOk,Fo.sz,true_and,Nat.add_zero] at hac
 simp only [endsOkZ,endsOk,Fo.sz,true_and,Nat.add_zero] at hen
 have hrf:=h.rows f (List.mem_cons_self)
 have hrg:=h.rows g (List.mem_cons_of_mem _ (List.mem_cons_self))
 obtain ⟨-,⟨h1,h2,-⟩,h3⟩:=h.fit
 refine ⟨(dropCons ho).2,okR_swap h3 (okR_head h3) rfl,fun q hq => ?_,hac,hen,fun k hk => ?_⟩
 ·rcases List.mem_cons.1 hq with rfl | hq
  ·exact RowOk.paint hm hS hrg h1 h2 (res_len hrf) (res_ok hm hrf) aA ca
  ·exact h.rows q (List.mem_cons_of_mem _ (List.mem_cons_of_mem _ hq))
 ·rw [← h.ev k hk,List.map_cons,List.map_cons,List.map_cons,evalZ_pop,pt_at hrg hk (res_at hrf hk)]
  rfl
theorem concEmpty {n mx:Int} {Fs:List Fo} {fs:List Fm} (h:conc Fs = []) (hk:okR n mx Fs fs):∃ f,Fs = [.nil] ∧ fs = [f]:=by
 cases Fs with
 | nil => simp [okR] at hk
 | cons F Fs =>
  cases F with
  | draw o r => rw [conc_draw] at h; cases h
  | grp o k r => rw [conc_grp] at h; cases h
  | nil =>
   cases Fs with
   | cons G Fs => rw [conc_nil] at h; cases h
   | nil =>
    cases fs with
    | nil => simp [okR] at hk
    | cons f fs =>
     cases fs with
     | nil => exact ⟨f,rfl,rfl⟩
     | cons g fs => simp [okR] at hk
theorem RwS.done (h:RwS s R el al F n x y i Fs fs) (hi:s.ops.length ≤ i):∃ f,Fs = [.nil] ∧ fs = [f] ∧ RowOk s n f ∧ resL s.mx f.acc f.back = (List.range n).map fun k:Nat => ptF s.can s.ims s.mx R F (x + k) y:=by
 obtain ⟨f,rfl,rfl⟩:=concEmpty (by rw [← h.ops]; exact List.drop_of_length_le hi) h.fit
 have hr:=h.rows f (List.mem_singleton.2 rfl)
 refine ⟨f,rfl,rfl,hr,?_⟩
 apply List.ext_getElem?
 intro k
 by_cases hk:k < n
 ·rw [res_at hr hk,List.getElem?_map,List.getElem?_range hk]
  have e:f.at k = evalF s.can s.ims s.mx R (x + k) y F baseF:=h.ev k hk
  have hb:(f.at k).b = pxz:=by rw [e]; exact evalF_b s.can s.ims s.mx R (x + k) y F baseF
  simp only [Option.map_some]
  unfold ptF
  rw [hb,e]
 ·rw [List.getElem?_eq_none (by rw [res_len hr]; omega),List.getElem?_eq_none (by simp; omega)]
end
theorem PnI.popped {w0 W:World} {s:Scr} {el:List Int} {gp n m c:Nat} {A:Option Addr} {ev:Value} {st:List Fm} {f:Fm} (I:PnI w0 s el gp n ev W (.slice A (m + 1) c) (st ++ [f])) (hm:st.length = m) :
  PnI w0 s el gp n ev (W.setCell ⟨gp,12,none⟩ (.slice A m c)) (.slice A m c) st ∧ Kept W (W.setCell ⟨gp,12,none⟩ (.slice A m c)):=by
 have hk:Kept W (W.setCell ⟨gp,12,none⟩ (.slice A m c)):=Kept.of_upd (setCells_upd gp [.slice A m c] 12 W) I.eP (.inl rfl)
 have hsk:=I.sk
 rw [show (st ++ [f]).length = m + 1 by simp [hm]] at hsk
 have h1:=own_cut (m:=m) hsk (by omega) (by omega)
 have e:((st ++ [f]).flatMap (Fm.cs n)).take (m * 14) = st.flatMap (Fm.cs n):=by
  have hl:(st.flatMap (Fm.cs n)).length = m * 14:=by rw [flat_len (f:=Fm.cs n) (k:=14) (fun _ => rfl),hm]
  rw [List.flatMap_append,List.take_append_of_le_length (by rw [hl]; exact Nat.le_refl _),List.take_of_length_le (by rw [hl]; exact Nat.le_refl _)]
 rw [e] at h1
 refine ⟨⟨I.hB.setCell I.g0 _,I.g0,heap_set _ I.eP,own_keep I.en hk (by decide) (by decide),?_,fun g hg => (I.fr g (List.mem_append.2 (.inl hg))).keep hk⟩,hk⟩
 rw [hm]
 exact own_upd h1 (setCells_upd gp [.slice A m c] 12 W) (own_ne_heap h1 I.eP (by decide))
theorem bl_cell {W:World} {base n c i:Nat} {A:Option Addr} {t:TypeId} {al:List Bool} {b:Bool} (h:W.ownsRow base t 1 (.slice A n c) n (bls al)) (hi:al[i]? = some b) (hn:i < n):∃ g,A = some ⟨g,0,none⟩ ∧ W.cell? ⟨g,i,none⟩ = some (.bool b):=by
 obtain ⟨g,c',e,-,-,-⟩:=own_at h (by omega) (by decide)
 cases e
 refine ⟨g,rfl,?_⟩
 rw [h.cellAt i (by omega)]
 unfold bls
 rw [List.getElem?_map,hi]
 rfl
theorem in_cell {W:World} {base n c i:Nat} {g:Nat} {t:TypeId} {el:List Int} {b:Int} (h:W.ownsRow base t 1 (.slice (some ⟨g,0,none⟩) n c) n (ints64 el)) (hi:el[i]? = some b) (hn:i < n):W.cell? ⟨g,i,none⟩ = some (.int .i64 b):=by
 rw [h.cellAt i (by omega)]
 unfold ints64
 rw [List.getElem?_map,hi]
 rfl
theorem fm_opld {W:World} {g n:Nat} {f:Fm} (h:W.heap[g]? = some (.cells (f.cs n).toArray 131)):Sem.run Tryz.prog (Instr.loadAt 29 (.pointer (some ⟨g,0,none⟩))) W = .ok f.o.v W:=by
 refine run_loadAt_mid (P:=Tryz.prog) W g 0 29 f.o.cs _ (fun j v hv => ?_) Tryz.underlying29 (by rfl) (by kernel_rfl)
 have hj:j < 12:=(List.getElem?_eq_some_iff.1 hv).1
 rw [Nat.zero_add]
 refine cell_of h ?_
 rw [List.getElem?_toArray]
 show (f.o.cs ++ [_,_])[j]? = some v
 rw [List.getElem?_append_left hj,hv]
theorem conc_deep (Fs:List Fo):Fs.length ≤ (conc Fs).length + 1:=by
 induction Fs with
 | nil => exact Nat.zero_le _
 | cons F Fs ih =>
  cases Fs with
  | nil => simp
  | cons G Fs =>
   rw [conc_flat,List.length_append,List.length_cons]
   simp only [List.length_cons] at ih ⊢
   omega
theorem okR_len {n mx:Int}:∀ {Fs:List Fo} {fs:List Fm},okR n mx Fs fs → Fs.length = fs.length
 | [],_,h => by simp [okR] at h
 | [F],[],h => False.elim h
 | [F],[f],h => rfl
 | [F],f :: g :: fs,h => False.elim h
 | F :: G :: Fs,[],h => False.elim h
 | F :: G :: Fs,[f],h => False.elim h
 | F :: G :: Fs,f :: g :: fs,h => by
  have:=okR_len h.2.2
  simp only [List.length_cons] at this ⊢
  omega
theorem RwS.deep {s:Scr} {R:Rc} {el:List Int} {al:List Bool} {F:Fo} {n:Nat} {x y:Int} {i:Nat} {Fs:List Fo} {fs:List Fm} (h:RwS s R el al F n x y i Fs fs):fs.length ≤ s.ops.length + 1:=by
 rw [← okR_len h.fit]
 refine Nat.le_trans (conc_deep Fs) ?_
 rw [← h.ops,List.length_drop]
 omega
theorem RwS.grpLen {s:Scr} {R:Rc} {el:List Int} {al:List Bool} {F:Fo} {n:Nat} {x y:Int} {i:Nat} {Fs:List Fo} {fs:List Fm} {o:Opr} {k r:Fo} (h:RwS s R el al F n x y i (.grp o k r :: Fs) fs):i + k.sz + 2 ≤ s.ops.length:=by
 have ho:=congrArg List.length h.ops
 rw [conc_grp,conc_flat,List.length_drop,List.length_cons,List.length_append,List.length_cons,k.len] at ho
 omega
theorem Kept.dr {w W:World} (h:Kept w W):Kept w W.drew:=h.trans (Kept.of_bel (Bel.refl W).dr)
theorem paint_any (w0:World) (s:Scr) (el:List Int) (gp n:Nat) (ev sv:Value) (st:List Fm) (f:Fm) (w:World) (hs:s.In w0) (hR:Ruled w0) (him:∀ m ∈ s.ims,m.sm) (hmx:s.mx = 255 ∨ s.mx = 65535) (hS:SrcOk s.ims s.mx) (I:PnI w0 s el gp n ev w sv (st ++ [f])) (hst:st.length ≤ 1000) (n1:1 ≤ n) (n2:n ≤ 100) (o:Opr) (nn:Int) (hnn:nn = s.inn) (ho:o.ok nn s.mx f.o.free) (hj:0 ≤ o.oc) (hr:RowOk s n f)
  (x y:Int) (x0:-2097152 ≤ x) (x1:x ≤ 2097152) (y0:-2097152 ≤ y) (y1:y ≤ 2097152) (ps:List Px) (hl:ps.length = n) (hp:∀ (i:Nat) (p:Px),ps[i]? = some p → Px.ok s.mx p) (A1:Option Addr) (c1:Nat) (hsl:Sl w 5 n A1 (pxs ps)) :
  Calls Tryz.prog 76 #[.pointer (some ⟨gp,0,none⟩),o.v,.slice A1 n c1,.int .i64 x,.int .i64 y] w fun e w' => e = .returned (.tuple #[]) ∧ ∃ aA ca,PnI w0 s el gp n ev w' sv (st ++ [{ f with aA:=aA,ca:=ca,acc:=f.pt s o x y n ps }]) ∧ Kept w w':=by
 have hc:PtC s o f.o.kn n x y ps f:=ptC_of hmx hS hr ho hj hl hp
 subst hnn
 by_cases hz:o.ms = 0
 ·exact paint_none w0 s el gp n ev sv st f w hs hR I hst n1 n2 o hz ho.nr x y x0 x1 y0 y1 ps A1 c1 hsl hc
 ·obtain ⟨i,hi⟩:∃ i:Nat,o.ms = i + 1:=⟨(o.ms - 1).toNat,by have:=ho.ms.1; omega⟩
  have hlt:i < s.ims.length:=by have:=ho.ms.2; have:=hs.lims; omega
  exact paint_mask w0 s el gp n ev sv st f w hs hR I hst n1 n2 o i hi _ (List.getElem?_eq_getElem hlt) (him _ (List.getElem_mem hlt)) ho.nr x y x0 x1 y0 y1 ps A1 c1 hsl hc
end Go.Proofs.YtepfoelgegljbaaGreatDoor
