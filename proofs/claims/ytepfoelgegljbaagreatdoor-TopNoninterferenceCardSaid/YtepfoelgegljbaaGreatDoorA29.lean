/- Part A29. -/
import Derived.Test.YtepfoelgegljbaaGreatDoorA27
import Derived.Test.YtepfoelgegljbaaGreatDoorA28
namespace Go.Proofs.YtepfoelgegljbaaGreatDoor
set_option maxRecDepth 100000
open Go.RowKit
set_option linter.unusedVariables false
structure Fm where
 o:Opr
 aA:Option Addr
 ca:Nat
 bA:Option Addr
 cb:Nat
 acc:List Ac
 back:List Px
abbrev Fm.cs (n:Nat) (f:Fm):List Value:=[.int .i64 f.o.k,.int .i64 f.o.im,.int .i64 f.o.x,.int .i64 f.o.y,.int .i64 f.o.ms,.int .i64 f.o.mx,.int .i64 f.o.my,.int .u16 f.o.oc,.int .i64 f.o.op,.int .i64 f.o.md,.bool f.o.iso,.bool f.o.kn,.slice f.aA n f.ca,.slice f.bA n f.cb]
structure Fm.In (n base:Nat) (W:World) (f:Fm):Prop where
 la:f.acc.length = n
 lb:f.back.length = n
 ac:W.ownsRow base 151 6 (.slice f.aA n f.ca) n (acs f.acc)
 bk:W.ownsRow base 32 5 (.slice f.bA n f.cb) n (pxs f.back)
def Kept (w w':World):Prop:=w.heap.size ≤ w'.heap.size ∧ ∀ (b:Nat) (cs:Array Value) (t:TypeId) (fr:Nat × Nat),w.heap[b]? = some (.cells cs t fr) → t ≠ 112 → t ≠ 131 → w'.heap[b]? = some (.cells cs t fr)
theorem Kept.refl (w:World):Kept w w:=⟨Nat.le_refl _,fun _ _ _ _ e _ _ => e⟩
theorem Kept.trans {u v w:World} (h:Kept u v) (k:Kept v w):Kept u w:=⟨Nat.le_trans h.1 k.1,fun b cs t fr e h1 h2 => k.2 b cs t fr (h.2 b cs t fr e h1 h2) h1 h2⟩
theorem Kept.of_bel {w w':World} (h:Bel w w'):Kept w w':=⟨h.size',fun b cs t fr e _ _ => h.heap e⟩
theorem Kept.of_upd {g:Nat} {w w':World} {cs:Array Value} {t:TypeId} {fr:Nat × Nat} (h:Upd g w w') (e:w.heap[g]? = some (.cells cs t fr)) (ht:t = 112 ∨ t = 131):Kept w w' :=
 ⟨by rw [h.size]; exact Nat.le_refl _,fun b cs' t' fr' e' h1 h2 => (h.block b (fun hb => by
  subst hb
  rw [e] at e'
  cases e'
  exact ht.elim h1 h2)).trans e'⟩
theorem own_keep {w w':World} {base k n:Nat} {e:TypeId} {v:Value} {xs:List Value} (h:w.ownsRow base e k v n xs) (hk:Kept w w') (h1:e ≠ 112) (h2:e ≠ 131):w'.ownsRow base e k v n xs :=
 ⟨h.1,h.2.imp id fun ⟨g,cap,cur,e1,e2,e3,r⟩ => ⟨g,cap,cur,e1,e2,hk.2 _ _ _ _ e3 h1 h2,r⟩⟩
theorem Fm.In.keep {n base:Nat} {w w':World} {f:Fm} (h:f.In n base w) (hk:Kept w w'):f.In n base w':=⟨h.la,h.lb,own_keep h.ac hk (by decide) (by decide),own_keep h.bk hk (by decide) (by decide)⟩
structure PnI (w0:World) (s:Scr) (el:List Int) (gp n:Nat) (ev:Value) (W:World) (sv:Value) (st:List Fm):Prop where
 hB:Bel w0 W
 g0:w0.heap.size ≤ gp
 eP:W.heap[gp]? = some (pnO s ev sv)
 en:W.ownsRow w0.heap.size 3 1 ev s.pn (ints64 el)
 sk:W.ownsRow w0.heap.size 131 14 sv st.length (st.flatMap (Fm.cs n))
 fr:∀ f ∈ st,f.In n w0.heap.size W
section
variable {w0 W:World} {s:Scr} {el:List Int} {gp n:Nat} {ev sv:Value} {st:List Fm}
theorem PnI.bel (I:PnI w0 s el gp n ev W sv st) {W':World} (hb:Bel W W'):PnI w0 s el gp n ev W' sv st :=
 ⟨I.hB.trans hb,I.g0,hb.heap I.eP,own_ext I.en hb,own_ext I.sk hb,fun f hf => (I.fr f hf).keep (Kept.of_bel hb)⟩
end
set_option linter.unusedSimpArgs false
theorem own_sl' {w:World} {base k n c:Nat} {e:TypeId} {A:Option Addr} {xs:List Value} (h:w.ownsRow base e k (.slice A n c) n xs):Sl w k n A xs:=by
 obtain ⟨A',c',e',hs⟩:=own_sl h
 cases e'
 exact hs
theorem fm_at {n i:Nat} {st:List Fm} {f:Fm} (j:Nat) (hj:j < 14) (h:st[i]? = some f):(st.flatMap (Fm.cs n))[i * 14 + j]? = (f.cs n)[j]?:=flat_get (f:=Fm.cs n) (fun _ => rfl) st i j f h hj
theorem fm_set {n m:Nat} {st:List Fm} {f:Fm} (hm:st.length = m) (A:Option Addr) (c:Nat) (L:List Ac):((st ++ [f]).flatMap (Fm.cs n)).set (m * 14 + 12) (.slice A n c) = (st ++ [{ f with aA:=A,ca:=c,acc:=L }]).flatMap (Fm.cs n):=by
 rw [List.flatMap_append,List.flatMap_append,List.set_append_right _ _ (by rw [flat_len (f:=Fm.cs n) (k:=14) (fun _ => rfl),hm]; omega),flat_len (f:=Fm.cs n) (k:=14) (fun _ => rfl),hm,show m * 14 + 12 - m * 14 = 12 by omega]
 rfl
section
variable {w0 W:World} {s:Scr} {el:List Int} {gp n:Nat} {ev sv:Value} {st:List Fm} {f:Fm}
theorem PnI.acc {gs c m:Nat} (I:PnI w0 s el gp n ev W (.slice (some ⟨gs,0,none⟩) (m + 1) c) (st ++ [f])) (hm:st.length = m) {A:Option Addr} {ca:Nat} {L:List Ac} (hl:L.length = n) (hA:W.ownsRow w0.heap.size 151 6 (.slice A n ca) n (acs L)) :
  PnI w0 s el gp n ev (W.setCell ⟨gs,m * 14 + 12,none⟩ (.slice A n ca)) (.slice (some ⟨gs,0,none⟩) (m + 1) c) (st ++ [{ f with aA:=A,ca:=ca,acc:=L }]) ∧ Kept W (W.setCell ⟨gs,m * 14 + 12,none⟩ (.slice A n ca)):=by
 have hsk:=I.sk
 have hln:(st ++ [f]).length = m + 1:=by simp [hm]
 rw [hln] at hsk
 have hgs:w0.heap.size ≤ gs ∧ gs < W.heap.size:=hsk.lt gs rfl
 obtain ⟨cur,fr,ecur⟩:∃ (cur:Array Value) (fr:Nat × Nat),W.heap[gs]? = some (.cells cur 131 fr):=by
  rcases hsk.2 with ⟨hv,-⟩ | ⟨g,cap,cur,e1,e2,e3,_⟩
  ·cases hv
  ·cases e1
   exact ⟨cur,_,e3⟩
 have hU:Upd gs W (W.setCell ⟨gs,m * 14 + 12,none⟩ (.slice A n ca)):=setCells_upd gs [.slice A n ca] (m * 14 + 12) W
 have hK:Kept W (W.setCell ⟨gs,m * 14 + 12,none⟩ (.slice A n ca)):=Kept.of_upd hU ecur (.inr rfl)
 have hgp:gs ≠ gp:=fun e => by
  subst e
  have h2:=ecur.symm.trans I.eP
  unfold pnO at h2
  simp at h2
 refine ⟨⟨I.hB.setCell hgs.1 _,I.g0,(hU.heap I.eP (fun e => hgp e.symm)),own_keep I.en hK (by decide) (by decide),?_,fun f' hf' => ?_⟩,hK⟩
 ·have h:=(hsk.stored (m * 14 + 12) (.slice A n ca)).1
  rw [fm_set hm] at h
  have hln':(st ++ [{ f with aA:=A,ca:=ca,acc:=L }]).length = m + 1:=by simp [hm]
  rw [hln']
  exact h
 ·rcases List.mem_append.1 hf' with h | h
  ·exact (I.fr f' (List.mem_append.2 (.inl h))).keep hK
  ·obtain rfl:=List.mem_singleton.1 h
   have hf:=I.fr f (List.mem_append.2 (.inr (List.mem_singleton.2 rfl)))
   exact ⟨hl,hf.lb,own_keep hA hK (by decide) (by decide),own_keep hf.bk hK (by decide) (by decide)⟩
end
def ksL (s:Scr) (o:Opr) (x y:Int) (n:Nat):List Int:=(List.range n).map fun k:Nat => kAt s.ims s.mx o (x + k) y
theorem ksL_none {s:Scr} {o:Opr} (hz:o.ms = 0) (x y:Int) (n:Nat):ksL s o x y n = List.replicate n s.mx:=by
 unfold ksL
 rw [List.eq_replicate_iff]
 refine ⟨by simp,fun b hb => ?_⟩
 obtain ⟨k,_,rfl⟩:=List.mem_map.1 hb
 unfold kAt
 rw [if_pos hz]
theorem ksL_rep {s:Scr} {o:Opr} (hz:o.ms = 0) {x y:Int} {n:Nat}:∀ (i:Nat) (k:Int),(ksL s o x y n)[i]? = some k → k = s.mx:=by
 intro i k h
 rw [ksL_none hz,List.getElem?_replicate] at h
 split at h
 ·exact (Option.some.inj h).symm
 ·cases h
theorem ksL_some {s:Scr} {o:Opr} {i:Nat} {m:Img} (hoi:o.ms = i + 1) (hmi:s.ims[i]? = some m) (x y:Int) (n:Nat):(pixL m (x - o.mx) (y - o.my) n).map Px.a = ksL s o x y n:=by
 unfold pixL ksL
 rw [List.map_map]
 apply List.map_congr_left
 intro k hk
 unfold kAt
 rw [if_neg (by omega),show o.ms - 1 = (i:Int) by omega,imAt_of hmi,show x + (k:Int) - o.mx = x - o.mx + (k:Int) by omega]
 rfl
structure PtC (s:Scr) (o:Opr) (kn:Bool) (n:Nat) (x y:Int) (ps:List Px) (f:Fm):Prop where
 hm:s.mx = 255 ∨ s.mx = 65535
 hC:StepC kn o.op o.md
 j0:0 ≤ o.oc
 j1:o.oc ≤ s.mx
 lp:ps.length = n
 hp:∀ (i:Nat) (p:Px),ps[i]? = some p → Px.ok s.mx p
 hk:∀ (i:Nat) (k:Int),(ksL s o x y n)[i]? = some k → 0 ≤ k ∧ k ≤ s.mx
 hf:∀ (i:Nat) (c:Ac) (b:Px),f.acc[i]? = some c → f.back[i]? = some b → Ac.ok s.mx c b ∧ (o.op = 4 ∨ c.o = c.a)
noncomputable def Fm.pt (s:Scr) (o:Opr) (x y:Int) (n:Nat) (ps:List Px) (f:Fm):List Ac:=stepL f.o.kn o.op o.md s.mx (scL s.mx o.oc ps (ksL s o x y n)) f.acc f.back
theorem scL_len {m j:Int} {l:List Px} {ks:List Int} {n:Nat} (h1:l.length = n) (h2:ks.length = n):(scL m j l ks).length = n:=by unfold scL; rw [List.length_zipWith,h1,h2,Nat.min_self]
theorem ksL_len (s:Scr) (o:Opr) (x y:Int) (n:Nat):(ksL s o x y n).length = n:=by unfold ksL; simp
theorem sc_ok {s:Scr} {o:Opr} {kn:Bool} {n:Nat} {x y:Int} {ps:List Px} {f:Fm} (h:PtC s o kn n x y ps f) {i:Nat} {p:Px} (hi:(scL s.mx o.oc ps (ksL s o x y n))[i]? = some p):Px.ok s.mx p:=by
 unfold scL at hi
 rw [List.getElem?_zipWith] at hi
 cases e1:ps[i]? with
 | none => rw [e1] at hi; cases hi
 | some q =>
  cases e2:(ksL s o x y n)[i]? with
  | none => rw [e1,e2] at hi; cases hi
  | some k =>
   rw [e1,e2] at hi
   obtain rfl:=Option.some.inj hi
   exact both_ok h.hm (h.hp i q e1) (h.hk i k e2).1 (h.hk i k e2).2 h.j0 h.j1
theorem tlVPaint0 {p:Prop} (h:p:=by
  have HX3:=hd_ (hX0.out.trans hS3)
  have I3:=HI.out.bel HX3.out
  have l12:=cq12 I3.eP rfl
  have HEO:=hd_ (And.intro eO hS3)
  clear hS3 Os O_0 O_1 O_2 O_3 O_4 O_5 O_6 O_7 O_8 O_9 O_10 O_11 fO eO e0 e1 e2 e3 e4 e5 e6 e7 e8 e9 e10 e11 ep
  refine region_bel (by kernel_rfl) (by kernel_rfl) ?_
  have q12:=fun q:Bw w3 => q.h.cell l12
  repeat (go_big_quiet_step (fail))
  refine wpQuiet_nil ?_
  rintro w4 ⟨q,rfl⟩
  clear q12 l12 I3
  go_upto_region 3 with fail
  have HX4:=hd_ (HX3.out.trans q.h)
  have HSL4:=hd_ (HSL3.out.bel q.h)
  refine at_world (fun Y => PnI w0 s el gp n ev Y (.slice (some ⟨gs,0,none⟩) (d + 1) cs) (st ++ [f]) ∧ Bel w Y ∧ Y.heap[w.heap.size]? = some (oOp o) ∧ Sl Y 5 n A3 (pxs (scL s.mx o.oc ps (ksL s o x y n)))) ⟨HI.out.bel HX4.out,HX4.out,q.h.heap (HEO.out.2.heap HEO.out.1),HSL4.out⟩ ?_
  rintro Y ⟨IY,hXY,eO,hslY⟩
  have hlx:(st ++ [f])[d]? = some f:=by rw [List.getElem?_append_right (by rw [HM.out]; exact Nat.le_refl _),HM.out,Nat.sub_self]; rfl
  have hskY:=IY.sk
  rw [HLEN.out] at hskY
  have l11:Y.cell? ⟨gs,d * 14 + 11,none⟩ = some (.bool f.o.kn):=by rw [hskY.cellAt _ (by omega),fm_at 11 (by decide) hlx]; rfl
  have l12:Y.cell? ⟨gs,d * 14 + 12,none⟩ = some (.slice f.aA n f.ca):=by rw [hskY.cellAt _ (by omega),fm_at 12 (by decide) hlx]; rfl
  have l13:Y.cell? ⟨gs,d * 14 + 13,none⟩ = some (.slice f.bA n f.cb):=by rw [hskY.cellAt _ (by omega),fm_at 13 (by decide) hlx]; rfl
  have lmx:=cq10 IY.eP rfl
  have l8:=cq8 eO rfl
  have l9:=cq9 eO rfl
  have e1:=fun (W:World) (h:Bel Y W) => h.cell l11
  have e2:=fun (W:World) (h:Bel Y W) => h.cell l12
  have e3:=fun (W:World) (h:Bel Y W) => h.cell l13
  have e4:=fun (W:World) (h:Bel Y W) => h.cell lmx
  have e5:=fun (W:World) (h:Bel Y W) => h.cell l8
  have e6:=fun (W:World) (h:Bel Y W) => h.cell l9
  have hSY:=(Bel.refl Y).dr
  have HSLY:=hd_ hslY
  have HIY:=hd_ IY
  have HXY:=hd_ hXY
  have hff:=IY.fr f (by simp)
  obtain ⟨-,hsa⟩:=hff.ac
  have hA6:Sl Y 6 n f.aA (acs f.acc):=own_sl' hff.ac
  have hB5:Sl Y 5 n f.bA (pxs f.back):=own_sl' hff.bk
  have hStY:=hd_ (fun (W:World) (hb:Bel Y W) => hSt.out W (hXY.trans hb) A3 c3 f.ca f.cb (hslY.bel hb) (hA6.bel hb) (hB5.bel hb))
  clear hskY hlx hslY IY hXY hff hsa hA6 hB5 lmx l8 l9 l11 l13 eO
  refine C_region 23 (fun W => Bel Y W) (by kernel_rfl) ?_
  refine C_take0a (i:=0) (v:=?_) rfl hSY (Or.inl ⟨by rfl,?_⟩) ?_
  rotate_left
  ·(intro W hW; go_simp; try with_reducible rfl)
  simp only [Act.put,lA_,l0_,lS_]
  refine C_take0a (i:=1) (v:=?_) rfl hSY (Or.inl ⟨by rfl,?_⟩) ?_
  rotate_left
  ·(intro W hW; go_simp; try with_reducible rfl)
  simp only [Act.put,lA_,l0_,lS_]
  refine C_take0a (i:=2) (v:=?_) rfl hSY (Or.inl ⟨by rfl,?_⟩) ?_
  rotate_left
  ·(intro W hW; go_simp; try with_reducible rfl)
  simp only [Act.put,lA_,l0_,lS_]
  refine C_take0a (i:=3) (v:=?_) rfl hSY (Or.inl ⟨by rfl,?_⟩) ?_
  rotate_left
  ·(intro W hW; go_simp; try with_reducible rfl)
  simp only [Act.put,lA_,l0_,lS_]
  refine C_take0a (i:=4) (v:=?_) rfl hSY (Or.inl ⟨by rfl,?_⟩) ?_
  rotate_left
  ·(intro W hW; go_simp; try with_reducible rfl)
  simp only [Act.put,lA_,l0_,lS_]
  refine C_takea (i:=5) (v:=?_) rfl hSY (Or.inl ⟨by rfl,?_⟩) ?_
  rotate_left
  ·(intro W hW; (try dsimp only at hW); go_simp; try with_reducible rfl)
  simp only [Act.put,lA_,l0_,lS_]
  refine C_take0a (i:=6) (v:=?_) rfl hSY (Or.inl ⟨by rfl,?_⟩) ?_
  rotate_left
  ·(intro W hW; go_simp; try with_reducible rfl)
  simp only [Act.put,lA_,l0_,lS_]
  refine C_takea (i:=7) (v:=?_) rfl hSY (Or.inl ⟨by rfl,?_⟩) ?_
  rotate_left
  ·(intro W hW; (try dsimp only at hW); go_simp; try with_reducible rfl)
  simp only [Act.put,lA_,l0_,lS_]
  refine C_take0a (i:=8) (v:=?_) rfl hSY (Or.inl ⟨by rfl,?_⟩) ?_
  rotate_left
  ·(intro W hW; go_simp; try with_reducible rfl)
  simp only [Act.put,lA_,l0_,lS_]
  refine C_takea (i:=9) (v:=?_) rfl hSY (Or.inl ⟨by rfl,?_⟩) ?_
  rotate_left
  ·(intro W hW; (try dsimp only at hW); go_simp; try with_reducible rfl)
  simp only [Act.put,lA_,l0_,lS_]
  refine C_take0a (i:=10) (v:=?_) rfl hSY (Or.inl ⟨by rfl,?_⟩) ?_
  rotate_left
  ·(intro W hW; go_simp; try with_reducible rfl)
  simp only [Act.put,lA_,l0_,lS_]
  refine C_take0a (i:=11) (v:=?_) rfl hSY (Or.inl ⟨by rfl,?_⟩) ?_
  rotate_left
  ·(intro W hW; go_simp; try with_reducible rfl)
  simp only [Act.put,lA_,l0_,lS_]
  refine C_take0a (i:=12) (v:=?_) rfl hSY (Or.inl ⟨by rfl,?_⟩) ?_
  rotate_left
  ·(intro W hW; go_simp; try with_reducible rfl)
  simp only [Act.put,lA_,l0_,lS_]
  refine C_takea (i:=13) (v:=?_) rfl hSY (Or.inl ⟨by rfl,?_⟩) ?_
  rotate_left
  ·(intro W hW; (try dsimp only at hW); go_simp; try with_reducible rfl)
  simp only [Act.put,lA_,l0_,lS_]
  refine C_take0a (i:=14) (v:=?_) rfl hSY (Or.inl ⟨by rfl,?_⟩) ?_
  rotate_left
  ·(intro W hW; go_simp; try with_reducible rfl)
  simp only [Act.put,lA_,l0_,lS_]
  refine C_take0a (i:=15) (v:=?_) rfl hSY (Or.inl ⟨by rfl,?_⟩) ?_
  rotate_left
  ·(intro W hW; go_simp; try with_reducible rfl)
  simp only [Act.put,lA_,l0_,lS_]
  refine C_take0a (i:=16) (v:=?_) rfl hSY (Or.inl ⟨by rfl,?_⟩) ?_
  rotate_left
  ·(intro W hW; go_simp; try with_reducible rfl)
  simp only [Act.put,lA_,l0_,lS_]
  refine C_take0a (i:=17) (v:=?_) rfl hSY (Or.inl ⟨by rfl,?_⟩) ?_
  rotate_left
  ·(intro W hW; go_simp; try with_reducible rfl)
  simp only [Act.put,lA_,l0_,lS_]
  refine C_takea (i:=18) (v:=?_) rfl hSY (Or.inl ⟨by rfl,?_⟩) ?_
  rotate_left
  ·(intro W hW; (try dsimp only at hW); go_simp; try with_reducible rfl)
  simp only [Act.put,lA_,l0_,lS_]
  refine C_take0a (i:=19) (v:=?_) rfl hSY (Or.inl ⟨by rfl,?_⟩) ?_
  rotate_left
  ·(intro W hW; go_simp; try with_reducible rfl)
  simp only [Act.put,lA_,l0_,lS_]
  refine C_take0a (i:=20) (v:=?_) rfl hSY (Or.inl ⟨by rfl,?_⟩) ?_
  rotate_left
  ·(intro W hW; go_simp; try with_reducible rfl)
  simp only [Act.put,lA_,l0_,lS_]
  refine C_take0a (i:=21) (v:=?_) rfl hSY (Or.inl ⟨by rfl,?_⟩) ?_
  rotate_left
  ·(intro W hW; go_simp; try with_reducible rfl)
  simp only [Act.put,lA_,l0_,lS_]
  refine C_takea (i:=22) (v:=?_) rfl hSY (Or.inl ⟨by rfl,?_⟩) ?_
  rotate_left
  ·(intro W hW; (try dsimp only at hW); go_simp; try with_reducible rfl)
  simp only [Act.put,lA_,l0_,lS_]
  refine C_step (by kernel_rfl) rfl (by kernel_rfl) (by rfl) fun K hK => ?_
  go_simp
  go_at_call 90
  with_reducible refine (hStY.out _ hSY).mono ?_
  rintro e w5 ⟨v5,rfl,hv5,hb5⟩
  obtain ⟨A5,c5,rfl,-⟩:=own_sl hv5
  refine hK.out _ _ ?_
  clear hK K
  refine any_of_C (c:=29) (S:=fun _ => True) _ _ _ _ ?_
  refine C_take0a (i:=24) (v:=?_) rfl trivial (Or.inl ⟨by rfl,?_⟩) ?_
  rotate_left
  ·(intro W hW; go_simp; try with_reducible rfl)
  simp only [Act.put,lA_,l0_,lS_]
  refine C_take0a (i:=25) (v:=?_) rfl trivial (Or.inl ⟨by rfl,?_⟩) ?_
  rotate_left
  ·(intro W hW; go_simp; try with_reducible rfl)
  simp only [Act.put,lA_,l0_,lS_]
  refine C_take0a (i:=26) (v:=?_) rfl trivial (Or.inl ⟨by rfl,?_⟩) ?_
  rotate_left
  ·(intro W hW; go_simp; try with_reducible rfl)
  simp only [Act.put,lA_,l0_,lS_]
  refine C_take0a (i:=27) (v:=?_) rfl trivial (Or.inl ⟨by rfl,?_⟩) ?_
  rotate_left
  ·(intro W hW; go_simp; try with_reducible rfl)
  simp only [Act.put,lA_,l0_,lS_]
  refine C_take0a (i:=28) (v:=?_) rfl trivial (Or.inl ⟨by rfl,?_⟩) ?_
  rotate_left
  ·(intro W hW; go_simp; try with_reducible rfl)
  simp only [Act.put,lA_,l0_,lS_]
  refine C_tail (c:=29) (g:=0) (l:=_) rfl rfl (by kernel_rfl) (by kernel_rfl) ?_
  simp only [List.drop_succ_cons,List.drop_zero]
  have hb:=hSY.trans hb5
  have I5:=HIY.out.bel hb
  have hsk5:=I5.sk
  rw [HLEN.out] at hsk5
  have f12:=hsk5.frozenAt (d * 14 + 12)
  have k12:=hb.cell l12
  have HB:=hd_ (HXY.out.trans hb)
  have HV:=hd_ (own_base hv5 (Nat.le_trans HIY.out.hB.size' hSY.size'))
  clear hb5 hb hv5 hSY e1 e2 e3 e4 e5 e6 hsk5
  have H5:=hd_ I5
  clear I5
  go_wp2
  have hacc:=H5.out.acc HM.out (L:=f.pt s o x y n ps) (stepL_len _ _ _ _ (scL_len hc.lp (ksL_len s o x y n)) (I.fr f (by simp)).la (I.fr f (by simp)).lb) HV.out
  go_end0
  exact ⟨rfl,A5,c5,hacc.1,(Kept.of_bel HB.out).trans hacc.2⟩):p:=h
set_option maxHeartbeats 8000000 in
theorem paint_none (w0:World) (s:Scr) (el:List Int) (gp n:Nat) (ev sv:Value) (st:List Fm) (f:Fm) (w:World) (hs:s.In w0) (hR:Ruled w0) (I:PnI w0 s el gp n ev w sv (st ++ [f])) (hst:st.length ≤ 1000) (n1:1 ≤ n) (n2:n ≤ 100) (o:Opr) (hz:o.ms = 0) (hnr:nearB [o.x,o.y,o.mx,o.my] = true)
  (x y:Int) (x0:-2097152 ≤ x) (x1:x ≤ 2097152) (y0:-2097152 ≤ y) (y1:y ≤ 2097152) (ps:List Px) (A1:Option Addr) (c1:Nat) (hsl:Sl w 5 n A1 (pxs ps)) (hc:PtC s o f.o.kn n x y ps f) :
  Calls Tryz.prog 76 #[.pointer (some ⟨gp,0,none⟩),o.v,.slice A1 n c1,.int .i64 x,.int .i64 y] w fun e w' => e = .returned (.tuple #[]) ∧ ∃ aA ca,PnI w0 s el gp n ev w' sv (st ++ [{ f with aA:=aA,ca:=ca,acc:=f.pt s o x y n ps }]) ∧ Kept w w':=by
 have hMk:=hd_ (fun (W:World) => mask_none s o hz x y n gp W)
 have hSc:=hd_ (fun (W:World) (hb:Bel w W) => spanScale_none hc.hm hc.j0 hc.j1 ps (ksL s o x y n) n (by omega) n1 hc.lp (ksL_len s o x y n) hc.hp hc.hk (ksL_rep hz) A1 c1 W (hsl.bel hb))
 have hRW:=hd_ (fun (W:World) (hb:Bel w W) => ruled_bel hR (I.hB.trans hb))
 have hSt:=hd_ (fun (W:World) (hb:Bel w W) (A:Option Addr) (c c2 c3:Nat) (h1:Sl W 5 n A (pxs (scL s.mx o.oc ps (ksL s o x y n)))) (h2:Sl W 6 n f.aA (acs f.acc)) (h3:Sl W 5 n f.bA (pxs f.back)) => spanStep_call hc.hm hc.hC (scL s.mx o.oc ps (ksL s o x y n)) f.acc f.back n (by omega) (scL_len hc.lp (ksL_len s o x y n)) (I.fr f (by simp)).la (I.fr f (by simp)).lb (fun i p c b h1 h2 h3 => ⟨sc_ok hc h1,hc.hf i c b h2 h3⟩) A f.aA f.bA c c2 c3 W (hRW.out W hb) h1 h2 h3)
 have HI:=hd_ I
 obtain ⟨d,hd⟩:∃ d,st.length = d:=⟨_,rfl⟩
 have HM:=hd_ hd
 have hlen:(st ++ [f]).length = d + 1:=by simp [hd]
 obtain ⟨gs,cs,rfl,hgs,hgss,hcap⟩:=own_at I.sk (by rw [hlen]; omega) (by decide)
 rw [hlen] at I HI hcap ⊢
 have HLEN:=hd_ hlen
 rw [hd] at hst
 clear hs hR hsl hd hlen hz
 go_enter Tryz.func76,Tryz.ntmps76
 go_upto_region 1 with fail
 refine at_world (fun V => Bel w V ∧ V.heap[w.heap.size]? = some (oOp o)) ⟨(Bel.refl w).al _,at_new (by first | rfl | simp)⟩ ?_
 rintro V ⟨hX,eO⟩
 have Os:=lt_of_heap eO
 have O_0:=cq0 eO rfl
 have O_1:=cq1 eO rfl
 have O_2:=cq2 eO rfl
 have O_3:=cq3 eO rfl
 have O_4:=cq4 eO rfl
 have O_5:=cq5 eO rfl
 have O_6:=cq6 eO rfl
 have O_7:=cq7 eO rfl
 have O_8:=cq8 eO rfl
 have O_9:=cq9 eO rfl
 have O_10:=cq10 eO rfl
 have O_11:=cq11 eO rfl
 have fO:=frozA eO
 go_upto_region 1 with fail
 obtain ⟨V2,hV2⟩:∃ V2,V2 = V:=⟨_,rfl⟩
 have hSS:∀ W W':World,Bel V W → Bel W W' → Bel V W':=fun W W' h hb => h.trans hb
 have HSS:=hd_ hSS
 have hX0:=hd_ hX
 have hMkS:=fun (W:World) (h:Bel V W) => (hMk.out W).mono fun e w2 k => (⟨k.1,HSS.out W w2 h k.2⟩:e = .returned (.slice none 0 0) ∧ Bel V w2)
 have hScS:=fun (W:World) (h:Bel V W) => (hSc.out W (hX0.out.trans h)).mono fun e w2 k => (let ⟨v,k1,k2,k3⟩:=k; ⟨v,k1,k2,HSS.out W w2 h k3⟩:∃ v,e = .returned (.tuple #[v,.bool true]) ∧ w2.ownsRow W.heap.size 32 5 v n (pxs (scL s.mx o.oc ps (ksL s o x y n))) ∧ Bel V w2)
 have HMKS:=hd_ hMkS
 have HSCS:=hd_ hScS
 have e0:=fun (W:World) (h:Bel V W) => h.cell O_0
 have e1:=fun (W:World) (h:Bel V W) => h.cell O_1
 have e2:=fun (W:World) (h:Bel V W) => h.cell O_2
 have e3:=fun (W:World) (h:Bel V W) => h.cell O_3
 have e4:=fun (W:World) (h:Bel V W) => h.cell O_4
 have e5:=fun (W:World) (h:Bel V W) => h.cell O_5
 have e6:=fun (W:World) (h:Bel V W) => h.cell O_6
 have e7:=fun (W:World) (h:Bel V W) => h.cell O_7
 have e8:=fun (W:World) (h:Bel V W) => h.cell O_8
 have e9:=fun (W:World) (h:Bel V W) => h.cell O_9
 have e10:=fun (W:World) (h:Bel V W) => h.cell O_10
 have e11:=fun (W:World) (h:Bel V W) => h.cell O_11
 have ep:=fun (W:World) (h:Bel V W) => (hX.trans h).cell (cq10 I.eP rfl)
 clear hV2 hSS hMkS hScS hX V2
 go_region_held3 (fun W => Bel V W) (first | assumption | exact (Bel.refl V).dr) (first | (go_at_call 89; (with_reducible refine (HMKS.out _ (by assumption)).mono ?_); rintro e w2 ⟨rfl,hS2⟩) | (go_at_call 88; (with_reducible refine (HSCS.out _ (by assumption)).mono ?_); rintro e w3 ⟨v3,rfl,hv3,hS3⟩; obtain ⟨A3,c3,rfl,hsl3⟩:=own_sl hv3; have HSL3:=hd_ hsl3; clear hv3 hsl3))
 all_goals go_wp2_with fail
 exact tlVPaint0
set_option maxHeartbeats 8000000 in
theorem paint_mask (w0:World) (s:Scr) (el:List Int) (gp n:Nat) (ev sv:Value) (st:List Fm) (f:Fm) (w:World) (hs:s.In w0) (hR:Ruled w0) (I:PnI w0 s el gp n ev w sv (st ++ [f])) (hst:st.length ≤ 1000) (n1:1 ≤ n) (n2:n ≤ 100) (o:Opr) (i:Nat) (hoi:o.ms = i + 1) (m:Img) (hmi:s.ims[i]? = some m) (hsm:m.sm) (hnr:nearB [o.x,o.y,o.mx,o.my] = true)
  (x y:Int) (x0:-2097152 ≤ x) (x1:x ≤ 2097152) (y0:-2097152 ≤ y) (y1:y ≤ 2097152) (ps:List Px) (A1:Option Addr) (c1:Nat) (hsl:Sl w 5 n A1 (pxs ps)) (hc:PtC s o f.o.kn n x y ps f) :
  Calls Tryz.prog 76 #[.pointer (some ⟨gp,0,none⟩),o.v,.slice A1 n c1,.int .i64 x,.int .i64 y] w fun e w' => e = .returned (.tuple #[]) ∧ ∃ aA ca,PnI w0 s el gp n ev w' sv (st ++ [{ f with aA:=aA,ca:=ca,acc:=f.pt s o x y n ps }]) ∧ Kept w w':=by
 have hMk:=hd_ (fun (W:World) (hb:Bel w W) => mask_some s o i hoi m hmi hsm hnr x y x0 x1 y0 y1 n n2 gp ev sv W (hs.bel (I.hB.trans hb)) (hb.heap I.eP))
 rw [ksL_some hoi hmi] at hMk
 have hSc:=hd_ (fun (W:World) (hb:Bel w W) (A2:Option Addr) (c2:Nat) (h2:Sl W 1 n A2 ((ksL s o x y n).map (.int .u16))) => spanScale_mask hc.hm hc.j0 hc.j1 ps (ksL s o x y n) n (by omega) n1 hc.lp (ksL_len s o x y n) hc.hp hc.hk A1 A2 c1 c2 W (hsl.bel hb) h2)
 have hRW:=hd_ (fun (W:World) (hb:Bel w W) => ruled_bel hR (I.hB.trans hb))
 have hSt:=hd_ (fun (W:World) (hb:Bel w W) (A:Option Addr) (c c2 c3:Nat) (h1:Sl W 5 n A (pxs (scL s.mx o.oc ps (ksL s o x y n)))) (h2:Sl W 6 n f.aA (acs f.acc)) (h3:Sl W 5 n f.bA (pxs f.back)) => spanStep_call hc.hm hc.hC (scL s.mx o.oc ps (ksL s o x y n)) f.acc f.back n (by omega) (scL_len hc.lp (ksL_len s o x y n)) (I.fr f (by simp)).la (I.fr f (by simp)).lb (fun i p c b h1 h2 h3 => ⟨sc_ok hc h1,hc.hf i c b h2 h3⟩) A f.aA f.bA c c2 c3 W (hRW.out W hb) h1 h2 h3)
 have HI:=hd_ I
 obtain ⟨d,hd⟩:∃ d,st.length = d:=⟨_,rfl⟩
 have HM:=hd_ hd
 have hlen:(st ++ [f]).length = d + 1:=by simp [hd]
 obtain ⟨gs,cs,rfl,hgs,hgss,hcap⟩:=own_at I.sk (by rw [hlen]; omega) (by decide)
 rw [hlen] at I HI hcap ⊢
 have HLEN:=hd_ hlen
 rw [hd] at hst
 clear hs hR hsl hd hlen hoi hmi hsm
 go_enter Tryz.func76,Tryz.ntmps76
 go_upto_region 1 with fail
 refine at_world (fun V => Bel w V ∧ V.heap[w.heap.size]? = some (oOp o)) ⟨(Bel.refl w).al _,at_new (by first | rfl | simp)⟩ ?_
 rintro V ⟨hX,eO⟩
 have Os:=lt_of_heap eO
 have O_0:=cq0 eO rfl
 have O_1:=cq1 eO rfl
 have O_2:=cq2 eO rfl
 have O_3:=cq3 eO rfl
 have O_4:=cq4 eO rfl
 have O_5:=cq5 eO rfl
 have O_6:=cq6 eO rfl
 have O_7:=cq7 eO rfl
 have O_8:=cq8 eO rfl
 have O_9:=cq9 eO rfl
 have O_10:=cq10 eO rfl
 have O_11:=cq11 eO rfl
 have fO:=frozA eO
 go_upto_region 1 with fail
 obtain ⟨V2,hV2⟩:∃ V2,V2 = V:=⟨_,rfl⟩
 have hSS:∀ W W':World,Bel V W → Bel W W' → Bel V W':=fun W W' h hb => h.trans hb
 have HSS:=hd_ hSS
 have hX0:=hd_ hX
 have hMkS:=fun (W:World) (h:Bel V W) => (hMk.out W (hX0.out.trans h)).mono fun e w2 k => (let ⟨v,k1,k2,k3⟩:=k; ⟨v,k1,k2,HSS.out W w2 h k3⟩:∃ v,e = .returned v ∧ w2.ownsRow W.heap.size 27 1 v n ((ksL s o x y n).map (.int .u16)) ∧ Bel V w2)
 have hScS:=fun (W:World) (A2:Option Addr) (c2:Nat) (h2:Sl W 1 n A2 ((ksL s o x y n).map (.int .u16))) (h:Bel V W) => (hSc.out W (hX0.out.trans h) A2 c2 h2).mono fun e w2 k => (let ⟨v,k1,k2,k3⟩:=k; ⟨v,k1,k2,HSS.out W w2 h k3⟩:∃ v,e = .returned (.tuple #[v,.bool true]) ∧ w2.ownsRow W.heap.size 32 5 v n (pxs (scL s.mx o.oc ps (ksL s o x y n))) ∧ Bel V w2)
 have HMKS:=hd_ hMkS
 have HSCS:=hd_ hScS
 have e0:=fun (W:World) (h:Bel V W) => h.cell O_0
 have e1:=fun (W:World) (h:Bel V W) => h.cell O_1
 have e2:=fun (W:World) (h:Bel V W) => h.cell O_2
 have e3:=fun (W:World) (h:Bel V W) => h.cell O_3
 have e4:=fun (W:World) (h:Bel V W) => h.cell O_4
 have e5:=fun (W:World) (h:Bel V W) => h.cell O_5
 have e6:=fun (W:World) (h:Bel V W) => h.cell O_6
 have e7:=fun (W:World) (h:Bel V W) => h.cell O_7
 have e8:=fun (W:World) (h:Bel V W) => h.cell O_8
 have e9:=fun (W:World) (h:Bel V W) => h.cell O_9
 have e10:=fun (W:World) (h:Bel V W) => h.cell O_10
 have e11:=fun (W:World) (h:Bel V W) => h.cell O_11
 have ep:=fun (W:World) (h:Bel V W) => (hX.trans h).cell (cq10 I.eP rfl)
 clear hV2 hSS hMkS hScS hX V2
 go_region_held3 (fun W => Bel V W) (first | assumption | exact (Bel.refl V).dr) (first | (go_at_call 89; (with_reducible refine (HMKS.out _ (by assumption)).mono ?_); rintro e w2 ⟨mv,rfl,hmv,hS2⟩; obtain ⟨A2,c2,rfl,hsl2⟩:=own_sl hmv; have HSL2:=hd_ hsl2; clear hmv hsl2) | (go_at_call 88; (with_reducible refine (HSCS.out _ _ _ HSL2.out (by assumption)).mono ?_); rintro e w3 ⟨v3,rfl,hv3,hS3⟩; obtain ⟨A3,c3,rfl,hsl3⟩:=own_sl hv3; have HSL3:=hd_ hsl3; clear hv3 hsl3))
 all_goals go_wp2_with fail
 exact tlVPaint0
structure Kp (g:Nat) (w W:World):Prop where
 size:w.heap.size ≤ W.heap.size
 block:∀ b,b < w.heap.size → b ≠ g → W.heap[b]? = w.heap[b]?
theorem Kp.refl (g:Nat) (w:World):Kp g w w:=⟨Nat.le_refl _,fun _ _ _ => rfl⟩
theorem Kp.of_bel {g:Nat} {w W:World} (h:Bel w W):Kp g w W:=⟨h.size',fun b hb _ => h.block b hb⟩
theorem Kp.bel {g:Nat} {w W V:World} (h:Kp g w W) (k:Bel W V):Kp g w V:=⟨Nat.le_trans h.size k.size',fun b hb hg => (k.block b (Nat.lt_of_lt_of_le hb h.size)).trans (h.block b hb hg)⟩
theorem Kp.upd {g:Nat} {w W V:World} (h:Kp g w W) (k:Upd g W V):Kp g w V:=⟨by rw [k.size]; exact h.size,fun b hb hg => (k.block b hg).trans (h.block b hb hg)⟩
theorem Kp.cell {g:Nat} {w W:World} {a:Addr} {v:Value} (h:Kp g w W) (e:w.cell? a = some v) (hg:a.block ≠ g):W.cell? a = some v:=by
 have hb:=h.block a.block (World.block_lt_of_cell? w a e) hg
 rw [← e]
 simp only [World.cell?,hb]
theorem wp_so {α:Type} {f:α → List Value} {P:Program} {op:Oper} {a:Act} {w:World} {K:Act → World → Prop} {Q:Exit → Act → World → Prop} {ty t:TypeId} {x y:Operand} {base k n c g o i:Nat} {l:List α} (v:α) (hf:∀ a,(f a).length = k) (ho:op.op = .store ty x y)
  (hx:a.eval x = .pointer (some ⟨g,o,none⟩)) (hy:a.eval y = .agg (f v).toArray) (hown:w.ownsRow base t k (.slice (some ⟨g,0,none⟩) n c) n (l.flatMap f)) (ho':o = i * k) (hi:i < n) (hin:(P.info? ty).map (·.size) = some k) (h1:∀ u ∈ f v,u.oneCell' = true)
  (h:∀ W,W.ownsRow base t k (.slice (some ⟨g,0,none⟩) n c) n ((l.set i v).flatMap f) → Upd g w W → K (a.put op.dst undef) W):op.wp P a w K Q:=by
 subst ho'
 refine wp_store_mid ty x y ho g (i * k) (f v).toArray hx hy (by rw [List.size_toArray,hf]; exact own_there hown hi) (by rw [List.size_toArray,hf]; exact hin) (all_oneCell_toArray h1) ?_
 have h2:=own_sets v hf hown hi
 have h3:=setCells_upd g (f v) (i * k) w
 simpa using h _ h2 h3
section
variable {P:Program} {ops:Array Oper} {Q:Exit → Act → World → Prop} {md:Region.Mode} {S:World → Prop}
def AllC (P:Program) (md:Region.Mode) (ops:Array Oper) (Q:Exit → Act → World → Prop) (c:Nat) (S:World → Prop) (fuel:Nat) (listed:Array Bool) (a:Act) (w:World) (rs:List Nat):Prop :=
 ∀ i ∈ rs,wpOp P ops Q i (fun a' w' => ((listed.setIfInBounds i true).getD c true = false → S w') ∧ wpAnyC P md ops Q c S fuel (listed.setIfInBounds i true) a' w') a w
theorem C_branch {c f:Nat} {rs:List Nat} {listed:Array Bool} {a:Act} {w:World} (hr:Region.ready md ops listed = rs) (hne:rs ≠ []) (h:AllC P md ops Q c S f listed a w rs):wpAnyC P md ops Q c S (f + 1) listed a w :=
 ⟨fun h0 => absurd (hr ▸ h0) hne,hr ▸ h⟩
theorem AllC.nil {c f:Nat} {listed:Array Bool} {a:Act} {w:World}:AllC P md ops Q c S f listed a w []:=fun _ h => by cases h
theorem AllC.cons {c f i:Nat} {o:Oper} {rs:List Nat} {listed:Array Bool} {a:Act} {w:World} (ho:ops[i]? = some o) (hwant:Region.wanted o (yielded ops a.tmps) = true)
  (h:∀ K:Act → World → Prop,Hid (∀ a' w',S w' → wpAnyC P md ops Q c S f (listed.setIfInBounds i true) a' w' → K a' w') → o.wp P a w K Q)
  (hs:AllC P md ops Q c S f listed a w rs):AllC P md ops Q c S f listed a w (i :: rs):=fun j hj => by
 rcases List.mem_cons.1 hj with rfl | hj
 ·unfold wpOp
  simp only [ho,hwant,if_true]
  exact .inl (h _ (hd_ fun a' w' hS h' => ⟨fun _ => hS,h'⟩))
 ·exact hs j hj
theorem C_do {c f i:Nat} {o:Oper} {listed:Array Bool} {a:Act} {w:World} (hr:Region.ready md ops listed = [i]) (ho:ops[i]? = some o) (hwant:Region.wanted o (yielded ops a.tmps) = true)
  (h:∀ K:Act → World → Prop,Hid (∀ a' w',S w' → wpAnyC P md ops Q c S f (listed.setIfInBounds i true) a' w' → K a' w') → o.wp P a w K Q):wpAnyC P md ops Q c S (f + 1) listed a w :=
 C_branch hr (by simp) (AllC.cons ho hwant h AllC.nil)
end
end Go.Proofs.YtepfoelgegljbaaGreatDoor
