/- Part A39. -/
import Derived.Test.YtepfoelgegljbaaGreatDoorA37
import Derived.Test.YtepfoelgegljbaaGreatDoorA38
namespace Go.Proofs.YtepfoelgegljbaaGreatDoor
set_option maxRecDepth 100000
open Go.RowKit
set_option linter.unusedVariables false
structure SceneD where
 bits:Int
 x:Int
 y:Int
 w:Int
 h:Int
 tw:Int
 th:Int
 oA:Option Addr
 on:Nat
 oc:Nat
 ord:List Int
 pA:Option Addr
 pn:Nat
 pc:Nat
 pics:List PicD
 qA:Option Addr
 qn:Nat
 qc:Nat
 raws:List RawD
abbrev SceneD.v (d:SceneD):Value:=.agg #[.int .i64 d.bits,.int .i64 d.x,.int .i64 d.y,.int .i64 d.w,.int .i64 d.h,.int .i64 d.tw,.int .i64 d.th,.slice d.oA d.on d.oc,.slice d.pA d.pn d.pc,.slice d.qA d.qn d.qc]
structure SceneD.In (W:World) (d:SceneD):Prop where
 ord:Sl W 1 d.on d.oA (ints64 d.ord)
 ordR:∀ v ∈ d.ord,-9223372036854775808 ≤ v ∧ v ≤ 9223372036854775807
 pics:Sl W 5 d.pn d.pA (d.pics.flatMap PicD.cs)
 lp:d.pics.length = d.pn
 pic:∀ p ∈ d.pics,p.In W
 raws:Sl W 11 d.qn d.qA (d.raws.flatMap RawD.cs)
 lq:d.raws.length = d.qn
 raw:∀ r ∈ d.raws,r.ok
theorem SceneD.In.bel {W W':World} {d:SceneD} (h:d.In W) (hb:Bel W W'):d.In W':=⟨h.ord.bel hb,h.ordR,h.pics.bel hb,h.lp,fun p hp => (h.pic p hp).bel hb,h.raws.bel hb,h.lq,h.raw⟩
theorem opE_gen {n:Nat} {mx:Int} {free:Bool} {k:Int} {o:Opr} {op:List Opr} (h:OpG n mx free k o) (hk:k = 1 ∨ k = 2) (hc:ctxB op = free) (hl:op.length < 64):opE n mx o op = 0:=by
 have hkk:=h.kk
 have ho:=h.ok
 unfold opE
 rw [if_neg (by omega),if_neg (by rw [h.fb.ok (by omega)]; decide),if_neg (by omega),if_neg (by omega),if_neg ?_,if_neg (by rw [ho.nr]; decide),if_neg (by have:=ho.oc; omega),if_neg (by rw [ho.op]; decide),if_neg (by rw [ho.md]; decide),if_neg ?_,if_neg (by omega)]
 ·rintro ⟨h1,h2⟩
  rcases ho.fr with h3 | h3
  ·exact h1 h3
  ·rw [hc,h3] at h2
   cases h2
 ·rintro (⟨h1,h2⟩ | h2 | h2)
  ·have:=ho.im h1
   omega
  ·have:=ho.ms.1
   omega
  ·have:=ho.ms.2
   omega
theorem opsE_draw {n:Nat} {mx:Int} {free:Bool} {o:Opr} {op r:List Opr} (i:Nat) (h:OpG n mx free 1 o) (hc:ctxB op = free) (hl:op.length < 64):opsE n mx (o :: r) i op = opsE n mx r (i + 1) op:=by
 have hkk:=h.kk
 rw [opsE,if_neg (by rw [opE_gen h (.inl rfl) hc hl]; decide),if_neg (by omega),if_neg (by omega)]
theorem opsE_push {n:Nat} {mx:Int} {free:Bool} {o:Opr} {op r:List Opr} (i:Nat) (h:OpG n mx free 2 o) (hc:ctxB op = free) (hl:op.length < 64):opsE n mx (o :: r) i op = opsE n mx r (i + 1) (op ++ [o]):=by
 have hkk:=h.kk
 rw [opsE,if_neg (by rw [opE_gen h (.inr rfl) hc hl]; decide),if_pos (by omega)]
theorem opsE_pop {n:Nat} {mx:Int} {op r:List Opr} (i:Nat) (h:op ≠ []):opsE n mx (popO :: r) i op = opsE n mx r (i + 1) op.dropLast:=by
 have h0:opE n mx popO op = 0:=by
  have hl:op.length ≠ 0:=fun e => h (List.length_eq_zero_iff.1 e)
  unfold opE
  rw [if_neg (by decide),if_neg (by decide),if_neg (fun e => hl e.2),if_pos (show popO.k = 3 from rfl)]
 rw [opsE,if_neg (by rw [h0]; decide),if_neg (by decide),if_pos (show popO.k = 3 from rfl)]
theorem flat_pos (F:Fo) (h:∀ o ∈ F.flat,0 ≤ o.oc):F.pos:=by
 induction F with
 | nil => trivial
 | draw o r ih =>
  simp only [Fo.flat,List.mem_cons] at h
  exact ⟨h o (.inl rfl),ih fun q hq => h q (.inr hq)⟩
 | grp o k r ihk ihr =>
  simp only [Fo.flat,List.mem_cons,List.mem_append] at h
  exact ⟨h o (.inl rfl),ihk fun q hq => h q (by simp [hq]),ihr fun q hq => h q (by simp [hq])⟩
structure OpsG (n:Nat) (mx:Int) (L st:List Opr):Prop where
 hE:∀ r,opsE n mx (L ++ r) 0 [] = opsE n mx r L.length st
 oc:∀ o ∈ L,0 ≤ o.oc
 sm:∀ o ∈ L,(-40 ≤ o.x ∧ o.x ≤ 40) ∧ (-40 ≤ o.y ∧ o.y ≤ 40) ∧ (-40 ≤ o.mx ∧ o.mx ≤ 40) ∧ (-40 ≤ o.my ∧ o.my ≤ 40)
theorem OpsG.nil (n:Nat) (mx:Int):OpsG n mx [] []:=⟨fun r => rfl,by simp,by simp⟩
theorem OpsG.snoc {n:Nat} {mx:Int} {L st st':List Opr} {o:Opr} (h:OpsG n mx L st) (ho:∀ r,opsE n mx (o :: r) L.length st = opsE n mx r (L.length + 1) st') (hoc:0 ≤ o.oc) (hs:(-40 ≤ o.x ∧ o.x ≤ 40) ∧ (-40 ≤ o.y ∧ o.y ≤ 40) ∧ (-40 ≤ o.mx ∧ o.mx ≤ 40) ∧ (-40 ≤ o.my ∧ o.my ≤ 40)):OpsG n mx (L ++ [o]) st':=by
 refine ⟨fun r => ?_,fun q hq => ?_,fun q hq => ?_⟩
 ·rw [List.append_assoc,List.singleton_append,h.hE,ho,List.length_append]
  rfl
 ·rcases List.mem_append.1 hq with hq | hq
  ·exact h.oc q hq
  ·rw [List.mem_singleton.1 hq]; exact hoc
 ·rcases List.mem_append.1 hq with hq | hq
  ·exact h.sm q hq
  ·rw [List.mem_singleton.1 hq]; exact hs
theorem OpsG.draw {n:Nat} {mx:Int} {L st:List Opr} {o:Opr} (h:OpsG n mx L st) (ho:OpG n mx (ctxB st) 1 o) (hl:st.length < 64):OpsG n mx (L ++ [o]) st:=h.snoc (fun r => opsE_draw _ ho rfl hl) ho.oc ⟨ho.x,ho.y,ho.mx,ho.my⟩
theorem OpsG.push {n:Nat} {mx:Int} {L st:List Opr} {o:Opr} (h:OpsG n mx L st) (ho:OpG n mx (ctxB st) 2 o) (hl:st.length < 64):OpsG n mx (L ++ [o]) (st ++ [o]):=h.snoc (fun r => opsE_push _ ho rfl hl) ho.oc ⟨ho.x,ho.y,ho.mx,ho.my⟩
theorem OpsG.pop {n:Nat} {mx:Int} {L st:List Opr} (h:OpsG n mx L st) (hne:st ≠ []):OpsG n mx (L ++ [popO]) st.dropLast:=h.snoc (fun r => opsE_pop _ hne) (Int.le_refl _) ⟨⟨by decide,by decide⟩,⟨by decide,by decide⟩,⟨by decide,by decide⟩,⟨by decide,by decide⟩⟩
theorem OpsG.done {n:Nat} {mx:Int} {L:List Opr} (h:OpsG n mx L []):opsE n mx L 0 [] = (0,0) ∧ ∃ F:Fo,L = F.flat ∧ F.ok n mx true ∧ F.pos:=by
 have e:=h.hE []
 rw [List.append_nil] at e
 have e2:opsE n mx L 0 [] = (0,0):=by rw [e,opsE]; rfl
 obtain ⟨F,hF,hk⟩:=opsE_forest (by rw [e2])
 exact ⟨e2,F,hF,hk,flat_pos F (by rw [← hF]; exact h.oc)⟩
set_option linter.unusedSimpArgs false
structure ScI (w:World) (T:Nat) (d:SceneD) (Z:World) (s:Scr):Prop where
 hX:Bel w Z
 eD:Z.heap[w.heap.size]? = some (.cells #[.int .i64 d.bits,.int .i64 d.x,.int .i64 d.y,.int .i64 d.w,.int .i64 d.h,.int .i64 d.tw,.int .i64 d.th,.slice d.oA d.on d.oc,.slice d.pA d.pn d.pc,.slice d.qA d.qn d.qc] 26)
 eR:Z.heap[w.heap.size + 1]? = some (.cells #[.int .i64 0,.int .i64 0,.int .i64 0,.int .i64 0,.int .i64 0,.int .i64 0,.int .i64 0,.slice none 0 0,.slice none 0 0,.slice none 0 0] 38)
 eO:Z.heap[T]? = some (oSc s)
 tT:w.heap.size + 1 < T
theorem ScI.bel {w Z Z':World} {T:Nat} {d:SceneD} {s:Scr} (h:ScI w T d Z s) (hb:Bel Z Z'):ScI w T d Z' s:=⟨h.hX.trans hb,hb.heap h.eD,hb.heap h.eR,hb.heap h.eO,h.tT⟩
theorem ScI.upd {w Z Z':World} {T:Nat} {d:SceneD} {s s':Scr} (h:ScI w T d Z s) (hu:Upd T Z Z') (e:Z'.heap[T]? = some (.cells s'.cs.toArray 38)):ScI w T d Z' s' :=
 ⟨hu.bel h.hX (by have:=h.tT; omega),hu.heap h.eD (by have:=h.tT; omega),hu.heap h.eR (by have:=h.tT; omega),e,h.tT⟩
theorem ScI.grown {w Z Z':World} {T:Nat} {d:SceneD} {s:Scr} {b k n:Nat} {t:TypeId} {v:Value} {xs:List Value} (h:ScI w T d Z s) (hown:Z.ownsRow b t k v n xs) (hb:w.heap.size ≤ b) (h1:t ≠ 38) (h2:t ≠ 26) (hg:Z.grownBy Z' v.ownBlock):ScI w T d Z' s :=
 ⟨h.hX.grown hg (fun q hq => Nat.le_trans hb (hown.lt q hq).1),grown_heap hown h.eD h2 hg,grown_heap hown h.eR h1 hg,grown_heap hown h.eO h1 hg,h.tT⟩
theorem Sl.pic {W:World} {n i:Nat} {A:Option Addr} {l:List PicD} {p:PicD} (h:Sl W 5 n A (l.flatMap PicD.cs)) (hi:l[i]? = some p) (hn:i < n) :
  ∃ g off,A = some ⟨g,off,none⟩ ∧ W.cell? ⟨g,off + i * 5,none⟩ = some (.int .i64 p.w) ∧ W.cell? ⟨g,off + i * 5 + 1,none⟩ = some (.int .i64 p.h) ∧ W.cell? ⟨g,off + i * 5 + 2,none⟩ = some (.int .i64 p.so) ∧ W.cell? ⟨g,off + i * 5 + 3,none⟩ = some (.int .i64 p.mood) ∧ W.cell? ⟨g,off + i * 5 + 4,none⟩ = some (.slice p.A p.n p.c):=by
 obtain ⟨g,off,rfl,hc⟩:=h.2 (by omega)
 have k:∀ j u,j < 5 → p.cs[j]? = some u → W.cell? ⟨g,off + i * 5 + j,none⟩ = some u:=fun j u hj hu => by
  rw [Nat.add_assoc]
  exact hc _ u ((flat_get (f:=PicD.cs) (fun _ => rfl) l i j p hi hj).trans hu)
 exact ⟨g,off,rfl,k 0 _ (by decide) rfl,k 1 _ (by decide) rfl,k 2 _ (by decide) rfl,k 3 _ (by decide) rfl,k 4 _ (by decide) rfl⟩
theorem info_im:(Tryz.prog.info? 46).map (fun i => (i.zero,i.size,i.bytes)) = some (some (.agg #[.int .i64 0,.int .i64 0,.bool false,.int .u16 0,.int .u16 0,.int .u16 0,.int .u16 0,.int .u16 0,.int .i64 0,.int .i64 0,.int .i64 0,.slice none 0 0,.int .i64 0,.int .i64 0,.int .i64 0,.slice none 0 0,.int .i64 0,.int .i64 0,.int .i64 0,.slice none 0 0,.int .i64 0,.int .i64 0,.int .i64 0,.slice none 0 0,.int .i64 0,.int .i64 0,.int .i64 0,.slice none 0 0]),28,272):=by kernel_rfl
structure FrG (mx:Int) (s:Scr):Prop where
 bt:s.bits = 8 ∨ s.bits = 16
 mx:s.mx = mx
 x0:-6 ≤ s.can.x
 x1:s.can.x ≤ 6
 y0:-6 ≤ s.can.y
 y1:s.can.y ≤ 6
 u0:s.can.x < s.can.u
 u1:s.can.u ≤ s.can.x + 5
 v0:s.can.y < s.can.v
 v1:s.can.v ≤ s.can.y + 4
 t0:1 ≤ s.tw
 t1:s.tw ≤ s.can.u - s.can.x
 t2:1 ≤ s.th
 t3:s.th ≤ s.can.v - s.can.y
def s0 (b:Int):Scr:=⟨b,⟨0,0,0,0⟩,0,0,none,0,0,[],none,0,0,[],none,0,0,[]⟩
abbrev Scr.wo (s:Scr) (A:Option Addr) (n c:Nat) (L:List Opr):Scr:=⟨s.bits,s.can,s.tw,s.th,s.oA,s.on,s.oc,s.ord,s.iA,s.inn,s.ic,s.ims,A,n,c,L⟩
structure ScJ (w Z:World) (T:Nat) (d:SceneD) (mx:Int) (s:Scr):Prop where
 I:ScI w T d Z s
 ord:Z.ownsRow w.heap.size 3 1 (.slice s.oA s.on s.oc) s.on (ints64 s.ord)
 im:Z.ownsRow w.heap.size 46 28 (.slice s.iA s.inn s.ic) s.inn (imgs s.ims)
 g:∀ m ∈ s.ims,ImgG Z w.heap.size mx m
 op:Z.ownsRow w.heap.size 29 12 (.slice s.pA s.pn s.pc) s.pn (oprs s.ops)
theorem ScJ.bel {w Z Z':World} {T:Nat} {d:SceneD} {mx:Int} {s:Scr} (h:ScJ w Z T d mx s) (hb:Bel Z Z'):ScJ w Z' T d mx s:=⟨h.I.bel hb,own_ext h.ord hb,own_ext h.im hb,fun m hm => (h.g m hm).bel hb,own_ext h.op hb⟩
theorem own_kept {Z Z':World} {b k n:Nat} {t:TypeId} {v v2:Value} {xs:List Value} (h:Z.ownsRow b t k v n xs) (hne:∀ q,v2.ownBlock = some q → v.ownBlock ≠ some q) (hg:Z.grownBy Z' v2.ownBlock):Z'.ownsRow b t k v n xs:=by
 refine h.kept hg ?_
 cases e:v.ownBlock with
 | none => exact .inl rfl
 | some q => exact .inr fun e2 => hne q e2.symm e
theorem ScJ.other {w Z Z':World} {T:Nat} {d:SceneD} {mx:Int} {s:Scr} {n:Nat} {v:Value} {xs:List Value} (h:ScJ w Z T d mx s) (hown:Z.ownsRow w.heap.size 29 12 v n xs) (hne:∀ q,v.ownBlock = some q → Value.ownBlock (.slice s.pA s.pn s.pc) ≠ some q) (hg:Z.grownBy Z' v.ownBlock):ScJ w Z' T d mx s :=
 ⟨h.I.grown hown (Nat.le_refl _) (by decide) (by decide) hg,own_grown h.ord hown (by decide) hg,own_grown h.im hown (by decide) hg,fun m hm => (h.g m hm).grown hown (by decide) hg,own_kept h.op hne hg⟩
theorem ScJ.addOp {w Z Z':World} {T:Nat} {d:SceneD} {mx:Int} {s:Scr} {A A':Option Addr} {p p' c c':Nat} {L L':List Opr} (h:ScJ w Z T d mx (s.wo A p c L)) (hg:Z.grownBy Z' (Value.ownBlock (.slice A p c))) (hown:Z'.ownsRow w.heap.size 29 12 (.slice A' p' c') p' (oprs L')) :
  ScJ w (Z'.setCell ⟨T,9,none⟩ (.slice A' p' c')) T d mx (s.wo A' p' c' L'):=by
 have I8:=h.I.grown h.op (Nat.le_refl _) (by decide) (by decide) hg
 have hu:=setCells_upd T [.slice A' p' c'] 9 Z'
 have ho:=own_grown h.ord h.op (by decide) hg
 have hi:=own_grown h.im h.op (by decide) hg
 exact ⟨I8.upd hu (heap_set _ I8.eO),own_upd ho hu (own_ne_heap ho I8.eO (by decide)),own_upd hi hu (own_ne_heap hi I8.eO (by decide)),fun m hm => ((h.g m hm).grown h.op (by decide) hg).upd hu I8.eO (by decide),own_upd hown hu (own_ne_heap hown I8.eO (by decide))⟩
theorem ScJ.row {w Z Z':World} {T:Nat} {d:SceneD} {mx:Int} {s:Scr} {A A':Option Addr} {p p' c c' n:Nat} {L L':List Opr} {v:Value} {xs:List Value} (h:ScJ w Z T d mx (s.wo A p c L)) (hg:Z.grownBy Z' (Value.ownBlock (.slice A p c))) (hr:Z.ownsRow w.heap.size 29 12 v n xs)
  (hne:∀ q,Value.ownBlock (.slice A p c) = some q → v.ownBlock ≠ some q):(Z'.setCell ⟨T,9,none⟩ (.slice A' p' c')).ownsRow w.heap.size 29 12 v n xs:=by
 have I8:=h.I.grown h.op (Nat.le_refl _) (by decide) (by decide) hg
 have hk:=own_kept hr hne hg
 exact own_upd hk (setCells_upd T [.slice A' p' c'] 9 Z') (own_ne_heap hk I8.eO (by decide))
theorem Sl.raw {W:World} {n i:Nat} {A:Option Addr} {l:List RawD} {p:RawD} (h:Sl W 11 n A (l.flatMap RawD.cs)) (hi:l[i]? = some p) (hn:i < n) :
  ∃ g off,A = some ⟨g,off,none⟩ ∧ W.cell? ⟨g,off + i * 11,none⟩ = some (.int .i64 p.k) ∧ W.cell? ⟨g,off + i * 11 + 1,none⟩ = some (.int .i64 p.im) ∧ W.cell? ⟨g,off + i * 11 + 2,none⟩ = some (.int .i64 p.x) ∧ W.cell? ⟨g,off + i * 11 + 3,none⟩ = some (.int .i64 p.y) ∧ W.cell? ⟨g,off + i * 11 + 4,none⟩ = some (.int .i64 p.ms) ∧ W.cell? ⟨g,off + i * 11 + 5,none⟩ = some (.int .i64 p.mx) ∧ W.cell? ⟨g,off + i * 11 + 6,none⟩ = some (.int .i64 p.my) ∧ W.cell? ⟨g,off + i * 11 + 7,none⟩ = some (.int .i64 p.oc) ∧ W.cell? ⟨g,off + i * 11 + 8,none⟩ = some (.int .i64 p.op) ∧ W.cell? ⟨g,off + i * 11 + 9,none⟩ = some (.int .i64 p.md) ∧ W.cell? ⟨g,off + i * 11 + 10,none⟩ = some (.int .i64 p.fl):=by
 obtain ⟨g,off,rfl,hc⟩:=h.2 (by omega)
 have k:∀ j u,j < 11 → p.cs[j]? = some u → W.cell? ⟨g,off + i * 11 + j,none⟩ = some u:=fun j u hj hu => by
  rw [Nat.add_assoc]
  exact hc _ u ((flat_get (f:=RawD.cs) (fun _ => rfl) l i j p hi hj).trans hu)
 exact ⟨g,off,rfl,k 0 _ (by decide) rfl,k 1 _ (by decide) rfl,k 2 _ (by decide) rfl,k 3 _ (by decide) rfl,k 4 _ (by decide) rfl,k 5 _ (by decide) rfl,k 6 _ (by decide) rfl,k 7 _ (by decide) rfl,k 8 _ (by decide) rfl,k 9 _ (by decide) rfl,k 10 _ (by decide) rfl⟩
theorem ctx_last {st:List Opr} {t:Opr} {m:Nat} (h:st.length = m + 1) (ht:st[m]? = some t):ctxB st = (t.iso && !t.kn):=by
 have e:st.getLast? = some t:=by
  rw [List.getLast?_eq_getElem?,h]
  exact ht
 unfold ctxB
 rw [e]
structure GScr (W:World) (base:Nat) (s:Scr) (F:Fo):Prop where
 ord:W.ownsRow base 3 1 (.slice s.oA s.on s.oc) s.on (ints64 s.ord)
 im:W.ownsRow base 46 28 (.slice s.iA s.inn s.ic) s.inn (imgs s.ims)
 op:W.ownsRow base 29 12 (.slice s.pA s.pn s.pc) s.pn (oprs s.ops)
 g:∀ m ∈ s.ims,ImgG W base s.mx m
 mxc:s.mx = 255 ∨ s.mx = 65535
 fr:FrG s.mx s
 oo:orderOk s.ord s.nt
 i1:1 ≤ s.inn
 i4:s.inn ≤ 4
 pn:s.pn ≤ 18
 fo:s.ops = F.flat
 ok:F.ok s.inn s.mx true
 pos:F.pos
 ps:opsE s.inn s.mx s.ops 0 [] = (0,0)
 nr:∀ o ∈ s.ops,(-40 ≤ o.x ∧ o.x ≤ 40) ∧ (-40 ≤ o.y ∧ o.y ≤ 40) ∧ (-40 ≤ o.mx ∧ o.mx ≤ 40) ∧ (-40 ≤ o.my ∧ o.my ≤ 40)
theorem scr_one (s:Scr):∀ u ∈ s.cs,u.oneCell' = true:=by
 intro u hu
 simp only [Scr.cs,List.mem_cons,List.not_mem_nil,or_false] at hu
 rcases hu with rfl | rfl | rfl | rfl | rfl | rfl | rfl | rfl | rfl | rfl <;> rfl
theorem gscr_of {w Z:World} {T:Nat} {d:SceneD} {mx:Int} {s1:Scr} {A:Option Addr} {p c:Nat} {L:List Opr} (J:ScJ w Z T d mx (s1.wo A p c L)) (f:FrG mx s1) (ho:orderOk s1.ord s1.nt) (k1:1 ≤ s1.inn) (k4:s1.inn ≤ 4) (hp:p ≤ 18) (hmx:mx = 255 ∨ mx = 65535) (hG:OpsG s1.inn mx L [])
  {W:World} (hU:Upd (w.heap.size + 1) Z W):∃ F:Fo,GScr W w.heap.size (s1.wo A p c L) F:=by
 obtain rfl:s1.mx = mx:=f.mx
 obtain ⟨ps,F,hF,hk,hpos⟩:=hG.done
 exact ⟨F,own_upd J.ord hU (own_ne_heap J.ord J.I.eR (by decide)),own_upd J.im hU (own_ne_heap J.im J.I.eR (by decide)),own_upd J.op hU (own_ne_heap J.op J.I.eR (by decide)),fun m hm => (J.g m hm).upd hU J.I.eR (by decide),hmx,
  ⟨f.bt,rfl,f.x0,f.x1,f.y0,f.y1,f.u0,f.u1,f.v0,f.v1,f.t0,f.t1,f.t2,f.t3⟩,ho,k1,k4,hp,hF,hk,hpos,ps,hG.sm⟩
def seqR:Nat → Code → Code
 | 0,c => c
 | n + 1,.seq _ b => seqR n b
 | _ + 1,c => c
set_option maxHeartbeats 16000000 in
theorem scr3 (d:SceneD) (w:World) (T:Nat) (mx:Int) (hmc:mx = 255 ∨ mx = 65535) (s1:Scr) (hFR:FrG mx s1) (hOK:orderOk s1.ord s1.nt) (k1:1 ≤ s1.inn) (k4:s1.inn ≤ 4) (n p:Nat) (L st:List Opr) (A:Option Addr) (c:Nat) (B:Option Addr) (cB:Nat) (hnl:st.length = n) (hn9:n ≤ 9) (hpl:L.length = p) (hp9:p ≤ 9)
  (V3:World) (J:ScJ w V3 T d mx (s1.wo A p c L)) (hG:OpsG s1.inn mx L st) {t5 t6 t7 t8 t9 t10 t11 t12 t14 t15 t16 t17 t18 t19 t20 t21 t22 t23 t24 t25 t26 t27 t28 t29 t30 t31 t32 t33 t34 t35 t36 t37 t38 t39 t40 t41 t42 t43 t44 t45 t46 t47 t48 t49 t50 t51 t52 t53 t54 t55 t56 t57 t58 t59 t60 t61 t62 t63 t64 t65 t66 t67 t68 t69 t70 t71 t72 t73 t74 t75 t76 t77 t78 t79 t80 t81 t82 t83 t84 t85 t86 t87 t88 t89 t90 t91 t92 t93 t94 t95 t96 t97 t98 t99 t100 t101 t102 t103 t104 t105 t106 t107 t108 t109 t110 t111 t112 t113 t114 t115 t116 t117 t118 t119 t120 t121 t122 t123 t124 t125 t126 t127 t128 t129 t130 t131 t132 t133 t134 t135 t136 t137 t138 t139 t140 t141 t142 t143 t144 t145 t146 t147 t148 t149 t150 t151 t152 t153 t154 t155 t156 t157 t158 t159 t160 t161 t162 t163 t164 t165 t166 t167 t168 t169 t170 t171 t172 t173 t174 t175 t176 t177 t178 t179 t180 t181 t182 t183 t184 t185 t186 t187 t188 t189 t190 t191 t192 t193 t194 t195 t196 t197 t198 t199 t200 t201 t202 t203 t204 t205 t206 t207 t208 t209 t210 t211 t212 t213 t214 t215 t216 t217 t218 t219 t220:Value}:Code.wp Tryz.prog (seqR 14 (Tryz.f7.body.getD .skip)) (bodyPost Tryz.prog Tryz.f7 (fun e w' => ∃ (s:Scr) (F:Fo),e = .returned s.v ∧ GScr w' w.heap.size s F ∧ Bel w w')) { tmps:=List.toArray (d.v :: Value.pointer (some ⟨w.heap.size,0,none⟩) :: Value.pointer (some ⟨w.heap.size + 1,0,none⟩) :: Value.int .u16 mx :: Value.pointer (some ⟨T,0,none⟩) :: t5 :: t6 :: t7 :: t8 :: t9 :: t10 :: t11 :: t12 :: Value.slice B n cB :: t14 :: t15 :: t16 :: t17 :: t18 :: t19 :: t20 :: t21 :: t22 :: t23 :: t24 :: t25 :: t26 :: t27 :: t28 :: t29 :: t30 :: t31 :: t32 :: t33 :: t34 :: t35 :: t36 :: t37 :: t38 :: t39 :: t40 :: t41 :: t42 :: t43 :: t44 :: t45 :: t46 :: t47 :: t48 :: t49 :: t50 :: t51 :: t52 :: t53 :: t54 :: t55 :: t56 :: t57 :: t58 :: t59 :: t60 :: t61 :: t62 :: t63 :: t64 :: t65 :: t66 :: t67 :: t68 :: t69 :: t70 :: t71 :: t72 :: t73 :: t74 :: t75 :: t76 :: t77 :: t78 :: t79 :: t80 :: t81 :: t82 :: t83 :: t84 :: t85 :: t86 :: t87 :: t88 :: t89 :: t90 :: t91 :: t92 :: t93 :: t94 :: t95 :: t96 :: t97 :: t98 :: t99 :: t100 :: t101 :: t102 :: t103 :: t104 :: t105 :: t106 :: t107 :: t108 :: t109 :: t110 :: t111 :: t112 :: t113 :: t114 :: t115 :: t116 :: t117 :: t118 :: t119 :: t120 :: t121 :: t122 :: t123 :: t124 :: t125 :: t126 :: t127 :: t128 :: t129 :: t130 :: t131 :: t132 :: t133 :: t134 :: t135 :: t136 :: t137 :: t138 :: t139 :: t140 :: t141 :: t142 :: t143 :: t144 :: t145 :: t146 :: t147 :: t148 :: t149 :: t150 :: t151 :: t152 :: t153 :: t154 :: t155 :: t156 :: t157 :: t158 :: t159 :: t160 :: t161 :: t162 :: t163 :: t164 :: t165 :: t166 :: t167 :: t168 :: t169 :: t170 :: t171 :: t172 :: t173 :: t174 :: t175 :: t176 :: t177 :: t178 :: t179 :: t180 :: t181 :: t182 :: t183 :: t184 :: t185 :: t186 :: t187 :: t188 :: t189 :: t190 :: t191 :: t192 :: t193 :: t194 :: t195 :: t196 :: t197 :: t198 :: t199 :: t200 :: t201 :: t202 :: t203 :: t204 :: t205 :: t206 :: t207 :: t208 :: t209 :: t210 :: t211 :: t212 :: t213 :: t214 :: t215 :: t216 :: t217 :: t218 :: t219 :: t220 :: []),defers:=[] } V3:=by
 obtain ⟨j0,ji,jz0,jz1,jz2⟩:=info_parts info_op
 have HMC:=hd_ hmc
 have HF1:=hd_ hFR
 have HO1:=hd_ hOK
 have HNL:=hd_ hnl
 have HPL:=hd_ hpl
 have HJ:=hd_ J
 have HG:=hd_ hG
 clear hmc hFR hOK hnl hpl J hG
 change let Q:=bodyPost Tryz.prog Tryz.f7 (fun e w' => ∃ (s:Scr) (F:Fo),e = .returned s.v ∧ GScr w' w.heap.size s F ∧ Bel w w'); Code.wp Tryz.prog (seqR 14 (Tryz.f7.body.getD .skip)) Q { tmps:=List.toArray (d.v :: Value.pointer (some ⟨w.heap.size,0,none⟩) :: Value.pointer (some ⟨w.heap.size + 1,0,none⟩) :: Value.int .u16 mx :: Value.pointer (some ⟨T,0,none⟩) :: t5 :: t6 :: t7 :: t8 :: t9 :: t10 :: t11 :: t12 :: Value.slice B n cB :: t14 :: t15 :: t16 :: t17 :: t18 :: t19 :: t20 :: t21 :: t22 :: t23 :: t24 :: t25 :: t26 :: t27 :: t28 :: t29 :: t30 :: t31 :: t32 :: t33 :: t34 :: t35 :: t36 :: t37 :: t38 :: t39 :: t40 :: t41 :: t42 :: t43 :: t44 :: t45 :: t46 :: t47 :: t48 :: t49 :: t50 :: t51 :: t52 :: t53 :: t54 :: t55 :: t56 :: t57 :: t58 :: t59 :: t60 :: t61 :: t62 :: t63 :: t64 :: t65 :: t66 :: t67 :: t68 :: t69 :: t70 :: t71 :: t72 :: t73 :: t74 :: t75 :: t76 :: t77 :: t78 :: t79 :: t80 :: t81 :: t82 :: t83 :: t84 :: t85 :: t86 :: t87 :: t88 :: t89 :: t90 :: t91 :: t92 :: t93 :: t94 :: t95 :: t96 :: t97 :: t98 :: t99 :: t100 :: t101 :: t102 :: t103 :: t104 :: t105 :: t106 :: t107 :: t108 :: t109 :: t110 :: t111 :: t112 :: t113 :: t114 :: t115 :: t116 :: t117 :: t118 :: t119 :: t120 :: t121 :: t122 :: t123 :: t124 :: t125 :: t126 :: t127 :: t128 :: t129 :: t130 :: t131 :: t132 :: t133 :: t134 :: t135 :: t136 :: t137 :: t138 :: t139 :: t140 :: t141 :: t142 :: t143 :: t144 :: t145 :: t146 :: t147 :: t148 :: t149 :: t150 :: t151 :: t152 :: t153 :: t154 :: t155 :: t156 :: t157 :: t158 :: t159 :: t160 :: t161 :: t162 :: t163 :: t164 :: t165 :: t166 :: t167 :: t168 :: t169 :: t170 :: t171 :: t172 :: t173 :: t174 :: t175 :: t176 :: t177 :: t178 :: t179 :: t180 :: t181 :: t182 :: t183 :: t184 :: t185 :: t186 :: t187 :: t188 :: t189 :: t190 :: t191 :: t192 :: t193 :: t194 :: t195 :: t196 :: t197 :: t198 :: t199 :: t200 :: t201 :: t202 :: t203 :: t204 :: t205 :: t206 :: t207 :: t208 :: t209 :: t210 :: t211 :: t212 :: t213 :: t214 :: t215 :: t216 :: t217 :: t218 :: t219 :: t220 :: []),defers:=[] } V3
 intro Q
 obtain ⟨C,hC⟩:∃ C,C = seqR 14 (Tryz.f7.body.getD .skip):=⟨_,rfl⟩
 rw [← hC]
 dsimp only [Tryz.f7,Option.getD,seqR] at hC
 subst hC
 go_wp2_with fail
 go_loopg [19] n (fun gk s19 wr => ∃ (j p:Nat) (L:List Opr) (A:Option Addr) (c:Nat),j + gk = n ∧ s19 = .int .i64 j ∧ L.length = p ∧ p ≤ 9 + j ∧ ScJ w wr T d mx (s1.wo A p c L) ∧ OpsG s1.inn mx L (st.take (n - j)))
 case atStart => exact ⟨0,p,L,A,c,by omega,rfl,HPL.out,by omega,HJ.out,by rw [Nat.sub_zero,List.take_of_length_le (by rw [HNL.out]; exact Nat.le_refl _)]; exact HG.out⟩
 case round =>
  clear HJ HG HPL
  obtain ⟨j,p,L,A,c,hgk3,rfl,hpl,hpj,J,hG⟩:=hrel
  have HJ:=hd_ J
  have HG:=hd_ hG
  have HPL:=hd_ hpl
  clear J hG hpl
  by_cases hlt3:j < n
  case pos =>
   have hd:decide ((j:Int) < (n:Int)) = true:=decide_eq_true (by omega)
   have hd':decide (j < n) = true:=decide_eq_true hlt3
   have hbase2:=HJ.out.I.hX.size'
   have hlt1:=lt_of_heap HJ.out.I.eO
   have O_9:=cq9 HJ.out.I.eO rfl
   have fO:=frozA HJ.out.I.eO
   have hpc:p + 1 ≤ maxLen:=by unfold maxLen; omega
   have hpd:(p + 1) * 88 ≤ 140737488355328:=by omega
   go_upto_region 33 with (first | (at_builtin; refine wpList_append_own2 rfl _ _ 36 rfl w.heap.size 29 j0 (.agg #[.int .i64 0,.int .i64 0,.int .i64 0,.int .i64 0,.int .i64 0,.int .i64 0,.int .i64 0,.int .u16 0,.int .i64 0,.int .i64 0,.bool false,.bool false]) 12 88 Tryz.underlying36 ji jz0 jz1 jz2 rfl (by decide) _ _ _ rfl (own_ext HJ.out.op ((Bel.refl wr).al _)) ⟨wr.heap.size,0,none⟩ 1 1 popO.cs rfl rfl (new_row wr popO.cs _) (op_one popO) hpc hpd (Nat.le_trans hbase2 ((Bel.refl wr).al _).size') (by decide) ?_) | fail)
   intro v3 W3 hown3 hgr3 hblk3
   obtain ⟨A3,c3,rfl,-⟩:=own_sl hown3
   have J3:=HJ.out.bel ((Bel.refl wr).al (.cells popO.cs.toArray 29))
   have I3:=J3.I.grown J3.op (Nat.le_refl _) (by decide) (by decide) hgr3
   have JN:=J3.addOp (A':=A3) (p':=p + 1) (c':=c3) (L':=L ++ [popO]) hgr3 (by rw [oprs_snoc]; exact hown3)
   clear O_9 fO hpc hpd
   have O_9:=cq9 I3.eO rfl
   have fO:=frozA I3.eO
   have lO:=lt_of_heap I3.eO
   have HN3:=hd_ JN
   clear J3 I3 JN hown3 hgr3 hblk3
   go_wp2_with fail
   go_roundg (gk - 1)
   case measure => omega
   case rel =>
    have hl:(st.take (n - j)).length = n - j:=by rw [List.length_take,HNL.out]; omega
    have hg:=HG.out.pop (fun e => by rw [e] at hl; simp at hl; omega)
    rw [List.dropLast_eq_take,hl,List.take_take,show min (n - j - 1) (n - j) = n - (j + 1) by omega] at hg
    exact ⟨j + 1,p + 1,L ++ [popO],A3,c3,by omega,by go_num,by rw [List.length_append,HPL.out]; rfl,by omega,HN3.out,hg⟩
  case neg =>
   obtain rfl:j = n:=by omega
   have hd:decide ((j:Int) < (j:Int)) = false:=decide_eq_false (by omega)
   have lscr:=scr_ld HJ.out.I.eO
   have eR:=HJ.out.I.eR
   have hXR:=HJ.out.I.hX
   go_upto_region 35 with fail
   go_cut [] (fun Z => ∃ F:Fo,GScr Z w.heap.size (s1.wo A p c L) F ∧ Z.heap[w.heap.size + 1]? = some (.cells (s1.wo A p c L).cs.toArray 38) ∧ Bel w Z)
   case first =>
    go_wp2_with (first | ((with_reducible show wpList _ _ _ (⟨some 220,_,_,_,_,_⟩ :: _) _ _); refine wpList_ld rfl rfl rfl (lscr) ?_) | ((with_reducible show wpList _ _ _ (⟨none,.store _ _ _,_,_,_,_⟩ :: _) _ _); refine wpList_st (n:=0) (g:=w.heap.size + 1) (cells:=(s1.wo A p c L).cs) rfl rfl rfl rfl eR rfl (by kernel_rfl) (scr_one (s1.wo A p c L)) ?_; intro W6 eR6 hU6) | fail)
    go_meet
    have hg:=HG.out
    rw [Nat.sub_self,List.take_zero] at hg
    obtain ⟨F,h⟩:=gscr_of HJ.out HF1.out HO1.out k1 k4 (by omega) HMC.out hg hU6
    exact ⟨F,h,eR6,hU6.bel hXR (by omega)⟩
   case rest =>
    obtain ⟨F,hGF,eR6,hX6⟩:=hcut
    have HGF:=hd_ hGF
    have HE6:=hd_ eR6
    have HX6:=hd_ hX6
    clear hGF eR6 hX6 lscr eR hXR
    have hK:=‹∀ (a:Act) (w:World),Code.wp Tryz.prog Code.ret _ a w → _›
    refine hK _ _ ?_
    refine wp_ret ?_
    refine bodyPost_ret (v:=(s1.wo A p c L).v) (results_row1 (fn:=Tryz.f7) rfl _ _ (w.heap.size + 1) 38 (s1.wo A p c L).cs.toArray (0,0) _ rfl HE6.out Tryz.underlying38 rfl (by kernel_rfl)) rfl ⟨s1.wo A p c L,F,rfl,HGF.out,HX6.out⟩
end Go.Proofs.YtepfoelgegljbaaGreatDoor
