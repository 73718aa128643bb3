/- Part I4. -/
import Derived.Test.YtepfoelgegljbaaGreatDoorA43
import Derived.Test.YtepfoelgegljbaaGreatDoorI02
namespace Go.Proofs.YtepfoelgegljbaaGreatDoor
set_option maxRecDepth 100000
open Go.RowKit
set_option linter.unusedVariables false
theorem validI_parts {m:Img} {mx:Int} (h:validI m mx = 0):formB m = true ∧ ∀ X Y,inB m X Y = true → (pxF m X Y).vd mx = true:=by
 have hs:shapeI m = 0:=by
  unfold validI at h
  split at h
  ·exact h
  ·omega
 have hf:formB m = true:=by
  unfold shapeI at hs
  split at hs
  ·split at hs
   ·assumption
   ·omega
  ·omega
 refine ⟨hf,fun X Y hi => ?_⟩
 unfold validI at h
 rw [if_neg (by rw [hs]; decide)] at h
 by_cases hb:m.solid = true
 ·rw [if_pos hb] at h
  split at h
  ·unfold pxF
   rw [if_pos hb]
   assumption
  ·omega
 ·rw [if_neg hb] at h
  unfold codeV at h
  split at h
  ·rename_i ha
   unfold allV at ha
   rw [List.all_eq_true] at ha
   obtain ⟨a,b,c,d⟩:=inB_iff.1 hi
   refine ha (X,Y) ?_
   unfold uptoP
   refine List.mem_append.2 (.inl (List.mem_flatMap.2 ⟨Y.toNat,List.mem_range.2 (by omega),List.mem_map.2 ⟨X.toNat,List.mem_range.2 (by omega),?_⟩⟩))
   rw [Int.toNat_of_nonneg a,Int.toNat_of_nonneg c]
  ·omega
def Px.nn (p:Px):Prop:=0 ≤ p.x ∧ 0 ≤ p.y ∧ 0 ≤ p.z
theorem vd_ok {p:Px} {mx:Int} (h:p.vd mx = true) (hn:p.nn):Px.ok mx p:=by
 unfold Px.vd validB at h
 obtain ⟨h1,h2,h3,h4,h5⟩:=of_decide_eq_true h
 exact ⟨hn.1,hn.2.1,hn.2.2,h1,h2,h3,h4,h5⟩
def nnI (m:Img):Prop:=formB m = true → ∀ X Y,inB m X Y = true → (pxF m X Y).nn
theorem nnI.px {m:Img} {mx:Int} (h:nnI m) (hm:0 ≤ mx) (hv:validI m mx = 0) (X Y:Int):Px.ok mx (atF m X Y):=by
 obtain ⟨hf,hp⟩:=validI_parts hv
 unfold atF
 cases hc:inB m X Y with
 | true =>
  rw [hf]
  exact vd_ok (hp X Y hc) (h hf X Y hc)
 | false =>
  rw [hf]
  exact pxz_ok' hm
section
variable {W:World} {base:Nat} {mx:Int} {m:Img} (h:ImgG W base mx m)
include h
theorem ImgG.nn:nnI m:=fun hf X Y hi => by
 have k:=h.px X Y
 unfold atF at k
 rw [hf,hi] at k
 exact ⟨k.x0,k.y0,k.z0⟩
theorem ImgG.nnCol (p:Px) (hp:p.nn):nnI { m with col:=p }:=fun hf X Y hi => by
 unfold pxF
 by_cases hs:m.solid = true
 ·rw [if_pos (show ({ m with col:=p }:Img).solid = true from hs)]
  exact hp
 ·rw [if_neg (show ¬ ({ m with col:=p }:Img).solid = true from hs)]
  have k:=h.nn (validI_parts h.ok).1 X Y hi
  unfold pxF at k
  rw [if_neg hs] at k
  exact k
theorem ImgG.nnW (v:Int):nnI { m with w:=v }:=fun hf X Y hi => by
 by_cases hs:m.solid = true
 ·unfold pxF
  rw [if_pos (show ({ m with w:=v }:Img).solid = true from hs)]
  have k:=h.nn (validI_parts h.ok).1 0 0 (inB_iff.2 ⟨Int.le_refl _,by have:=h.w0; omega,Int.le_refl _,by have:=h.h0; omega⟩)
  unfold pxF at k
  rw [if_pos hs] at k
  exact k
 ·have hs':m.solid = false:=by simpa using hs
  have e1:m.p0.w = v:=(form_pl hf (show ({ m with w:=v }:Img).solid = false from hs') 0).2.1
  have e2:m.p0.w = m.w:=(form_pl (validI_parts h.ok).1 hs' 0).2.1
  have e:v = m.w:=e1.symm.trans e2
  subst e
  exact h.nn (validI_parts h.ok).1 X Y hi
end
theorem pos_flat (F:Fo) (h:F.pos):∀ o ∈ F.flat,0 ≤ o.oc:=by
 induction F with
 | nil => intro o ho; cases ho
 | draw p r ih =>
  intro o ho
  rcases List.mem_cons.1 ho with rfl | ho
  ·exact h.1
  ·exact ih h.2 o ho
 | grp p k r ihk ihr =>
  intro o ho
  rcases List.mem_cons.1 ho with rfl | ho
  ·exact h.1
  ·rcases List.mem_append.1 ho with ho | ho
   ·exact ihk h.2.1 o ho
   ·rcases List.mem_cons.1 ho with rfl | ho
    ·exact Int.le_refl _
    ·exact ihr h.2.2 o ho
structure IoP (s:Scr):Prop where
 sm:s.Sm
 oc:∀ o ∈ s.ops,0 ≤ o.oc
 nn:∀ m ∈ s.ims,nnI m
theorem GScr.io {W:World} {base:Nat} {s:Scr} {F:Fo} (h:GScr W base s F):IoP s:=⟨h.sm,by rw [h.fo]; exact pos_flat F h.pos,fun m hm => (h.g m hm).nn⟩
theorem imgsE_all {mx:Int} (l:List Img) (i:Nat) (h:(imgsE mx l i).1 = 0):∀ m ∈ l,validI m mx = 0:=by
 induction l generalizing i with
 | nil => intro m hm; cases hm
 | cons p r ih =>
  unfold imgsE at h
  intro m hm
  split at h
  ·rename_i hne
   exact absurd h hne
  ·rename_i hne
   rcases List.mem_cons.1 hm with rfl | hm
   ·omega
   ·exact ih (i + 1) h m hm
theorem opsE_fst {n mx:Int} (l:List Opr) (i:Nat) (op:List Opr) (h:(opsE n mx l i op).1 = 0):opsE n mx l i op = (0,0):=by
 induction l generalizing i op with
 | nil =>
  unfold opsE at h ⊢
  split at h
  ·rename_i h0
   rw [if_pos h0]
  ·cases h
 | cons p r ih =>
  unfold opsE at h ⊢
  split at h
  ·rename_i hne
   exact absurd h hne
  ·rename_i hne
   rw [if_neg hne]
   split at h
   ·rename_i h2
    rw [if_pos h2]
    exact ih _ _ h
   ·rename_i h2
    rw [if_neg h2]
    split at h
    ·rename_i h3
     rw [if_pos h3]
     exact ih _ _ h
    ·rename_i h3
     rw [if_neg h3]
     exact ih _ _ h
theorem checkE_parts {s:Scr} (h:(checkE s).1 = 0):frameE s = 0 ∧ (∀ m ∈ s.ims,validI m s.mx = 0) ∧ opsE s.inn s.mx s.ops 0 [] = (0,0):=by
 unfold checkE at h
 split at h
 ·rename_i hne
  exact absurd h hne
 ·rename_i hne
  have hf:frameE s = 0:=by omega
  split at h
  ·rename_i hne2
   exact absurd h hne2
  ·rename_i hne2
   unfold opsEs at h
   rw [if_neg (by rw [hf]; decide)] at h
   exact ⟨hf,imgsE_all s.ims 0 (by omega),opsE_fst _ _ _ h⟩
theorem frm_bits {s:Scr} (h:frameE s = 0):s.bits = 8 ∨ s.bits = 16:=by
 unfold frameE at h
 split at h
 ·omega
 ·rename_i hne
  unfold maxB at hne
  split at hne
  ·exact .inl (by assumption)
  ·split at hne
   ·exact .inr (by assumption)
   ·exact absurd rfl hne
theorem IoP.done {s:Scr} (h:IoP s) (hc:(checkE s).1 = 0):checkE s = (0,0) ∧ (s.bits = 8 ∨ s.bits = 16) ∧ (s.mx = 255 ∨ s.mx = 65535) ∧ SrcOk s.ims s.mx ∧ ∃ F:Fo,s.Vb F ∧ F.pos:=by
 obtain ⟨hf,hi,ho⟩:=checkE_parts hc
 have hb:=frm_bits hf
 have hmx:s.mx = 255 ∨ s.mx = 65535:=by
  unfold Scr.mx
  rcases hb with e | e
  ·rw [e]; exact .inl rfl
  ·rw [e]; exact .inr rfl
 obtain ⟨F,hF,hk⟩:=opsE_forest (n:=s.inn) (mx:=s.mx) (l:=s.ops) (by rw [ho])
 refine ⟨checkE_zero hf hi ho,hb,hmx,srcOk_of (by omega) fun m hm X Y => (h.nn m hm).px (by omega) (hi m hm) X Y,F,⟨hF,hk,fun m hm => ?_,hf,ho⟩,flat_pos F (by rw [← hF]; exact h.oc)⟩
 have hsz:=size_le (form_parts (validI_parts (hi m hm)).1).1
 unfold Img.sm
 omega
theorem io_valid {W:World} {b:Nat} {s:Scr} {F:Fo} {m:Img} (hm:s.Sm) (H:ImOf W b (s.can.u - s.can.x) (s.can.v - s.can.y) (s.img F) (s.ht * s.wd) m) (hV:s.Vb F) (hS:SrcOk s.ims s.mx) (hpos:F.pos) (hmx:s.mx = 255 ∨ s.mx = 65535) (w:World) (hi:m.In w) :
  Calls Tryz.prog 14 #[m.v,.int .u16 s.mx] w fun e w' => e = .returned (.int .i64 0) ∧ Bel w w':=by
 obtain ⟨e1,e2,e3,e4⟩:=im_dims hm H
 exact wvalid_call m s.mx s.wd s.ht e1 e2 (im_form hm H) H.es (fun i j hi hj => by rw [im_px hm H hi hj]; exact ok_vd (gF_ok hm hV hS hpos hmx j i)) w hi
theorem im_part {l:List Img} {i:Nat} {m m':Img} (hm:l[i]? = some m) (o:Nat) (vs:List Value) (hv:o + vs.length ≤ 28) (hA:∀ j u,vs[j]? = some u → m'.cs[o + j]? = some u) (hB:∀ r,r < 28 → (r < o ∨ o + vs.length ≤ r) → m'.cs[r]? = m.cs[r]?) :
  (∀ j u,vs[j]? = some u → (imgs (l.set i m'))[i * 28 + o + j]? = some u) ∧ ∀ j,j < i * 28 + o ∨ i * 28 + o + vs.length ≤ j → (imgs (l.set i m'))[j]? = (imgs l)[j]?:=by
 have hi:=(List.getElem?_eq_some_iff.1 hm).1
 have hf:∀ a:Img,a.cs.length = 28:=fun _ => rfl
 refine ⟨fun j u hu => ?_,fun j hj => ?_⟩
 ·have hjl:=(List.getElem?_eq_some_iff.1 hu).1
  rw [Nat.add_assoc]
  exact (flat_get (f:=Img.cs) hf (l.set i m') i (o + j) m' (List.getElem?_set_self hi) (by omega)).trans (hA j u hu)
 ·by_cases hlt:j / 28 < l.length
  ·have hjd:j = j / 28 * 28 + j % 28:=by omega
   have hr:j % 28 < 28:=Nat.mod_lt _ (by decide)
   obtain ⟨b,hb⟩:∃ b,l[j / 28]? = some b:=⟨_,List.getElem?_eq_getElem hlt⟩
   by_cases e:j / 28 = i
   ·rw [e] at hjd
    have h1:=flat_get (f:=Img.cs) hf (l.set i m') i (j % 28) m' (List.getElem?_set_self hi) hr
    have h2:=flat_get (f:=Img.cs) hf l i (j % 28) m hm hr
    rw [← hjd] at h1 h2
    exact h1.trans ((hB _ hr (by omega)).trans h2.symm)
   ·have h1:=flat_get (f:=Img.cs) hf (l.set i m') (j / 28) (j % 28) _ ((List.getElem?_set_ne (fun e' => e e'.symm)).trans hb) hr
    have h2:=flat_get (f:=Img.cs) hf l (j / 28) (j % 28) _ hb hr
    rw [← hjd] at h1 h2
    exact h1.trans h2.symm
  ·rw [List.getElem?_eq_none (by rw [imgs_len,List.length_set]; omega),List.getElem?_eq_none (by rw [imgs_len]; omega)]
theorem own_heap {w:World} {base k n c g:Nat} {t:TypeId} {xs:List Value} (h:w.ownsRow base t k (.slice (some ⟨g,0,none⟩) n c) n xs):∃ cs,w.heap[g]? = some (.cells cs t):=by
 rcases h.2 with ⟨hv,-⟩ | ⟨g',cap,cur,e1,e2,e3,-⟩
 ·cases hv
 ·cases e1
  exact ⟨cur,e3⟩
abbrev Scr.wi (s:Scr) (l:List Img):Scr:={ s with ims:=l }
abbrev Scr.wor (s:Scr) (A:Option Addr) (n c:Nat) (l:List Int):Scr:={ s with oA:=A,on:=n,oc:=c,ord:=l }
abbrev Scr.wbit (s:Scr) (b:Int):Scr:={ s with bits:=b }
theorem mem_set {α:Type} {l:List α} {i:Nat} {a b:α} (h:b ∈ l.set i a):b ∈ l ∨ b = a:=by
 rcases List.mem_or_eq_of_mem_set h with h | h
 ·exact .inl h
 ·exact .inr h
structure IoR (W:World) (base:Nat) (s:Scr):Prop where
 on:s.on ≤ 1000
 inn:s.inn ≤ 1000
 pn:s.pn ≤ 1000
 ord:W.ownsRow base 3 1 (.slice s.oA s.on s.oc) s.on (ints64 s.ord)
 im:W.ownsRow base 46 28 (.slice s.iA s.inn s.ic) s.inn (imgs s.ims)
 op:W.ownsRow base 29 12 (.slice s.pA s.pn s.pc) s.pn (oprs s.ops)
 pl:∀ m ∈ s.ims,∀ i,i < 5 → PlR W base (m.pl i)
theorem IoR.In {W:World} {base:Nat} {s:Scr} (h:IoR W base s):s.In W :=
 ⟨h.on,h.inn,h.pn,own_sl' h.ord,own_sl' h.im,own_sl' h.op,fun m hm => ⟨(h.pl m hm 0 (by decide)).In,(h.pl m hm 1 (by decide)).In,(h.pl m hm 2 (by decide)).In,(h.pl m hm 3 (by decide)).In,(h.pl m hm 4 (by decide)).In⟩⟩
theorem IoR.upd {W W':World} {base g:Nat} {s:Scr} {cs:Array Value} {t:TypeId} (h:IoR W base s) (hU:Upd g W W') (e:W.heap[g]? = some (.cells cs t)) (h1:3 ≠ t) (h2:46 ≠ t) (h3:29 ≠ t) (h4:27 ≠ t):IoR W' base s :=
 ⟨h.on,h.inn,h.pn,own_upd h.ord hU (own_ne_heap h.ord e h1),own_upd h.im hU (own_ne_heap h.im e h2),own_upd h.op hU (own_ne_heap h.op e h3),fun m hm i hi => ⟨own_upd (h.pl m hm i hi).own hU (own_ne_heap (h.pl m hm i hi).own e h4),(h.pl m hm i hi).le⟩⟩
section
variable {W:World} {base:Nat} {s:Scr} {F:Fo} (h:GScr W base s F)
include h
theorem GScr.r:IoR W base s:=⟨h.In.on,h.In.inn,h.In.pn,h.ord,h.im,h.op,fun m hm => (h.g m hm).own⟩
theorem GScr.imset {W':World} {g i:Nat} {m m':Img} (hA:s.iA = some ⟨g,0,none⟩) (hm:s.ims[i]? = some m) (hp:∀ i,i < 5 → m'.pl i = m.pl i) (ho:W'.ownsRow base 46 28 (.slice (some ⟨g,0,none⟩) s.inn s.ic) s.inn (imgs (s.ims.set i m'))) (hU:Upd g W W'):IoR W' base (s.wi (s.ims.set i m')):=by
 have hI:=h.im
 rw [hA] at hI
 obtain ⟨cs,e⟩:=own_heap hI
 have hin:=h.In
 have hmem:∀ q ∈ s.ims,∀ i,i < 5 → PlR W' base (q.pl i):=fun q hq => ((h.g q hq).upd hU e (by decide)).own
 refine ⟨hin.on,hin.inn,hin.pn,own_upd h.ord hU (own_ne_heap h.ord e (by decide)),?_,own_upd h.op hU (own_ne_heap h.op e (by decide)),fun q hq j hj => ?_⟩
 ·show W'.ownsRow base 46 28 (.slice s.iA s.inn s.ic) s.inn _
  rw [hA]
  exact ho
 ·rcases mem_set hq with hq | rfl
  ·exact hmem q hq j hj
  ·rw [hp j hj]
   exact hmem m (List.mem_of_getElem? hm) j hj
theorem GScr.opapp {W':World} {A:Option Addr} {n c:Nat} {L:List Opr} (hg:W.grownBy W' (Value.ownBlock (.slice s.pA s.pn s.pc))) (ho:W'.ownsRow base 29 12 (.slice A n c) n (oprs L)) (hn:n ≤ 1000):IoR W' base (s.wo A n c L) :=
 ⟨h.In.on,h.In.inn,hn,own_grown h.ord h.op (by decide) hg,own_grown h.im h.op (by decide) hg,ho,fun q hq => ((h.g q hq).grown h.op (by decide) hg).own⟩
theorem GScr.ords {W':World} (hb:Bel W W') {g:Nat} {v:Int} (e:W'.heap[g]? = some (.cells #[.int .i64 v] 3)) (hg:base ≤ g):IoR W' base (s.wor (some ⟨g,0,none⟩) 1 1 [v]):=by
 have k:=(h.bel hb).r
 exact ⟨by show 1 ≤ 1000; decide,k.inn,k.pn,⟨rfl,.inr ⟨g,1,#[.int .i64 v],rfl,hg,e,Nat.le_refl _,by decide,rfl,rfl⟩⟩,k.im,k.op,k.pl⟩
theorem GScr.bt (b:Int):IoR W base (s.wbit b):=⟨h.In.on,h.In.inn,h.In.pn,h.ord,h.im,h.op,fun m hm => (h.g m hm).own⟩
theorem GScr.ioOp {A:Option Addr} {c:Nat} {o:Opr} (hoc:0 ≤ o.oc):IoP (s.wo A (s.pn + 1) c (s.ops ++ [o])):=by
 have hm:=h.sm
 have k:=h.io
 have hpn:=h.pn
 refine ⟨⟨hm.w0,hm.w1,hm.h0,hm.h1,hm.x0,hm.x1,hm.y0,hm.y1,hm.t0,hm.t1,hm.t2,hm.t3,hm.i0,by show s.pn + 1 ≤ 100; omega⟩,fun q hq => ?_,k.nn⟩
 rcases List.mem_append.1 hq with hq | hq
 ·exact k.oc q hq
 ·rw [List.mem_singleton.1 hq]
  exact hoc
theorem GScr.ioIm {i:Nat} {m':Img} (hn:nnI m'):IoP (s.wi (s.ims.set i m')):=by
 have hm:=h.sm
 have k:=h.io
 refine ⟨⟨hm.w0,hm.w1,hm.h0,hm.h1,hm.x0,hm.x1,hm.y0,hm.y1,hm.t0,hm.t1,hm.t2,hm.t3,hm.i0,hm.p0⟩,k.oc,fun q hq => ?_⟩
 rcases mem_set hq with hq | rfl
 ·exact k.nn q hq
 ·exact hn
theorem GScr.ioOr (A:Option Addr) (n c:Nat) (l:List Int):IoP (s.wor A n c l):=by
 have hm:=h.sm
 exact ⟨⟨hm.w0,hm.w1,hm.h0,hm.h1,hm.x0,hm.x1,hm.y0,hm.y1,hm.t0,hm.t1,hm.t2,hm.t3,hm.i0,hm.p0⟩,h.io.oc,h.io.nn⟩
theorem GScr.ioBt (b:Int):IoP (s.wbit b):=by
 have hm:=h.sm
 exact ⟨⟨hm.w0,hm.w1,hm.h0,hm.h1,hm.x0,hm.x1,hm.y0,hm.y1,hm.t0,hm.t1,hm.t2,hm.t3,hm.i0,hm.p0⟩,h.io.oc,h.io.nn⟩
end
end Go.Proofs.YtepfoelgegljbaaGreatDoor
