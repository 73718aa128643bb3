/- Part N2. -/
import Derived.Test.YtepfoelgegljbaaGreatDoorN01
namespace Go.Proofs.YtepfoelgegljbaaGreatDoor
set_option maxRecDepth 100000
open Go.RowKit
set_option linter.unusedVariables false
theorem ok_ims {n:Nat} {mx:Int} (F:Fo):∀ b,F.ok n mx b → ∀ o ∈ F.flat,(o.k = 1 → 0 ≤ o.im ∧ o.im < n) ∧ (0 ≤ o.ms ∧ o.ms ≤ n):=by
 induction F with
 | nil => intro b _ o ho; simp [Fo.flat] at ho
 | draw q r ih =>
  intro b h o ho
  obtain ⟨h1,h2,h3⟩:=h
  simp only [Fo.flat,List.mem_cons] at ho
  rcases ho with rfl | ho
  ·exact ⟨h2.im,h2.ms⟩
  ·exact ih b h3 o ho
 | grp q k r ihk ihr =>
  intro b h o ho
  obtain ⟨h1,h2,h3,h4⟩:=h
  simp only [Fo.flat,List.mem_cons,List.mem_append] at ho
  rcases ho with rfl | ho | rfl | ho
  ·exact ⟨h2.im,h2.ms⟩
  ·exact ihk _ h3 o ho
  ·exact ⟨fun h => absurd h (by decide),by decide,by show (0:Int) ≤ n; omega⟩
  ·exact ihr b h4 o ho
abbrev plN (a:Img) (X Y:Int):Nat:=(Y * a.w + X).toNat
structure LkD (a:Img) (i:Nat) (u v:Int) (l k:List Px) (o:Opr):Prop where
 im:o.k = 1 → o.im = i → inB a (u - o.x) (v - o.y) = true → k[plN a (u - o.x) (v - o.y)]? = l[plN a (u - o.x) (v - o.y)]?
structure LkM (a:Img) (i:Nat) (u v:Int) (l k:List Px) (o:Opr):Prop where
 ms:o.ms = i + 1 → inB a (u - o.mx) (v - o.my) = true → k[plN a (u - o.mx) (v - o.my)]? = l[plN a (u - o.mx) (v - o.my)]?
theorem set_lk {l k:List Px} {j q:Nat} {p:Px} (hp:l[j]? = some p) (h:k[q]? = l[q]?):(k.set j p)[q]? = l[q]?:=by
 rw [List.getElem?_set]
 split
 ·subst_vars
  split
  ·exact hp.symm
  ·rename_i hn
   rw [← h,List.getElem?_eq_none (by omega)]
 ·exact h
theorem set_here {l k:List Px} {j:Nat} {p:Px} (hp:l[j]? = some p) (hj:j < k.length):(k.set j p)[j]? = l[j]?:=by
 rw [List.getElem?_set_self hj]
 exact hp.symm
theorem LkD.set {a:Img} {i:Nat} {u v:Int} {l k:List Px} {o:Opr} (h:LkD a i u v l k o) {j:Nat} {p:Px} (hp:l[j]? = some p):LkD a i u v l (k.set j p) o:=⟨fun h1 h2 h3 => set_lk hp (h.im h1 h2 h3)⟩
theorem LkM.set {a:Img} {i:Nat} {u v:Int} {l k:List Px} {o:Opr} (h:LkM a i u v l k o) {j:Nat} {p:Px} (hp:l[j]? = some p):LkM a i u v l (k.set j p) o:=⟨fun h2 h3 => set_lk hp (h.ms h2 h3)⟩
structure KpI (mx:Int) (a:Img) (i:Nat) (u v:Int) (N:Nat) (l k:List Px) (ops:List Opr):Prop where
 len:k.length = N
 ok:∀ p ∈ k,Px.ok mx p
 d:∀ o ∈ ops,LkD a i u v l k o
 m:∀ o ∈ ops,LkM a i u v l k o
theorem KpI.set {mx:Int} {a:Img} {i:Nat} {u v:Int} {N:Nat} {l k:List Px} {ops:List Opr} (h:KpI mx a i u v N l k ops) {j:Nat} {p:Px} (hp:l[j]? = some p) (hk:Px.ok mx p):KpI mx a i u v N l (k.set j p) ops :=
 ⟨by rw [List.length_set]; exact h.len,fun q hq => by
  rcases List.mem_or_eq_of_mem_set hq with hq | rfl
  ·exact h.ok q hq
  ·exact hk,fun o ho => (h.d o ho).set hp,fun o ho => (h.m o ho).set hp⟩
theorem KpI.snoc {mx:Int} {a:Img} {i:Nat} {u v:Int} {N:Nat} {l k:List Px} {ops:List Opr} {o:Opr} (h:KpI mx a i u v N l k ops) (hd:LkD a i u v l k o) (hm:LkM a i u v l k o):KpI mx a i u v N l k (ops ++ [o]) :=
 ⟨h.len,h.ok,fun q hq => by
  rcases List.mem_append.1 hq with hq | hq
  ·exact h.d q hq
  ·rw [List.mem_singleton.1 hq]; exact hd,fun q hq => by
  rcases List.mem_append.1 hq with hq | hq
  ·exact h.m q hq
  ·rw [List.mem_singleton.1 hq]; exact hm⟩
theorem imgL_get {m:Img} {wd ht:Nat} {X Y:Int} (ew:m.w = wd) (eh:m.h = ht) (h:inB m X Y = true):(imgL m wd ht 0)[plN m X Y]? = some (pxF m X Y):=by
 obtain ⟨x0,x1,y0,y1⟩:=inB_iff.1 h
 obtain ⟨i,rfl⟩:=Int.eq_ofNat_of_zero_le x0
 obtain ⟨j,rfl⟩:=Int.eq_ofNat_of_zero_le y0
 have hi:i < wd:=by omega
 have hj:j < ht:=by omega
 have e:plN m i j = j * wd + i:=by
  unfold plN
  rw [ew,show (j:Int) * (wd:Int) + (i:Int) = ((j * wd + i:Nat):Int) by push_cast; rfl]
  rfl
 rw [e]
 have hg:imgL m wd ht 0 = imgG wd ht (fun j i => pxF m i j):=by
  unfold imgL uptoP imgG
  simp [List.map_flatMap,Function.comp_def]
 rw [hg,imgG_get _ _ _ hj hi]
theorem lk_dim {a:Img} {N wd ht:Nat} (ew:a.w = wd) (eh:a.h = ht) (hN:N = ht * wd) (w1:1 ≤ wd ∧ wd ≤ 5) (h1:1 ≤ ht ∧ ht ≤ 5):a.w * a.h = (N:Int) ∧ N ≤ 25 ∧ 1 ≤ N:=by
 rw [ew,eh,hN]
 refine ⟨by push_cast; exact Int.mul_comm _ _,Nat.mul_le_mul h1.2 w1.2,Nat.mul_pos h1.1 w1.1⟩
section
variable {W:World} {b:Nat} {mx:Int} {a c:Img} {i:Nat} {u v:Int} {N wd ht:Nat} {k:List Px} {ops:List Opr} (ew:a.w = wd) (eh:a.h = ht) (hN:N = ht * wd) (w1:1 ≤ wd ∧ wd ≤ 5) (h1:1 ≤ ht ∧ ht ≤ 5) (hf:formB a = true) (H:ImOf W b a.w a.h k N c) (K:KpI mx a i u v N (imgL a wd ht 0) k ops)
include ew eh hN w1 h1 H K
theorem lk_img (hm0:0 ≤ mx):ImgG W b mx c:=by
 obtain ⟨e1,e2,e3⟩:=lk_dim ew eh hN w1 h1
 refine ⟨fun i hi => (H.pl i hi).R (by omega),?_,?_,?_,?_,H.ok (by omega) (by omega) e1 (by omega) K.len K.ok,H.px (by omega) e1 K.len hm0 K.ok⟩
 ·rw [H.ew]; omega
 ·rw [H.ew]; omega
 ·rw [H.eh]; omega
 ·rw [H.eh]; omega
include hf
theorem lk_at {X Y:Int} (h:inB a X Y = true → k[plN a X Y]? = (imgL a wd ht 0)[plN a X Y]?):atF c X Y = atF a X Y:=by
 obtain ⟨e1,e2,e3⟩:=lk_dim ew eh hN w1 h1
 have hc:formB c = true:=H.form (by omega) (by omega) e1 (by omega)
 have hb:inB c X Y = inB a X Y:=by unfold inB; rw [H.ew,H.eh]
 unfold atF
 rw [hc,hf,hb]
 by_cases hi:inB a X Y = true
 ·rw [hi]
  simp only [Bool.and_self,if_true]
  obtain ⟨x0,x1,y0,y1⟩:=inB_iff.1 hi
  obtain ⟨p,hp,e⟩:=H.get (by omega) e1 K.len x0 x1 y0 y1
  have h2:=h hi
  rw [imgL_get ew eh hi] at h2
  rw [e]
  exact Option.some.inj (hp.symm.trans h2)
 ·rw [Bool.eq_false_iff.2 hi]
  rfl
end
structure AgI (u v:Int) (i:Nat) (a c:Img) (ops:List Opr):Prop where
 w:c.w = a.w
 h:c.h = a.h
 d:∀ o ∈ ops,o.k = 1 → o.im = i → atF c (u - o.x) (v - o.y) = atF a (u - o.x) (v - o.y)
 m:∀ o ∈ ops,o.ms = i + 1 → atF c (u - o.mx) (v - o.my) = atF a (u - o.mx) (v - o.my)
theorem lk_agr {W:World} {b:Nat} {mx:Int} {a c:Img} {i:Nat} {u v:Int} {N wd ht:Nat} {k:List Px} {ops:List Opr} (ew:a.w = wd) (eh:a.h = ht) (hN:N = ht * wd) (w1:1 ≤ wd ∧ wd ≤ 5) (h1:1 ≤ ht ∧ ht ≤ 5) (hf:formB a = true) (H:ImOf W b a.w a.h k N c) (K:KpI mx a i u v N (imgL a wd ht 0) k ops):AgI u v i a c ops :=
 ⟨H.ew,H.eh,fun o ho h1' h2 => lk_at ew eh hN w1 h1 hf H K ((K.d o ho).im h1' h2),fun o ho h2 => lk_at ew eh hN w1 h1 hf H K ((K.m o ho).ms h2)⟩
structure TbI (W:World) (base:Nat) (mx:Int) (u v:Int) (ims:List Img) (n:Nat) (K:List Img) (ops:List Opr):Prop where
 len:K.length = n
 g:∀ m ∈ K,ImgG W base mx m
 ag:∀ (i:Nat) (a c:Img),ims[i]? = some a → K[i]? = some c → AgI u v i a c ops
theorem TbI.nil (W:World) (base:Nat) (mx u v:Int) (ims:List Img) (ops:List Opr):TbI W base mx u v ims 0 [] ops:=⟨rfl,by simp,by simp⟩
theorem TbI.snoc {W:World} {base:Nat} {mx u v:Int} {ims:List Img} {n:Nat} {K:List Img} {ops:List Opr} (h:TbI W base mx u v ims n K ops) {a c:Img} (ha:ims[n]? = some a) (hc:ImgG W base mx c) (hg:AgI u v n a c ops):TbI W base mx u v ims (n + 1) (K ++ [c]) ops :=
 ⟨by rw [List.length_append,h.len]; rfl,fun m hm => by
  rcases List.mem_append.1 hm with hm | hm
  ·exact h.g m hm
  ·rw [List.mem_singleton.1 hm]; exact hc,fun i a' c' ha' hc' => by
  rcases Nat.lt_or_ge i n with hi | hi
  ·rw [List.getElem?_append_left (by rw [h.len]; exact hi)] at hc'
   exact h.ag i a' c' ha' hc'
  ·have hi2:i = n:=by
    have h2:=(List.getElem?_eq_some_iff.1 hc').1
    rw [List.length_append,h.len] at h2
    simp at h2
    omega
   subst hi2
   rw [List.getElem?_append_right (by rw [h.len]; exact Nat.le_refl _),h.len,Nat.sub_self] at hc'
   cases hc'
   rw [ha] at ha'
   cases ha'
   exact hg⟩
theorem TbI.map {W W':World} {base base':Nat} {mx u v:Int} {ims:List Img} {n:Nat} {K:List Img} {ops:List Opr} (h:TbI W base mx u v ims n K ops) (hg:∀ m,ImgG W base mx m → ImgG W' base' mx m):TbI W' base' mx u v ims n K ops:=⟨h.len,fun m hm => hg m (h.g m hm),h.ag⟩
abbrev Scr.wim (s:Scr) (A:Option Addr) (n c:Nat) (K:List Img):Scr:=⟨s.bits,s.can,s.tw,s.th,s.oA,s.on,s.oc,s.ord,A,n,c,K,s.pA,s.pn,s.pc,s.ops⟩
theorem GScr.other {W W2:World} {base b2:Nat} {s:Scr} {F:Fo} (h:GScr W base s F) (A:Option Addr) (c:Nat) {K:List Img} {u v:Int} (hK:TbI W2 b2 s.mx u v s.ims s.inn K s.ops) :
  (s.wim A s.inn c K).Sm ∧ (s.wim A s.inn c K).Vb F ∧ checkE (s.wim A s.inn c K) = (0,0) ∧ SrcOk K s.mx ∧ (∀ j i:Nat,s.can.x + i = u → s.can.y + j = v → (s.wim A s.inn c K).gF F j i = s.gF F j i):=by
 have hm:=h.sm
 have hl:s.ims.length = s.inn:=h.In.lims
 have hV:(s.wim A s.inn c K).Vb F:=⟨h.fo,h.ok,fun m hm => (hK.g m hm).sm,h.frm,h.ps⟩
 refine ⟨⟨hm.w0,hm.w1,hm.h0,hm.h1,hm.x0,hm.x1,hm.y0,hm.y1,hm.t0,hm.t1,hm.t2,hm.t3,hm.i0,hm.p0⟩,hV,?_,?_,?_⟩
 ·exact checkE_zero (s:=s.wim A s.inn c K) h.frm (fun m hm => (hK.g m hm).ok) h.ps
 ·exact srcOk_of (by have:=h.mxc; omega) fun m hm => (hK.g m hm).px
 ·intro j i e1 e2
  have hat:∀ q:Int,0 ≤ q → q < s.inn → ∃ a c,s.ims[q.toNat]? = some a ∧ K[q.toNat]? = some c ∧ imAt s.ims q = a ∧ imAt K q = c:=fun q q0 q1 => by
   have h1:q.toNat < s.ims.length:=by omega
   have h2:q.toNat < K.length:=by rw [hK.len]; omega
   refine ⟨s.ims[q.toNat],K[q.toNat],List.getElem?_eq_getElem h1,List.getElem?_eq_getElem h2,?_,?_⟩
   ·unfold imAt
    rw [List.getElem?_eq_getElem h1]
    rfl
   ·unfold imAt
    rw [List.getElem?_eq_getElem h2]
    rfl
  refine gF_agr (s:=s) (t:=s.wim A s.inn c K) h.kd rfl rfl rfl (fun q => ?_) j i (fun o ho => ?_)
  ·show (imAt K q).w = (imAt s.ims q).w ∧ (imAt K q).h = (imAt s.ims q).h
   by_cases hq:q.toNat < s.ims.length
   ·have h2:q.toNat < K.length:=by rw [hK.len]; omega
    have hg:=hK.ag q.toNat _ _ (List.getElem?_eq_getElem hq) (List.getElem?_eq_getElem h2)
    unfold imAt
    rw [List.getElem?_eq_getElem hq,List.getElem?_eq_getElem h2]
    exact ⟨hg.w,hg.h⟩
   ·unfold imAt
    have n1:s.ims[q.toNat]? = none:=List.getElem?_eq_none (by omega)
    have n2:K[q.toNat]? = none:=List.getElem?_eq_none (by rw [hK.len]; omega)
    rw [n1,n2]
    exact ⟨rfl,rfl⟩
  ·have hb:=ok_ims F true h.ok o ho
   have hos:o ∈ s.ops:=by rw [h.fo]; exact ho
   rw [e1,e2]
   refine ⟨fun hk => ?_,fun hn => ?_⟩
   ·obtain ⟨i0,i1⟩:=hb.1 hk
    obtain ⟨a,c,ha,hc,ea,ec⟩:=hat o.im i0 i1
    show atF (imAt K o.im) _ _ = atF (imAt s.ims o.im) _ _
    rw [ea,ec]
    exact (hK.ag _ a c ha hc).d o hos hk (by omega)
   ·obtain ⟨m0,m1⟩:=hb.2
    obtain ⟨a,c,ha,hc,ea,ec⟩:=hat (o.ms - 1) (by omega) (by omega)
    show atF (imAt K (o.ms - 1)) _ _ = atF (imAt s.ims (o.ms - 1)) _ _
    rw [ea,ec]
    exact (hK.ag _ a c ha hc).m o hos (by omega)
end Go.Proofs.YtepfoelgegljbaaGreatDoor
