/- Part M2. -/
import Derived.Test.YtepfoelgegljbaaGreatDoorA42
import Derived.Test.YtepfoelgegljbaaGreatDoorM01
namespace Go.Proofs.YtepfoelgegljbaaGreatDoor
set_option linter.unusedVariables false
def Rc.tr (u v:Int) (r:Rc):Rc:=⟨r.x + u,r.y + v,r.u + u,r.v + v⟩
def vec (u v:Int):Prop:=(-1048576 ≤ u ∧ u ≤ 1048576) ∧ (-1048576 ≤ v ∧ v ≤ 1048576)
def Rc.lil (r:Rc):Prop:=(-4194304 ≤ r.x ∧ r.x ≤ 4194304) ∧ (-4194304 ≤ r.y ∧ r.y ≤ 4194304) ∧ (-4194304 ≤ r.u ∧ r.u ≤ 4194304) ∧ (-4194304 ≤ r.v ∧ r.v ≤ 4194304)
theorem lil_emp {r:Rc} (h:r.lil):r.emp = false ↔ r.x < r.u ∧ r.y < r.v:=by
 obtain ⟨h1,h2,h3,h4⟩:=h
 constructor
 ·intro e
  exact ((emp_iff r).1 e).2
 ·intro e
  refine (emp_iff r).2 ⟨(good_iff _).2 ?_,e⟩
  omega
theorem tr_emp {u v:Int} (hv:vec u v) {r:Rc} (h:r.lil):(r.tr u v).emp = r.emp:=by
 obtain ⟨v1,v2⟩:=hv
 have h':=h
 obtain ⟨h1,h2,h3,h4⟩:=h
 have e:(r.tr u v).emp = false ↔ r.emp = false:=by
  rw [lil_emp h']
  unfold Rc.tr
  constructor
  ·intro e
   have:=((emp_iff _).1 e).2
   dsimp only at this
   omega
  ·intro e
   refine (emp_iff _).2 ⟨(good_iff _).2 ?_,?_⟩
   ·dsimp only
    omega
   ·dsimp only
    omega
 cases h1:(r.tr u v).emp <;> cases h2:r.emp <;> simp_all
structure BT (u v:Int) (b c:Rc):Prop where
 em:c.emp = b.emp
 eq:b.emp = false → c = b.tr u v
 ll:b.emp = false → b.lil
theorem BT.no {u v:Int} {b c:Rc} (h1:b.emp = true) (h2:c.emp = true):BT u v b c:=⟨by rw [h1,h2],fun h => absurd h (by rw [h1]; decide),fun h => absurd h (by rw [h1]; decide)⟩
theorem BT.of {u v:Int} (hv:vec u v) {b:Rc} (h:b.lil):BT u v b (b.tr u v):=⟨tr_emp hv h,fun _ => rfl,fun _ => h⟩
theorem BT.z (u v:Int):BT u v zRc zRc:=.no z_emp z_emp
theorem BT.inter {u v:Int} (hv:vec u v) {a b c d:Rc} (h:BT u v a b) (k:BT u v c d):BT u v (a.inter c) (b.inter d):=by
 by_cases ha:a.emp = true
 ·exact .no (emp_inter_left ha) (emp_inter_left (h.em.trans ha))
 have ha':a.emp = false:=by simpa using ha
 have hb':b.emp = false:=h.em.trans ha'
 have right:∀ (x y:Rc),y.emp = true → (x.inter y).emp = true:=fun x y e => by
  unfold Rc.inter
  rw [if_pos (by rw [e,Bool.or_true])]
  exact z_emp
 by_cases hc:c.emp = true
 ·exact .no (right _ _ hc) (right _ _ (k.em.trans hc))
 have hc':c.emp = false:=by simpa using hc
 have hd':d.emp = false:=k.em.trans hc'
 have e1:=h.eq ha'
 have e2:=k.eq hc'
 obtain ⟨a1,a2,a3,a4⟩:=h.ll ha'
 obtain ⟨c1,c2,c3,c4⟩:=k.ll hc'
 rw [inter_def ha' hc',inter_def hb' hd']
 have hl:(⟨max a.x c.x,max a.y c.y,min a.u c.u,min a.v c.v⟩:Rc).lil:=by
  unfold Rc.lil
  dsimp only
  omega
 have et:(⟨max b.x d.x,max b.y d.y,min b.u d.u,min b.v d.v⟩:Rc) = Rc.tr u v ⟨max a.x c.x,max a.y c.y,min a.u c.u,min a.v c.v⟩:=by
  rw [e1,e2]
  unfold Rc.tr
  dsimp only
  congr 1 <;> omega
 rw [et]
 have hq:=tr_emp hv hl
 generalize (⟨max a.x c.x,max a.y c.y,min a.u c.u,min a.v c.v⟩:Rc) = q at *
 by_cases he:q.emp = true
 ·exact .no ((clean_emp _).trans he) ((clean_emp _).trans (hq.trans he))
 ·have he':q.emp = false:=by simpa using he
  rw [clean_of he',clean_of (hq.trans he')]
  exact .of hv hl
theorem BT.hull {u v:Int} (hv:vec u v) {a b c d:Rc} (h:BT u v a b) (k:BT u v c d):BT u v (hull1 a c) (hull1 b d):=by
 unfold hull1
 by_cases hc:c.emp = true
 ·rw [if_pos hc,if_pos (k.em.trans hc)]
  exact h
 have hc':c.emp = false:=by simpa using hc
 have hd':d.emp = false:=k.em.trans hc'
 have hdn:¬ d.emp = true:=by rw [hd']; decide
 rw [if_neg hc,if_neg hdn]
 by_cases ha:a.emp = true
 ·rw [if_pos ha,if_pos (h.em.trans ha)]
  exact k
 have ha':a.emp = false:=by simpa using ha
 have hb':b.emp = false:=h.em.trans ha'
 have hbn:¬ b.emp = true:=by rw [hb']; decide
 rw [if_neg ha,if_neg hbn,h.eq ha',k.eq hc']
 obtain ⟨a1,a2,a3,a4⟩:=h.ll ha'
 obtain ⟨c1,c2,c3,c4⟩:=k.ll hc'
 have hl:(⟨min a.x c.x,min a.y c.y,max a.u c.u,max a.v c.v⟩:Rc).lil:=by
  unfold Rc.lil
  dsimp only
  omega
 have et:(⟨min (a.tr u v).x (c.tr u v).x,min (a.tr u v).y (c.tr u v).y,max (a.tr u v).u (c.tr u v).u,max (a.tr u v).v (c.tr u v).v⟩:Rc) = Rc.tr u v ⟨min a.x c.x,min a.y c.y,max a.u c.u,max a.v c.v⟩:=by
  unfold Rc.tr
  dsimp only
  congr 1 <;> omega
 rw [et]
 exact .of hv hl
def Opr.tr (u v:Int) (o:Opr):Opr:=⟨o.k,o.im,if o.k = 1 then o.x + u else o.x,if o.k = 1 then o.y + v else o.y,o.ms,if o.ms = 0 then o.mx else o.mx + u,if o.ms = 0 then o.my else o.my + v,o.oc,o.op,o.md,o.iso,o.kn⟩
def Fo.tr (u v:Int):Fo → Fo
 | .nil => .nil
 | .draw o r => .draw (o.tr u v) (r.tr u v)
 | .grp o k r => .grp (o.tr u v) (k.tr u v) (r.tr u v)
theorem pop_tr (u v:Int):popO.tr u v = popO:=rfl
theorem flat_tr (u v:Int) (F:Fo):(F.tr u v).flat = F.flat.map (Opr.tr u v):=by
 induction F with
 | nil => rfl
 | draw o r ih => simp only [Fo.tr,Fo.flat,List.map_cons,ih]
 | grp o k r ihk ihr => simp only [Fo.tr,Fo.flat,List.map_cons,List.map_append,ihk,ihr,pop_tr]
def Opr.nr (o:Opr):Prop:=(-40 ≤ o.x ∧ o.x ≤ 40) ∧ (-40 ≤ o.y ∧ o.y ≤ 40) ∧ (-40 ≤ o.mx ∧ o.mx ≤ 40) ∧ (-40 ≤ o.my ∧ o.my ≤ 40)
section
variable {can:Rc} {l:List Img} {u v:Int} (hv:vec u v) (hc:can.lil) (hl:lilI l)
include hv hc hl
theorem placed_tr (i x y:Int) (hx:-40 ≤ x ∧ x ≤ 40) (hy:-40 ≤ y ∧ y ≤ 40):BT u v (placedF can l i x y) (placedF (can.tr u v) l i (x + u) (y + v)):=by
 unfold placedF
 have hq:(⟨x,y,x + (imAt l i).w,y + (imAt l i).h⟩:Rc).lil:=by
  have:=hl i
  unfold Rc.lil
  dsimp only
  omega
 have e:(⟨x + u,y + v,x + u + (imAt l i).w,y + v + (imAt l i).h⟩:Rc) = Rc.tr u v ⟨x,y,x + (imAt l i).w,y + (imAt l i).h⟩:=by
  unfold Rc.tr
  dsimp only
  congr 1 <;> omega
 rw [e]
 exact (BT.of hv hq).inter hv (.of hv hc)
theorem box_tr {o:Opr} (ho:o.nr) {s t:Rc} (h:BT u v s t):BT u v (boxF can l o s) (boxF (can.tr u v) l (o.tr u v) t):=by
 unfold boxF
 show BT u v (if neuB o.op = false then can else if o.oc = 0 then zRc else s.inter (maskRc can l o)) (if neuB o.op = false then can.tr u v else if o.oc = 0 then zRc else t.inter (maskRc (can.tr u v) l (o.tr u v)))
 split
 ·exact .of hv hc
 ·split
  ·exact .z u v
  ·refine h.inter hv ?_
   unfold maskRc
   show BT u v (if o.ms = 0 then can.inter can else placedF can l (o.ms - 1) o.mx o.my) (if o.ms = 0 then (can.tr u v).inter (can.tr u v) else placedF (can.tr u v) l (o.ms - 1) (if o.ms = 0 then o.mx else o.mx + u) (if o.ms = 0 then o.my else o.my + v))
   split
   ·exact (BT.of hv hc).inter hv (.of hv hc)
   ·exact placed_tr hv hc hl _ _ _ ho.2.2.1 ho.2.2.2
theorem dBox_tr {o:Opr} (ho:o.nr) (hk:o.k = 1):BT u v (dBox can l o) (dBox (can.tr u v) l (o.tr u v)):=by
 unfold dBox
 refine box_tr hv hc hl ho ?_
 show BT u v _ (placedF (can.tr u v) l o.im (if o.k = 1 then o.x + u else o.x) (if o.k = 1 then o.y + v else o.y))
 rw [if_pos hk,if_pos hk]
 exact placed_tr hv hc hl _ _ _ ho.1 ho.2.1
theorem hull_tr (F:Fo):F.kd → (∀ o ∈ F.flat,o.nr) → ∀ h h2,BT u v h h2 → BT u v (hullFo can l F h) (hullFo (can.tr u v) l (F.tr u v) h2):=by
 induction F with
 | nil => exact fun _ _ h h2 k => k
 | draw o r ih =>
  intro hk hn h h2 k
  simp only [Fo.flat,List.mem_cons,forall_eq_or_imp] at hn
  exact ih hk.2 hn.2 _ _ (((BT.z u v).hull hv k).hull hv (dBox_tr hv hc hl hn.1 hk.1))
 | grp o k r ihk ihr =>
  intro hk hn h h2 hh
  simp only [Fo.flat,List.mem_cons,List.mem_append,forall_eq_or_imp] at hn
  exact ihr hk.2.2 (fun q hq => hn.2 q (.inr (.inr hq))) _ _ (((BT.z u v).hull hv hh).hull hv (box_tr hv hc hl hn.1 (ihk hk.2.1 (fun q hq => hn.2 q (.inl hq)) _ _ (.z u v))))
end
theorem hits_tr {u v:Int} (hv:vec u v) {b c R:Rc} (h:BT u v b c) (hR:R.lil):hits c (R.tr u v) = hits b R:=by
 unfold hits
 rw [(h.inter hv (.of hv hR)).em]
structure FrE (f g:Fr):Prop where
 c:g.c = f.c
 b:g.b = f.b
 kn:g.o.kn = f.o.kn
theorem kAt_tr (l:List Img) (u v mx:Int) (o:Opr) (X Y:Int):kAt l mx (o.tr u v) (X + u) (Y + v) = kAt l mx o X Y:=by
 unfold kAt
 show (if o.ms = 0 then mx else (atF (imAt l (o.ms - 1)) (X + u - (if o.ms = 0 then o.mx else o.mx + u)) (Y + v - (if o.ms = 0 then o.my else o.my + v))).a) = _
 split
 ·rfl
 ·rw [show X + u - (o.mx + u) = X - o.mx by omega,show Y + v - (o.my + v) = Y - o.my by omega]
theorem sAt_tr (l:List Img) (u v:Int) {o:Opr} (hk:o.k = 1) (X Y:Int):sAt l (o.tr u v) (X + u) (Y + v) = sAt l o X Y:=by
 unfold sAt
 show atF (imAt l o.im) (X + u - (if o.k = 1 then o.x + u else o.x)) (Y + v - (if o.k = 1 then o.y + v else o.y)) = _
 rw [if_pos hk,if_pos hk,show X + u - (o.x + u) = X - o.x by omega,show Y + v - (o.y + v) = Y - o.y by omega]
theorem paint_tr (l:List Img) (u v:Int) {f g:Fr} (h:FrE f g) (mx:Int) (o:Opr) (X Y:Int) (p:Px):FrE (f.paint l mx X Y o p) (g.paint l mx (X + u) (Y + v) (o.tr u v) p):=by
 refine ⟨?_,h.b,h.kn⟩
 show stepF g.o.kn o.op o.md mx (bothF mx o.oc (kAt l mx (o.tr u v) (X + u) (Y + v)) p) g.c g.b = stepF f.o.kn o.op o.md mx (bothF mx o.oc (kAt l mx o X Y) p) f.c f.b
 rw [h.c,h.b,h.kn,kAt_tr]
theorem push_tr (u v:Int) {f g:Fr} (h:FrE f g) (o:Opr):FrE (f.push o) (g.push (o.tr u v)):=by
 refine ⟨?_,?_,rfl⟩
 ·show beginA (beginC o.iso g.o.kn g.c g.b) = beginA (beginC o.iso f.o.kn f.c f.b)
  rw [h.c,h.b,h.kn]
 ·show beginC o.iso g.o.kn g.c g.b = beginC o.iso f.o.kn f.c f.b
  rw [h.c,h.b,h.kn]
section
variable {can:Rc} {l:List Img} {u v:Int} (hv:vec u v) (hc:can.lil) (hl:lilI l)
include hv hc hl
theorem evalF_tr {mx:Int} {R:Rc} (hR:R.lil) (X Y:Int) (F:Fo):F.kd → (∀ o ∈ F.flat,o.nr) → ∀ f g,FrE f g → FrE (evalF can l mx R X Y F f) (evalF (can.tr u v) l mx (R.tr u v) (X + u) (Y + v) (F.tr u v) g):=by
 induction F with
 | nil => exact fun _ _ f g h => h
 | draw o r ih =>
  intro hk hn f g h
  simp only [Fo.flat,List.mem_cons,forall_eq_or_imp] at hn
  refine ih hk.2 hn.2 _ _ ?_
  rw [hits_tr hv (dBox_tr hv hc hl hn.1 hk.1) hR,sAt_tr l u v hk.1]
  split
  ·exact paint_tr l u v h mx o X Y _
  ·exact h
 | grp o k r ihk ihr =>
  intro hk hn f g h
  simp only [Fo.flat,List.mem_cons,List.mem_append,forall_eq_or_imp] at hn
  refine ihr hk.2.2 (fun q hq => hn.2 q (.inr (.inr hq))) _ _ ?_
  have hg:BT u v (gBox can l o k) (gBox (can.tr u v) l (o.tr u v) (k.tr u v)):=box_tr hv hc hl hn.1 (hull_tr hv hc hl k hk.2.1 (fun q hq => hn.2 q (.inl hq)) _ _ (.z u v))
  have hkk:=ihk hk.2.1 (fun q hq => hn.2 q (.inl hq)) _ _ (push_tr u v h o)
  rw [hits_tr hv hg hR]
  split
  ·rw [hkk.c,(push_tr u v h o).b]
   exact paint_tr l u v h mx o X Y _
  ·exact h
end
theorem cnt_tr {can:Rc} (hc:can.lil) {u v:Int} (hv:vec u v) (tw th:Int):cntX (can.tr u v) tw th = cntX can tw th ∧ cntY (can.tr u v) tw th = cntY can tw th:=by
 have e:cntOk (can.tr u v) tw th = cntOk can tw th:=by
  unfold cntOk
  rw [tr_emp hv hc]
  show (!can.emp && decide (1 ≤ tw) && decide (tw ≤ can.u + u - (can.x + u)) && decide (1 ≤ th) && decide (th ≤ can.v + v - (can.y + v))) = _
  rw [show can.u + u - (can.x + u) = can.u - can.x by omega,show can.v + v - (can.y + v) = can.v - can.y by omega]
 unfold cntX cntY
 rw [e]
 constructor
 ·show (if cntOk can tw th then (can.u + u - (can.x + u) + tw - 1) / tw else 0) = _
  rw [show can.u + u - (can.x + u) = can.u - can.x by omega]
 ·show (if cntOk can tw th then (can.v + v - (can.y + v) + th - 1) / th else 0) = _
  rw [show can.v + v - (can.y + v) = can.v - can.y by omega]
theorem tRect_tr {can:Rc} (hc:can.lil) {u v:Int} (hv:vec u v) (tw th i:Int):tRect (can.tr u v) tw th i = (tRect can tw th i).tr u v:=by
 unfold tRect
 rw [(cnt_tr hc hv tw th).1]
 unfold Rc.tr
 dsimp only
 generalize i % cntX can tw th * tw = a
 generalize i / cntX can tw th * th = b
 congr 1 <;> omega
theorem img_tr {s t:Scr} {F:Fo} {u v:Int} (hv:vec u v) (hc:s.can.lil) (hm:s.Sm) (hV:s.Vb F) (hk:F.kd) (hn:∀ o ∈ F.flat,o.nr) (hl:lilI s.ims) (e1:t.can = s.can.tr u v) (e2:t.ims = s.ims) (e3:t.mx = s.mx) (e4:t.ord = s.ord) (e5:t.tw = s.tw) (e6:t.th = s.th) :
  t.img (F.tr u v) = s.img F:=by
 have ew:t.wd = s.wd:=by
  unfold Scr.wd
  rw [e1]
  show (s.can.u + u - (s.can.x + u)).toNat = _
  rw [show s.can.u + u - (s.can.x + u) = s.can.u - s.can.x by omega]
 have eh:t.ht = s.ht:=by
  unfold Scr.ht
  rw [e1]
  show (s.can.v + v - (s.can.y + v)).toNat = _
  rw [show s.can.v + v - (s.can.y + v) = s.can.v - s.can.y by omega]
 have en:t.nt = s.nt:=by
  unfold Scr.nt
  rw [e1,e5,e6,(cnt_tr hc hv _ _).1,(cnt_tr hc hv _ _).2]
 have et:t.tls = s.tls.map (Rc.tr u v):=by
  unfold Scr.tls
  rw [e4,en,e1,e5,e6,List.map_map]
  refine List.map_congr_left fun k _ => ?_
  exact tRect_tr hc hv _ _ _
 rw [img_eq,img_eq,ew,eh]
 refine imgG_ext fun j i hj hi => ?_
 unfold Scr.gF
 rw [e1,e2,e3,et]
 refine fold_eq (can:=s.can) (can2:=s.can.tr u v) (l:=s.ims) (l2:=s.ims) (mx:=s.mx) (mx2:=s.mx) (F:=F) (G:=F.tr u v) (Rc.tr u v) j i s.tls (fun R hR => ⟨?_,fun hin => ?_⟩) (fun _ _ => pxz) (fun _ _ => pxz) rfl
 ·unfold inT Rc.tr
  dsimp only
  omega
 ·have hR':R.lil:=by
   obtain ⟨h1,h2,h3,h4,h5,h6⟩:=tls_in hm (vb_ord hV) hR
   obtain ⟨k1,k2,k3,k4⟩:=hc
   unfold Rc.lil
   omega
  have h:=evalF_tr (mx:=s.mx) hv hc hl hR' (s.can.x + i) (s.can.y + j) F hk hn baseF baseF ⟨rfl,rfl,rfl⟩
  unfold ptF
  show resF s.mx (evalF (s.can.tr u v) s.ims s.mx (R.tr u v) (s.can.x + u + i) (s.can.y + v + j) (F.tr u v) baseF).c pxz = _
  rw [show s.can.x + u + (i:Int) = s.can.x + i + u by omega,show s.can.y + v + (j:Int) = s.can.y + j + v by omega,h.c]
end Go.Proofs.YtepfoelgegljbaaGreatDoor
