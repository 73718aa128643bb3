/- Part H2. -/
import Derived.Test.YtepfoelgegljbaaGreatDoorH01
namespace Go.Proofs.YtepfoelgegljbaaGreatDoor
set_option linter.unusedVariables false
theorem paint_eq (l:List Img) (mx X Y:Int) (f:Fr) (g o:Opr) (p:Px) (g1:g.op = o.op) (g2:g.oc = o.oc) (g3:g.ms = o.ms) (g4:g.mx = o.mx) (g5:g.my = o.my) (g6:g.md = o.md):f.paint l mx X Y g p = f.paint l mx X Y o p:=by
 unfold Fr.paint kAt
 rw [g1,g2,g3,g4,g5,g6]
theorem evalF_one {can:Rc} {l:List Img} {mx:Int} {R:Rc} {X Y:Int} (hm:mx = 255 ∨ mx = 65535) (hS:SrcOk l mx) (hcan:can.emp = false) (hR:R.emp = false) (hc:can.has X Y) (hr:R.has X Y) {g d o:Opr} (r:Fo) (f:Fr)
  (d1:d.op = 4) (d2:d.md = 1) (d3:d.oc = mx) (d4:d.ms = 0) (hi:d.im = o.im) (hx:d.x = o.x) (hy:d.y = o.y) (hs:(imAt l d.im).sm) (bx:-4194304 ≤ d.x ∧ d.x ≤ 4194304) (by':-4194304 ≤ d.y ∧ d.y ≤ 4194304)
  (g0:g.iso = true) (g1:g.op = o.op) (g2:g.oc = o.oc) (g3:g.ms = o.ms) (g4:g.mx = o.mx) (g5:g.my = o.my) (g6:g.md = o.md) :
  evalF can l mx R X Y (.grp g (.draw d .nil) r) f = evalF can l mx R X Y (.draw o r) f:=by
 have hn:neuB d.op = true:=by rw [d1]; rfl
 have hbx:=box_one can l g d o R hcan hn (by omega) d4 hi hx hy g1 g2 g3 g4 g5
 have hsd:sAt l d X Y = sAt l o X Y:=by unfold sAt; rw [hi,hx,hy]
 have hp:resF mx (evalF can l mx R X Y (.draw d .nil) (f.push g)).c (f.push g).b = sAt l o X Y:=by
  rw [← hsd]
  show resF mx (if hits (dBox can l d) R then (f.push g).paint l mx X Y d (sAt l d X Y) else f.push g).c (f.push g).b = _
  by_cases hh:hits (dBox can l d) R = true
  ·rw [if_pos hh]
   exact paint_own hm (hS.px _ _ _) g0 d1 d2 d3 d4
  ·rw [if_neg hh,empty_own (by omega) g0]
   have hd:dBox can l d = (placedF can l d.im d.x d.y).inter can:=by
    unfold dBox boxF maskRc
    rw [if_neg (by rw [hn]; decide),if_neg (by omega),if_pos d4,inter_self hcan]
   refine (src_out hcan hR hc hr bx by' hs ?_).symm
   by_cases he:(placedF can l d.im d.x d.y).emp = true
   ·exact hits_emp he
   ·have he':(placedF can l d.im d.x d.y).emp = false:=by simpa using he
    have h2:(placedF can l d.im d.x d.y).inter can = placedF can l d.im d.x d.y:=inter_twice he'
    rw [hd,h2] at hh
    simpa using hh
 show evalF can l mx R X Y r (if hits (gBox can l g (.draw d .nil)) R then f.paint l mx X Y g (resF mx (evalF can l mx R X Y (.draw d .nil) (f.push g)).c (f.push g).b) else f) = evalF can l mx R X Y r (if hits (dBox can l o) R then f.paint l mx X Y o (sAt l o X Y) else f)
 rw [hbx,hp,paint_eq l mx X Y f g o _ g1 g2 g3 g4 g5 g6]
theorem box_eq (can:Rc) (l:List Img) (g d o:Opr) (hcan:can.emp = false) (hn:neuB d.op = true) (hoc:d.oc ≠ 0) (hms:d.ms = 0) (hi:d.im = o.im) (hx:d.x = o.x) (hy:d.y = o.y)
  (g1:g.op = o.op) (g2:g.oc = o.oc) (g3:g.ms = o.ms) (g4:g.mx = o.mx) (g5:g.my = o.my):gBox can l g (.draw d .nil) = dBox can l o:=by
 obtain ⟨P,hP⟩:∃ P,P = placedF can l o.im o.x o.y:=⟨_,rfl⟩
 have hd:dBox can l d = P.inter can:=by
  unfold dBox boxF maskRc
  rw [if_neg (by rw [hn]; decide),if_neg hoc,if_pos hms,inter_self hcan,hi,hx,hy,← hP]
 have hk:hullFo can l (.draw d .nil) zRc = if (P.inter can).emp then zRc else P.inter can:=by
  show hull1 (hull1 zRc zRc) (dBox can l d) = _
  rw [hd,hull_one]
 have hm:maskRc can l g = maskRc can l o:=by unfold maskRc; rw [g3,g4,g5]
 have hb:∀ src,boxF can l g src = boxF can l o src:=fun src => by unfold boxF; rw [g1,g2,hm]
 have hz:∀ (a c:Rc),a.emp = true → a.inter c = ⟨0,0,0,0⟩:=fun a c h => by
  unfold Rc.inter
  rw [if_pos (by rw [h]; rfl)]
 unfold gBox
 rw [hk,hb]
 unfold dBox
 rw [← hP]
 by_cases he:P.emp = true
 ·have h1:(P.inter can).emp = true:=emp_inter_left he
  rw [if_pos h1]
  unfold boxF
  rw [hz zRc _ z_emp,hz P _ he]
 ·have he':P.emp = false:=by simpa using he
  have h2:P.inter can = P:=by rw [hP] at he' ⊢; exact inter_twice he'
  rw [h2,if_neg he]
def Fo.rep (m:Int) (kn:Bool):Fo → Nat → Fo
 | .nil,_ => .nil
 | .draw o r,0 => .grp (gOf kn o) (.draw (dOf m o) .nil) r
 | .draw o r,n + 1 => .draw o (r.rep m kn n)
 | .grp o k r,0 => .grp o k r
 | .grp o k r,n + 1 => if n < k.sz then .grp o (k.rep m kn n) r else if n = k.sz then .grp o k r else .grp o k (r.rep m kn (n - k.sz - 1))
theorem box_rep (can:Rc) (l:List Img) (m:Int) (kn:Bool) (o:Opr) (hm:m ≠ 0) (hcan:can.emp = false):gBox can l (gOf kn o) (.draw (dOf m o) .nil) = dBox can l o :=
 box_eq can l (gOf kn o) (dOf m o) o hcan rfl hm rfl rfl rfl rfl rfl rfl rfl rfl rfl
theorem hull_rep (can:Rc) (l:List Img) (m:Int) (kn:Bool) (hm:m ≠ 0) (hcan:can.emp = false) (F:Fo):∀ (n:Nat) (h:Rc),hullFo can l (F.rep m kn n) h = hullFo can l F h:=by
 induction F with
 | nil => exact fun n h => rfl
 | draw o r ih =>
  intro n h
  cases n with
  | zero =>
   show hullFo can l r (hull1 (hull1 zRc h) (gBox can l (gOf kn o) (.draw (dOf m o) .nil))) = hullFo can l r (hull1 (hull1 zRc h) (dBox can l o))
   rw [box_rep can l m kn o hm hcan]
  | succ n => exact ih n _
 | grp o k r ihk ihr =>
  intro n h
  cases n with
  | zero => rfl
  | succ n =>
   show hullFo can l (if n < k.sz then .grp o (k.rep m kn n) r else if n = k.sz then .grp o k r else .grp o k (r.rep m kn (n - k.sz - 1))) h = _
   split
   ·show hullFo can l r (hull1 (hull1 zRc h) (boxF can l o (hullFo can l (k.rep m kn n) zRc))) = hullFo can l r (hull1 (hull1 zRc h) (boxF can l o (hullFo can l k zRc)))
    rw [ihk n zRc]
   ·split
    ·rfl
    ·exact ihr _ _
theorem evalF_rep {can:Rc} {l:List Img} {nn mx:Int} {R:Rc} {X Y:Int} (hm:mx = 255 ∨ mx = 65535) (hS:SrcOk l mx) (hcan:can.emp = false) (hR:R.emp = false) (hc:can.has X Y) (hr:R.has X Y) (hs:∀ i,(imAt l i).sm) (kn:Bool) (F:Fo):∀ (b:Bool) (n:Nat) (f:Fr),F.ok nn mx b → evalF can l mx R X Y (F.rep mx kn n) f = evalF can l mx R X Y F f:=by
 induction F with
 | nil => exact fun b n f h => rfl
 | draw o r ih =>
  intro b n f h
  cases n with
  | zero =>
   obtain ⟨b0,b1,b2,b3⟩:=near_xy h.2.1.nr
   exact evalF_one hm hS hcan hR hc hr r f rfl rfl rfl rfl rfl rfl rfl (hs _) (show -4194304 ≤ o.x ∧ o.x ≤ 4194304 from ⟨by omega,by omega⟩) (show -4194304 ≤ o.y ∧ o.y ≤ 4194304 from ⟨by omega,by omega⟩) rfl rfl rfl rfl rfl rfl rfl
  | succ n => exact ih b n _ h.2.2
 | grp o k r ihk ihr =>
  intro b n f h
  cases n with
  | zero => rfl
  | succ n =>
   show evalF can l mx R X Y (if n < k.sz then .grp o (k.rep mx kn n) r else if n = k.sz then .grp o k r else .grp o k (r.rep mx kn (n - k.sz - 1))) f = _
   split
   ·have hb:gBox can l o (k.rep mx kn n) = gBox can l o k:=by
     unfold gBox
     rw [hull_rep can l mx kn (by omega) hcan]
    show evalF can l mx R X Y r (if hits (gBox can l o (k.rep mx kn n)) R then f.paint l mx X Y o (resF mx (evalF can l mx R X Y (k.rep mx kn n) (f.push o)).c (f.push o).b) else f) = evalF can l mx R X Y r (if hits (gBox can l o k) R then f.paint l mx X Y o (resF mx (evalF can l mx R X Y k (f.push o)).c (f.push o).b) else f)
    rw [hb,ihk o.free n (f.push o) h.2.2.1]
   ·split
    ·rfl
    ·exact ihr b _ _ h.2.2.2
theorem flat_rep (m:Int) (kn:Bool) (F:Fo) (hk:F.kd):∀ n,(F.rep m kn n).flat = repL m kn F.flat n:=by
 induction F with
 | nil => exact fun n => rfl
 | draw o r ih =>
  intro n
  cases n with
  | zero =>
   show gOf kn o :: ([dOf m o] ++ popO :: r.flat) = if o.k = 1 then gOf kn o :: dOf m o :: popO :: r.flat else o :: r.flat
   rw [if_pos hk.1]
   rfl
  | succ n =>
   show o :: (r.rep m kn n).flat = o :: repL m kn r.flat n
   rw [ih hk.2]
 | grp o k r ihk ihr =>
  intro n
  cases n with
  | zero =>
   show (Fo.grp o k r).flat = if o.k = 1 then _ else o :: _
   rw [if_neg (by rw [hk.1]; decide)]
   rfl
  | succ n =>
   show (if n < k.sz then Fo.grp o (k.rep m kn n) r else if n = k.sz then .grp o k r else .grp o k (r.rep m kn (n - k.sz - 1))).flat = o :: repL m kn (k.flat ++ popO :: r.flat) n
   split
   ·rename_i h
    show o :: ((k.rep m kn n).flat ++ popO :: r.flat) = _
    rw [repL_left m kn _ _ n (by rw [k.len]; exact h),ihk hk.2.1]
   ·rename_i h
    rw [repL_right m kn _ _ n (by rw [k.len]; omega),k.len]
    split
    ·rename_i h2
     rw [h2,Nat.sub_self]
     show o :: (k.flat ++ popO :: r.flat) = o :: (k.flat ++ (if popO.k = 1 then _ else popO :: r.flat))
     rw [if_neg (by decide)]
    ·rename_i h2
     obtain ⟨q,hq⟩:∃ q,n - k.sz = q + 1:=⟨n - k.sz - 1,by omega⟩
     rw [hq,Nat.add_sub_cancel]
     show o :: (k.flat ++ popO :: (r.rep m kn q).flat) = o :: (k.flat ++ popO :: repL m kn r.flat q)
     rw [ihr hk.2.2]
theorem near_parts {x y a b:Int} (h:nearB [x,y,a,b] = true):nearB [x,y,0,0] = true ∧ nearB [0,0,a,b] = true:=by
 have h1:=near_xy h
 have h2:=near_mxy h
 unfold nearB withinF
 constructor
 ·simp
  omega
 ·simp
  omega
theorem ok_rep {nn m:Int} (kn:Bool) (hnn:0 ≤ nn) (F:Fo):∀ (b:Bool) (n:Nat),F.ok nn m b → (F.rep m kn n).ok nn m b:=by
 induction F with
 | nil => exact fun b n h => trivial
 | draw o r ih =>
  intro b n h
  cases n with
  | zero =>
   have ho:=h.2.1
   obtain ⟨p1,p2⟩:=near_parts ho.nr
   exact ⟨rfl,⟨fun e => absurd (show (2:Int) = 1 from e) (by decide),ho.ms,p2,ho.oc,ho.op,ho.md,ho.fr⟩,⟨rfl,⟨fun _ => ho.im h.1,⟨Int.le_refl _,hnn⟩,p1,Int.le_refl _,rfl,rfl,.inl rfl⟩,trivial⟩,h.2.2⟩
  | succ n => exact ⟨h.1,h.2.1,ih b n h.2.2⟩
 | grp o k r ihk ihr =>
  intro b n h
  cases n with
  | zero => exact h
  | succ n =>
   show (if n < k.sz then Fo.grp o (k.rep m kn n) r else if n = k.sz then .grp o k r else .grp o k (r.rep m kn (n - k.sz - 1))).ok nn m b
   split
   ·exact ⟨h.1,h.2.1,ihk _ n h.2.2.1,h.2.2.2⟩
   ·split
    ·exact h
    ·exact ⟨h.1,h.2.1,h.2.2.1,ihr b _ h.2.2.2⟩
end Go.Proofs.YtepfoelgegljbaaGreatDoor
