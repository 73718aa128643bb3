/- Part H1. -/
import Derived.Test.YtepfoelgegljbaaGreatDoorA42
namespace Go.Proofs.YtepfoelgegljbaaGreatDoor
set_option linter.unusedVariables false
theorem paint_own {l:List Img} {m X Y:Int} (hm:m = 255 ∨ m = 65535) {o d:Opr} {f:Fr} {p:Px} (hp:Px.ok m p) (hi:o.iso = true) (d1:d.op = 4) (d2:d.md = 1) (d3:d.oc = m) (d4:d.ms = 0):resF m ((f.push o).paint l m X Y d p).c (f.push o).b = p:=by
 have hb:(f.push o).b = pxz:=by
  show beginC o.iso f.o.kn f.c f.b = pxz
  rw [hi]
  rfl
 have hc:(f.push o).c = acz:=by
  show beginA (beginC o.iso f.o.kn f.c f.b) = acz
  rw [hi]
  rfl
 have hk:kAt l m d X Y = m:=by unfold kAt; rw [if_pos d4]
 show resF m (stepF (f.push o).o.kn d.op d.md m (bothF m d.oc (kAt l m d X Y) p) (f.push o).c (f.push o).b) (f.push o).b = p
 rw [hb,hc,d1,d2,d3,hk,both_own m (by omega),step_own hm _ hp,res_own (by omega) hp]
theorem empty_own {m:Int} (m0:1 ≤ m) {o:Opr} {f:Fr} (hi:o.iso = true):resF m (f.push o).c (f.push o).b = pxz:=by
 have hb:(f.push o).b = pxz:=by
  show beginC o.iso f.o.kn f.c f.b = pxz
  rw [hi]
  rfl
 have hc:(f.push o).c = acz:=by
  show beginA (beginC o.iso f.o.kn f.c f.b) = acz
  rw [hi]
  rfl
 rw [hb,hc]
 have h:Px.ok m pxz:=⟨Int.le_refl _,Int.le_refl _,Int.le_refl _,Int.le_refl _,Int.le_refl _,Int.le_refl _,Int.le_refl _,by show 0 ≤ m; omega⟩
 exact res_own m0 h
theorem inter_of {a c:Rc} (h:(a.inter c).emp = false):a.emp = false ∧ c.emp = false ∧ a.inter c = ⟨max a.x c.x,max a.y c.y,min a.u c.u,min a.v c.v⟩:=by
 unfold Rc.inter at h ⊢
 by_cases hc:(a.emp || c.emp) = true
 ·rw [if_pos hc] at h
  exact absurd h (by decide)
 ·rw [if_neg hc] at h ⊢
  rw [clean_emp] at h
  simp only [Bool.or_eq_true,not_or,Bool.not_eq_true] at hc
  exact ⟨hc.1,hc.2,clean_of h⟩
theorem inter_twice {a c:Rc} (h:(a.inter c).emp = false):(a.inter c).inter c = a.inter c:=by
 obtain ⟨h1,h2,e⟩:=inter_of h
 have e2:=inter_def h h2
 rw [e2,e]
 have e3:(⟨max (max a.x c.x) c.x,max (max a.y c.y) c.y,min (min a.u c.u) c.u,min (min a.v c.v) c.v⟩:Rc) = ⟨max a.x c.x,max a.y c.y,min a.u c.u,min a.v c.v⟩:=by
  congr 1 <;> omega
 show Rc.clean ⟨max (max a.x c.x) c.x,max (max a.y c.y) c.y,min (min a.u c.u) c.u,min (min a.v c.v) c.v⟩ = _
 rw [e3,← e]
 exact clean_of h
theorem inter_self {c:Rc} (h:c.emp = false):c.inter c = c:=by
 have e:=inter_def h h
 have e2:(⟨max c.x c.x,max c.y c.y,min c.u c.u,min c.v c.v⟩:Rc) = c:=by
  cases c
  simp
 rw [e,e2]
 exact clean_of h
theorem hits_emp {b R:Rc} (h:b.emp = true):hits b R = false:=by
 unfold hits
 rw [emp_inter_left h]
 rfl
theorem hull_one (b:Rc):hull1 (hull1 zRc zRc) b = if b.emp then zRc else b:=by
 have e:hull1 zRc zRc = zRc:=by rw [hull1,if_pos z_emp]
 rw [e]
 unfold hull1
 split
 ·rfl
 ·rw [if_pos z_emp]
theorem box_one (can:Rc) (l:List Img) (g d o:Opr) (R:Rc) (hcan:can.emp = false) (hn:neuB d.op = true) (hoc:d.oc ≠ 0) (hms:d.ms = 0) (hi:d.im = o.im) (hx:d.x = o.x) (hy:d.y = o.y)
  (g1:g.op = o.op) (g2:g.oc = o.oc) (g3:g.ms = o.ms) (g4:g.mx = o.mx) (g5:g.my = o.my):hits (gBox can l g (.draw d .nil)) R = hits (dBox can l o) R:=by
 obtain ⟨P,hP⟩:∃ P,P = placedF can l o.im o.x o.y:=⟨_,rfl⟩
 have hd:dBox can l d = P.inter can:=by
  unfold dBox boxF maskRc
  rw [if_neg (by rw [hn]; decide),if_neg hoc,if_pos hms,inter_self hcan,hi,hx,hy,← hP]
 have hk:hullFo can l (.draw d .nil) zRc = if (P.inter can).emp then zRc else P.inter can:=by
  show hull1 (hull1 zRc zRc) (dBox can l d) = _
  rw [hd,hull_one]
 have hm:maskRc can l g = maskRc can l o:=by unfold maskRc; rw [g3,g4,g5]
 have hb:∀ src,boxF can l g src = boxF can l o src:=fun src => by unfold boxF; rw [g1,g2,hm]
 unfold gBox
 rw [hk,hb]
 unfold dBox
 rw [← hP]
 by_cases he:P.emp = true
 ·have h1:(P.inter can).emp = true:=emp_inter_left he
  rw [if_pos h1]
  unfold boxF
  split
  ·rfl
  ·split
   ·rfl
   ·rw [hits_emp (emp_inter_left z_emp),hits_emp (emp_inter_left he)]
 ·have he':P.emp = false:=by simpa using he
  have h2:P.inter can = P:=by rw [hP] at he' ⊢; exact inter_twice he'
  rw [h2,if_neg he]
def Rc.has (r:Rc) (X Y:Int):Prop:=r.x ≤ X ∧ X < r.u ∧ r.y ≤ Y ∧ Y < r.v
theorem tlWLaw2H0 {p:Prop} (h:p:=by
  refine (emp_iff _).2 ⟨(good_iff _).2 ?_,?_,?_⟩
  ·dsimp only
   omega
  ·dsimp only
   omega
  ·dsimp only
   omega):p:=h
theorem inter_pt {a c:Rc} (h1:a.emp = false) (h2:c.emp = false) {X Y:Int} (ha:a.has X Y) (hc:c.has X Y):(a.inter c).emp = false ∧ (a.inter c).has X Y:=by
 obtain ⟨a1,a2,a3,a4⟩:=ha
 obtain ⟨c1,c2,c3,c4⟩:=hc
 have g1:=(good_iff a).1 ((emp_iff a).1 h1).1
 have g2:=(good_iff c).1 ((emp_iff c).1 h2).1
 have he:(⟨max a.x c.x,max a.y c.y,min a.u c.u,min a.v c.v⟩:Rc).emp = false:=by
  exact tlWLaw2H0
 have e:=inter_def h1 h2
 rw [clean_of he] at e
 rw [e]
 refine ⟨he,?_⟩
 unfold Rc.has
 dsimp only
 omega
theorem hits_pt {b R:Rc} (hb:b.emp = false) (hR:R.emp = false) {X Y:Int} (h1:b.has X Y) (h2:R.has X Y):hits b R = true:=by
 unfold hits
 rw [(inter_pt hb hR h1 h2).1]
 rfl
theorem src_out {can:Rc} {l:List Img} {d:Opr} {R:Rc} {X Y:Int} (hcan:can.emp = false) (hR:R.emp = false) (hc:can.has X Y) (hr:R.has X Y) (hx:-4194304 ≤ d.x ∧ d.x ≤ 4194304) (hy:-4194304 ≤ d.y ∧ d.y ≤ 4194304) (hs:(imAt l d.im).sm)
  (h:hits (placedF can l d.im d.x d.y) R = false):sAt l d X Y = pxz:=by
 unfold sAt atF
 by_cases hb:(formB (imAt l d.im) && inB (imAt l d.im) (X - d.x) (Y - d.y)) = true
 ·rw [Bool.and_eq_true] at hb
  obtain ⟨i1,i2,i3,i4⟩:=inB_iff.1 hb.2
  obtain ⟨s1,s2,s3,s4⟩:=hs
  have hq:(⟨d.x,d.y,d.x + (imAt l d.im).w,d.y + (imAt l d.im).h⟩:Rc).emp = false:=by
   exact tlWLaw2H0
  have hp:(⟨d.x,d.y,d.x + (imAt l d.im).w,d.y + (imAt l d.im).h⟩:Rc).has X Y:=by
   unfold Rc.has
   dsimp only
   omega
  have hi:=inter_pt hq hcan hp hc
  have:=hits_pt hi.1 hR hi.2 hr
  unfold placedF at h
  rw [h] at this
  cases this
 ·rw [if_neg hb]
  rfl
end Go.Proofs.YtepfoelgegljbaaGreatDoor
