/- Part H4. -/
import Derived.Test.YtepfoelgegljbaaGreatDoorA43
import Derived.Test.YtepfoelgegljbaaGreatDoorH03
namespace Go.Proofs.YtepfoelgegljbaaGreatDoor
set_option maxRecDepth 100000
open Go.RowKit
set_option linter.unusedVariables false
section
variable {W:World} {base:Nat} {s:Scr} {F:Fo} (h:GScr W base s F)
include h
theorem GScr.sml:∀ i,(imAt s.ims i).sm:=fun i => by
 have:=h.lil i
 unfold Img.sm
 omega
theorem GScr.rep (kn:Bool) (k:Nat) (A:Option Addr) (p c:Nat) (L:List Opr) (hL:L = repL s.mx kn s.ops k) (hp:L.length = p) :
  (s.wo A p c L).Sm ∧ (s.wo A p c L).Vb (F.rep s.mx kn k) ∧ checkE (s.wo A p c L) = (0,0) ∧ (F.rep s.mx kn k).pos ∧ (s.wo A p c L).img (F.rep s.mx kn k) = s.img F ∧ p ≤ 100:=by
 have hm:=h.sm
 have hl:=len_rep s.mx kn s.ops k
 have hol:s.ops.length = s.pn:=by rw [h.fo]; exact h.lops
 have hpn:=h.pn
 have hfl:(F.rep s.mx kn k).flat = L:=by rw [flat_rep _ _ _ h.kd,← h.fo,hL]
 have hmx0:0 ≤ s.mx:=by have:=h.mxc; omega
 have hok:(F.rep s.mx kn k).ok s.inn s.mx true:=ok_rep kn (by omega) F true k h.ok
 have hps:opsE s.inn s.mx L 0 [] = (0,0):=by
  rw [← hfl]
  refine opsE_done hok ?_ ?_
  ·rw [hfl,hL]
   exact flds_rep (by rw [h.fo]; exact h.flds) k
  ·rw [hfl]
   rw [← hL] at hl
   omega
 have hle:p ≤ 100:=by rw [← hL] at hl; omega
 have hV:(s.wo A p c L).Vb (F.rep s.mx kn k):=⟨hfl.symm,hok,h.vb.im,h.frm,hps⟩
 refine ⟨⟨hm.w0,hm.w1,hm.h0,hm.h1,hm.x0,hm.x1,hm.y0,hm.y1,hm.t0,hm.t1,hm.t2,hm.t3,hm.i0,hle⟩,hV,?_,pos_rep hmx0 kn F k h.pos,img_rep hm h.vb h.src h.mxc h.sml kn k _ rfl rfl rfl rfl,hle⟩
 exact checkE_zero (s:=s.wo A p c L) h.frm (fun m hm => (h.g m hm).ok) hps
end
end Go.Proofs.YtepfoelgegljbaaGreatDoor
