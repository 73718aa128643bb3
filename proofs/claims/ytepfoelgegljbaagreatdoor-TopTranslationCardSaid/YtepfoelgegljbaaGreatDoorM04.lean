/- Part M4. -/
import Derived.Test.YtepfoelgegljbaaGreatDoorA43
import Derived.Test.YtepfoelgegljbaaGreatDoorM03
namespace Go.Proofs.YtepfoelgegljbaaGreatDoor
set_option maxRecDepth 100000
open Go.RowKit
set_option linter.unusedVariables false
section
variable {W:World} {base:Nat} {s:Scr} {F:Fo} (h:GScr W base s F)
include h
theorem GScr.canl:s.can.lil:=by
 have f:=h.fr
 have:=f.x0
 have:=f.x1
 have:=f.y0
 have:=f.y1
 have:=f.u0
 have:=f.u1
 have:=f.v0
 have:=f.v1
 unfold Rc.lil
 omega
end
abbrev Scr.mv (s:Scr) (u v:Int) (A:Option Addr) (n c:Nat) (L:List Opr):Scr:=⟨s.bits,s.can.tr u v,s.tw,s.th,s.oA,s.on,s.oc,s.ord,s.iA,s.inn,s.ic,s.ims,A,n,c,L⟩
theorem GScr.moved {W:World} {base:Nat} {s:Scr} {F:Fo} (h:GScr W base s F) {u v:Int} (hu:-1048536 ≤ u ∧ u ≤ 1048536) (hv:-1048536 ≤ v ∧ v ≤ 1048536) (A:Option Addr) (c:Nat) :
  (s.mv u v A s.pn c (s.ops.map (Opr.tr u v))).Sm ∧ (s.mv u v A s.pn c (s.ops.map (Opr.tr u v))).Vb (F.tr u v) ∧ checkE (s.mv u v A s.pn c (s.ops.map (Opr.tr u v))) = (0,0) ∧ (F.tr u v).pos ∧ (s.mv u v A s.pn c (s.ops.map (Opr.tr u v))).img (F.tr u v) = s.img F:=by
 have hm:=h.sm
 have f:=h.fr
 have hvec:vec u v:=⟨by omega,by omega⟩
 have hfl:(F.tr u v).flat = s.ops.map (Opr.tr u v):=by rw [flat_tr,h.fo]
 have hok:(F.tr u v).ok s.inn s.mx true:=ok_tr hu hv F true h.ok h.nrs
 have hps:opsE s.inn s.mx (s.ops.map (Opr.tr u v)) 0 [] = (0,0):=by
  rw [← hfl]
  refine opsE_done hok ?_ ?_
  ·rw [hfl,h.fo]
   intro o ho
   obtain ⟨q,hq,rfl⟩:=List.mem_map.1 ho
   exact flds_tr u v (h.flds q hq)
  ·rw [hfl,List.length_map,h.fo,h.lops]
   have:=h.pn
   omega
 have hnt:(s.mv u v A s.pn c (s.ops.map (Opr.tr u v))).nt = s.nt:=by
  unfold Scr.nt
  rw [(cnt_tr h.canl hvec _ _).1,(cnt_tr h.canl hvec _ _).2]
 have hfr:frameE (s.mv u v A s.pn c (s.ops.map (Opr.tr u v))) = 0:=by
  unfold frameE
  rw [hnt,if_neg (by rw [maxB_of h.fr.bt]; decide),if_pos h.oo]
 have hx0:=f.x0
 have hx1:=f.x1
 have hy0:=f.y0
 have hy1:=f.y1
 have hV:(s.mv u v A s.pn c (s.ops.map (Opr.tr u v))).Vb (F.tr u v):=⟨hfl.symm,hok,h.vb.im,hfr,hps⟩
 refine ⟨⟨?_,?_,?_,?_,?_,?_,?_,?_,hm.t0,?_,hm.t2,?_,hm.i0,hm.p0⟩,hV,checkE_zero hfr (fun m hm => (h.g m hm).ok) hps,pos_tr u v F h.pos,img_tr hvec h.canl hm h.vb h.kd h.nrs h.lil rfl rfl rfl rfl rfl rfl⟩
 ·show s.can.x + u < s.can.u + u
  have:=hm.w0
  omega
 ·show s.can.u + u ≤ s.can.x + u + 5
  have:=hm.w1
  omega
 ·show s.can.y + v < s.can.v + v
  have:=hm.h0
  omega
 ·show s.can.v + v ≤ s.can.y + v + 5
  have:=hm.h1
  omega
 ·show -1048576 ≤ s.can.x + u
  omega
 ·show s.can.x + u ≤ 1048576
  omega
 ·show -1048576 ≤ s.can.y + v
  omega
 ·show s.can.y + v ≤ 1048576
  omega
 ·show s.tw ≤ s.can.u + u - (s.can.x + u)
  have:=hm.t1
  omega
 ·show s.th ≤ s.can.v + v - (s.can.y + v)
  have:=hm.t3
  omega
end Go.Proofs.YtepfoelgegljbaaGreatDoor
