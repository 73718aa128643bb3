/- Part I3. -/
import Derived.Test.YtepfoelgegljbaaGreatDoorI02
namespace Go.Proofs.YtepfoelgegljbaaGreatDoor
set_option maxRecDepth 100000
open Go.ChangeShapes Go.WideShapes Go.RowKit Go.Deep
set_option linter.unusedVariables false
section
variable {H:Type} {enc:TypeId × Value → H} {W:World} {base:Nat} {spare:Nat → Bool} {held:Bool}
theorem op_open {r:Reach} {b0:Nat} {v:Value} {d:DataW H} {p:List MemPlace} (hv:Value.okWide Tryz.prog W r b0 29 v) (h:DataW.Trod enc Tryz.prog W base spare held 29 v d p):∃ o:Opr,v = o.v ∧ 0 ≤ o.oc:=by
 obtain ⟨cs,rfl,hsz⟩:=okWide_struct Tryz.underlying29 hv
 rw [show Tryz.prog.cellsOf 29 = 12 by kernel_rfl] at hsz
 obtain ⟨l⟩:=cs
 obtain ⟨fuel,hf⟩:=h
 obtain ⟨xs,m,-,-,-,hxl,hi⟩:=DataW.trod_struct Tryz.underlying29 hf
 match l,hsz with
 | [c0,c1,c2,c3,c4,c5,c6,c7,c8,c9,c10,c11],_ =>
  match xs,hxl with
  | [y0,y1,y2,y3,y4,y5,y6,y7,y8,y9,y10,y11],_ =>
   obtain ⟨a0,e0,r0⟩:=int_open Tryz.underlying3 (show DataW.trod enc Tryz.prog W base spare held m 3 [c0] = some y0 from fld hi 0 (o:=0) (k:=1) rfl (by kernel_rfl))
   obtain ⟨a1,e1,r1⟩:=int_open Tryz.underlying3 (show DataW.trod enc Tryz.prog W base spare held m 3 [c1] = some y1 from fld hi 1 (o:=1) (k:=1) rfl (by kernel_rfl))
   obtain ⟨a2,e2,r2⟩:=int_open Tryz.underlying3 (show DataW.trod enc Tryz.prog W base spare held m 3 [c2] = some y2 from fld hi 2 (o:=2) (k:=1) rfl (by kernel_rfl))
   obtain ⟨a3,e3,r3⟩:=int_open Tryz.underlying3 (show DataW.trod enc Tryz.prog W base spare held m 3 [c3] = some y3 from fld hi 3 (o:=3) (k:=1) rfl (by kernel_rfl))
   obtain ⟨a4,e4,r4⟩:=int_open Tryz.underlying3 (show DataW.trod enc Tryz.prog W base spare held m 3 [c4] = some y4 from fld hi 4 (o:=4) (k:=1) rfl (by kernel_rfl))
   obtain ⟨a5,e5,r5⟩:=int_open Tryz.underlying3 (show DataW.trod enc Tryz.prog W base spare held m 3 [c5] = some y5 from fld hi 5 (o:=5) (k:=1) rfl (by kernel_rfl))
   obtain ⟨a6,e6,r6⟩:=int_open Tryz.underlying3 (show DataW.trod enc Tryz.prog W base spare held m 3 [c6] = some y6 from fld hi 6 (o:=6) (k:=1) rfl (by kernel_rfl))
   obtain ⟨a7,e7,-,r7⟩:=DataW.trod_int Tryz.underlying27 (show DataW.trod enc Tryz.prog W base spare held m 27 [c7] = some y7 from fld hi 7 (o:=7) (k:=1) rfl (by kernel_rfl))
   obtain ⟨a8,e8,r8⟩:=int_open Tryz.underlying3 (show DataW.trod enc Tryz.prog W base spare held m 3 [c8] = some y8 from fld hi 8 (o:=8) (k:=1) rfl (by kernel_rfl))
   obtain ⟨a9,e9,r9⟩:=int_open Tryz.underlying3 (show DataW.trod enc Tryz.prog W base spare held m 3 [c9] = some y9 from fld hi 9 (o:=9) (k:=1) rfl (by kernel_rfl))
   obtain ⟨a10,e10,-⟩:=DataW.trod_bool Tryz.underlying4 (show DataW.trod enc Tryz.prog W base spare held m 4 [c10] = some y10 from fld hi 10 (o:=10) (k:=1) rfl (by kernel_rfl))
   obtain ⟨a11,e11,-⟩:=DataW.trod_bool Tryz.underlying4 (show DataW.trod enc Tryz.prog W base spare held m 4 [c11] = some y11 from fld hi 11 (o:=11) (k:=1) rfl (by kernel_rfl))
   cases e0
   cases e1
   cases e2
   cases e3
   cases e4
   cases e5
   cases e6
   cases e7
   cases e8
   cases e9
   cases e10
   cases e11
   exact ⟨⟨a0,a1,a2,a3,a4,a5,a6,a7,a8,a9,a10,a11⟩,rfl,(bounds_u16 r7).1⟩
end
end Go.Proofs.YtepfoelgegljbaaGreatDoor
