/- Part A46. -/
import Derived.Test.YtepfoelgegljbaaGreatDoorA43
import Derived.Test.YtepfoelgegljbaaGreatDoorA45
namespace Go.Proofs.YtepfoelgegljbaaGreatDoor
set_option maxRecDepth 100000
open Go.RowKit
set_option linter.unusedVariables false
set_option linter.unusedSimpArgs false
theorem oprs_one (l:List Opr):∀ u ∈ oprs l,u.oneCell' = true:=by
 intro u hu
 unfold oprs at hu
 obtain ⟨p,-,h⟩:=List.mem_flatMap.1 hu
 exact op_one p u h
structure GrI (W0 W:World) (T:Nat) (s:Scr) (A:Option Addr) (p c:Nat) (L:List Opr):Prop where
 hX:Bel W0 W
 eT:W.heap[T]? = some (.cells (s.wo A p c L).cs.toArray 38)
 op:W.ownsRow W0.heap.size 29 12 (.slice A p c) p (oprs L)
 tT:W0.heap.size ≤ T
theorem GrI.bel {W0 W W':World} {T:Nat} {s:Scr} {A:Option Addr} {p c:Nat} {L:List Opr} (h:GrI W0 W T s A p c L) (hb:Bel W W'):GrI W0 W' T s A p c L:=⟨h.hX.trans hb,hb.heap h.eT,own_ext h.op hb,h.tT⟩
end Go.Proofs.YtepfoelgegljbaaGreatDoor
