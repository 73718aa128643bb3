/- Part M1. -/
import Derived.Test.YtepfoelgegljbaaGreatDoorA05
namespace Go.Proofs.YtepfoelgegljbaaGreatDoor
set_option maxRecDepth 100000
open Go.RowKit
set_option linter.unusedVariables false
theorem can_ld {W:World} {g:Nat} {v0 v1 v2 v3 v4 v5 v6 v7 v8 v9:Value} {t:TypeId} (e:W.heap[g]? = some (.cells #[v0,v1,v2,v3,v4,v5,v6,v7,v8,v9] t)):Sem.run Tryz.prog (Instr.loadAt 34 (.pointer (some ⟨g,1,none⟩))) W = .ok (.agg #[v1,v2,v3,v4]) W :=
 run_loadAt_mid (P:=Tryz.prog) W g 1 34 [v1,v2,v3,v4] _ (fun j v hv => by
  have hj:j < 4:=by have:=(List.getElem?_eq_some_iff.1 hv).1; simpa using this
  have hh:(j = 0 ∨ j = 1 ∨ j = 2 ∨ j = 3):=by omega
  rcases hh with rfl | rfl | rfl | rfl <;> exact cell_of e hv) Tryz.underlying34 (by rfl) (by kernel_rfl)
end Go.Proofs.YtepfoelgegljbaaGreatDoor
