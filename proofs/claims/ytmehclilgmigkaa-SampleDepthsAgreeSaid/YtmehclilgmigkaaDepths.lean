/- The walk of SampleDepthsAgree: it returns true. -/
import Derived.Test.YtmehclilgmigkaaConv
import Derived.Test.YtmehclilgmigkaaAwake05
namespace Go.Proofs.Ytmehclilgmigkaa
open Go.RowKit

set_option maxHeartbeats 2000000 in
theorem sampleDepthsAgree_walk (v x y z a f : Int) (w : World) (v0 : 0 ≤ v) (v1 : v ≤ 65535) (x0 : 0 ≤ x) (x1 : x ≤ 65535) (y0 : 0 ≤ y) (y1 : y ≤ 65535) (z0 : 0 ≤ z) (z1 : z ≤ 65535) (a0 : 0 ≤ a) (a1 : a ≤ 65535) (f0 : 0 ≤ f) (f1 : f ≤ 65535) :
    Calls Try.prog 8 #[.int .u16 v, .agg #[.int .u16 x, .int .u16 y, .int .u16 z, .int .u16 a, .int .u16 f]] w fun e w' => e = .returned (.bool true) ∧ Below w.heap.size w w' := by
  have hmc := more_cell
  have hmh := more_heap
  have he := eql_pixel_same
  go_enter Try.func8, Try.ntmps8
  go_wp2
  refine region_more (by kernel_rfl) (by kernel_rfl) ?_
  repeat (quiet_step ((first
    | (go_at_call 15; exact calls_more_drewN (awake05_call _))
    | (go_at_call 13; exact calls_more_same (to16_call _ _ v0 v1))
    | (go_at_call 31; exact calls_more_same (refTo16_call _ _ v0 v1))
    | (go_at_call 14; exact calls_more_drewN (to8_call _ _ v0 v1))
    | (go_at_call 32; exact calls_more_drewN (refTo8_call _ _ v0 v1))
    | (go_at_call 33; exact calls_more (widen_call _ _ _ _ _ _ x0 x1 y0 y1 z0 z1 a0 a1 f0 f1))
    | (go_at_call 35; exact calls_more (narrow_call _ _ _ _ _ _ x0 x1 y0 y1 z0 z1 a0 a1 f0 f1))
    | (go_at_call 34; exact calls_more (refWiden_call _ _ _ _ _ _ x0 x1 y0 y1 z0 z1 a0 a1 f0 f1))
    | (go_at_call 36; exact calls_more (refNarrow_call _ _ _ _ _ _ x0 x1 y0 y1 z0 z1 a0 a1 f0 f1)))))
  refine wpQuiet_nil ?_
  rintro w1 ⟨p, rfl⟩
  go_wp2
  go_returns
  exact ⟨rfl, below_more (by go_grown) (by go_size) _⟩
end Go.Proofs.Ytmehclilgmigkaa
