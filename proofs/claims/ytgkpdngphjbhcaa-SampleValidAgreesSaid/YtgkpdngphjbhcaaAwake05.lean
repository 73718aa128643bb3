/- Contract of the sanity check of the statements of layer 5: it returns true. -/
import Derived.Test.YtgkpdngphjbhcaaSamp
import Derived.WalkSmall
namespace Go.Proofs.Ytgkpdngphjbhcaa
open Go.RowKit

theorem grown_drewN (w : World) (k : Nat) : Grown w (w.drewN k) := by
  induction k generalizing w with
  | zero => exact Grown.refl _
  | succ k ih => exact ⟨(World.keptBut_trans (Grown.drew (Grown.refl w)).1 (ih w.drew).1), fun x => ((ih w.drew).2.1 x).trans ((Grown.drew (Grown.refl w)).2.1 x), Nat.le_trans (Grown.drew (Grown.refl w)).2.2 (ih w.drew).2.2⟩

set_option maxHeartbeats 400000 in
theorem awake05_call (w : World) :
    Calls Try.prog 15 #[] w fun e w' => e = .returned (.bool true) ∧ ∃ k, w' = w.drewN k := by
  have e0 : maxI 16 = 65535 := by decide
  have e0' : maxB 16 = true := by decide
  have e1 : to16I 128 = 32896 := by decide
  have e2 : to8I 32767 = 127 := by decide
  have e3 : premI 200 128 255 = 100 := by decide
  have e4 : strI 100 128 255 = 199 := by decide
  go_enter Try.func15, Try.ntmps15
  go_wp2_with (first
    | (go_at_call 23; refine (smax_call _ _).mono ?_; rintro e w' ⟨rfl, rfl⟩)
    | (go_at_call 13; refine (to16_call _ _ (by omega) (by omega)).mono ?_; rintro e w' ⟨rfl, rfl⟩)
    | (go_at_call 14; refine (to8_call _ _ (by omega) (by omega)).mono ?_; rintro e w' ⟨rfl, k, rfl⟩)
    | (go_at_call 17; refine (prem_call _ _ _ _ (by omega) (by omega) (by omega) (by omega) (by omega) (by omega)).mono ?_; rintro e w' ⟨rfl, k, rfl⟩)
    | (go_at_call 19; refine (str_call _ _ _ _ (by omega) (by omega) (by omega) (by omega) (by omega) (by omega)).mono ?_; rintro e w' ⟨rfl, k, rfl⟩))
  go_ret
  exact ⟨rfl, _, rfl⟩
end Go.Proofs.Ytgkpdngphjbhcaa
