/- Contracts of the number functions of package round, and of the reference's Half. -/
import Derived.Test.YtdbemgjjahcabaaProg
import Derived.Test.YtdbemgjjahcabaaNums
import Derived.WalkKit
import Derived.WalkSpells
import Derived.WalkLawsBesides
import Derived.RegionTactic
import Derived.Deep.QuietTactic
import Derived.BigQuiet
import Derived.Lib.Hide
namespace Go.Proofs.Ytdbemgjjahcabaa
open Go.RowKit

theorem ret_int {k : IntKind} {a b : Int} (h : a = b) : Ending.returned (.int k a) = .returned (.int k b) := by rw [h]
theorem val_int {k : IntKind} {a b : Int} (h : a = b) : Value.int k a = Value.int k b := by rw [h]
def wrapU32 (a : Int) : Int := a % 4294967296
theorem u32_mod {a : Int} (h : 0 ≤ a ∧ a ≤ 4294967295) : a % 4294967296 = a := by omega

theorem and_u64_65535 (r : Int) (h0 : 0 ≤ r) (h1 : r ≤ 18446744073709551615) : bits .and .u64 r 65535 = r % 65536 := by
  rw [u64_and r 65535 h0 (by omega) (by omega) (by omega)]
  have e : r.toNat &&& Int.toNat 65535 = r.toNat % 65536 := nat_mask16 _
  rw [e]; omega

theorem and_u32_255 (r : Int) (h0 : 0 ≤ r) (h1 : r ≤ 4294967295) : bits .and .u32 r 255 = r % 256 := by
  rw [u32_and r 255 h0 (by omega) (by omega) (by omega)]
  have e : r.toNat &&& Int.toNat 255 = r.toNat % 256 := nat_mask8 _
  rw [e]; omega





end Go.Proofs.Ytdbemgjjahcabaa
