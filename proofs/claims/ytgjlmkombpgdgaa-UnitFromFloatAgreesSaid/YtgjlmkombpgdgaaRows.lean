/-
  No cell of these rows narrows 'for every input' (looked for: loops, veiled, ifaces, maps, wideKeys, modest, calm, conditions, laid).
  DERIVED. THE GIVEN ROWS OF THIS SEAT. 5 by the template 'for every input the law returns true; each argument reads behind the call as it read before'; 0 by the template 'total and deterministic' (their statements: YtgjlmkombpgdgaaTotals.lean).
  GIVEN WITH THE SEED: the statements are not yours to turn. If you find one false, say at which input.
  Laid BY PROGRAM, IN A SANDBOX (cutbox-rows.mjs): the forced cells as the released guide's own fill.sh prints them over the translation 3b061d93e8bf1935… (all of the seat's roots in one cut). By AI agents, Wed Nov 11 2026. No macro, syntax, notation, axiom, sorry.
-/
import Derived.Test.YtgjlmkombpgdgaaChecked
import GoSem.Claim
import GoSem.ClaimJoined
import GoSem.ClaimMapViews
import Derived.JoinedTies
import Derived.KernelRfl
namespace Go.Proofs.Ytgjlmkombpgdgaa
/- THE CELL 'sum', in the pinned program and in every row, IS THE sha256 OF THE DUMP (.gsa) THAT YtgjlmkombpgdgaaProg.lean LOADS. Nothing in Lean hashes anything: it is a label: what it is worth is what the hold of that sum in a sandbox is worth. -/
noncomputable def Try.pinned : Pinned := { name := "ytgjlmkombpgdgaa", sum := "3b061d93e8bf1935b85e3825bbaa049e26d3041acf4bdc08707ff2e153631147", checked := Try.checked }
namespace Rows
def none {H : Type} : Left H := { results := [], args := [] }

/-- 'compositorlaw04.UnitFromFloatAgrees': WHATEVER THE INPUT: true; the input reads as it did. -/
def unitFromFloatAgreesSpec : ChangeSpec := { name := "unitFromFloatAgrees", fn := fun _ => fun
  | [d1, d2, d3, d4] => { results := [.lit (.bool true)], args := [d1, d2, d3, d4] }
  | _ => none }
def unitFromFloatAgreesRow : OpenClaim := { program := "ytgjlmkombpgdgaa", sum := "3b061d93e8bf1935b85e3825bbaa049e26d3041acf4bdc08707ff2e153631147", func := "compositor/compositorlaw04.UnitFromFloatAgrees", spec := "unitFromFloatAgrees", inPlace := ["math.Float64bits", "math.Float64frombits", "math/bits.Add64"], apart := false }
def UnitFromFloatAgreesSaid : Prop := unitFromFloatAgreesRow.holds Try.pinned (OpenSpec.ofChange unitFromFloatAgreesSpec)

/-- ITS FALSE NEIGHBOUR: 'it returns false'. Refute it at one input. -/
def unitFromFloatAgreesWrong : ChangeSpec := { name := "unitFromFloatAgrees", fn := fun _ => fun
  | [d1, d2, d3, d4] => { results := [.lit (.bool false)], args := [d1, d2, d3, d4] }
  | _ => none }
def UnitFromFloatAgreesWrongFalsely : Prop := unitFromFloatAgreesRow.holds Try.pinned (OpenSpec.ofChange unitFromFloatAgreesWrong)

/-- 'compositorlaw04.UnitToFloatAgrees': WHATEVER THE INPUT: true; the input reads as it did. -/
def unitToFloatAgreesSpec : ChangeSpec := { name := "unitToFloatAgrees", fn := fun _ => fun
  | [d1, d2] => { results := [.lit (.bool true)], args := [d1, d2] }
  | _ => none }
def unitToFloatAgreesRow : OpenClaim := { program := "ytgjlmkombpgdgaa", sum := "3b061d93e8bf1935b85e3825bbaa049e26d3041acf4bdc08707ff2e153631147", func := "compositor/compositorlaw04.UnitToFloatAgrees", spec := "unitToFloatAgrees", inPlace := ["math.Float64bits", "math/bits.Add64", "math.Float64frombits"], apart := false }
def UnitToFloatAgreesSaid : Prop := unitToFloatAgreesRow.holds Try.pinned (OpenSpec.ofChange unitToFloatAgreesSpec)

/-- ITS FALSE NEIGHBOUR: 'it returns false'. Refute it at one input. -/
def unitToFloatAgreesWrong : ChangeSpec := { name := "unitToFloatAgrees", fn := fun _ => fun
  | [d1, d2] => { results := [.lit (.bool false)], args := [d1, d2] }
  | _ => none }
def UnitToFloatAgreesWrongFalsely : Prop := unitToFloatAgreesRow.holds Try.pinned (OpenSpec.ofChange unitToFloatAgreesWrong)

/-- 'compositorlaw04.UnitRoundTrip': WHATEVER THE INPUT: true; the input reads as it did. -/
def unitRoundTripSpec : ChangeSpec := { name := "unitRoundTrip", fn := fun _ => fun
  | [d1, d2] => { results := [.lit (.bool true)], args := [d1, d2] }
  | _ => none }
def unitRoundTripRow : OpenClaim := { program := "ytgjlmkombpgdgaa", sum := "3b061d93e8bf1935b85e3825bbaa049e26d3041acf4bdc08707ff2e153631147", func := "compositor/compositorlaw04.UnitRoundTrip", spec := "unitRoundTrip", inPlace := ["math.Float64bits", "math/bits.Add64", "math.Float64frombits"], apart := false }
def UnitRoundTripSaid : Prop := unitRoundTripRow.holds Try.pinned (OpenSpec.ofChange unitRoundTripSpec)

/-- ITS FALSE NEIGHBOUR: 'it returns false'. Refute it at one input. -/
def unitRoundTripWrong : ChangeSpec := { name := "unitRoundTrip", fn := fun _ => fun
  | [d1, d2] => { results := [.lit (.bool false)], args := [d1, d2] }
  | _ => none }
def UnitRoundTripWrongFalsely : Prop := unitRoundTripRow.holds Try.pinned (OpenSpec.ofChange unitRoundTripWrong)

/-- 'compositorlaw04.UnitIsMonotone': WHATEVER THE INPUT: true; the input reads as it did. -/
def unitIsMonotoneSpec : ChangeSpec := { name := "unitIsMonotone", fn := fun _ => fun
  | [d1, d2, d3] => { results := [.lit (.bool true)], args := [d1, d2, d3] }
  | _ => none }
def unitIsMonotoneRow : OpenClaim := { program := "ytgjlmkombpgdgaa", sum := "3b061d93e8bf1935b85e3825bbaa049e26d3041acf4bdc08707ff2e153631147", func := "compositor/compositorlaw04.UnitIsMonotone", spec := "unitIsMonotone", inPlace := ["math.Float64bits", "math/bits.Add64", "math.Float64frombits"], apart := false }
def UnitIsMonotoneSaid : Prop := unitIsMonotoneRow.holds Try.pinned (OpenSpec.ofChange unitIsMonotoneSpec)

/-- ITS FALSE NEIGHBOUR: 'it returns false'. Refute it at one input. -/
def unitIsMonotoneWrong : ChangeSpec := { name := "unitIsMonotone", fn := fun _ => fun
  | [d1, d2, d3] => { results := [.lit (.bool false)], args := [d1, d2, d3] }
  | _ => none }
def UnitIsMonotoneWrongFalsely : Prop := unitIsMonotoneRow.holds Try.pinned (OpenSpec.ofChange unitIsMonotoneWrong)

/-- 'compositorlaw04.UnitSpecialNumbers': WHATEVER THE INPUT: true; the input reads as it did. -/
def unitSpecialNumbersSpec : ChangeSpec := { name := "unitSpecialNumbers", fn := fun _ => fun
  | [d1, d2] => { results := [.lit (.bool true)], args := [d1, d2] }
  | _ => none }
def unitSpecialNumbersRow : OpenClaim := { program := "ytgjlmkombpgdgaa", sum := "3b061d93e8bf1935b85e3825bbaa049e26d3041acf4bdc08707ff2e153631147", func := "compositor/compositorlaw04.UnitSpecialNumbers", spec := "unitSpecialNumbers", inPlace := ["math.Float64frombits", "math.Float64bits", "math/bits.Add64"], apart := false }
def UnitSpecialNumbersSaid : Prop := unitSpecialNumbersRow.holds Try.pinned (OpenSpec.ofChange unitSpecialNumbersSpec)

/-- ITS FALSE NEIGHBOUR: 'it returns false'. Refute it at one input. -/
def unitSpecialNumbersWrong : ChangeSpec := { name := "unitSpecialNumbers", fn := fun _ => fun
  | [d1, d2] => { results := [.lit (.bool false)], args := [d1, d2] }
  | _ => none }
def UnitSpecialNumbersWrongFalsely : Prop := unitSpecialNumbersRow.holds Try.pinned (OpenSpec.ofChange unitSpecialNumbersWrong)

/- THE SECOND FORM. 'bulk': how many values and letters a reading holds, each counted each time it is reached (what is shared counts as often as it is met; a slice's spare places count too). A statement '..UptoSaid' is the law's where the arguments, and the package variables that the reading takes, are together of bulk at most 1048576: NARROWER than '..Said'. Prove '..Said' where nothing that the law and all that it calls make is longer than what came in: it says more and counts as full. Else prove '..UptoSaid'. A law counts once. -/
mutual
def uptoBulk {H : Type} : DataW H → Nat
  | .lit (.string bytes) => bytes.length + 1
  | .lit _ => 1
  | .nil => 1
  | .ptr d => uptoBulk d + 1
  | .slice elems spare => uptoBulkAll elems + uptoBulkAll spare + 1
  | .agg parts => uptoBulkAll parts + 1
  | .iface _ d => uptoBulk d + 1
  | .map entries => uptoBulkEntries entries + 1
  | .held _ => 1
def uptoBulkAll {H : Type} : List (DataW H) → Nat
  | [] => 0
  | d :: r => uptoBulk d + uptoBulkAll r
def uptoBulkEntries {H : Type} : List (Lit × DataW H) → Nat
  | [] => 0
  | x :: r => uptoBulkEntry x + uptoBulkEntries r
def uptoBulkEntry {H : Type} : Lit × DataW H → Nat
  | (.string bytes, d) => bytes.length + uptoBulk d + 1
  | (_, d) => uptoBulk d + 1
 end
def uptoSmall : (H : Type) → List (DataW H) → Bool := fun _ ds => decide (uptoBulkAll ds ≤ 1048576)
def OpenSpec.upto (s : _root_.Go.ChangeSpec) : _root_.Go.OpenSpec := { _root_.Go.OpenSpec.ofChange s with cond := some uptoSmall }

/-- 'compositorlaw04.UnitFromFloatAgrees', WHERE WHAT IT READS IS OF BULK AT MOST 1048576: true; the input reads as it did. -/
def unitFromFloatAgreesUptoRow : OpenClaim := { program := "ytgjlmkombpgdgaa", sum := "3b061d93e8bf1935b85e3825bbaa049e26d3041acf4bdc08707ff2e153631147", func := "compositor/compositorlaw04.UnitFromFloatAgrees", spec := "unitFromFloatAgrees", inPlace := ["math.Float64bits", "math.Float64frombits", "math/bits.Add64"], apart := false, narrowed := true }
def UnitFromFloatAgreesUptoSaid : Prop := unitFromFloatAgreesUptoRow.holds Try.pinned (OpenSpec.upto unitFromFloatAgreesSpec)

/-- 'compositorlaw04.UnitToFloatAgrees', WHERE WHAT IT READS IS OF BULK AT MOST 1048576: true; the input reads as it did. -/
def unitToFloatAgreesUptoRow : OpenClaim := { program := "ytgjlmkombpgdgaa", sum := "3b061d93e8bf1935b85e3825bbaa049e26d3041acf4bdc08707ff2e153631147", func := "compositor/compositorlaw04.UnitToFloatAgrees", spec := "unitToFloatAgrees", inPlace := ["math.Float64bits", "math/bits.Add64", "math.Float64frombits"], apart := false, narrowed := true }
def UnitToFloatAgreesUptoSaid : Prop := unitToFloatAgreesUptoRow.holds Try.pinned (OpenSpec.upto unitToFloatAgreesSpec)

/-- 'compositorlaw04.UnitRoundTrip', WHERE WHAT IT READS IS OF BULK AT MOST 1048576: true; the input reads as it did. -/
def unitRoundTripUptoRow : OpenClaim := { program := "ytgjlmkombpgdgaa", sum := "3b061d93e8bf1935b85e3825bbaa049e26d3041acf4bdc08707ff2e153631147", func := "compositor/compositorlaw04.UnitRoundTrip", spec := "unitRoundTrip", inPlace := ["math.Float64bits", "math/bits.Add64", "math.Float64frombits"], apart := false, narrowed := true }
def UnitRoundTripUptoSaid : Prop := unitRoundTripUptoRow.holds Try.pinned (OpenSpec.upto unitRoundTripSpec)

/-- 'compositorlaw04.UnitIsMonotone', WHERE WHAT IT READS IS OF BULK AT MOST 1048576: true; the input reads as it did. -/
def unitIsMonotoneUptoRow : OpenClaim := { program := "ytgjlmkombpgdgaa", sum := "3b061d93e8bf1935b85e3825bbaa049e26d3041acf4bdc08707ff2e153631147", func := "compositor/compositorlaw04.UnitIsMonotone", spec := "unitIsMonotone", inPlace := ["math.Float64bits", "math/bits.Add64", "math.Float64frombits"], apart := false, narrowed := true }
def UnitIsMonotoneUptoSaid : Prop := unitIsMonotoneUptoRow.holds Try.pinned (OpenSpec.upto unitIsMonotoneSpec)

/-- 'compositorlaw04.UnitSpecialNumbers', WHERE WHAT IT READS IS OF BULK AT MOST 1048576: true; the input reads as it did. -/
def unitSpecialNumbersUptoRow : OpenClaim := { program := "ytgjlmkombpgdgaa", sum := "3b061d93e8bf1935b85e3825bbaa049e26d3041acf4bdc08707ff2e153631147", func := "compositor/compositorlaw04.UnitSpecialNumbers", spec := "unitSpecialNumbers", inPlace := ["math.Float64frombits", "math.Float64bits", "math/bits.Add64"], apart := false, narrowed := true }
def UnitSpecialNumbersUptoSaid : Prop := unitSpecialNumbersUptoRow.holds Try.pinned (OpenSpec.upto unitSpecialNumbersSpec)

end Rows
end Go.Proofs.Ytgjlmkombpgdgaa
