/-
  No cell of these rows narrows 'for every input' (looked for: loops, veiled, ifaces, maps, wideKeys, modest, calm, conditions, laid).
  DERIVED. THE GIVEN ROWS OF THIS SEAT. 6 by the template 'for every input the law returns true; each argument reads behind the call as it read before'; 0 by the template 'total and deterministic' (their statements: YtdbemgjjahcabaaTotals.lean).
  GIVEN WITH THE SEED: the statements are not yours to turn. If you find one false, say at which input.
  Laid BY PROGRAM, IN A SANDBOX (cutbox-rows.mjs): the forced cells as the released guide's own fill.sh prints them over the translation daf155bf5444bf92… (all of the seat's roots in one cut). By AI agents, Wed Nov 11 2026. No macro, syntax, notation, axiom, sorry.
-/
import Derived.Test.YtdbemgjjahcabaaChecked
import GoSem.Claim
import GoSem.ClaimJoined
import GoSem.ClaimMapViews
import Derived.JoinedTies
import Derived.KernelRfl
namespace Go.Proofs.Ytdbemgjjahcabaa
/- THE CELL 'sum', in the pinned program and in every row, IS THE sha256 OF THE DUMP (.gsa) THAT YtdbemgjjahcabaaProg.lean LOADS. Nothing in Lean hashes anything: it is a label: what it is worth is what the hold of that sum in a sandbox is worth. -/
noncomputable def Try.pinned : Pinned := { name := "ytdbemgjjahcabaa", sum := "daf155bf5444bf92a76a77eeb6c671e53403322a6030e5a54da0e0cbea2e5668", checked := Try.checked }
namespace Rows
def none {H : Type} : Left H := { results := [], args := [] }

/-- 'compositorlaw28.IntervalContainsAgrees': WHATEVER THE INPUT: true; the input reads as it did. -/
def intervalContainsAgreesSpec : ChangeSpec := { name := "intervalContainsAgrees", fn := fun _ => fun
  | [d1, d2, d3, d4] => { results := [.lit (.bool true)], args := [d1, d2, d3, d4] }
  | _ => none }
def intervalContainsAgreesRow : OpenClaim := { program := "ytdbemgjjahcabaa", sum := "daf155bf5444bf92a76a77eeb6c671e53403322a6030e5a54da0e0cbea2e5668", func := "compositor/compositorlaw28.IntervalContainsAgrees", spec := "intervalContainsAgrees", named := ["math/bits.divideError", "math/bits.overflowError"], apart := false }
def IntervalContainsAgreesSaid : Prop := intervalContainsAgreesRow.holds Try.pinned (OpenSpec.ofChange intervalContainsAgreesSpec)

/-- ITS FALSE NEIGHBOUR: 'it returns false'. Refute it at one input. -/
def intervalContainsAgreesWrong : ChangeSpec := { name := "intervalContainsAgrees", fn := fun _ => fun
  | [d1, d2, d3, d4] => { results := [.lit (.bool false)], args := [d1, d2, d3, d4] }
  | _ => none }
def IntervalContainsAgreesWrongFalsely : Prop := intervalContainsAgreesRow.holds Try.pinned (OpenSpec.ofChange intervalContainsAgreesWrong)

/-- 'compositorlaw28.IntervalSumsAgree': WHATEVER THE INPUT: true; the input reads as it did. -/
def intervalSumsAgreeSpec : ChangeSpec := { name := "intervalSumsAgree", fn := fun _ => fun
  | [d1, d2, d3, d4] => { results := [.lit (.bool true)], args := [d1, d2, d3, d4] }
  | _ => none }
def intervalSumsAgreeRow : OpenClaim := { program := "ytdbemgjjahcabaa", sum := "daf155bf5444bf92a76a77eeb6c671e53403322a6030e5a54da0e0cbea2e5668", func := "compositor/compositorlaw28.IntervalSumsAgree", spec := "intervalSumsAgree", named := ["math/bits.divideError", "math/bits.overflowError"], apart := false }
def IntervalSumsAgreeSaid : Prop := intervalSumsAgreeRow.holds Try.pinned (OpenSpec.ofChange intervalSumsAgreeSpec)

/-- ITS FALSE NEIGHBOUR: 'it returns false'. Refute it at one input. -/
def intervalSumsAgreeWrong : ChangeSpec := { name := "intervalSumsAgree", fn := fun _ => fun
  | [d1, d2, d3, d4] => { results := [.lit (.bool false)], args := [d1, d2, d3, d4] }
  | _ => none }
def IntervalSumsAgreeWrongFalsely : Prop := intervalSumsAgreeRow.holds Try.pinned (OpenSpec.ofChange intervalSumsAgreeWrong)

/-- 'compositorlaw28.IntervalRootAndSquare': WHATEVER THE INPUT: true; the input reads as it did. -/
def intervalRootAndSquareSpec : ChangeSpec := { name := "intervalRootAndSquare", fn := fun _ => fun
  | [d] => { results := [.lit (.bool true)], args := [d] }
  | _ => none }
def intervalRootAndSquareRow : OpenClaim := { program := "ytdbemgjjahcabaa", sum := "daf155bf5444bf92a76a77eeb6c671e53403322a6030e5a54da0e0cbea2e5668", func := "compositor/compositorlaw28.IntervalRootAndSquare", spec := "intervalRootAndSquare", unfollowed := true, recurses := true, named := ["math/bits.divideError", "math/bits.overflowError"], apart := false }
def IntervalRootAndSquareSaid : Prop := intervalRootAndSquareRow.holds Try.pinned (OpenSpec.ofChange intervalRootAndSquareSpec)

/-- ITS FALSE NEIGHBOUR: 'it returns false'. Refute it at one input. -/
def intervalRootAndSquareWrong : ChangeSpec := { name := "intervalRootAndSquare", fn := fun _ => fun
  | [d] => { results := [.lit (.bool false)], args := [d] }
  | _ => none }
def IntervalRootAndSquareWrongFalsely : Prop := intervalRootAndSquareRow.holds Try.pinned (OpenSpec.ofChange intervalRootAndSquareWrong)

/-- 'compositorlaw28.IntervalProductsAgree': WHATEVER THE INPUT: true; the input reads as it did. -/
def intervalProductsAgreeSpec : ChangeSpec := { name := "intervalProductsAgree", fn := fun _ => fun
  | [d1, d2, d3, d4, d5, d6] => { results := [.lit (.bool true)], args := [d1, d2, d3, d4, d5, d6] }
  | _ => none }
def intervalProductsAgreeRow : OpenClaim := { program := "ytdbemgjjahcabaa", sum := "daf155bf5444bf92a76a77eeb6c671e53403322a6030e5a54da0e0cbea2e5668", func := "compositor/compositorlaw28.IntervalProductsAgree", spec := "intervalProductsAgree", unfollowed := true, recurses := true, named := ["math/bits.divideError", "math/bits.overflowError"], apart := false }
def IntervalProductsAgreeSaid : Prop := intervalProductsAgreeRow.holds Try.pinned (OpenSpec.ofChange intervalProductsAgreeSpec)

/-- ITS FALSE NEIGHBOUR: 'it returns false'. Refute it at one input. -/
def intervalProductsAgreeWrong : ChangeSpec := { name := "intervalProductsAgree", fn := fun _ => fun
  | [d1, d2, d3, d4, d5, d6] => { results := [.lit (.bool false)], args := [d1, d2, d3, d4, d5, d6] }
  | _ => none }
def IntervalProductsAgreeWrongFalsely : Prop := intervalProductsAgreeRow.holds Try.pinned (OpenSpec.ofChange intervalProductsAgreeWrong)

/-- 'compositorlaw28.IntervalIsMonotone': WHATEVER THE INPUT: true; the input reads as it did. -/
def intervalIsMonotoneSpec : ChangeSpec := { name := "intervalIsMonotone", fn := fun _ => fun
  | [d1, d2, d3] => { results := [.lit (.bool true)], args := [d1, d2, d3] }
  | _ => none }
def intervalIsMonotoneRow : OpenClaim := { program := "ytdbemgjjahcabaa", sum := "daf155bf5444bf92a76a77eeb6c671e53403322a6030e5a54da0e0cbea2e5668", func := "compositor/compositorlaw28.IntervalIsMonotone", spec := "intervalIsMonotone", unfollowed := true, recurses := true, named := ["math/bits.divideError", "math/bits.overflowError"], apart := false }
def IntervalIsMonotoneSaid : Prop := intervalIsMonotoneRow.holds Try.pinned (OpenSpec.ofChange intervalIsMonotoneSpec)

/-- ITS FALSE NEIGHBOUR: 'it returns false'. Refute it at one input. -/
def intervalIsMonotoneWrong : ChangeSpec := { name := "intervalIsMonotone", fn := fun _ => fun
  | [d1, d2, d3] => { results := [.lit (.bool false)], args := [d1, d2, d3] }
  | _ => none }
def IntervalIsMonotoneWrongFalsely : Prop := intervalIsMonotoneRow.holds Try.pinned (OpenSpec.ofChange intervalIsMonotoneWrong)

/-- 'compositorlaw28.IntervalEnclosesResults': WHATEVER THE INPUT: true; the input reads as it did. -/
def intervalEnclosesResultsSpec : ChangeSpec := { name := "intervalEnclosesResults", fn := fun _ => fun
  | [d1, d2, d3, d4, d5, d6] => { results := [.lit (.bool true)], args := [d1, d2, d3, d4, d5, d6] }
  | _ => none }
def intervalEnclosesResultsRow : OpenClaim := { program := "ytdbemgjjahcabaa", sum := "daf155bf5444bf92a76a77eeb6c671e53403322a6030e5a54da0e0cbea2e5668", func := "compositor/compositorlaw28.IntervalEnclosesResults", spec := "intervalEnclosesResults", unfollowed := true, recurses := true, named := ["math/bits.divideError", "math/bits.overflowError"], apart := false }
def IntervalEnclosesResultsSaid : Prop := intervalEnclosesResultsRow.holds Try.pinned (OpenSpec.ofChange intervalEnclosesResultsSpec)

/-- ITS FALSE NEIGHBOUR: 'it returns false'. Refute it at one input. -/
def intervalEnclosesResultsWrong : ChangeSpec := { name := "intervalEnclosesResults", fn := fun _ => fun
  | [d1, d2, d3, d4, d5, d6] => { results := [.lit (.bool false)], args := [d1, d2, d3, d4, d5, d6] }
  | _ => none }
def IntervalEnclosesResultsWrongFalsely : Prop := intervalEnclosesResultsRow.holds Try.pinned (OpenSpec.ofChange intervalEnclosesResultsWrong)

/- THE SECOND FORM. 'bulk': how many values and letters a reading holds, each counted each time it is reached (what is shared counts as often as it is met; a slice's spare places count too). A statement '..UptoSaid' is the law's where the arguments, and the package variables that the reading takes, are together of bulk at most 1048576: NARROWER than '..Said'. Prove '..Said' where nothing that the law and all that it calls make is longer than what came in: it says more and counts as full. Else prove '..UptoSaid'. A law counts once. -/
mutual
def uptoBulk {H : Type} : DataW H → Nat
  | .lit (.string bytes) => bytes.length + 1
  | .lit _ => 1
  | .nil => 1
  | .ptr d => uptoBulk d + 1
  | .slice elems spare => uptoBulkAll elems + uptoBulkAll spare + 1
  | .agg parts => uptoBulkAll parts + 1
  | .iface _ d => uptoBulk d + 1
  | .map entries => uptoBulkEntries entries + 1
  | .held _ => 1
def uptoBulkAll {H : Type} : List (DataW H) → Nat
  | [] => 0
  | d :: r => uptoBulk d + uptoBulkAll r
def uptoBulkEntries {H : Type} : List (Lit × DataW H) → Nat
  | [] => 0
  | x :: r => uptoBulkEntry x + uptoBulkEntries r
def uptoBulkEntry {H : Type} : Lit × DataW H → Nat
  | (.string bytes, d) => bytes.length + uptoBulk d + 1
  | (_, d) => uptoBulk d + 1
 end
def uptoSmall : (H : Type) → List (DataW H) → Bool := fun _ ds => decide (uptoBulkAll ds ≤ 1048576)
def OpenSpec.upto (s : _root_.Go.ChangeSpec) : _root_.Go.OpenSpec := { _root_.Go.OpenSpec.ofChange s with cond := some uptoSmall }

/-- 'compositorlaw28.IntervalContainsAgrees', WHERE WHAT IT READS IS OF BULK AT MOST 1048576: true; the input reads as it did. -/
def intervalContainsAgreesUptoRow : OpenClaim := { program := "ytdbemgjjahcabaa", sum := "daf155bf5444bf92a76a77eeb6c671e53403322a6030e5a54da0e0cbea2e5668", func := "compositor/compositorlaw28.IntervalContainsAgrees", spec := "intervalContainsAgrees", named := ["math/bits.divideError", "math/bits.overflowError"], apart := false, narrowed := true }
def IntervalContainsAgreesUptoSaid : Prop := intervalContainsAgreesUptoRow.holds Try.pinned (OpenSpec.upto intervalContainsAgreesSpec)

/-- 'compositorlaw28.IntervalSumsAgree', WHERE WHAT IT READS IS OF BULK AT MOST 1048576: true; the input reads as it did. -/
def intervalSumsAgreeUptoRow : OpenClaim := { program := "ytdbemgjjahcabaa", sum := "daf155bf5444bf92a76a77eeb6c671e53403322a6030e5a54da0e0cbea2e5668", func := "compositor/compositorlaw28.IntervalSumsAgree", spec := "intervalSumsAgree", named := ["math/bits.divideError", "math/bits.overflowError"], apart := false, narrowed := true }
def IntervalSumsAgreeUptoSaid : Prop := intervalSumsAgreeUptoRow.holds Try.pinned (OpenSpec.upto intervalSumsAgreeSpec)

/-- 'compositorlaw28.IntervalRootAndSquare', WHERE WHAT IT READS IS OF BULK AT MOST 1048576: true; the input reads as it did. -/
def intervalRootAndSquareUptoRow : OpenClaim := { program := "ytdbemgjjahcabaa", sum := "daf155bf5444bf92a76a77eeb6c671e53403322a6030e5a54da0e0cbea2e5668", func := "compositor/compositorlaw28.IntervalRootAndSquare", spec := "intervalRootAndSquare", unfollowed := true, recurses := true, named := ["math/bits.divideError", "math/bits.overflowError"], apart := false, narrowed := true }
def IntervalRootAndSquareUptoSaid : Prop := intervalRootAndSquareUptoRow.holds Try.pinned (OpenSpec.upto intervalRootAndSquareSpec)

/-- 'compositorlaw28.IntervalProductsAgree', WHERE WHAT IT READS IS OF BULK AT MOST 1048576: true; the input reads as it did. -/
def intervalProductsAgreeUptoRow : OpenClaim := { program := "ytdbemgjjahcabaa", sum := "daf155bf5444bf92a76a77eeb6c671e53403322a6030e5a54da0e0cbea2e5668", func := "compositor/compositorlaw28.IntervalProductsAgree", spec := "intervalProductsAgree", unfollowed := true, recurses := true, named := ["math/bits.divideError", "math/bits.overflowError"], apart := false, narrowed := true }
def IntervalProductsAgreeUptoSaid : Prop := intervalProductsAgreeUptoRow.holds Try.pinned (OpenSpec.upto intervalProductsAgreeSpec)

/-- 'compositorlaw28.IntervalIsMonotone', WHERE WHAT IT READS IS OF BULK AT MOST 1048576: true; the input reads as it did. -/
def intervalIsMonotoneUptoRow : OpenClaim := { program := "ytdbemgjjahcabaa", sum := "daf155bf5444bf92a76a77eeb6c671e53403322a6030e5a54da0e0cbea2e5668", func := "compositor/compositorlaw28.IntervalIsMonotone", spec := "intervalIsMonotone", unfollowed := true, recurses := true, named := ["math/bits.divideError", "math/bits.overflowError"], apart := false, narrowed := true }
def IntervalIsMonotoneUptoSaid : Prop := intervalIsMonotoneUptoRow.holds Try.pinned (OpenSpec.upto intervalIsMonotoneSpec)

/-- 'compositorlaw28.IntervalEnclosesResults', WHERE WHAT IT READS IS OF BULK AT MOST 1048576: true; the input reads as it did. -/
def intervalEnclosesResultsUptoRow : OpenClaim := { program := "ytdbemgjjahcabaa", sum := "daf155bf5444bf92a76a77eeb6c671e53403322a6030e5a54da0e0cbea2e5668", func := "compositor/compositorlaw28.IntervalEnclosesResults", spec := "intervalEnclosesResults", unfollowed := true, recurses := true, named := ["math/bits.divideError", "math/bits.overflowError"], apart := false, narrowed := true }
def IntervalEnclosesResultsUptoSaid : Prop := intervalEnclosesResultsUptoRow.holds Try.pinned (OpenSpec.upto intervalEnclosesResultsSpec)

end Rows
end Go.Proofs.Ytdbemgjjahcabaa
