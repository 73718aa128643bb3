/-
  DERIVED. GIVEN WITH THE SEED: THE CARDS: each row of YtepfoelgegljbaaGreatDoorRows.lean that lists a variable, with what it lists TIED to the program's text (the seventh form; the later family's looks); each row that meets fmt, with fmt's text TOLD by the authors' own Lean function (tested against real Go, not proved from fmt's source: count such statements apart). THE CARD IS WHAT COUNTS. Prove the row's statement (the work); the ties are given (YtepfoelgegljbaaGreatDoorTie.lean); close each card by the builder's one call (the guide's Derived/Test/ToyasCard.lean, 'card_holds'). Laid BY PROGRAM, IN A SANDBOX (cutbox-door.mjs). By AI agents, Wed Nov 11 2026. No macro, syntax, notation, axiom, sorry.
-/
import Derived.Test.YtepfoelgegljbaaGreatDoorRows
import GoSem.ClaimSeven
namespace Go.Proofs.YtepfoelgegljbaaGreatDoor
namespace Rows

/-- THE TIED CARD OF 'compositortop.TopImageOrError'. -/
def topImageOrErrorCard : Claim7 := { stood := { row := topImageOrErrorRow, standIns := [], harness := (true, "fbaa3432b498e6693cfcac5125cddc4383448024acf98ac38652b7e7cbdad771"), looks := false }, kinds := [], alts := [], laidByText := true, laidKinds := [.data, .data], laidTests := true, laidLooks := .later }
def TopImageOrErrorCardSaid : Prop := Claim7.holds Tryz.pinned (.plain (OpenSpec.ofChange topImageOrErrorSpec)) topImageOrErrorCard

/-- THE TIED CARD OF 'compositortop.TopNoninterference'. -/
def topNoninterferenceCard : Claim7 := { stood := { row := topNoninterferenceRow, standIns := [], harness := (true, "fbaa3432b498e6693cfcac5125cddc4383448024acf98ac38652b7e7cbdad771"), looks := false }, kinds := [], alts := [], laidByText := true, laidKinds := [.data, .data], laidTests := true, laidLooks := .later }
def TopNoninterferenceCardSaid : Prop := Claim7.holds Tryz.pinned (.plain (OpenSpec.ofChange topNoninterferenceSpec)) topNoninterferenceCard

/-- THE TIED CARD OF 'compositortop.TopTranslation'. -/
def topTranslationCard : Claim7 := { stood := { row := topTranslationRow, standIns := [], harness := (true, "fbaa3432b498e6693cfcac5125cddc4383448024acf98ac38652b7e7cbdad771"), looks := false }, kinds := [], alts := [], laidByText := true, laidKinds := [.data, .data], laidTests := true, laidLooks := .later }
def TopTranslationCardSaid : Prop := Claim7.holds Tryz.pinned (.plain (OpenSpec.ofChange topTranslationSpec)) topTranslationCard

/-- THE TIED CARD OF 'compositortop.TopGroupOfOne'. -/
def topGroupOfOneCard : Claim7 := { stood := { row := topGroupOfOneRow, standIns := [], harness := (true, "fbaa3432b498e6693cfcac5125cddc4383448024acf98ac38652b7e7cbdad771"), looks := false }, kinds := [], alts := [], laidByText := true, laidKinds := [.data, .data], laidTests := true, laidLooks := .later }
def TopGroupOfOneCardSaid : Prop := Claim7.holds Tryz.pinned (.plain (OpenSpec.ofChange topGroupOfOneSpec)) topGroupOfOneCard

/-- THE SECOND FORM's CARD OF 'compositortop.TopImageOrError'. -/
def topImageOrErrorUptoCard : Claim7 := { stood := { row := topImageOrErrorUptoRow, standIns := [], harness := (true, "fbaa3432b498e6693cfcac5125cddc4383448024acf98ac38652b7e7cbdad771"), looks := false }, kinds := [], alts := [], laidByText := true, laidKinds := [.data, .data], laidTests := true, laidLooks := .later }
def TopImageOrErrorUptoCardSaid : Prop := Claim7.holds Tryz.pinned (.plain (OpenSpec.upto topImageOrErrorSpec)) topImageOrErrorUptoCard

/-- THE SECOND FORM's CARD OF 'compositortop.TopNoninterference'. -/
def topNoninterferenceUptoCard : Claim7 := { stood := { row := topNoninterferenceUptoRow, standIns := [], harness := (true, "fbaa3432b498e6693cfcac5125cddc4383448024acf98ac38652b7e7cbdad771"), looks := false }, kinds := [], alts := [], laidByText := true, laidKinds := [.data, .data], laidTests := true, laidLooks := .later }
def TopNoninterferenceUptoCardSaid : Prop := Claim7.holds Tryz.pinned (.plain (OpenSpec.upto topNoninterferenceSpec)) topNoninterferenceUptoCard

/-- THE SECOND FORM's CARD OF 'compositortop.TopTranslation'. -/
def topTranslationUptoCard : Claim7 := { stood := { row := topTranslationUptoRow, standIns := [], harness := (true, "fbaa3432b498e6693cfcac5125cddc4383448024acf98ac38652b7e7cbdad771"), looks := false }, kinds := [], alts := [], laidByText := true, laidKinds := [.data, .data], laidTests := true, laidLooks := .later }
def TopTranslationUptoCardSaid : Prop := Claim7.holds Tryz.pinned (.plain (OpenSpec.upto topTranslationSpec)) topTranslationUptoCard

/-- THE SECOND FORM's CARD OF 'compositortop.TopGroupOfOne'. -/
def topGroupOfOneUptoCard : Claim7 := { stood := { row := topGroupOfOneUptoRow, standIns := [], harness := (true, "fbaa3432b498e6693cfcac5125cddc4383448024acf98ac38652b7e7cbdad771"), looks := false }, kinds := [], alts := [], laidByText := true, laidKinds := [.data, .data], laidTests := true, laidLooks := .later }
def TopGroupOfOneUptoCardSaid : Prop := Claim7.holds Tryz.pinned (.plain (OpenSpec.upto topGroupOfOneSpec)) topGroupOfOneUptoCard
end Rows
end Go.Proofs.YtepfoelgegljbaaGreatDoor
