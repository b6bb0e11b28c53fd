/-
  DERIVED. GIVEN WITH THE SEED: THE CARDS: each row of YtpahemgofhpfnaaDoorRows.lean that lists a variable, with what it lists TIED to the program's text (the seventh form; the later family's looks); each row that meets fmt, with fmt's text TOLD by the authors' own Lean function (tested against real Go, not proved from fmt's source: count such statements apart). THE CARD IS WHAT COUNTS. Prove the row's statement (the work); the ties are given (YtpahemgofhpfnaaDoorTie.lean); close each card by the builder's one call (the guide's Derived/Test/ToyasCard.lean, 'card_holds'). Laid BY PROGRAM, IN A SANDBOX (cutbox-door.mjs). By AI agents, Wed Nov 11 2026. No macro, syntax, notation, axiom, sorry.
-/
import Derived.Test.YtpahemgofhpfnaaDoorRows
import GoSem.ClaimSeven
namespace Go.Proofs.YtpahemgofhpfnaaDoor
namespace Rows

/-- THE TIED CARD OF 'burgagelaw01.NameMatchesReference'. -/
def nameMatchesReferenceCard : Claim7 := { stood := { row := nameMatchesReferenceRow, standIns := [], harness := (true, "0089afb7f8732ddc1cc7c4590e80dafa3f0da01dfc21eec9a7a79050a3f9193a"), looks := false }, kinds := [], alts := [], laidByText := true, laidKinds := [.data, .data, .data], laidTests := true, laidLooks := .later }
def NameMatchesReferenceCardSaid : Prop := Claim7.holds Tryd.pinned (.plain (OpenSpec.ofChange nameMatchesReferenceSpec)) nameMatchesReferenceCard

/-- THE TIED CARD OF 'burgagelaw01.NameParts'. -/
def namePartsCard : Claim7 := { stood := { row := namePartsRow, standIns := [], harness := (true, "0089afb7f8732ddc1cc7c4590e80dafa3f0da01dfc21eec9a7a79050a3f9193a"), looks := false }, kinds := [], alts := [], laidByText := true, laidKinds := [.data, .data, .data], laidTests := true, laidLooks := .later }
def NamePartsCardSaid : Prop := Claim7.holds Tryd.pinned (.plain (OpenSpec.ofChange namePartsSpec)) namePartsCard

/-- THE TIED CARD OF 'burgagelaw01.NameJoins'. -/
def nameJoinsCard : Claim7 := { stood := { row := nameJoinsRow, standIns := [], harness := (true, "0089afb7f8732ddc1cc7c4590e80dafa3f0da01dfc21eec9a7a79050a3f9193a"), looks := false }, kinds := [], alts := [], laidByText := true, laidKinds := [.data, .data, .data], laidTests := true, laidLooks := .later }
def NameJoinsCardSaid : Prop := Claim7.holds Tryd.pinned (.plain (OpenSpec.ofChange nameJoinsSpec)) nameJoinsCard

/-- THE TIED CARD OF 'burgagelaw01.NameBelow'. -/
def nameBelowCard : Claim7 := { stood := { row := nameBelowRow, standIns := [], harness := (true, "0089afb7f8732ddc1cc7c4590e80dafa3f0da01dfc21eec9a7a79050a3f9193a"), looks := false }, kinds := [], alts := [], laidByText := true, laidKinds := [.data, .data, .data], laidTests := true, laidLooks := .later }
def NameBelowCardSaid : Prop := Claim7.holds Tryd.pinned (.plain (OpenSpec.ofChange nameBelowSpec)) nameBelowCard

/-- THE TIED CARD OF 'burgagelaw01.NameSwaps'. -/
def nameSwapsCard : Claim7 := { stood := { row := nameSwapsRow, standIns := [], harness := (true, "0089afb7f8732ddc1cc7c4590e80dafa3f0da01dfc21eec9a7a79050a3f9193a"), looks := false }, kinds := [], alts := [], laidByText := true, laidKinds := [.data, .data, .data], laidTests := true, laidLooks := .later }
def NameSwapsCardSaid : Prop := Claim7.holds Tryd.pinned (.plain (OpenSpec.ofChange nameSwapsSpec)) nameSwapsCard

/-- THE TIED CARD OF 'burgagelaw01.NameCopies'. -/
def nameCopiesCard : Claim7 := { stood := { row := nameCopiesRow, standIns := [], harness := (true, "0089afb7f8732ddc1cc7c4590e80dafa3f0da01dfc21eec9a7a79050a3f9193a"), looks := false }, kinds := [], alts := [], laidByText := true, laidKinds := [.data, .data, .data], laidTests := true, laidLooks := .later }
def NameCopiesCardSaid : Prop := Claim7.holds Tryd.pinned (.plain (OpenSpec.ofChange nameCopiesSpec)) nameCopiesCard

/-- THE TIED CARD OF 'burgagelaw01.NameTyped'. -/
def nameTypedCard : Claim7 := { stood := { row := nameTypedRow, standIns := [], harness := (true, "0089afb7f8732ddc1cc7c4590e80dafa3f0da01dfc21eec9a7a79050a3f9193a"), looks := false }, kinds := [], alts := [], laidByText := true, laidKinds := [.data, .data, .data], laidTests := true, laidLooks := .later }
def NameTypedCardSaid : Prop := Claim7.holds Tryd.pinned (.plain (OpenSpec.ofChange nameTypedSpec)) nameTypedCard

/-- THE TIED CARD OF 'burgagelaw01.NameLimits'. -/
def nameLimitsCard : Claim7 := { stood := { row := nameLimitsRow, standIns := [], harness := (true, "0089afb7f8732ddc1cc7c4590e80dafa3f0da01dfc21eec9a7a79050a3f9193a"), looks := false }, kinds := [], alts := [], laidByText := true, laidKinds := [.data, .data, .data], laidTests := true, laidLooks := .later }
def NameLimitsCardSaid : Prop := Claim7.holds Tryd.pinned (.plain (OpenSpec.ofChange nameLimitsSpec)) nameLimitsCard

/-- THE SECOND FORM's CARD OF 'burgagelaw01.NameMatchesReference'. -/
def nameMatchesReferenceUptoCard : Claim7 := { stood := { row := nameMatchesReferenceUptoRow, standIns := [], harness := (true, "0089afb7f8732ddc1cc7c4590e80dafa3f0da01dfc21eec9a7a79050a3f9193a"), looks := false }, kinds := [], alts := [], laidByText := true, laidKinds := [.data, .data, .data], laidTests := true, laidLooks := .later }
def NameMatchesReferenceUptoCardSaid : Prop := Claim7.holds Tryd.pinned (.plain (OpenSpec.upto nameMatchesReferenceSpec)) nameMatchesReferenceUptoCard

/-- THE SECOND FORM's CARD OF 'burgagelaw01.NameParts'. -/
def namePartsUptoCard : Claim7 := { stood := { row := namePartsUptoRow, standIns := [], harness := (true, "0089afb7f8732ddc1cc7c4590e80dafa3f0da01dfc21eec9a7a79050a3f9193a"), looks := false }, kinds := [], alts := [], laidByText := true, laidKinds := [.data, .data, .data], laidTests := true, laidLooks := .later }
def NamePartsUptoCardSaid : Prop := Claim7.holds Tryd.pinned (.plain (OpenSpec.upto namePartsSpec)) namePartsUptoCard

/-- THE SECOND FORM's CARD OF 'burgagelaw01.NameJoins'. -/
def nameJoinsUptoCard : Claim7 := { stood := { row := nameJoinsUptoRow, standIns := [], harness := (true, "0089afb7f8732ddc1cc7c4590e80dafa3f0da01dfc21eec9a7a79050a3f9193a"), looks := false }, kinds := [], alts := [], laidByText := true, laidKinds := [.data, .data, .data], laidTests := true, laidLooks := .later }
def NameJoinsUptoCardSaid : Prop := Claim7.holds Tryd.pinned (.plain (OpenSpec.upto nameJoinsSpec)) nameJoinsUptoCard

/-- THE SECOND FORM's CARD OF 'burgagelaw01.NameBelow'. -/
def nameBelowUptoCard : Claim7 := { stood := { row := nameBelowUptoRow, standIns := [], harness := (true, "0089afb7f8732ddc1cc7c4590e80dafa3f0da01dfc21eec9a7a79050a3f9193a"), looks := false }, kinds := [], alts := [], laidByText := true, laidKinds := [.data, .data, .data], laidTests := true, laidLooks := .later }
def NameBelowUptoCardSaid : Prop := Claim7.holds Tryd.pinned (.plain (OpenSpec.upto nameBelowSpec)) nameBelowUptoCard

/-- THE SECOND FORM's CARD OF 'burgagelaw01.NameSwaps'. -/
def nameSwapsUptoCard : Claim7 := { stood := { row := nameSwapsUptoRow, standIns := [], harness := (true, "0089afb7f8732ddc1cc7c4590e80dafa3f0da01dfc21eec9a7a79050a3f9193a"), looks := false }, kinds := [], alts := [], laidByText := true, laidKinds := [.data, .data, .data], laidTests := true, laidLooks := .later }
def NameSwapsUptoCardSaid : Prop := Claim7.holds Tryd.pinned (.plain (OpenSpec.upto nameSwapsSpec)) nameSwapsUptoCard

/-- THE SECOND FORM's CARD OF 'burgagelaw01.NameCopies'. -/
def nameCopiesUptoCard : Claim7 := { stood := { row := nameCopiesUptoRow, standIns := [], harness := (true, "0089afb7f8732ddc1cc7c4590e80dafa3f0da01dfc21eec9a7a79050a3f9193a"), looks := false }, kinds := [], alts := [], laidByText := true, laidKinds := [.data, .data, .data], laidTests := true, laidLooks := .later }
def NameCopiesUptoCardSaid : Prop := Claim7.holds Tryd.pinned (.plain (OpenSpec.upto nameCopiesSpec)) nameCopiesUptoCard

/-- THE SECOND FORM's CARD OF 'burgagelaw01.NameTyped'. -/
def nameTypedUptoCard : Claim7 := { stood := { row := nameTypedUptoRow, standIns := [], harness := (true, "0089afb7f8732ddc1cc7c4590e80dafa3f0da01dfc21eec9a7a79050a3f9193a"), looks := false }, kinds := [], alts := [], laidByText := true, laidKinds := [.data, .data, .data], laidTests := true, laidLooks := .later }
def NameTypedUptoCardSaid : Prop := Claim7.holds Tryd.pinned (.plain (OpenSpec.upto nameTypedSpec)) nameTypedUptoCard

/-- THE SECOND FORM's CARD OF 'burgagelaw01.NameLimits'. -/
def nameLimitsUptoCard : Claim7 := { stood := { row := nameLimitsUptoRow, standIns := [], harness := (true, "0089afb7f8732ddc1cc7c4590e80dafa3f0da01dfc21eec9a7a79050a3f9193a"), looks := false }, kinds := [], alts := [], laidByText := true, laidKinds := [.data, .data, .data], laidTests := true, laidLooks := .later }
def NameLimitsUptoCardSaid : Prop := Claim7.holds Tryd.pinned (.plain (OpenSpec.upto nameLimitsSpec)) nameLimitsUptoCard
end Rows
end Go.Proofs.YtpahemgofhpfnaaDoor
