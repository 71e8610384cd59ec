/-
  DERIVED. GIVEN WITH THE SEED: THE CARDS: each row of YtfihpofdoffclaaGreatDoorRows.lean that lists a variable, with what it lists TIED to the program's text (the seventh form; the later family's looks); each row that meets fmt, with fmt's text TOLD by the authors' own Lean function (tested against real Go, not proved from fmt's source: count such statements apart). THE CARD IS WHAT COUNTS. Prove the row's statement (the work); the ties are given (YtfihpofdoffclaaGreatDoorTie.lean); close each card by the builder's one call (the guide's Derived/Test/ToyasCard.lean, 'card_holds'). Laid BY PROGRAM, IN A SANDBOX (cutbox-door.mjs). By AI agents, Wed Nov 11 2026. No macro, syntax, notation, axiom, sorry.
-/
import Derived.Test.YtfihpofdoffclaaGreatDoorRows
import GoSem.ClaimSeven
namespace Go.Proofs.YtfihpofdoffclaaGreatDoor
namespace Rows

/-- THE TIED CARD OF 'roundtablelaw19.CanonicalForms'. -/
def canonicalFormsCard : Claim7 := { stood := { row := canonicalFormsRow, standIns := [], harness := (true, "43676c8ccdd88239e725aff8be333fef78ffd49053d737a9b840839b3cab75b3"), looks := false }, kinds := [], alts := [], laidByText := true, laidKinds := [.data, .data, .data], laidTests := true, laidLooks := .later }
def CanonicalFormsCardSaid : Prop := Claim7.holds Tryz.pinned (.plain (OpenSpec.ofChange canonicalFormsSpec)) canonicalFormsCard

/-- THE TIED CARD OF 'roundtablelaw19.CanonicalCompares'. -/
def canonicalComparesCard : Claim7 := { stood := { row := canonicalComparesRow, standIns := [], harness := (true, "43676c8ccdd88239e725aff8be333fef78ffd49053d737a9b840839b3cab75b3"), looks := false }, kinds := [], alts := [], laidByText := true, laidKinds := [.data, .data, .data], laidTests := true, laidLooks := .later }
def CanonicalComparesCardSaid : Prop := Claim7.holds Tryz.pinned (.plain (OpenSpec.ofChange canonicalComparesSpec)) canonicalComparesCard

/-- THE TIED CARD OF 'roundtablelaw19.CanonicalDistinguishes'. -/
def canonicalDistinguishesCard : Claim7 := { stood := { row := canonicalDistinguishesRow, standIns := [], harness := (true, "43676c8ccdd88239e725aff8be333fef78ffd49053d737a9b840839b3cab75b3"), looks := false }, kinds := [], alts := [], laidByText := true, laidKinds := [.data, .data, .data], laidTests := true, laidLooks := .later }
def CanonicalDistinguishesCardSaid : Prop := Claim7.holds Tryz.pinned (.plain (OpenSpec.ofChange canonicalDistinguishesSpec)) canonicalDistinguishesCard

/-- THE TIED CARD OF 'roundtablelaw19.CanonicalMerges'. -/
def canonicalMergesCard : Claim7 := { stood := { row := canonicalMergesRow, standIns := [], harness := (true, "43676c8ccdd88239e725aff8be333fef78ffd49053d737a9b840839b3cab75b3"), looks := false }, kinds := [], alts := [], laidByText := true, laidKinds := [.data, .data, .data], laidTests := true, laidLooks := .later }
def CanonicalMergesCardSaid : Prop := Claim7.holds Tryz.pinned (.plain (OpenSpec.ofChange canonicalMergesSpec)) canonicalMergesCard

/-- THE TIED CARD OF 'roundtablelaw19.CanonicalCertifies'. -/
def canonicalCertifiesCard : Claim7 := { stood := { row := canonicalCertifiesRow, standIns := [], harness := (true, "43676c8ccdd88239e725aff8be333fef78ffd49053d737a9b840839b3cab75b3"), looks := false }, kinds := [], alts := [], laidByText := true, laidKinds := [.data, .data, .data], laidTests := true, laidLooks := .later }
def CanonicalCertifiesCardSaid : Prop := Claim7.holds Tryz.pinned (.plain (OpenSpec.ofChange canonicalCertifiesSpec)) canonicalCertifiesCard

/-- THE TIED CARD OF 'roundtablelaw19.CanonicalProves'. -/
def canonicalProvesCard : Claim7 := { stood := { row := canonicalProvesRow, standIns := [], harness := (true, "43676c8ccdd88239e725aff8be333fef78ffd49053d737a9b840839b3cab75b3"), looks := false }, kinds := [], alts := [], laidByText := true, laidKinds := [.data, .data, .data], laidTests := true, laidLooks := .later }
def CanonicalProvesCardSaid : Prop := Claim7.holds Tryz.pinned (.plain (OpenSpec.ofChange canonicalProvesSpec)) canonicalProvesCard

/-- THE TIED CARD OF 'roundtablelaw19.CanonicalDecides'. -/
def canonicalDecidesCard : Claim7 := { stood := { row := canonicalDecidesRow, standIns := [], harness := (true, "43676c8ccdd88239e725aff8be333fef78ffd49053d737a9b840839b3cab75b3"), looks := false }, kinds := [], alts := [], laidByText := true, laidKinds := [.data, .data, .data], laidTests := true, laidLooks := .later }
def CanonicalDecidesCardSaid : Prop := Claim7.holds Tryz.pinned (.plain (OpenSpec.ofChange canonicalDecidesSpec)) canonicalDecidesCard

/-- THE TIED CARD OF 'roundtablelaw19.CanonicalKeeps'. -/
def canonicalKeepsCard : Claim7 := { stood := { row := canonicalKeepsRow, standIns := [], harness := (true, "43676c8ccdd88239e725aff8be333fef78ffd49053d737a9b840839b3cab75b3"), looks := false }, kinds := [], alts := [], laidByText := true, laidKinds := [.data, .data, .data], laidTests := true, laidLooks := .later }
def CanonicalKeepsCardSaid : Prop := Claim7.holds Tryz.pinned (.plain (OpenSpec.ofChange canonicalKeepsSpec)) canonicalKeepsCard

/-- THE SECOND FORM's CARD OF 'roundtablelaw19.CanonicalForms'. -/
def canonicalFormsUptoCard : Claim7 := { stood := { row := canonicalFormsUptoRow, standIns := [], harness := (true, "43676c8ccdd88239e725aff8be333fef78ffd49053d737a9b840839b3cab75b3"), looks := false }, kinds := [], alts := [], laidByText := true, laidKinds := [.data, .data, .data], laidTests := true, laidLooks := .later }
def CanonicalFormsUptoCardSaid : Prop := Claim7.holds Tryz.pinned (.plain (OpenSpec.upto canonicalFormsSpec)) canonicalFormsUptoCard

/-- THE SECOND FORM's CARD OF 'roundtablelaw19.CanonicalCompares'. -/
def canonicalComparesUptoCard : Claim7 := { stood := { row := canonicalComparesUptoRow, standIns := [], harness := (true, "43676c8ccdd88239e725aff8be333fef78ffd49053d737a9b840839b3cab75b3"), looks := false }, kinds := [], alts := [], laidByText := true, laidKinds := [.data, .data, .data], laidTests := true, laidLooks := .later }
def CanonicalComparesUptoCardSaid : Prop := Claim7.holds Tryz.pinned (.plain (OpenSpec.upto canonicalComparesSpec)) canonicalComparesUptoCard

/-- THE SECOND FORM's CARD OF 'roundtablelaw19.CanonicalDistinguishes'. -/
def canonicalDistinguishesUptoCard : Claim7 := { stood := { row := canonicalDistinguishesUptoRow, standIns := [], harness := (true, "43676c8ccdd88239e725aff8be333fef78ffd49053d737a9b840839b3cab75b3"), looks := false }, kinds := [], alts := [], laidByText := true, laidKinds := [.data, .data, .data], laidTests := true, laidLooks := .later }
def CanonicalDistinguishesUptoCardSaid : Prop := Claim7.holds Tryz.pinned (.plain (OpenSpec.upto canonicalDistinguishesSpec)) canonicalDistinguishesUptoCard

/-- THE SECOND FORM's CARD OF 'roundtablelaw19.CanonicalMerges'. -/
def canonicalMergesUptoCard : Claim7 := { stood := { row := canonicalMergesUptoRow, standIns := [], harness := (true, "43676c8ccdd88239e725aff8be333fef78ffd49053d737a9b840839b3cab75b3"), looks := false }, kinds := [], alts := [], laidByText := true, laidKinds := [.data, .data, .data], laidTests := true, laidLooks := .later }
def CanonicalMergesUptoCardSaid : Prop := Claim7.holds Tryz.pinned (.plain (OpenSpec.upto canonicalMergesSpec)) canonicalMergesUptoCard

/-- THE SECOND FORM's CARD OF 'roundtablelaw19.CanonicalCertifies'. -/
def canonicalCertifiesUptoCard : Claim7 := { stood := { row := canonicalCertifiesUptoRow, standIns := [], harness := (true, "43676c8ccdd88239e725aff8be333fef78ffd49053d737a9b840839b3cab75b3"), looks := false }, kinds := [], alts := [], laidByText := true, laidKinds := [.data, .data, .data], laidTests := true, laidLooks := .later }
def CanonicalCertifiesUptoCardSaid : Prop := Claim7.holds Tryz.pinned (.plain (OpenSpec.upto canonicalCertifiesSpec)) canonicalCertifiesUptoCard

/-- THE SECOND FORM's CARD OF 'roundtablelaw19.CanonicalProves'. -/
def canonicalProvesUptoCard : Claim7 := { stood := { row := canonicalProvesUptoRow, standIns := [], harness := (true, "43676c8ccdd88239e725aff8be333fef78ffd49053d737a9b840839b3cab75b3"), looks := false }, kinds := [], alts := [], laidByText := true, laidKinds := [.data, .data, .data], laidTests := true, laidLooks := .later }
def CanonicalProvesUptoCardSaid : Prop := Claim7.holds Tryz.pinned (.plain (OpenSpec.upto canonicalProvesSpec)) canonicalProvesUptoCard

/-- THE SECOND FORM's CARD OF 'roundtablelaw19.CanonicalDecides'. -/
def canonicalDecidesUptoCard : Claim7 := { stood := { row := canonicalDecidesUptoRow, standIns := [], harness := (true, "43676c8ccdd88239e725aff8be333fef78ffd49053d737a9b840839b3cab75b3"), looks := false }, kinds := [], alts := [], laidByText := true, laidKinds := [.data, .data, .data], laidTests := true, laidLooks := .later }
def CanonicalDecidesUptoCardSaid : Prop := Claim7.holds Tryz.pinned (.plain (OpenSpec.upto canonicalDecidesSpec)) canonicalDecidesUptoCard

/-- THE SECOND FORM's CARD OF 'roundtablelaw19.CanonicalKeeps'. -/
def canonicalKeepsUptoCard : Claim7 := { stood := { row := canonicalKeepsUptoRow, standIns := [], harness := (true, "43676c8ccdd88239e725aff8be333fef78ffd49053d737a9b840839b3cab75b3"), looks := false }, kinds := [], alts := [], laidByText := true, laidKinds := [.data, .data, .data], laidTests := true, laidLooks := .later }
def CanonicalKeepsUptoCardSaid : Prop := Claim7.holds Tryz.pinned (.plain (OpenSpec.upto canonicalKeepsSpec)) canonicalKeepsUptoCard
end Rows
end Go.Proofs.YtfihpofdoffclaaGreatDoor
