/-
  DERIVED. GIVEN WITH THE SEED: THE CARDS: each row of YtdnhiinakhmhgaaGreatDoorRows.lean that lists a variable, with what it lists TIED to the program's text (the seventh form; the later family's looks); each row that meets fmt, with fmt's text TOLD by the authors' own Lean function (tested against real Go, not proved from fmt's source: count such statements apart). THE CARD IS WHAT COUNTS. Prove the row's statement (the work); the ties are given (YtdnhiinakhmhgaaGreatDoorTie.lean); close each card by the builder's one call (the guide's Derived/Test/ToyasCard.lean, 'card_holds'). Laid BY PROGRAM, IN A SANDBOX (cutbox-door.mjs). By AI agents, Wed Nov 11 2026. No macro, syntax, notation, axiom, sorry.
-/
import Derived.Test.YtdnhiinakhmhgaaGreatDoorRows
import GoSem.ClaimSeven
namespace Go.Proofs.YtdnhiinakhmhgaaGreatDoor
namespace Rows

/-- THE TIED CARD OF 'semigrouptop.TopAnyEnumeration'. -/
def topAnyEnumerationCard : Claim7 := { stood := { row := topAnyEnumerationRow, standIns := [], harness := (true, "908b2ed44dffa8553c952d8c749ccbd5f2215f7168db5e3fc06f54fd660ae552"), looks := false }, kinds := [], alts := [], laidByText := true, laidKinds := [.data], laidTests := true, laidLooks := .later }
def TopAnyEnumerationCardSaid : Prop := Claim7.holds Tryz.pinned (.plain (OpenSpec.ofChange topAnyEnumerationSpec)) topAnyEnumerationCard

/-- THE TIED CARD OF 'semigrouptop.TopAdjoint'. -/
def topAdjointCard : Claim7 := { stood := { row := topAdjointRow, standIns := [], harness := (true, "908b2ed44dffa8553c952d8c749ccbd5f2215f7168db5e3fc06f54fd660ae552"), looks := false }, kinds := [], alts := [], laidByText := true, laidKinds := [.data], laidTests := true, laidLooks := .later }
def TopAdjointCardSaid : Prop := Claim7.holds Tryz.pinned (.plain (OpenSpec.ofChange topAdjointSpec)) topAdjointCard

/-- THE TIED CARD OF 'semigrouptop.TopNormalWords'. -/
def topNormalWordsCard : Claim7 := { stood := { row := topNormalWordsRow, standIns := [], harness := (true, "908b2ed44dffa8553c952d8c749ccbd5f2215f7168db5e3fc06f54fd660ae552"), looks := false }, kinds := [], alts := [], laidByText := true, laidKinds := [.data], laidTests := true, laidLooks := .later }
def TopNormalWordsCardSaid : Prop := Claim7.holds Tryz.pinned (.plain (OpenSpec.ofChange topNormalWordsSpec)) topNormalWordsCard

/-- THE SECOND FORM's CARD OF 'semigrouptop.TopAnyEnumeration'. -/
def topAnyEnumerationUptoCard : Claim7 := { stood := { row := topAnyEnumerationUptoRow, standIns := [], harness := (true, "908b2ed44dffa8553c952d8c749ccbd5f2215f7168db5e3fc06f54fd660ae552"), looks := false }, kinds := [], alts := [], laidByText := true, laidKinds := [.data], laidTests := true, laidLooks := .later }
def TopAnyEnumerationUptoCardSaid : Prop := Claim7.holds Tryz.pinned (.plain (OpenSpec.upto topAnyEnumerationSpec)) topAnyEnumerationUptoCard

/-- THE SECOND FORM's CARD OF 'semigrouptop.TopAdjoint'. -/
def topAdjointUptoCard : Claim7 := { stood := { row := topAdjointUptoRow, standIns := [], harness := (true, "908b2ed44dffa8553c952d8c749ccbd5f2215f7168db5e3fc06f54fd660ae552"), looks := false }, kinds := [], alts := [], laidByText := true, laidKinds := [.data], laidTests := true, laidLooks := .later }
def TopAdjointUptoCardSaid : Prop := Claim7.holds Tryz.pinned (.plain (OpenSpec.upto topAdjointSpec)) topAdjointUptoCard

/-- THE SECOND FORM's CARD OF 'semigrouptop.TopNormalWords'. -/
def topNormalWordsUptoCard : Claim7 := { stood := { row := topNormalWordsUptoRow, standIns := [], harness := (true, "908b2ed44dffa8553c952d8c749ccbd5f2215f7168db5e3fc06f54fd660ae552"), looks := false }, kinds := [], alts := [], laidByText := true, laidKinds := [.data], laidTests := true, laidLooks := .later }
def TopNormalWordsUptoCardSaid : Prop := Claim7.holds Tryz.pinned (.plain (OpenSpec.upto topNormalWordsSpec)) topNormalWordsUptoCard
end Rows
end Go.Proofs.YtdnhiinakhmhgaaGreatDoor
