/-
  DERIVED. GIVEN WITH THE SEED: THE CARDS: each row of YtafldkjdeompjaaGreatDoorRows.lean that lists a variable, with what it lists TIED to the program's text (the seventh form; the later family's looks); each row that meets fmt, with fmt's text TOLD by the authors' own Lean function (tested against real Go, not proved from fmt's source: count such statements apart). THE CARD IS WHAT COUNTS. Prove the row's statement (the work); the ties are given (YtafldkjdeompjaaGreatDoorTie.lean); close each card by the builder's one call (the guide's Derived/Test/ToyasCard.lean, 'card_holds'). Laid BY PROGRAM, IN A SANDBOX (cutbox-door.mjs). By AI agents, Wed Nov 11 2026. No macro, syntax, notation, axiom, sorry.
-/
import Derived.Test.YtafldkjdeompjaaGreatDoorRows
import GoSem.ClaimSeven
namespace Go.Proofs.YtafldkjdeompjaaGreatDoor
namespace Rows

/-- THE TIED CARD OF 'semigrouptop.TopCertificates'. -/
def topCertificatesCard : Claim7 := { stood := { row := topCertificatesRow, standIns := [], harness := (true, "640c3e024eeb7afe958096e34ef4660bc2092a1f2e7ec60dbb0fa16da48b75a3"), looks := false }, kinds := [], alts := [], laidByText := true, laidKinds := [.data], laidTests := true, laidLooks := .later }
def TopCertificatesCardSaid : Prop := Claim7.holds Tryz.pinned (.plain (OpenSpec.ofChange topCertificatesSpec)) topCertificatesCard

/-- THE SECOND FORM's CARD OF 'semigrouptop.TopCertificates'. -/
def topCertificatesUptoCard : Claim7 := { stood := { row := topCertificatesUptoRow, standIns := [], harness := (true, "640c3e024eeb7afe958096e34ef4660bc2092a1f2e7ec60dbb0fa16da48b75a3"), looks := false }, kinds := [], alts := [], laidByText := true, laidKinds := [.data], laidTests := true, laidLooks := .later }
def TopCertificatesUptoCardSaid : Prop := Claim7.holds Tryz.pinned (.plain (OpenSpec.upto topCertificatesSpec)) topCertificatesUptoCard
end Rows
end Go.Proofs.YtafldkjdeompjaaGreatDoor
