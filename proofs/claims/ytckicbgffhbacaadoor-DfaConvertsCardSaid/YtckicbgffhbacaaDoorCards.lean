/-
  DERIVED. GIVEN WITH THE SEED: THE CARDS: each row of YtckicbgffhbacaaDoorRows.lean that lists a variable, with what it lists TIED to the program's text (the seventh form; the later family's looks); each row that meets fmt, with fmt's text TOLD by the authors' own Lean function (tested against real Go, not proved from fmt's source: count such statements apart). THE CARD IS WHAT COUNTS. Prove the row's statement (the work); the ties are given (YtckicbgffhbacaaDoorTie.lean); close each card by the builder's one call (the guide's Derived/Test/ToyasCard.lean, 'card_holds'). Laid BY PROGRAM, IN A SANDBOX (cutbox-door.mjs). By AI agents, Wed Nov 11 2026. No macro, syntax, notation, axiom, sorry.
-/
import Derived.Test.YtckicbgffhbacaaDoorRows
import GoSem.ClaimSeven
namespace Go.Proofs.YtckicbgffhbacaaDoor
namespace Rows

/-- THE TIED CARD OF 'semigrouplaw07.DfaSubsets'. -/
def dfaSubsetsCard : Claim7 := { stood := { row := dfaSubsetsRow, standIns := [], harness := (true, "978bbdf44ae99b507e88c4dbeb3d7887053dc6a6cc779c33f699b76658122221"), looks := false }, kinds := [], alts := [], laidByText := true, laidKinds := [.data], laidTests := true, laidLooks := .later }
def DfaSubsetsCardSaid : Prop := Claim7.holds Tryd.pinned (.plain (OpenSpec.ofChange dfaSubsetsSpec)) dfaSubsetsCard

/-- THE TIED CARD OF 'semigrouplaw07.DfaConverts'. -/
def dfaConvertsCard : Claim7 := { stood := { row := dfaConvertsRow, standIns := [], harness := (true, "978bbdf44ae99b507e88c4dbeb3d7887053dc6a6cc779c33f699b76658122221"), looks := false }, kinds := [], alts := [], laidByText := true, laidKinds := [.data], laidTests := true, laidLooks := .later }
def DfaConvertsCardSaid : Prop := Claim7.holds Tryd.pinned (.plain (OpenSpec.ofChange dfaConvertsSpec)) dfaConvertsCard

/-- THE TIED CARD OF 'semigrouplaw07.DfaDeterminizes'. -/
def dfaDeterminizesCard : Claim7 := { stood := { row := dfaDeterminizesRow, standIns := [], harness := (true, "978bbdf44ae99b507e88c4dbeb3d7887053dc6a6cc779c33f699b76658122221"), looks := false }, kinds := [], alts := [], laidByText := true, laidKinds := [.data], laidTests := true, laidLooks := .later }
def DfaDeterminizesCardSaid : Prop := Claim7.holds Tryd.pinned (.plain (OpenSpec.ofChange dfaDeterminizesSpec)) dfaDeterminizesCard

/-- THE SECOND FORM's CARD OF 'semigrouplaw07.DfaSubsets'. -/
def dfaSubsetsUptoCard : Claim7 := { stood := { row := dfaSubsetsUptoRow, standIns := [], harness := (true, "978bbdf44ae99b507e88c4dbeb3d7887053dc6a6cc779c33f699b76658122221"), looks := false }, kinds := [], alts := [], laidByText := true, laidKinds := [.data], laidTests := true, laidLooks := .later }
def DfaSubsetsUptoCardSaid : Prop := Claim7.holds Tryd.pinned (.plain (OpenSpec.upto dfaSubsetsSpec)) dfaSubsetsUptoCard

/-- THE SECOND FORM's CARD OF 'semigrouplaw07.DfaConverts'. -/
def dfaConvertsUptoCard : Claim7 := { stood := { row := dfaConvertsUptoRow, standIns := [], harness := (true, "978bbdf44ae99b507e88c4dbeb3d7887053dc6a6cc779c33f699b76658122221"), looks := false }, kinds := [], alts := [], laidByText := true, laidKinds := [.data], laidTests := true, laidLooks := .later }
def DfaConvertsUptoCardSaid : Prop := Claim7.holds Tryd.pinned (.plain (OpenSpec.upto dfaConvertsSpec)) dfaConvertsUptoCard

/-- THE SECOND FORM's CARD OF 'semigrouplaw07.DfaDeterminizes'. -/
def dfaDeterminizesUptoCard : Claim7 := { stood := { row := dfaDeterminizesUptoRow, standIns := [], harness := (true, "978bbdf44ae99b507e88c4dbeb3d7887053dc6a6cc779c33f699b76658122221"), looks := false }, kinds := [], alts := [], laidByText := true, laidKinds := [.data], laidTests := true, laidLooks := .later }
def DfaDeterminizesUptoCardSaid : Prop := Claim7.holds Tryd.pinned (.plain (OpenSpec.upto dfaDeterminizesSpec)) dfaDeterminizesUptoCard
end Rows
end Go.Proofs.YtckicbgffhbacaaDoor
