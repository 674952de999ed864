/-
  DERIVED. GIVEN WITH THE SEED: THE CARDS: each row of YtbibnpdnmmgacaaGreatDoorRows.lean that lists a variable, with what it lists TIED to the program's text (the seventh form; the later family's looks); each row that meets fmt, with fmt's text TOLD by the authors' own Lean function (tested against real Go, not proved from fmt's source: count such statements apart). THE CARD IS WHAT COUNTS. Prove the row's statement (the work); the ties are given (YtbibnpdnmmgacaaGreatDoorTie.lean); close each card by the builder's one call (the guide's Derived/Test/ToyasCard.lean, 'card_holds'). Laid BY PROGRAM, IN A SANDBOX (cutbox-door.mjs). By AI agents, Wed Nov 11 2026. No macro, syntax, notation, axiom, sorry.
-/
import Derived.Test.YtbibnpdnmmgacaaGreatDoorRows
import GoSem.ClaimSeven
namespace Go.Proofs.YtbibnpdnmmgacaaGreatDoor
namespace Rows

/-- THE TIED CARD OF 'semigrouptop.TopMembership'. -/
def topMembershipCard : Claim7 := { stood := { row := topMembershipRow, standIns := [], harness := (true, "c978707644e268f6bae3126072e719f6c0d4d125b38ea7621d27e49f19cbaecc"), looks := false }, kinds := [], alts := [], laidByText := true, laidKinds := [.data], laidTests := true, laidLooks := .later }
def TopMembershipCardSaid : Prop := Claim7.holds Tryz.pinned (.plain (OpenSpec.ofChange topMembershipSpec)) topMembershipCard

/-- THE TIED CARD OF 'semigrouptop.TopProducts'. -/
def topProductsCard : Claim7 := { stood := { row := topProductsRow, standIns := [], harness := (true, "c978707644e268f6bae3126072e719f6c0d4d125b38ea7621d27e49f19cbaecc"), looks := false }, kinds := [], alts := [], laidByText := true, laidKinds := [.data], laidTests := true, laidLooks := .later }
def TopProductsCardSaid : Prop := Claim7.holds Tryz.pinned (.plain (OpenSpec.ofChange topProductsSpec)) topProductsCard

/-- THE TIED CARD OF 'semigrouptop.TopAdjoint'. -/
def topAdjointCard : Claim7 := { stood := { row := topAdjointRow, standIns := [], harness := (true, "c978707644e268f6bae3126072e719f6c0d4d125b38ea7621d27e49f19cbaecc"), looks := false }, kinds := [], alts := [], laidByText := true, laidKinds := [.data], laidTests := true, laidLooks := .later }
def TopAdjointCardSaid : Prop := Claim7.holds Tryz.pinned (.plain (OpenSpec.ofChange topAdjointSpec)) topAdjointCard

/-- THE TIED CARD OF 'semigrouptop.TopOneLanguage'. -/
def topOneLanguageCard : Claim7 := { stood := { row := topOneLanguageRow, standIns := [], harness := (true, "c978707644e268f6bae3126072e719f6c0d4d125b38ea7621d27e49f19cbaecc"), looks := false }, kinds := [], alts := [], laidByText := true, laidKinds := [.data], laidTests := true, laidLooks := .later }
def TopOneLanguageCardSaid : Prop := Claim7.holds Tryz.pinned (.plain (OpenSpec.ofChange topOneLanguageSpec)) topOneLanguageCard

/-- THE SECOND FORM's CARD OF 'semigrouptop.TopMembership'. -/
def topMembershipUptoCard : Claim7 := { stood := { row := topMembershipUptoRow, standIns := [], harness := (true, "c978707644e268f6bae3126072e719f6c0d4d125b38ea7621d27e49f19cbaecc"), looks := false }, kinds := [], alts := [], laidByText := true, laidKinds := [.data], laidTests := true, laidLooks := .later }
def TopMembershipUptoCardSaid : Prop := Claim7.holds Tryz.pinned (.plain (OpenSpec.upto topMembershipSpec)) topMembershipUptoCard

/-- THE SECOND FORM's CARD OF 'semigrouptop.TopProducts'. -/
def topProductsUptoCard : Claim7 := { stood := { row := topProductsUptoRow, standIns := [], harness := (true, "c978707644e268f6bae3126072e719f6c0d4d125b38ea7621d27e49f19cbaecc"), looks := false }, kinds := [], alts := [], laidByText := true, laidKinds := [.data], laidTests := true, laidLooks := .later }
def TopProductsUptoCardSaid : Prop := Claim7.holds Tryz.pinned (.plain (OpenSpec.upto topProductsSpec)) topProductsUptoCard

/-- THE SECOND FORM's CARD OF 'semigrouptop.TopAdjoint'. -/
def topAdjointUptoCard : Claim7 := { stood := { row := topAdjointUptoRow, standIns := [], harness := (true, "c978707644e268f6bae3126072e719f6c0d4d125b38ea7621d27e49f19cbaecc"), looks := false }, kinds := [], alts := [], laidByText := true, laidKinds := [.data], laidTests := true, laidLooks := .later }
def TopAdjointUptoCardSaid : Prop := Claim7.holds Tryz.pinned (.plain (OpenSpec.upto topAdjointSpec)) topAdjointUptoCard

/-- THE SECOND FORM's CARD OF 'semigrouptop.TopOneLanguage'. -/
def topOneLanguageUptoCard : Claim7 := { stood := { row := topOneLanguageUptoRow, standIns := [], harness := (true, "c978707644e268f6bae3126072e719f6c0d4d125b38ea7621d27e49f19cbaecc"), looks := false }, kinds := [], alts := [], laidByText := true, laidKinds := [.data], laidTests := true, laidLooks := .later }
def TopOneLanguageUptoCardSaid : Prop := Claim7.holds Tryz.pinned (.plain (OpenSpec.upto topOneLanguageSpec)) topOneLanguageUptoCard
end Rows
end Go.Proofs.YtbibnpdnmmgacaaGreatDoor
