/-
  No cell of these rows narrows 'for every input' (looked for: loops, veiled, ifaces, maps, wideKeys, modest, calm, conditions, laid).
  DERIVED. THE GIVEN ROWS OF THIS SEAT. 10 by the template 'for every input the law returns true; each argument reads behind the call as it read before'; 0 by the template 'total and deterministic' (their statements: YtifnofnnjcchhaaTotals.lean).
  GIVEN WITH THE SEED: the statements are not yours to turn. If you find one false, say at which input.
  Laid BY PROGRAM, IN A SANDBOX (cutbox-rows.mjs): the forced cells as the released guide's own fill.sh prints them over the translation 963f3ad57e6c52a1… (all of the seat's roots in one cut). By AI agents, Wed Nov 11 2026. No macro, syntax, notation, axiom, sorry.
-/
import Derived.Test.YtifnofnnjcchhaaChecked
import GoSem.Claim
import GoSem.ClaimJoined
import GoSem.ClaimMapViews
import Derived.JoinedTies
import Derived.KernelRfl
namespace Go.Proofs.Ytifnofnnjcchhaa
/- THE CELL 'sum', in the pinned program and in every row, IS THE sha256 OF THE DUMP (.gsa) THAT YtifnofnnjcchhaaProg.lean LOADS. Nothing in Lean hashes anything: it is a label: what it is worth is what the hold of that sum in a sandbox is worth. -/
noncomputable def Try.pinned : Pinned := { name := "ytifnofnnjcchhaa", sum := "963f3ad57e6c52a13111af0a3f674a71c49c300e9bd8d62e1c860d9915601d5e", checked := Try.checked }
namespace Rows
def none {H : Type} : Left H := { results := [], args := [] }

/-- 'semigrouplaw09.BisimFinds': WHATEVER THE INPUT: true; the input reads as it did. -/
def bisimFindsSpec : ChangeSpec := { name := "bisimFinds", fn := fun _ => fun
  | [d1, d2] => { results := [.lit (.bool true)], args := [d1, d2] }
  | _ => none }
def bisimFindsRow : OpenClaim := { program := "ytifnofnnjcchhaa", sum := "963f3ad57e6c52a13111af0a3f674a71c49c300e9bd8d62e1c860d9915601d5e", func := "semigroup/semigrouplaw09.BisimFinds", spec := "bisimFinds", unfollowed := true, recurses := true, plainKeys := false, apart := false }
def BisimFindsSaid : Prop := bisimFindsRow.holds Try.pinned (OpenSpec.ofChange bisimFindsSpec)

/-- ITS FALSE NEIGHBOUR: 'it returns false'. Refute it at one input. -/
def bisimFindsWrong : ChangeSpec := { name := "bisimFinds", fn := fun _ => fun
  | [d1, d2] => { results := [.lit (.bool false)], args := [d1, d2] }
  | _ => none }
def BisimFindsWrongFalsely : Prop := bisimFindsRow.holds Try.pinned (OpenSpec.ofChange bisimFindsWrong)

/-- 'semigrouplaw09.BisimIncludes': WHATEVER THE INPUT: true; the input reads as it did. -/
def bisimIncludesSpec : ChangeSpec := { name := "bisimIncludes", fn := fun _ => fun
  | [d1, d2] => { results := [.lit (.bool true)], args := [d1, d2] }
  | _ => none }
def bisimIncludesRow : OpenClaim := { program := "ytifnofnnjcchhaa", sum := "963f3ad57e6c52a13111af0a3f674a71c49c300e9bd8d62e1c860d9915601d5e", func := "semigroup/semigrouplaw09.BisimIncludes", spec := "bisimIncludes", unfollowed := true, recurses := true, plainKeys := false, apart := false }
def BisimIncludesSaid : Prop := bisimIncludesRow.holds Try.pinned (OpenSpec.ofChange bisimIncludesSpec)

/-- ITS FALSE NEIGHBOUR: 'it returns false'. Refute it at one input. -/
def bisimIncludesWrong : ChangeSpec := { name := "bisimIncludes", fn := fun _ => fun
  | [d1, d2] => { results := [.lit (.bool false)], args := [d1, d2] }
  | _ => none }
def BisimIncludesWrongFalsely : Prop := bisimIncludesRow.holds Try.pinned (OpenSpec.ofChange bisimIncludesWrong)

/-- 'semigrouplaw09.BisimOrders': WHATEVER THE INPUT: true; the input reads as it did. -/
def bisimOrdersSpec : ChangeSpec := { name := "bisimOrders", fn := fun _ => fun
  | [d1, d2, d3] => { results := [.lit (.bool true)], args := [d1, d2, d3] }
  | _ => none }
def bisimOrdersRow : OpenClaim := { program := "ytifnofnnjcchhaa", sum := "963f3ad57e6c52a13111af0a3f674a71c49c300e9bd8d62e1c860d9915601d5e", func := "semigroup/semigrouplaw09.BisimOrders", spec := "bisimOrders", unfollowed := true, recurses := true, plainKeys := false, apart := false }
def BisimOrdersSaid : Prop := bisimOrdersRow.holds Try.pinned (OpenSpec.ofChange bisimOrdersSpec)

/-- ITS FALSE NEIGHBOUR: 'it returns false'. Refute it at one input. -/
def bisimOrdersWrong : ChangeSpec := { name := "bisimOrders", fn := fun _ => fun
  | [d1, d2, d3] => { results := [.lit (.bool false)], args := [d1, d2, d3] }
  | _ => none }
def BisimOrdersWrongFalsely : Prop := bisimOrdersRow.holds Try.pinned (OpenSpec.ofChange bisimOrdersWrong)

/-- 'semigrouplaw09.BisimChecks': WHATEVER THE INPUT: true; the input reads as it did. -/
def bisimChecksSpec : ChangeSpec := { name := "bisimChecks", fn := fun _ => fun
  | [d1, d2, d3] => { results := [.lit (.bool true)], args := [d1, d2, d3] }
  | _ => none }
def bisimChecksRow : OpenClaim := { program := "ytifnofnnjcchhaa", sum := "963f3ad57e6c52a13111af0a3f674a71c49c300e9bd8d62e1c860d9915601d5e", func := "semigroup/semigrouplaw09.BisimChecks", spec := "bisimChecks", unfollowed := true, recurses := true, plainKeys := false, apart := false }
def BisimChecksSaid : Prop := bisimChecksRow.holds Try.pinned (OpenSpec.ofChange bisimChecksSpec)

/-- ITS FALSE NEIGHBOUR: 'it returns false'. Refute it at one input. -/
def bisimChecksWrong : ChangeSpec := { name := "bisimChecks", fn := fun _ => fun
  | [d1, d2, d3] => { results := [.lit (.bool false)], args := [d1, d2, d3] }
  | _ => none }
def BisimChecksWrongFalsely : Prop := bisimChecksRow.holds Try.pinned (OpenSpec.ofChange bisimChecksWrong)

/-- 'semigrouplaw09.BisimIsomorphic': WHATEVER THE INPUT: true; the input reads as it did. -/
def bisimIsomorphicSpec : ChangeSpec := { name := "bisimIsomorphic", fn := fun _ => fun
  | [d1, d2] => { results := [.lit (.bool true)], args := [d1, d2] }
  | _ => none }
def bisimIsomorphicRow : OpenClaim := { program := "ytifnofnnjcchhaa", sum := "963f3ad57e6c52a13111af0a3f674a71c49c300e9bd8d62e1c860d9915601d5e", func := "semigroup/semigrouplaw09.BisimIsomorphic", spec := "bisimIsomorphic", unfollowed := true, recurses := true, plainKeys := false, apart := false }
def BisimIsomorphicSaid : Prop := bisimIsomorphicRow.holds Try.pinned (OpenSpec.ofChange bisimIsomorphicSpec)

/-- ITS FALSE NEIGHBOUR: 'it returns false'. Refute it at one input. -/
def bisimIsomorphicWrong : ChangeSpec := { name := "bisimIsomorphic", fn := fun _ => fun
  | [d1, d2] => { results := [.lit (.bool false)], args := [d1, d2] }
  | _ => none }
def BisimIsomorphicWrongFalsely : Prop := bisimIsomorphicRow.holds Try.pinned (OpenSpec.ofChange bisimIsomorphicWrong)

/-- 'semigrouplaw09.BisimRenames': WHATEVER THE INPUT: true; the input reads as it did. -/
def bisimRenamesSpec : ChangeSpec := { name := "bisimRenames", fn := fun _ => fun
  | [d1, d2] => { results := [.lit (.bool true)], args := [d1, d2] }
  | _ => none }
def bisimRenamesRow : OpenClaim := { program := "ytifnofnnjcchhaa", sum := "963f3ad57e6c52a13111af0a3f674a71c49c300e9bd8d62e1c860d9915601d5e", func := "semigroup/semigrouplaw09.BisimRenames", spec := "bisimRenames", unfollowed := true, recurses := true, plainKeys := false, apart := false }
def BisimRenamesSaid : Prop := bisimRenamesRow.holds Try.pinned (OpenSpec.ofChange bisimRenamesSpec)

/-- ITS FALSE NEIGHBOUR: 'it returns false'. Refute it at one input. -/
def bisimRenamesWrong : ChangeSpec := { name := "bisimRenames", fn := fun _ => fun
  | [d1, d2] => { results := [.lit (.bool false)], args := [d1, d2] }
  | _ => none }
def BisimRenamesWrongFalsely : Prop := bisimRenamesRow.holds Try.pinned (OpenSpec.ofChange bisimRenamesWrong)

/-- 'semigrouplaw09.BisimSound': WHATEVER THE INPUT: true; the input reads as it did. -/
def bisimSoundSpec : ChangeSpec := { name := "bisimSound", fn := fun _ => fun
  | [d1, d2, d3, d4] => { results := [.lit (.bool true)], args := [d1, d2, d3, d4] }
  | _ => none }
def bisimSoundRow : OpenClaim := { program := "ytifnofnnjcchhaa", sum := "963f3ad57e6c52a13111af0a3f674a71c49c300e9bd8d62e1c860d9915601d5e", func := "semigroup/semigrouplaw09.BisimSound", spec := "bisimSound", unfollowed := true, recurses := true, plainKeys := false, apart := false }
def BisimSoundSaid : Prop := bisimSoundRow.holds Try.pinned (OpenSpec.ofChange bisimSoundSpec)

/-- ITS FALSE NEIGHBOUR: 'it returns false'. Refute it at one input. -/
def bisimSoundWrong : ChangeSpec := { name := "bisimSound", fn := fun _ => fun
  | [d1, d2, d3, d4] => { results := [.lit (.bool false)], args := [d1, d2, d3, d4] }
  | _ => none }
def BisimSoundWrongFalsely : Prop := bisimSoundRow.holds Try.pinned (OpenSpec.ofChange bisimSoundWrong)

/-- 'semigrouplaw09.BisimDecides': WHATEVER THE INPUT: true; the input reads as it did. -/
def bisimDecidesSpec : ChangeSpec := { name := "bisimDecides", fn := fun _ => fun
  | [d1, d2, d3] => { results := [.lit (.bool true)], args := [d1, d2, d3] }
  | _ => none }
def bisimDecidesRow : OpenClaim := { program := "ytifnofnnjcchhaa", sum := "963f3ad57e6c52a13111af0a3f674a71c49c300e9bd8d62e1c860d9915601d5e", func := "semigroup/semigrouplaw09.BisimDecides", spec := "bisimDecides", unfollowed := true, recurses := true, plainKeys := false, apart := false }
def BisimDecidesSaid : Prop := bisimDecidesRow.holds Try.pinned (OpenSpec.ofChange bisimDecidesSpec)

/-- ITS FALSE NEIGHBOUR: 'it returns false'. Refute it at one input. -/
def bisimDecidesWrong : ChangeSpec := { name := "bisimDecides", fn := fun _ => fun
  | [d1, d2, d3] => { results := [.lit (.bool false)], args := [d1, d2, d3] }
  | _ => none }
def BisimDecidesWrongFalsely : Prop := bisimDecidesRow.holds Try.pinned (OpenSpec.ofChange bisimDecidesWrong)

/-- 'semigrouplaw09.BisimMinimal': WHATEVER THE INPUT: true; the input reads as it did. -/
def bisimMinimalSpec : ChangeSpec := { name := "bisimMinimal", fn := fun _ => fun
  | [d1, d2] => { results := [.lit (.bool true)], args := [d1, d2] }
  | _ => none }
def bisimMinimalRow : OpenClaim := { program := "ytifnofnnjcchhaa", sum := "963f3ad57e6c52a13111af0a3f674a71c49c300e9bd8d62e1c860d9915601d5e", func := "semigroup/semigrouplaw09.BisimMinimal", spec := "bisimMinimal", unfollowed := true, recurses := true, plainKeys := false, apart := false }
def BisimMinimalSaid : Prop := bisimMinimalRow.holds Try.pinned (OpenSpec.ofChange bisimMinimalSpec)

/-- ITS FALSE NEIGHBOUR: 'it returns false'. Refute it at one input. -/
def bisimMinimalWrong : ChangeSpec := { name := "bisimMinimal", fn := fun _ => fun
  | [d1, d2] => { results := [.lit (.bool false)], args := [d1, d2] }
  | _ => none }
def BisimMinimalWrongFalsely : Prop := bisimMinimalRow.holds Try.pinned (OpenSpec.ofChange bisimMinimalWrong)

/-- 'semigrouplaw09.BisimTurned': WHATEVER THE INPUT: true; the input reads as it did. -/
def bisimTurnedSpec : ChangeSpec := { name := "bisimTurned", fn := fun _ => fun
  | [d1, d2, d3] => { results := [.lit (.bool true)], args := [d1, d2, d3] }
  | _ => none }
def bisimTurnedRow : OpenClaim := { program := "ytifnofnnjcchhaa", sum := "963f3ad57e6c52a13111af0a3f674a71c49c300e9bd8d62e1c860d9915601d5e", func := "semigroup/semigrouplaw09.BisimTurned", spec := "bisimTurned", unfollowed := true, recurses := true, plainKeys := false, apart := false }
def BisimTurnedSaid : Prop := bisimTurnedRow.holds Try.pinned (OpenSpec.ofChange bisimTurnedSpec)

/-- ITS FALSE NEIGHBOUR: 'it returns false'. Refute it at one input. -/
def bisimTurnedWrong : ChangeSpec := { name := "bisimTurned", fn := fun _ => fun
  | [d1, d2, d3] => { results := [.lit (.bool false)], args := [d1, d2, d3] }
  | _ => none }
def BisimTurnedWrongFalsely : Prop := bisimTurnedRow.holds Try.pinned (OpenSpec.ofChange bisimTurnedWrong)

/- THE SECOND FORM. 'bulk': how many values and letters a reading holds, each counted each time it is reached (what is shared counts as often as it is met; a slice's spare places count too). A statement '..UptoSaid' is the law's where the arguments, and the package variables that the reading takes, are together of bulk at most 1048576: NARROWER than '..Said'. Prove '..Said' where nothing that the law and all that it calls make is longer than what came in: it says more and counts as full. Else prove '..UptoSaid'. A law counts once. -/
mutual
def uptoBulk {H : Type} : DataW H → Nat
  | .lit (.string bytes) => bytes.length + 1
  | .lit _ => 1
  | .nil => 1
  | .ptr d => uptoBulk d + 1
  | .slice elems spare => uptoBulkAll elems + uptoBulkAll spare + 1
  | .agg parts => uptoBulkAll parts + 1
  | .iface _ d => uptoBulk d + 1
  | .map entries => uptoBulkEntries entries + 1
  | .held _ => 1
def uptoBulkAll {H : Type} : List (DataW H) → Nat
  | [] => 0
  | d :: r => uptoBulk d + uptoBulkAll r
def uptoBulkEntries {H : Type} : List (Lit × DataW H) → Nat
  | [] => 0
  | x :: r => uptoBulkEntry x + uptoBulkEntries r
def uptoBulkEntry {H : Type} : Lit × DataW H → Nat
  | (.string bytes, d) => bytes.length + uptoBulk d + 1
  | (_, d) => uptoBulk d + 1
 end
def uptoSmall : (H : Type) → List (DataW H) → Bool := fun _ ds => decide (uptoBulkAll ds ≤ 1048576)
def OpenSpec.upto (s : _root_.Go.ChangeSpec) : _root_.Go.OpenSpec := { _root_.Go.OpenSpec.ofChange s with cond := some uptoSmall }

/-- 'semigrouplaw09.BisimFinds', WHERE WHAT IT READS IS OF BULK AT MOST 1048576: true; the input reads as it did. -/
def bisimFindsUptoRow : OpenClaim := { program := "ytifnofnnjcchhaa", sum := "963f3ad57e6c52a13111af0a3f674a71c49c300e9bd8d62e1c860d9915601d5e", func := "semigroup/semigrouplaw09.BisimFinds", spec := "bisimFinds", unfollowed := true, recurses := true, plainKeys := false, apart := false, narrowed := true }
def BisimFindsUptoSaid : Prop := bisimFindsUptoRow.holds Try.pinned (OpenSpec.upto bisimFindsSpec)

/-- 'semigrouplaw09.BisimIncludes', WHERE WHAT IT READS IS OF BULK AT MOST 1048576: true; the input reads as it did. -/
def bisimIncludesUptoRow : OpenClaim := { program := "ytifnofnnjcchhaa", sum := "963f3ad57e6c52a13111af0a3f674a71c49c300e9bd8d62e1c860d9915601d5e", func := "semigroup/semigrouplaw09.BisimIncludes", spec := "bisimIncludes", unfollowed := true, recurses := true, plainKeys := false, apart := false, narrowed := true }
def BisimIncludesUptoSaid : Prop := bisimIncludesUptoRow.holds Try.pinned (OpenSpec.upto bisimIncludesSpec)

/-- 'semigrouplaw09.BisimOrders', WHERE WHAT IT READS IS OF BULK AT MOST 1048576: true; the input reads as it did. -/
def bisimOrdersUptoRow : OpenClaim := { program := "ytifnofnnjcchhaa", sum := "963f3ad57e6c52a13111af0a3f674a71c49c300e9bd8d62e1c860d9915601d5e", func := "semigroup/semigrouplaw09.BisimOrders", spec := "bisimOrders", unfollowed := true, recurses := true, plainKeys := false, apart := false, narrowed := true }
def BisimOrdersUptoSaid : Prop := bisimOrdersUptoRow.holds Try.pinned (OpenSpec.upto bisimOrdersSpec)

/-- 'semigrouplaw09.BisimChecks', WHERE WHAT IT READS IS OF BULK AT MOST 1048576: true; the input reads as it did. -/
def bisimChecksUptoRow : OpenClaim := { program := "ytifnofnnjcchhaa", sum := "963f3ad57e6c52a13111af0a3f674a71c49c300e9bd8d62e1c860d9915601d5e", func := "semigroup/semigrouplaw09.BisimChecks", spec := "bisimChecks", unfollowed := true, recurses := true, plainKeys := false, apart := false, narrowed := true }
def BisimChecksUptoSaid : Prop := bisimChecksUptoRow.holds Try.pinned (OpenSpec.upto bisimChecksSpec)

/-- 'semigrouplaw09.BisimIsomorphic', WHERE WHAT IT READS IS OF BULK AT MOST 1048576: true; the input reads as it did. -/
def bisimIsomorphicUptoRow : OpenClaim := { program := "ytifnofnnjcchhaa", sum := "963f3ad57e6c52a13111af0a3f674a71c49c300e9bd8d62e1c860d9915601d5e", func := "semigroup/semigrouplaw09.BisimIsomorphic", spec := "bisimIsomorphic", unfollowed := true, recurses := true, plainKeys := false, apart := false, narrowed := true }
def BisimIsomorphicUptoSaid : Prop := bisimIsomorphicUptoRow.holds Try.pinned (OpenSpec.upto bisimIsomorphicSpec)

/-- 'semigrouplaw09.BisimRenames', WHERE WHAT IT READS IS OF BULK AT MOST 1048576: true; the input reads as it did. -/
def bisimRenamesUptoRow : OpenClaim := { program := "ytifnofnnjcchhaa", sum := "963f3ad57e6c52a13111af0a3f674a71c49c300e9bd8d62e1c860d9915601d5e", func := "semigroup/semigrouplaw09.BisimRenames", spec := "bisimRenames", unfollowed := true, recurses := true, plainKeys := false, apart := false, narrowed := true }
def BisimRenamesUptoSaid : Prop := bisimRenamesUptoRow.holds Try.pinned (OpenSpec.upto bisimRenamesSpec)

/-- 'semigrouplaw09.BisimSound', WHERE WHAT IT READS IS OF BULK AT MOST 1048576: true; the input reads as it did. -/
def bisimSoundUptoRow : OpenClaim := { program := "ytifnofnnjcchhaa", sum := "963f3ad57e6c52a13111af0a3f674a71c49c300e9bd8d62e1c860d9915601d5e", func := "semigroup/semigrouplaw09.BisimSound", spec := "bisimSound", unfollowed := true, recurses := true, plainKeys := false, apart := false, narrowed := true }
def BisimSoundUptoSaid : Prop := bisimSoundUptoRow.holds Try.pinned (OpenSpec.upto bisimSoundSpec)

/-- 'semigrouplaw09.BisimDecides', WHERE WHAT IT READS IS OF BULK AT MOST 1048576: true; the input reads as it did. -/
def bisimDecidesUptoRow : OpenClaim := { program := "ytifnofnnjcchhaa", sum := "963f3ad57e6c52a13111af0a3f674a71c49c300e9bd8d62e1c860d9915601d5e", func := "semigroup/semigrouplaw09.BisimDecides", spec := "bisimDecides", unfollowed := true, recurses := true, plainKeys := false, apart := false, narrowed := true }
def BisimDecidesUptoSaid : Prop := bisimDecidesUptoRow.holds Try.pinned (OpenSpec.upto bisimDecidesSpec)

/-- 'semigrouplaw09.BisimMinimal', WHERE WHAT IT READS IS OF BULK AT MOST 1048576: true; the input reads as it did. -/
def bisimMinimalUptoRow : OpenClaim := { program := "ytifnofnnjcchhaa", sum := "963f3ad57e6c52a13111af0a3f674a71c49c300e9bd8d62e1c860d9915601d5e", func := "semigroup/semigrouplaw09.BisimMinimal", spec := "bisimMinimal", unfollowed := true, recurses := true, plainKeys := false, apart := false, narrowed := true }
def BisimMinimalUptoSaid : Prop := bisimMinimalUptoRow.holds Try.pinned (OpenSpec.upto bisimMinimalSpec)

/-- 'semigrouplaw09.BisimTurned', WHERE WHAT IT READS IS OF BULK AT MOST 1048576: true; the input reads as it did. -/
def bisimTurnedUptoRow : OpenClaim := { program := "ytifnofnnjcchhaa", sum := "963f3ad57e6c52a13111af0a3f674a71c49c300e9bd8d62e1c860d9915601d5e", func := "semigroup/semigrouplaw09.BisimTurned", spec := "bisimTurned", unfollowed := true, recurses := true, plainKeys := false, apart := false, narrowed := true }
def BisimTurnedUptoSaid : Prop := bisimTurnedUptoRow.holds Try.pinned (OpenSpec.upto bisimTurnedSpec)

end Rows
end Go.Proofs.Ytifnofnnjcchhaa
