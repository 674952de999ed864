/-
  No cell of these rows narrows 'for every input' (looked for: loops, veiled, ifaces, maps, wideKeys, modest, calm, conditions, laid).
  DERIVED. THE GIVEN ROWS OF THIS SEAT. 11 by the template 'for every input the law returns true; each argument reads behind the call as it read before'; 0 by the template 'total and deterministic' (their statements: YtoikhoniogicdaaTotals.lean).
  GIVEN WITH THE SEED: the statements are not yours to turn. If you find one false, say at which input.
  Laid BY PROGRAM, IN A SANDBOX (cutbox-rows.mjs): the forced cells as the released guide's own fill.sh prints them over the translation 9c6c1d1cc746a9e0… (all of the seat's roots in one cut). By AI agents, Wed Nov 11 2026. No macro, syntax, notation, axiom, sorry.
-/
import Derived.Test.YtoikhoniogicdaaChecked
import GoSem.Claim
import GoSem.ClaimJoined
import GoSem.ClaimMapViews
import Derived.JoinedTies
import Derived.KernelRfl
namespace Go.Proofs.Ytoikhoniogicdaa
/- THE CELL 'sum', in the pinned program and in every row, IS THE sha256 OF THE DUMP (.gsa) THAT YtoikhoniogicdaaProg.lean LOADS. Nothing in Lean hashes anything: it is a label: what it is worth is what the hold of that sum in a sandbox is worth. -/
noncomputable def Try.pinned : Pinned := { name := "ytoikhoniogicdaa", sum := "9c6c1d1cc746a9e02a83c02658ce26e0150c3510c254197c8e610beec5ac5a11", checked := Try.checked }
namespace Rows
def none {H : Type} : Left H := { results := [], args := [] }

/-- 'semigrouplaw08.MinimizeClasses': WHATEVER THE INPUT: true; the input reads as it did. -/
def minimizeClassesSpec : ChangeSpec := { name := "minimizeClasses", fn := fun _ => fun
  | [d] => { results := [.lit (.bool true)], args := [d] }
  | _ => none }
def minimizeClassesRow : OpenClaim := { program := "ytoikhoniogicdaa", sum := "9c6c1d1cc746a9e02a83c02658ce26e0150c3510c254197c8e610beec5ac5a11", func := "semigroup/semigrouplaw08.MinimizeClasses", spec := "minimizeClasses", unfollowed := true, recurses := true, plainKeys := false, apart := false }
def MinimizeClassesSaid : Prop := minimizeClassesRow.holds Try.pinned (OpenSpec.ofChange minimizeClassesSpec)

/-- ITS FALSE NEIGHBOUR: 'it returns false'. Refute it at one input. -/
def minimizeClassesWrong : ChangeSpec := { name := "minimizeClasses", fn := fun _ => fun
  | [d] => { results := [.lit (.bool false)], args := [d] }
  | _ => none }
def MinimizeClassesWrongFalsely : Prop := minimizeClassesRow.holds Try.pinned (OpenSpec.ofChange minimizeClassesWrong)

/-- 'semigrouplaw08.MinimizeMinimal': WHATEVER THE INPUT: true; the input reads as it did. -/
def minimizeMinimalSpec : ChangeSpec := { name := "minimizeMinimal", fn := fun _ => fun
  | [d] => { results := [.lit (.bool true)], args := [d] }
  | _ => none }
def minimizeMinimalRow : OpenClaim := { program := "ytoikhoniogicdaa", sum := "9c6c1d1cc746a9e02a83c02658ce26e0150c3510c254197c8e610beec5ac5a11", func := "semigroup/semigrouplaw08.MinimizeMinimal", spec := "minimizeMinimal", unfollowed := true, recurses := true, plainKeys := false, apart := false }
def MinimizeMinimalSaid : Prop := minimizeMinimalRow.holds Try.pinned (OpenSpec.ofChange minimizeMinimalSpec)

/-- ITS FALSE NEIGHBOUR: 'it returns false'. Refute it at one input. -/
def minimizeMinimalWrong : ChangeSpec := { name := "minimizeMinimal", fn := fun _ => fun
  | [d] => { results := [.lit (.bool false)], args := [d] }
  | _ => none }
def MinimizeMinimalWrongFalsely : Prop := minimizeMinimalRow.holds Try.pinned (OpenSpec.ofChange minimizeMinimalWrong)

/-- 'semigrouplaw08.MinimizeCanonical': WHATEVER THE INPUT: true; the input reads as it did. -/
def minimizeCanonicalSpec : ChangeSpec := { name := "minimizeCanonical", fn := fun _ => fun
  | [d1, d2, d3] => { results := [.lit (.bool true)], args := [d1, d2, d3] }
  | _ => none }
def minimizeCanonicalRow : OpenClaim := { program := "ytoikhoniogicdaa", sum := "9c6c1d1cc746a9e02a83c02658ce26e0150c3510c254197c8e610beec5ac5a11", func := "semigroup/semigrouplaw08.MinimizeCanonical", spec := "minimizeCanonical", unfollowed := true, recurses := true, plainKeys := false, apart := false }
def MinimizeCanonicalSaid : Prop := minimizeCanonicalRow.holds Try.pinned (OpenSpec.ofChange minimizeCanonicalSpec)

/-- ITS FALSE NEIGHBOUR: 'it returns false'. Refute it at one input. -/
def minimizeCanonicalWrong : ChangeSpec := { name := "minimizeCanonical", fn := fun _ => fun
  | [d1, d2, d3] => { results := [.lit (.bool false)], args := [d1, d2, d3] }
  | _ => none }
def MinimizeCanonicalWrongFalsely : Prop := minimizeCanonicalRow.holds Try.pinned (OpenSpec.ofChange minimizeCanonicalWrong)

/-- 'semigrouplaw08.MinimizeKeeps': WHATEVER THE INPUT: true; the input reads as it did. -/
def minimizeKeepsSpec : ChangeSpec := { name := "minimizeKeeps", fn := fun _ => fun
  | [d1, d2] => { results := [.lit (.bool true)], args := [d1, d2] }
  | _ => none }
def minimizeKeepsRow : OpenClaim := { program := "ytoikhoniogicdaa", sum := "9c6c1d1cc746a9e02a83c02658ce26e0150c3510c254197c8e610beec5ac5a11", func := "semigroup/semigrouplaw08.MinimizeKeeps", spec := "minimizeKeeps", unfollowed := true, recurses := true, plainKeys := false, apart := false }
def MinimizeKeepsSaid : Prop := minimizeKeepsRow.holds Try.pinned (OpenSpec.ofChange minimizeKeepsSpec)

/-- ITS FALSE NEIGHBOUR: 'it returns false'. Refute it at one input. -/
def minimizeKeepsWrong : ChangeSpec := { name := "minimizeKeeps", fn := fun _ => fun
  | [d1, d2] => { results := [.lit (.bool false)], args := [d1, d2] }
  | _ => none }
def MinimizeKeepsWrongFalsely : Prop := minimizeKeepsRow.holds Try.pinned (OpenSpec.ofChange minimizeKeepsWrong)

/-- 'semigrouplaw08.MinimizeDistinguishes': WHATEVER THE INPUT: true; the input reads as it did. -/
def minimizeDistinguishesSpec : ChangeSpec := { name := "minimizeDistinguishes", fn := fun _ => fun
  | [d1, d2, d3] => { results := [.lit (.bool true)], args := [d1, d2, d3] }
  | _ => none }
def minimizeDistinguishesRow : OpenClaim := { program := "ytoikhoniogicdaa", sum := "9c6c1d1cc746a9e02a83c02658ce26e0150c3510c254197c8e610beec5ac5a11", func := "semigroup/semigrouplaw08.MinimizeDistinguishes", spec := "minimizeDistinguishes", unfollowed := true, recurses := true, plainKeys := false, apart := false }
def MinimizeDistinguishesSaid : Prop := minimizeDistinguishesRow.holds Try.pinned (OpenSpec.ofChange minimizeDistinguishesSpec)

/-- ITS FALSE NEIGHBOUR: 'it returns false'. Refute it at one input. -/
def minimizeDistinguishesWrong : ChangeSpec := { name := "minimizeDistinguishes", fn := fun _ => fun
  | [d1, d2, d3] => { results := [.lit (.bool false)], args := [d1, d2, d3] }
  | _ => none }
def MinimizeDistinguishesWrongFalsely : Prop := minimizeDistinguishesRow.holds Try.pinned (OpenSpec.ofChange minimizeDistinguishesWrong)

/-- 'semigrouplaw08.MinimizeTells': WHATEVER THE INPUT: true; the input reads as it did. -/
def minimizeTellsSpec : ChangeSpec := { name := "minimizeTells", fn := fun _ => fun
  | [d1, d2, d3, d4] => { results := [.lit (.bool true)], args := [d1, d2, d3, d4] }
  | _ => none }
def minimizeTellsRow : OpenClaim := { program := "ytoikhoniogicdaa", sum := "9c6c1d1cc746a9e02a83c02658ce26e0150c3510c254197c8e610beec5ac5a11", func := "semigroup/semigrouplaw08.MinimizeTells", spec := "minimizeTells", unfollowed := true, recurses := true, plainKeys := false, apart := false }
def MinimizeTellsSaid : Prop := minimizeTellsRow.holds Try.pinned (OpenSpec.ofChange minimizeTellsSpec)

/-- ITS FALSE NEIGHBOUR: 'it returns false'. Refute it at one input. -/
def minimizeTellsWrong : ChangeSpec := { name := "minimizeTells", fn := fun _ => fun
  | [d1, d2, d3, d4] => { results := [.lit (.bool false)], args := [d1, d2, d3, d4] }
  | _ => none }
def MinimizeTellsWrongFalsely : Prop := minimizeTellsRow.holds Try.pinned (OpenSpec.ofChange minimizeTellsWrong)

/-- 'semigrouplaw08.MinimizeMyhill': WHATEVER THE INPUT: true; the input reads as it did. -/
def minimizeMyhillSpec : ChangeSpec := { name := "minimizeMyhill", fn := fun _ => fun
  | [d1, d2, d3, d4] => { results := [.lit (.bool true)], args := [d1, d2, d3, d4] }
  | _ => none }
def minimizeMyhillRow : OpenClaim := { program := "ytoikhoniogicdaa", sum := "9c6c1d1cc746a9e02a83c02658ce26e0150c3510c254197c8e610beec5ac5a11", func := "semigroup/semigrouplaw08.MinimizeMyhill", spec := "minimizeMyhill", unfollowed := true, recurses := true, plainKeys := false, apart := false }
def MinimizeMyhillSaid : Prop := minimizeMyhillRow.holds Try.pinned (OpenSpec.ofChange minimizeMyhillSpec)

/-- ITS FALSE NEIGHBOUR: 'it returns false'. Refute it at one input. -/
def minimizeMyhillWrong : ChangeSpec := { name := "minimizeMyhill", fn := fun _ => fun
  | [d1, d2, d3, d4] => { results := [.lit (.bool false)], args := [d1, d2, d3, d4] }
  | _ => none }
def MinimizeMyhillWrongFalsely : Prop := minimizeMyhillRow.holds Try.pinned (OpenSpec.ofChange minimizeMyhillWrong)

/-- 'semigrouplaw08.MinimizeChecks': WHATEVER THE INPUT: true; the input reads as it did. -/
def minimizeChecksSpec : ChangeSpec := { name := "minimizeChecks", fn := fun _ => fun
  | [d1, d2, d3] => { results := [.lit (.bool true)], args := [d1, d2, d3] }
  | _ => none }
def minimizeChecksRow : OpenClaim := { program := "ytoikhoniogicdaa", sum := "9c6c1d1cc746a9e02a83c02658ce26e0150c3510c254197c8e610beec5ac5a11", func := "semigroup/semigrouplaw08.MinimizeChecks", spec := "minimizeChecks", unfollowed := true, recurses := true, plainKeys := false, apart := false }
def MinimizeChecksSaid : Prop := minimizeChecksRow.holds Try.pinned (OpenSpec.ofChange minimizeChecksSpec)

/-- ITS FALSE NEIGHBOUR: 'it returns false'. Refute it at one input. -/
def minimizeChecksWrong : ChangeSpec := { name := "minimizeChecks", fn := fun _ => fun
  | [d1, d2, d3] => { results := [.lit (.bool false)], args := [d1, d2, d3] }
  | _ => none }
def MinimizeChecksWrongFalsely : Prop := minimizeChecksRow.holds Try.pinned (OpenSpec.ofChange minimizeChecksWrong)

/-- 'semigrouplaw08.MinimizeSound': WHATEVER THE INPUT: true; the input reads as it did. -/
def minimizeSoundSpec : ChangeSpec := { name := "minimizeSound", fn := fun _ => fun
  | [d1, d2, d3, d4] => { results := [.lit (.bool true)], args := [d1, d2, d3, d4] }
  | _ => none }
def minimizeSoundRow : OpenClaim := { program := "ytoikhoniogicdaa", sum := "9c6c1d1cc746a9e02a83c02658ce26e0150c3510c254197c8e610beec5ac5a11", func := "semigroup/semigrouplaw08.MinimizeSound", spec := "minimizeSound", unfollowed := true, recurses := true, plainKeys := false, apart := false }
def MinimizeSoundSaid : Prop := minimizeSoundRow.holds Try.pinned (OpenSpec.ofChange minimizeSoundSpec)

/-- ITS FALSE NEIGHBOUR: 'it returns false'. Refute it at one input. -/
def minimizeSoundWrong : ChangeSpec := { name := "minimizeSound", fn := fun _ => fun
  | [d1, d2, d3, d4] => { results := [.lit (.bool false)], args := [d1, d2, d3, d4] }
  | _ => none }
def MinimizeSoundWrongFalsely : Prop := minimizeSoundRow.holds Try.pinned (OpenSpec.ofChange minimizeSoundWrong)

/-- 'semigrouplaw08.MinimizeProves': WHATEVER THE INPUT: true; the input reads as it did. -/
def minimizeProvesSpec : ChangeSpec := { name := "minimizeProves", fn := fun _ => fun
  | [d] => { results := [.lit (.bool true)], args := [d] }
  | _ => none }
def minimizeProvesRow : OpenClaim := { program := "ytoikhoniogicdaa", sum := "9c6c1d1cc746a9e02a83c02658ce26e0150c3510c254197c8e610beec5ac5a11", func := "semigroup/semigrouplaw08.MinimizeProves", spec := "minimizeProves", unfollowed := true, recurses := true, plainKeys := false, apart := false }
def MinimizeProvesSaid : Prop := minimizeProvesRow.holds Try.pinned (OpenSpec.ofChange minimizeProvesSpec)

/-- ITS FALSE NEIGHBOUR: 'it returns false'. Refute it at one input. -/
def minimizeProvesWrong : ChangeSpec := { name := "minimizeProves", fn := fun _ => fun
  | [d] => { results := [.lit (.bool false)], args := [d] }
  | _ => none }
def MinimizeProvesWrongFalsely : Prop := minimizeProvesRow.holds Try.pinned (OpenSpec.ofChange minimizeProvesWrong)

/-- 'semigrouplaw08.MinimizeTurned': WHATEVER THE INPUT: true; the input reads as it did. -/
def minimizeTurnedSpec : ChangeSpec := { name := "minimizeTurned", fn := fun _ => fun
  | [d1, d2, d3, d4, d5] => { results := [.lit (.bool true)], args := [d1, d2, d3, d4, d5] }
  | _ => none }
def minimizeTurnedRow : OpenClaim := { program := "ytoikhoniogicdaa", sum := "9c6c1d1cc746a9e02a83c02658ce26e0150c3510c254197c8e610beec5ac5a11", func := "semigroup/semigrouplaw08.MinimizeTurned", spec := "minimizeTurned", unfollowed := true, recurses := true, plainKeys := false, apart := false }
def MinimizeTurnedSaid : Prop := minimizeTurnedRow.holds Try.pinned (OpenSpec.ofChange minimizeTurnedSpec)

/-- ITS FALSE NEIGHBOUR: 'it returns false'. Refute it at one input. -/
def minimizeTurnedWrong : ChangeSpec := { name := "minimizeTurned", fn := fun _ => fun
  | [d1, d2, d3, d4, d5] => { results := [.lit (.bool false)], args := [d1, d2, d3, d4, d5] }
  | _ => none }
def MinimizeTurnedWrongFalsely : Prop := minimizeTurnedRow.holds Try.pinned (OpenSpec.ofChange minimizeTurnedWrong)

/- THE SECOND FORM. 'bulk': how many values and letters a reading holds, each counted each time it is reached (what is shared counts as often as it is met; a slice's spare places count too). A statement '..UptoSaid' is the law's where the arguments, and the package variables that the reading takes, are together of bulk at most 1048576: NARROWER than '..Said'. Prove '..Said' where nothing that the law and all that it calls make is longer than what came in: it says more and counts as full. Else prove '..UptoSaid'. A law counts once. -/
mutual
def uptoBulk {H : Type} : DataW H → Nat
  | .lit (.string bytes) => bytes.length + 1
  | .lit _ => 1
  | .nil => 1
  | .ptr d => uptoBulk d + 1
  | .slice elems spare => uptoBulkAll elems + uptoBulkAll spare + 1
  | .agg parts => uptoBulkAll parts + 1
  | .iface _ d => uptoBulk d + 1
  | .map entries => uptoBulkEntries entries + 1
  | .held _ => 1
def uptoBulkAll {H : Type} : List (DataW H) → Nat
  | [] => 0
  | d :: r => uptoBulk d + uptoBulkAll r
def uptoBulkEntries {H : Type} : List (Lit × DataW H) → Nat
  | [] => 0
  | x :: r => uptoBulkEntry x + uptoBulkEntries r
def uptoBulkEntry {H : Type} : Lit × DataW H → Nat
  | (.string bytes, d) => bytes.length + uptoBulk d + 1
  | (_, d) => uptoBulk d + 1
 end
def uptoSmall : (H : Type) → List (DataW H) → Bool := fun _ ds => decide (uptoBulkAll ds ≤ 1048576)
def OpenSpec.upto (s : _root_.Go.ChangeSpec) : _root_.Go.OpenSpec := { _root_.Go.OpenSpec.ofChange s with cond := some uptoSmall }

/-- 'semigrouplaw08.MinimizeClasses', WHERE WHAT IT READS IS OF BULK AT MOST 1048576: true; the input reads as it did. -/
def minimizeClassesUptoRow : OpenClaim := { program := "ytoikhoniogicdaa", sum := "9c6c1d1cc746a9e02a83c02658ce26e0150c3510c254197c8e610beec5ac5a11", func := "semigroup/semigrouplaw08.MinimizeClasses", spec := "minimizeClasses", unfollowed := true, recurses := true, plainKeys := false, apart := false, narrowed := true }
def MinimizeClassesUptoSaid : Prop := minimizeClassesUptoRow.holds Try.pinned (OpenSpec.upto minimizeClassesSpec)

/-- 'semigrouplaw08.MinimizeMinimal', WHERE WHAT IT READS IS OF BULK AT MOST 1048576: true; the input reads as it did. -/
def minimizeMinimalUptoRow : OpenClaim := { program := "ytoikhoniogicdaa", sum := "9c6c1d1cc746a9e02a83c02658ce26e0150c3510c254197c8e610beec5ac5a11", func := "semigroup/semigrouplaw08.MinimizeMinimal", spec := "minimizeMinimal", unfollowed := true, recurses := true, plainKeys := false, apart := false, narrowed := true }
def MinimizeMinimalUptoSaid : Prop := minimizeMinimalUptoRow.holds Try.pinned (OpenSpec.upto minimizeMinimalSpec)

/-- 'semigrouplaw08.MinimizeCanonical', WHERE WHAT IT READS IS OF BULK AT MOST 1048576: true; the input reads as it did. -/
def minimizeCanonicalUptoRow : OpenClaim := { program := "ytoikhoniogicdaa", sum := "9c6c1d1cc746a9e02a83c02658ce26e0150c3510c254197c8e610beec5ac5a11", func := "semigroup/semigrouplaw08.MinimizeCanonical", spec := "minimizeCanonical", unfollowed := true, recurses := true, plainKeys := false, apart := false, narrowed := true }
def MinimizeCanonicalUptoSaid : Prop := minimizeCanonicalUptoRow.holds Try.pinned (OpenSpec.upto minimizeCanonicalSpec)

/-- 'semigrouplaw08.MinimizeKeeps', WHERE WHAT IT READS IS OF BULK AT MOST 1048576: true; the input reads as it did. -/
def minimizeKeepsUptoRow : OpenClaim := { program := "ytoikhoniogicdaa", sum := "9c6c1d1cc746a9e02a83c02658ce26e0150c3510c254197c8e610beec5ac5a11", func := "semigroup/semigrouplaw08.MinimizeKeeps", spec := "minimizeKeeps", unfollowed := true, recurses := true, plainKeys := false, apart := false, narrowed := true }
def MinimizeKeepsUptoSaid : Prop := minimizeKeepsUptoRow.holds Try.pinned (OpenSpec.upto minimizeKeepsSpec)

/-- 'semigrouplaw08.MinimizeDistinguishes', WHERE WHAT IT READS IS OF BULK AT MOST 1048576: true; the input reads as it did. -/
def minimizeDistinguishesUptoRow : OpenClaim := { program := "ytoikhoniogicdaa", sum := "9c6c1d1cc746a9e02a83c02658ce26e0150c3510c254197c8e610beec5ac5a11", func := "semigroup/semigrouplaw08.MinimizeDistinguishes", spec := "minimizeDistinguishes", unfollowed := true, recurses := true, plainKeys := false, apart := false, narrowed := true }
def MinimizeDistinguishesUptoSaid : Prop := minimizeDistinguishesUptoRow.holds Try.pinned (OpenSpec.upto minimizeDistinguishesSpec)

/-- 'semigrouplaw08.MinimizeTells', WHERE WHAT IT READS IS OF BULK AT MOST 1048576: true; the input reads as it did. -/
def minimizeTellsUptoRow : OpenClaim := { program := "ytoikhoniogicdaa", sum := "9c6c1d1cc746a9e02a83c02658ce26e0150c3510c254197c8e610beec5ac5a11", func := "semigroup/semigrouplaw08.MinimizeTells", spec := "minimizeTells", unfollowed := true, recurses := true, plainKeys := false, apart := false, narrowed := true }
def MinimizeTellsUptoSaid : Prop := minimizeTellsUptoRow.holds Try.pinned (OpenSpec.upto minimizeTellsSpec)

/-- 'semigrouplaw08.MinimizeMyhill', WHERE WHAT IT READS IS OF BULK AT MOST 1048576: true; the input reads as it did. -/
def minimizeMyhillUptoRow : OpenClaim := { program := "ytoikhoniogicdaa", sum := "9c6c1d1cc746a9e02a83c02658ce26e0150c3510c254197c8e610beec5ac5a11", func := "semigroup/semigrouplaw08.MinimizeMyhill", spec := "minimizeMyhill", unfollowed := true, recurses := true, plainKeys := false, apart := false, narrowed := true }
def MinimizeMyhillUptoSaid : Prop := minimizeMyhillUptoRow.holds Try.pinned (OpenSpec.upto minimizeMyhillSpec)

/-- 'semigrouplaw08.MinimizeChecks', WHERE WHAT IT READS IS OF BULK AT MOST 1048576: true; the input reads as it did. -/
def minimizeChecksUptoRow : OpenClaim := { program := "ytoikhoniogicdaa", sum := "9c6c1d1cc746a9e02a83c02658ce26e0150c3510c254197c8e610beec5ac5a11", func := "semigroup/semigrouplaw08.MinimizeChecks", spec := "minimizeChecks", unfollowed := true, recurses := true, plainKeys := false, apart := false, narrowed := true }
def MinimizeChecksUptoSaid : Prop := minimizeChecksUptoRow.holds Try.pinned (OpenSpec.upto minimizeChecksSpec)

/-- 'semigrouplaw08.MinimizeSound', WHERE WHAT IT READS IS OF BULK AT MOST 1048576: true; the input reads as it did. -/
def minimizeSoundUptoRow : OpenClaim := { program := "ytoikhoniogicdaa", sum := "9c6c1d1cc746a9e02a83c02658ce26e0150c3510c254197c8e610beec5ac5a11", func := "semigroup/semigrouplaw08.MinimizeSound", spec := "minimizeSound", unfollowed := true, recurses := true, plainKeys := false, apart := false, narrowed := true }
def MinimizeSoundUptoSaid : Prop := minimizeSoundUptoRow.holds Try.pinned (OpenSpec.upto minimizeSoundSpec)

/-- 'semigrouplaw08.MinimizeProves', WHERE WHAT IT READS IS OF BULK AT MOST 1048576: true; the input reads as it did. -/
def minimizeProvesUptoRow : OpenClaim := { program := "ytoikhoniogicdaa", sum := "9c6c1d1cc746a9e02a83c02658ce26e0150c3510c254197c8e610beec5ac5a11", func := "semigroup/semigrouplaw08.MinimizeProves", spec := "minimizeProves", unfollowed := true, recurses := true, plainKeys := false, apart := false, narrowed := true }
def MinimizeProvesUptoSaid : Prop := minimizeProvesUptoRow.holds Try.pinned (OpenSpec.upto minimizeProvesSpec)

/-- 'semigrouplaw08.MinimizeTurned', WHERE WHAT IT READS IS OF BULK AT MOST 1048576: true; the input reads as it did. -/
def minimizeTurnedUptoRow : OpenClaim := { program := "ytoikhoniogicdaa", sum := "9c6c1d1cc746a9e02a83c02658ce26e0150c3510c254197c8e610beec5ac5a11", func := "semigroup/semigrouplaw08.MinimizeTurned", spec := "minimizeTurned", unfollowed := true, recurses := true, plainKeys := false, apart := false, narrowed := true }
def MinimizeTurnedUptoSaid : Prop := minimizeTurnedUptoRow.holds Try.pinned (OpenSpec.upto minimizeTurnedSpec)

end Rows
end Go.Proofs.Ytoikhoniogicdaa
