/-
  No cell of these rows narrows 'for every input' (looked for: loops, veiled, ifaces, maps, wideKeys, modest, calm, conditions, laid).
  DERIVED. THE GIVEN ROWS OF THIS SEAT. 10 by the template 'for every input the law returns true; each argument reads behind the call as it read before'; 0 by the template 'total and deterministic' (their statements: YtaeojcaidcjnaaaTotals.lean).
  GIVEN WITH THE SEED: the statements are not yours to turn. If you find one false, say at which input.
  Laid BY PROGRAM, IN A SANDBOX (cutbox-rows.mjs): the forced cells as the released guide's own fill.sh prints them over the translation bcf07aec060cdee2… (all of the seat's roots in one cut). By AI agents, Wed Nov 11 2026. No macro, syntax, notation, axiom, sorry.
-/
import Derived.Test.YtaeojcaidcjnaaaChecked
import GoSem.Claim
import GoSem.ClaimJoined
import GoSem.ClaimMapViews
import Derived.JoinedTies
import Derived.KernelRfl
namespace Go.Proofs.Ytaeojcaidcjnaaa
/- THE CELL 'sum', in the pinned program and in every row, IS THE sha256 OF THE DUMP (.gsa) THAT YtaeojcaidcjnaaaProg.lean LOADS. Nothing in Lean hashes anything: it is a label: what it is worth is what the hold of that sum in a sandbox is worth. -/
noncomputable def Try.pinned : Pinned := { name := "ytaeojcaidcjnaaa", sum := "bcf07aec060cdee23471ea05ba97b08a97142357acbbc348a06b41d930c3cc93", checked := Try.checked }
namespace Rows
def none {H : Type} : Left H := { results := [], args := [] }

/-- 'semigrouplaw13.RewriteValidates': WHATEVER THE INPUT: true; the input reads as it did. -/
def rewriteValidatesSpec : ChangeSpec := { name := "rewriteValidates", fn := fun _ => fun
  | [d1, d2] => { results := [.lit (.bool true)], args := [d1, d2] }
  | _ => none }
def rewriteValidatesRow : OpenClaim := { program := "ytaeojcaidcjnaaa", sum := "bcf07aec060cdee23471ea05ba97b08a97142357acbbc348a06b41d930c3cc93", func := "semigroup/semigrouplaw13.RewriteValidates", spec := "rewriteValidates", inPlace := ["internal/bytealg.abigen_runtime_cmpstring"], plainKeys := false, apart := false }
def RewriteValidatesSaid : Prop := rewriteValidatesRow.holds Try.pinned (OpenSpec.ofChange rewriteValidatesSpec)

/-- ITS FALSE NEIGHBOUR: 'it returns false'. Refute it at one input. -/
def rewriteValidatesWrong : ChangeSpec := { name := "rewriteValidates", fn := fun _ => fun
  | [d1, d2] => { results := [.lit (.bool false)], args := [d1, d2] }
  | _ => none }
def RewriteValidatesWrongFalsely : Prop := rewriteValidatesRow.holds Try.pinned (OpenSpec.ofChange rewriteValidatesWrong)

/-- 'semigrouplaw13.RewriteReduces': WHATEVER THE INPUT: true; the input reads as it did. -/
def rewriteReducesSpec : ChangeSpec := { name := "rewriteReduces", fn := fun _ => fun
  | [d1, d2] => { results := [.lit (.bool true)], args := [d1, d2] }
  | _ => none }
def rewriteReducesRow : OpenClaim := { program := "ytaeojcaidcjnaaa", sum := "bcf07aec060cdee23471ea05ba97b08a97142357acbbc348a06b41d930c3cc93", func := "semigroup/semigrouplaw13.RewriteReduces", spec := "rewriteReduces", inPlace := ["internal/bytealg.abigen_runtime_cmpstring", "internal/bytealg.IndexByteString", "internal/bytealg.IndexString"], named := ["internal/bytealg.MaxLen"], plainKeys := false, apart := false }
def RewriteReducesSaid : Prop := rewriteReducesRow.holds Try.pinned (OpenSpec.ofChange rewriteReducesSpec)

/-- ITS FALSE NEIGHBOUR: 'it returns false'. Refute it at one input. -/
def rewriteReducesWrong : ChangeSpec := { name := "rewriteReduces", fn := fun _ => fun
  | [d1, d2] => { results := [.lit (.bool false)], args := [d1, d2] }
  | _ => none }
def RewriteReducesWrongFalsely : Prop := rewriteReducesRow.holds Try.pinned (OpenSpec.ofChange rewriteReducesWrong)

/-- 'semigrouplaw13.RewriteSettles': WHATEVER THE INPUT: true; the input reads as it did. -/
def rewriteSettlesSpec : ChangeSpec := { name := "rewriteSettles", fn := fun _ => fun
  | [d1, d2] => { results := [.lit (.bool true)], args := [d1, d2] }
  | _ => none }
def rewriteSettlesRow : OpenClaim := { program := "ytaeojcaidcjnaaa", sum := "bcf07aec060cdee23471ea05ba97b08a97142357acbbc348a06b41d930c3cc93", func := "semigroup/semigrouplaw13.RewriteSettles", spec := "rewriteSettles", inPlace := ["internal/bytealg.abigen_runtime_cmpstring", "internal/bytealg.IndexByteString", "internal/bytealg.IndexString"], named := ["internal/bytealg.MaxLen"], plainKeys := false, apart := false }
def RewriteSettlesSaid : Prop := rewriteSettlesRow.holds Try.pinned (OpenSpec.ofChange rewriteSettlesSpec)

/-- ITS FALSE NEIGHBOUR: 'it returns false'. Refute it at one input. -/
def rewriteSettlesWrong : ChangeSpec := { name := "rewriteSettles", fn := fun _ => fun
  | [d1, d2] => { results := [.lit (.bool false)], args := [d1, d2] }
  | _ => none }
def RewriteSettlesWrongFalsely : Prop := rewriteSettlesRow.holds Try.pinned (OpenSpec.ofChange rewriteSettlesWrong)

/-- 'semigrouplaw13.RewriteIrreducible': WHATEVER THE INPUT: true; the input reads as it did. -/
def rewriteIrreducibleSpec : ChangeSpec := { name := "rewriteIrreducible", fn := fun _ => fun
  | [d1, d2] => { results := [.lit (.bool true)], args := [d1, d2] }
  | _ => none }
def rewriteIrreducibleRow : OpenClaim := { program := "ytaeojcaidcjnaaa", sum := "bcf07aec060cdee23471ea05ba97b08a97142357acbbc348a06b41d930c3cc93", func := "semigroup/semigrouplaw13.RewriteIrreducible", spec := "rewriteIrreducible", inPlace := ["internal/bytealg.abigen_runtime_cmpstring"], unfollowed := true, recurses := true, plainKeys := false, apart := false }
def RewriteIrreducibleSaid : Prop := rewriteIrreducibleRow.holds Try.pinned (OpenSpec.ofChange rewriteIrreducibleSpec)

/-- ITS FALSE NEIGHBOUR: 'it returns false'. Refute it at one input. -/
def rewriteIrreducibleWrong : ChangeSpec := { name := "rewriteIrreducible", fn := fun _ => fun
  | [d1, d2] => { results := [.lit (.bool false)], args := [d1, d2] }
  | _ => none }
def RewriteIrreducibleWrongFalsely : Prop := rewriteIrreducibleRow.holds Try.pinned (OpenSpec.ofChange rewriteIrreducibleWrong)

/-- 'semigrouplaw13.RewritePairs': WHATEVER THE INPUT: true; the input reads as it did. -/
def rewritePairsSpec : ChangeSpec := { name := "rewritePairs", fn := fun _ => fun
  | [d] => { results := [.lit (.bool true)], args := [d] }
  | _ => none }
def rewritePairsRow : OpenClaim := { program := "ytaeojcaidcjnaaa", sum := "bcf07aec060cdee23471ea05ba97b08a97142357acbbc348a06b41d930c3cc93", func := "semigroup/semigrouplaw13.RewritePairs", spec := "rewritePairs", inPlace := ["internal/bytealg.abigen_runtime_cmpstring", "internal/bytealg.IndexByteString", "internal/bytealg.IndexString"], unfollowed := true, recurses := true, named := ["internal/bytealg.MaxLen"], plainKeys := false, apart := false }
def RewritePairsSaid : Prop := rewritePairsRow.holds Try.pinned (OpenSpec.ofChange rewritePairsSpec)

/-- ITS FALSE NEIGHBOUR: 'it returns false'. Refute it at one input. -/
def rewritePairsWrong : ChangeSpec := { name := "rewritePairs", fn := fun _ => fun
  | [d] => { results := [.lit (.bool false)], args := [d] }
  | _ => none }
def RewritePairsWrongFalsely : Prop := rewritePairsRow.holds Try.pinned (OpenSpec.ofChange rewritePairsWrong)

/-- 'semigrouplaw13.RewriteConfluent': WHATEVER THE INPUT: true; the input reads as it did. -/
def rewriteConfluentSpec : ChangeSpec := { name := "rewriteConfluent", fn := fun _ => fun
  | [d] => { results := [.lit (.bool true)], args := [d] }
  | _ => none }
def rewriteConfluentRow : OpenClaim := { program := "ytaeojcaidcjnaaa", sum := "bcf07aec060cdee23471ea05ba97b08a97142357acbbc348a06b41d930c3cc93", func := "semigroup/semigrouplaw13.RewriteConfluent", spec := "rewriteConfluent", inPlace := ["internal/bytealg.abigen_runtime_cmpstring", "internal/bytealg.IndexByteString", "internal/bytealg.IndexString"], unfollowed := true, recurses := true, named := ["internal/bytealg.MaxLen"], plainKeys := false, apart := false }
def RewriteConfluentSaid : Prop := rewriteConfluentRow.holds Try.pinned (OpenSpec.ofChange rewriteConfluentSpec)

/-- ITS FALSE NEIGHBOUR: 'it returns false'. Refute it at one input. -/
def rewriteConfluentWrong : ChangeSpec := { name := "rewriteConfluent", fn := fun _ => fun
  | [d] => { results := [.lit (.bool false)], args := [d] }
  | _ => none }
def RewriteConfluentWrongFalsely : Prop := rewriteConfluentRow.holds Try.pinned (OpenSpec.ofChange rewriteConfluentWrong)

/-- 'semigrouplaw13.RewriteUnique': WHATEVER THE INPUT: true; the input reads as it did. -/
def rewriteUniqueSpec : ChangeSpec := { name := "rewriteUnique", fn := fun _ => fun
  | [d1, d2, d3, d4] => { results := [.lit (.bool true)], args := [d1, d2, d3, d4] }
  | _ => none }
def rewriteUniqueRow : OpenClaim := { program := "ytaeojcaidcjnaaa", sum := "bcf07aec060cdee23471ea05ba97b08a97142357acbbc348a06b41d930c3cc93", func := "semigroup/semigrouplaw13.RewriteUnique", spec := "rewriteUnique", inPlace := ["internal/bytealg.abigen_runtime_cmpstring", "internal/bytealg.IndexByteString", "internal/bytealg.IndexString"], unfollowed := true, recurses := true, named := ["internal/bytealg.MaxLen"], plainKeys := false, apart := false }
def RewriteUniqueSaid : Prop := rewriteUniqueRow.holds Try.pinned (OpenSpec.ofChange rewriteUniqueSpec)

/-- ITS FALSE NEIGHBOUR: 'it returns false'. Refute it at one input. -/
def rewriteUniqueWrong : ChangeSpec := { name := "rewriteUnique", fn := fun _ => fun
  | [d1, d2, d3, d4] => { results := [.lit (.bool false)], args := [d1, d2, d3, d4] }
  | _ => none }
def RewriteUniqueWrongFalsely : Prop := rewriteUniqueRow.holds Try.pinned (OpenSpec.ofChange rewriteUniqueWrong)

/-- 'semigrouplaw13.RewriteParts': WHATEVER THE INPUT: true; the input reads as it did. -/
def rewritePartsSpec : ChangeSpec := { name := "rewriteParts", fn := fun _ => fun
  | [d1, d2, d3] => { results := [.lit (.bool true)], args := [d1, d2, d3] }
  | _ => none }
def rewritePartsRow : OpenClaim := { program := "ytaeojcaidcjnaaa", sum := "bcf07aec060cdee23471ea05ba97b08a97142357acbbc348a06b41d930c3cc93", func := "semigroup/semigrouplaw13.RewriteParts", spec := "rewriteParts", inPlace := ["internal/bytealg.abigen_runtime_cmpstring", "internal/bytealg.IndexByteString", "internal/bytealg.IndexString"], unfollowed := true, recurses := true, named := ["internal/bytealg.MaxLen"], plainKeys := false, apart := false }
def RewritePartsSaid : Prop := rewritePartsRow.holds Try.pinned (OpenSpec.ofChange rewritePartsSpec)

/-- ITS FALSE NEIGHBOUR: 'it returns false'. Refute it at one input. -/
def rewritePartsWrong : ChangeSpec := { name := "rewriteParts", fn := fun _ => fun
  | [d1, d2, d3] => { results := [.lit (.bool false)], args := [d1, d2, d3] }
  | _ => none }
def RewritePartsWrongFalsely : Prop := rewritePartsRow.holds Try.pinned (OpenSpec.ofChange rewritePartsWrong)

/-- 'semigrouplaw13.RewriteAccepts': WHATEVER THE INPUT: true; the input reads as it did. -/
def rewriteAcceptsSpec : ChangeSpec := { name := "rewriteAccepts", fn := fun _ => fun
  | [d1, d2, d3] => { results := [.lit (.bool true)], args := [d1, d2, d3] }
  | _ => none }
def rewriteAcceptsRow : OpenClaim := { program := "ytaeojcaidcjnaaa", sum := "bcf07aec060cdee23471ea05ba97b08a97142357acbbc348a06b41d930c3cc93", func := "semigroup/semigrouplaw13.RewriteAccepts", spec := "rewriteAccepts", inPlace := ["internal/bytealg.abigen_runtime_cmpstring", "internal/bytealg.IndexByteString", "internal/bytealg.IndexString"], unfollowed := true, recurses := true, named := ["internal/bytealg.MaxLen"], plainKeys := false, apart := false }
def RewriteAcceptsSaid : Prop := rewriteAcceptsRow.holds Try.pinned (OpenSpec.ofChange rewriteAcceptsSpec)

/-- ITS FALSE NEIGHBOUR: 'it returns false'. Refute it at one input. -/
def rewriteAcceptsWrong : ChangeSpec := { name := "rewriteAccepts", fn := fun _ => fun
  | [d1, d2, d3] => { results := [.lit (.bool false)], args := [d1, d2, d3] }
  | _ => none }
def RewriteAcceptsWrongFalsely : Prop := rewriteAcceptsRow.holds Try.pinned (OpenSpec.ofChange rewriteAcceptsWrong)

/-- 'semigrouplaw13.RewriteTables': WHATEVER THE INPUT: true; the input reads as it did. -/
def rewriteTablesSpec : ChangeSpec := { name := "rewriteTables", fn := fun _ => fun
  | [d1, d2, d3] => { results := [.lit (.bool true)], args := [d1, d2, d3] }
  | _ => none }
def rewriteTablesRow : OpenClaim := { program := "ytaeojcaidcjnaaa", sum := "bcf07aec060cdee23471ea05ba97b08a97142357acbbc348a06b41d930c3cc93", func := "semigroup/semigrouplaw13.RewriteTables", spec := "rewriteTables", inPlace := ["internal/bytealg.abigen_runtime_cmpstring", "internal/bytealg.IndexByteString", "internal/bytealg.IndexString"], unfollowed := true, recurses := true, named := ["internal/bytealg.MaxLen"], plainKeys := false, apart := false }
def RewriteTablesSaid : Prop := rewriteTablesRow.holds Try.pinned (OpenSpec.ofChange rewriteTablesSpec)

/-- ITS FALSE NEIGHBOUR: 'it returns false'. Refute it at one input. -/
def rewriteTablesWrong : ChangeSpec := { name := "rewriteTables", fn := fun _ => fun
  | [d1, d2, d3] => { results := [.lit (.bool false)], args := [d1, d2, d3] }
  | _ => none }
def RewriteTablesWrongFalsely : Prop := rewriteTablesRow.holds Try.pinned (OpenSpec.ofChange rewriteTablesWrong)

/- THE SECOND FORM. 'bulk': how many values and letters a reading holds, each counted each time it is reached (what is shared counts as often as it is met; a slice's spare places count too). A statement '..UptoSaid' is the law's where the arguments, and the package variables that the reading takes, are together of bulk at most 1048576: NARROWER than '..Said'. Prove '..Said' where nothing that the law and all that it calls make is longer than what came in: it says more and counts as full. Else prove '..UptoSaid'. A law counts once. -/
mutual
def uptoBulk {H : Type} : DataW H → Nat
  | .lit (.string bytes) => bytes.length + 1
  | .lit _ => 1
  | .nil => 1
  | .ptr d => uptoBulk d + 1
  | .slice elems spare => uptoBulkAll elems + uptoBulkAll spare + 1
  | .agg parts => uptoBulkAll parts + 1
  | .iface _ d => uptoBulk d + 1
  | .map entries => uptoBulkEntries entries + 1
  | .held _ => 1
def uptoBulkAll {H : Type} : List (DataW H) → Nat
  | [] => 0
  | d :: r => uptoBulk d + uptoBulkAll r
def uptoBulkEntries {H : Type} : List (Lit × DataW H) → Nat
  | [] => 0
  | x :: r => uptoBulkEntry x + uptoBulkEntries r
def uptoBulkEntry {H : Type} : Lit × DataW H → Nat
  | (.string bytes, d) => bytes.length + uptoBulk d + 1
  | (_, d) => uptoBulk d + 1
 end
def uptoSmall : (H : Type) → List (DataW H) → Bool := fun _ ds => decide (uptoBulkAll ds ≤ 1048576)
def OpenSpec.upto (s : _root_.Go.ChangeSpec) : _root_.Go.OpenSpec := { _root_.Go.OpenSpec.ofChange s with cond := some uptoSmall }

/-- 'semigrouplaw13.RewriteValidates', WHERE WHAT IT READS IS OF BULK AT MOST 1048576: true; the input reads as it did. -/
def rewriteValidatesUptoRow : OpenClaim := { program := "ytaeojcaidcjnaaa", sum := "bcf07aec060cdee23471ea05ba97b08a97142357acbbc348a06b41d930c3cc93", func := "semigroup/semigrouplaw13.RewriteValidates", spec := "rewriteValidates", inPlace := ["internal/bytealg.abigen_runtime_cmpstring"], plainKeys := false, apart := false, narrowed := true }
def RewriteValidatesUptoSaid : Prop := rewriteValidatesUptoRow.holds Try.pinned (OpenSpec.upto rewriteValidatesSpec)

/-- 'semigrouplaw13.RewriteReduces', WHERE WHAT IT READS IS OF BULK AT MOST 1048576: true; the input reads as it did. -/
def rewriteReducesUptoRow : OpenClaim := { program := "ytaeojcaidcjnaaa", sum := "bcf07aec060cdee23471ea05ba97b08a97142357acbbc348a06b41d930c3cc93", func := "semigroup/semigrouplaw13.RewriteReduces", spec := "rewriteReduces", inPlace := ["internal/bytealg.abigen_runtime_cmpstring", "internal/bytealg.IndexByteString", "internal/bytealg.IndexString"], named := ["internal/bytealg.MaxLen"], plainKeys := false, apart := false, narrowed := true }
def RewriteReducesUptoSaid : Prop := rewriteReducesUptoRow.holds Try.pinned (OpenSpec.upto rewriteReducesSpec)

/-- 'semigrouplaw13.RewriteSettles', WHERE WHAT IT READS IS OF BULK AT MOST 1048576: true; the input reads as it did. -/
def rewriteSettlesUptoRow : OpenClaim := { program := "ytaeojcaidcjnaaa", sum := "bcf07aec060cdee23471ea05ba97b08a97142357acbbc348a06b41d930c3cc93", func := "semigroup/semigrouplaw13.RewriteSettles", spec := "rewriteSettles", inPlace := ["internal/bytealg.abigen_runtime_cmpstring", "internal/bytealg.IndexByteString", "internal/bytealg.IndexString"], named := ["internal/bytealg.MaxLen"], plainKeys := false, apart := false, narrowed := true }
def RewriteSettlesUptoSaid : Prop := rewriteSettlesUptoRow.holds Try.pinned (OpenSpec.upto rewriteSettlesSpec)

/-- 'semigrouplaw13.RewriteIrreducible', WHERE WHAT IT READS IS OF BULK AT MOST 1048576: true; the input reads as it did. -/
def rewriteIrreducibleUptoRow : OpenClaim := { program := "ytaeojcaidcjnaaa", sum := "bcf07aec060cdee23471ea05ba97b08a97142357acbbc348a06b41d930c3cc93", func := "semigroup/semigrouplaw13.RewriteIrreducible", spec := "rewriteIrreducible", inPlace := ["internal/bytealg.abigen_runtime_cmpstring"], unfollowed := true, recurses := true, plainKeys := false, apart := false, narrowed := true }
def RewriteIrreducibleUptoSaid : Prop := rewriteIrreducibleUptoRow.holds Try.pinned (OpenSpec.upto rewriteIrreducibleSpec)

/-- 'semigrouplaw13.RewritePairs', WHERE WHAT IT READS IS OF BULK AT MOST 1048576: true; the input reads as it did. -/
def rewritePairsUptoRow : OpenClaim := { program := "ytaeojcaidcjnaaa", sum := "bcf07aec060cdee23471ea05ba97b08a97142357acbbc348a06b41d930c3cc93", func := "semigroup/semigrouplaw13.RewritePairs", spec := "rewritePairs", inPlace := ["internal/bytealg.abigen_runtime_cmpstring", "internal/bytealg.IndexByteString", "internal/bytealg.IndexString"], unfollowed := true, recurses := true, named := ["internal/bytealg.MaxLen"], plainKeys := false, apart := false, narrowed := true }
def RewritePairsUptoSaid : Prop := rewritePairsUptoRow.holds Try.pinned (OpenSpec.upto rewritePairsSpec)

/-- 'semigrouplaw13.RewriteConfluent', WHERE WHAT IT READS IS OF BULK AT MOST 1048576: true; the input reads as it did. -/
def rewriteConfluentUptoRow : OpenClaim := { program := "ytaeojcaidcjnaaa", sum := "bcf07aec060cdee23471ea05ba97b08a97142357acbbc348a06b41d930c3cc93", func := "semigroup/semigrouplaw13.RewriteConfluent", spec := "rewriteConfluent", inPlace := ["internal/bytealg.abigen_runtime_cmpstring", "internal/bytealg.IndexByteString", "internal/bytealg.IndexString"], unfollowed := true, recurses := true, named := ["internal/bytealg.MaxLen"], plainKeys := false, apart := false, narrowed := true }
def RewriteConfluentUptoSaid : Prop := rewriteConfluentUptoRow.holds Try.pinned (OpenSpec.upto rewriteConfluentSpec)

/-- 'semigrouplaw13.RewriteUnique', WHERE WHAT IT READS IS OF BULK AT MOST 1048576: true; the input reads as it did. -/
def rewriteUniqueUptoRow : OpenClaim := { program := "ytaeojcaidcjnaaa", sum := "bcf07aec060cdee23471ea05ba97b08a97142357acbbc348a06b41d930c3cc93", func := "semigroup/semigrouplaw13.RewriteUnique", spec := "rewriteUnique", inPlace := ["internal/bytealg.abigen_runtime_cmpstring", "internal/bytealg.IndexByteString", "internal/bytealg.IndexString"], unfollowed := true, recurses := true, named := ["internal/bytealg.MaxLen"], plainKeys := false, apart := false, narrowed := true }
def RewriteUniqueUptoSaid : Prop := rewriteUniqueUptoRow.holds Try.pinned (OpenSpec.upto rewriteUniqueSpec)

/-- 'semigrouplaw13.RewriteParts', WHERE WHAT IT READS IS OF BULK AT MOST 1048576: true; the input reads as it did. -/
def rewritePartsUptoRow : OpenClaim := { program := "ytaeojcaidcjnaaa", sum := "bcf07aec060cdee23471ea05ba97b08a97142357acbbc348a06b41d930c3cc93", func := "semigroup/semigrouplaw13.RewriteParts", spec := "rewriteParts", inPlace := ["internal/bytealg.abigen_runtime_cmpstring", "internal/bytealg.IndexByteString", "internal/bytealg.IndexString"], unfollowed := true, recurses := true, named := ["internal/bytealg.MaxLen"], plainKeys := false, apart := false, narrowed := true }
def RewritePartsUptoSaid : Prop := rewritePartsUptoRow.holds Try.pinned (OpenSpec.upto rewritePartsSpec)

/-- 'semigrouplaw13.RewriteAccepts', WHERE WHAT IT READS IS OF BULK AT MOST 1048576: true; the input reads as it did. -/
def rewriteAcceptsUptoRow : OpenClaim := { program := "ytaeojcaidcjnaaa", sum := "bcf07aec060cdee23471ea05ba97b08a97142357acbbc348a06b41d930c3cc93", func := "semigroup/semigrouplaw13.RewriteAccepts", spec := "rewriteAccepts", inPlace := ["internal/bytealg.abigen_runtime_cmpstring", "internal/bytealg.IndexByteString", "internal/bytealg.IndexString"], unfollowed := true, recurses := true, named := ["internal/bytealg.MaxLen"], plainKeys := false, apart := false, narrowed := true }
def RewriteAcceptsUptoSaid : Prop := rewriteAcceptsUptoRow.holds Try.pinned (OpenSpec.upto rewriteAcceptsSpec)

/-- 'semigrouplaw13.RewriteTables', WHERE WHAT IT READS IS OF BULK AT MOST 1048576: true; the input reads as it did. -/
def rewriteTablesUptoRow : OpenClaim := { program := "ytaeojcaidcjnaaa", sum := "bcf07aec060cdee23471ea05ba97b08a97142357acbbc348a06b41d930c3cc93", func := "semigroup/semigrouplaw13.RewriteTables", spec := "rewriteTables", inPlace := ["internal/bytealg.abigen_runtime_cmpstring", "internal/bytealg.IndexByteString", "internal/bytealg.IndexString"], unfollowed := true, recurses := true, named := ["internal/bytealg.MaxLen"], plainKeys := false, apart := false, narrowed := true }
def RewriteTablesUptoSaid : Prop := rewriteTablesUptoRow.holds Try.pinned (OpenSpec.upto rewriteTablesSpec)

end Rows
end Go.Proofs.Ytaeojcaidcjnaaa
