/-
  No cell of these rows narrows 'for every input' (looked for: loops, veiled, ifaces, maps, wideKeys, modest, calm, conditions, laid).
  DERIVED. THE GIVEN ROWS OF THIS SEAT. 12 by the template 'for every input the law returns true; each argument reads behind the call as it read before'; 0 by the template 'total and deterministic' (their statements: YtmfakjfkjoichaaTotals.lean).
  GIVEN WITH THE SEED: the statements are not yours to turn. If you find one false, say at which input.
  Laid BY PROGRAM, IN A SANDBOX (cutbox-rows.mjs): the forced cells as the released guide's own fill.sh prints them over the translation ae525d9ec6912367… (all of the seat's roots in one cut). By AI agents, Wed Nov 11 2026. No macro, syntax, notation, axiom, sorry.
-/
import Derived.Test.YtmfakjfkjoichaaChecked
import GoSem.Claim
import GoSem.ClaimJoined
import GoSem.ClaimMapViews
import Derived.JoinedTies
import Derived.KernelRfl
namespace Go.Proofs.Ytmfakjfkjoichaa
/- THE CELL 'sum', in the pinned program and in every row, IS THE sha256 OF THE DUMP (.gsa) THAT YtmfakjfkjoichaaProg.lean LOADS. Nothing in Lean hashes anything: it is a label: what it is worth is what the hold of that sum in a sandbox is worth. -/
noncomputable def Try.pinned : Pinned := { name := "ytmfakjfkjoichaa", sum := "ae525d9ec6912367c0c6c0d9d8cca2807a44222acc81091ce206cf086a9ab042", checked := Try.checked }
namespace Rows
def none {H : Type} : Left H := { results := [], args := [] }

/-- 'semigrouplaw07.DfaValidates': WHATEVER THE INPUT: true; the input reads as it did. -/
def dfaValidatesSpec : ChangeSpec := { name := "dfaValidates", fn := fun _ => fun
  | [d] => { results := [.lit (.bool true)], args := [d] }
  | _ => none }
def dfaValidatesRow : OpenClaim := { program := "ytmfakjfkjoichaa", sum := "ae525d9ec6912367c0c6c0d9d8cca2807a44222acc81091ce206cf086a9ab042", func := "semigroup/semigrouplaw07.DfaValidates", spec := "dfaValidates", recurses := true, plainKeys := false, apart := false }
def DfaValidatesSaid : Prop := dfaValidatesRow.holds Try.pinned (OpenSpec.ofChange dfaValidatesSpec)

/-- ITS FALSE NEIGHBOUR: 'it returns false'. Refute it at one input. -/
def dfaValidatesWrong : ChangeSpec := { name := "dfaValidates", fn := fun _ => fun
  | [d] => { results := [.lit (.bool false)], args := [d] }
  | _ => none }
def DfaValidatesWrongFalsely : Prop := dfaValidatesRow.holds Try.pinned (OpenSpec.ofChange dfaValidatesWrong)

/-- 'semigrouplaw07.DfaLists': WHATEVER THE INPUT: true; the input reads as it did. -/
def dfaListsSpec : ChangeSpec := { name := "dfaLists", fn := fun _ => fun
  | [d1, d2] => { results := [.lit (.bool true)], args := [d1, d2] }
  | _ => none }
def dfaListsRow : OpenClaim := { program := "ytmfakjfkjoichaa", sum := "ae525d9ec6912367c0c6c0d9d8cca2807a44222acc81091ce206cf086a9ab042", func := "semigroup/semigrouplaw07.DfaLists", spec := "dfaLists", recurses := true, plainKeys := false, apart := false }
def DfaListsSaid : Prop := dfaListsRow.holds Try.pinned (OpenSpec.ofChange dfaListsSpec)

/-- ITS FALSE NEIGHBOUR: 'it returns false'. Refute it at one input. -/
def dfaListsWrong : ChangeSpec := { name := "dfaLists", fn := fun _ => fun
  | [d1, d2] => { results := [.lit (.bool false)], args := [d1, d2] }
  | _ => none }
def DfaListsWrongFalsely : Prop := dfaListsRow.holds Try.pinned (OpenSpec.ofChange dfaListsWrong)

/-- 'semigrouplaw07.DfaCounts': WHATEVER THE INPUT: true; the input reads as it did. -/
def dfaCountsSpec : ChangeSpec := { name := "dfaCounts", fn := fun _ => fun
  | [d1, d2] => { results := [.lit (.bool true)], args := [d1, d2] }
  | _ => none }
def dfaCountsRow : OpenClaim := { program := "ytmfakjfkjoichaa", sum := "ae525d9ec6912367c0c6c0d9d8cca2807a44222acc81091ce206cf086a9ab042", func := "semigroup/semigrouplaw07.DfaCounts", spec := "dfaCounts", recurses := true, plainKeys := false, apart := false }
def DfaCountsSaid : Prop := dfaCountsRow.holds Try.pinned (OpenSpec.ofChange dfaCountsSpec)

/-- ITS FALSE NEIGHBOUR: 'it returns false'. Refute it at one input. -/
def dfaCountsWrong : ChangeSpec := { name := "dfaCounts", fn := fun _ => fun
  | [d1, d2] => { results := [.lit (.bool false)], args := [d1, d2] }
  | _ => none }
def DfaCountsWrongFalsely : Prop := dfaCountsRow.holds Try.pinned (OpenSpec.ofChange dfaCountsWrong)

/-- 'semigrouplaw07.DfaRuns': WHATEVER THE INPUT: true; the input reads as it did. -/
def dfaRunsSpec : ChangeSpec := { name := "dfaRuns", fn := fun _ => fun
  | [d1, d2, d3] => { results := [.lit (.bool true)], args := [d1, d2, d3] }
  | _ => none }
def dfaRunsRow : OpenClaim := { program := "ytmfakjfkjoichaa", sum := "ae525d9ec6912367c0c6c0d9d8cca2807a44222acc81091ce206cf086a9ab042", func := "semigroup/semigrouplaw07.DfaRuns", spec := "dfaRuns", recurses := true, plainKeys := false, apart := false }
def DfaRunsSaid : Prop := dfaRunsRow.holds Try.pinned (OpenSpec.ofChange dfaRunsSpec)

/-- ITS FALSE NEIGHBOUR: 'it returns false'. Refute it at one input. -/
def dfaRunsWrong : ChangeSpec := { name := "dfaRuns", fn := fun _ => fun
  | [d1, d2, d3] => { results := [.lit (.bool false)], args := [d1, d2, d3] }
  | _ => none }
def DfaRunsWrongFalsely : Prop := dfaRunsRow.holds Try.pinned (OpenSpec.ofChange dfaRunsWrong)

/-- 'semigrouplaw07.DfaInfinite': WHATEVER THE INPUT: true; the input reads as it did. -/
def dfaInfiniteSpec : ChangeSpec := { name := "dfaInfinite", fn := fun _ => fun
  | [d] => { results := [.lit (.bool true)], args := [d] }
  | _ => none }
def dfaInfiniteRow : OpenClaim := { program := "ytmfakjfkjoichaa", sum := "ae525d9ec6912367c0c6c0d9d8cca2807a44222acc81091ce206cf086a9ab042", func := "semigroup/semigrouplaw07.DfaInfinite", spec := "dfaInfinite", recurses := true, plainKeys := false, apart := false }
def DfaInfiniteSaid : Prop := dfaInfiniteRow.holds Try.pinned (OpenSpec.ofChange dfaInfiniteSpec)

/-- ITS FALSE NEIGHBOUR: 'it returns false'. Refute it at one input. -/
def dfaInfiniteWrong : ChangeSpec := { name := "dfaInfinite", fn := fun _ => fun
  | [d] => { results := [.lit (.bool false)], args := [d] }
  | _ => none }
def DfaInfiniteWrongFalsely : Prop := dfaInfiniteRow.holds Try.pinned (OpenSpec.ofChange dfaInfiniteWrong)

/-- 'semigrouplaw07.DfaTrims': WHATEVER THE INPUT: true; the input reads as it did. -/
def dfaTrimsSpec : ChangeSpec := { name := "dfaTrims", fn := fun _ => fun
  | [d] => { results := [.lit (.bool true)], args := [d] }
  | _ => none }
def dfaTrimsRow : OpenClaim := { program := "ytmfakjfkjoichaa", sum := "ae525d9ec6912367c0c6c0d9d8cca2807a44222acc81091ce206cf086a9ab042", func := "semigroup/semigrouplaw07.DfaTrims", spec := "dfaTrims", unfollowed := true, recurses := true, plainKeys := false, apart := false }
def DfaTrimsSaid : Prop := dfaTrimsRow.holds Try.pinned (OpenSpec.ofChange dfaTrimsSpec)

/-- ITS FALSE NEIGHBOUR: 'it returns false'. Refute it at one input. -/
def dfaTrimsWrong : ChangeSpec := { name := "dfaTrims", fn := fun _ => fun
  | [d] => { results := [.lit (.bool false)], args := [d] }
  | _ => none }
def DfaTrimsWrongFalsely : Prop := dfaTrimsRow.holds Try.pinned (OpenSpec.ofChange dfaTrimsWrong)

/-- 'semigrouplaw07.DfaEnumerates': WHATEVER THE INPUT: true; the input reads as it did. -/
def dfaEnumeratesSpec : ChangeSpec := { name := "dfaEnumerates", fn := fun _ => fun
  | [d1, d2] => { results := [.lit (.bool true)], args := [d1, d2] }
  | _ => none }
def dfaEnumeratesRow : OpenClaim := { program := "ytmfakjfkjoichaa", sum := "ae525d9ec6912367c0c6c0d9d8cca2807a44222acc81091ce206cf086a9ab042", func := "semigroup/semigrouplaw07.DfaEnumerates", spec := "dfaEnumerates", recurses := true, plainKeys := false, apart := false }
def DfaEnumeratesSaid : Prop := dfaEnumeratesRow.holds Try.pinned (OpenSpec.ofChange dfaEnumeratesSpec)

/-- ITS FALSE NEIGHBOUR: 'it returns false'. Refute it at one input. -/
def dfaEnumeratesWrong : ChangeSpec := { name := "dfaEnumerates", fn := fun _ => fun
  | [d1, d2] => { results := [.lit (.bool false)], args := [d1, d2] }
  | _ => none }
def DfaEnumeratesWrongFalsely : Prop := dfaEnumeratesRow.holds Try.pinned (OpenSpec.ofChange dfaEnumeratesWrong)

/-- 'semigrouplaw07.DfaProducts': WHATEVER THE INPUT: true; the input reads as it did. -/
def dfaProductsSpec : ChangeSpec := { name := "dfaProducts", fn := fun _ => fun
  | [d1, d2, d3] => { results := [.lit (.bool true)], args := [d1, d2, d3] }
  | _ => none }
def dfaProductsRow : OpenClaim := { program := "ytmfakjfkjoichaa", sum := "ae525d9ec6912367c0c6c0d9d8cca2807a44222acc81091ce206cf086a9ab042", func := "semigroup/semigrouplaw07.DfaProducts", spec := "dfaProducts", unfollowed := true, recurses := true, plainKeys := false, apart := false }
def DfaProductsSaid : Prop := dfaProductsRow.holds Try.pinned (OpenSpec.ofChange dfaProductsSpec)

/-- ITS FALSE NEIGHBOUR: 'it returns false'. Refute it at one input. -/
def dfaProductsWrong : ChangeSpec := { name := "dfaProducts", fn := fun _ => fun
  | [d1, d2, d3] => { results := [.lit (.bool false)], args := [d1, d2, d3] }
  | _ => none }
def DfaProductsWrongFalsely : Prop := dfaProductsRow.holds Try.pinned (OpenSpec.ofChange dfaProductsWrong)

/-- 'semigrouplaw07.DfaReaches': WHATEVER THE INPUT: true; the input reads as it did. -/
def dfaReachesSpec : ChangeSpec := { name := "dfaReaches", fn := fun _ => fun
  | [d1, d2] => { results := [.lit (.bool true)], args := [d1, d2] }
  | _ => none }
def dfaReachesRow : OpenClaim := { program := "ytmfakjfkjoichaa", sum := "ae525d9ec6912367c0c6c0d9d8cca2807a44222acc81091ce206cf086a9ab042", func := "semigroup/semigrouplaw07.DfaReaches", spec := "dfaReaches", unfollowed := true, recurses := true, plainKeys := false, apart := false }
def DfaReachesSaid : Prop := dfaReachesRow.holds Try.pinned (OpenSpec.ofChange dfaReachesSpec)

/-- ITS FALSE NEIGHBOUR: 'it returns false'. Refute it at one input. -/
def dfaReachesWrong : ChangeSpec := { name := "dfaReaches", fn := fun _ => fun
  | [d1, d2] => { results := [.lit (.bool false)], args := [d1, d2] }
  | _ => none }
def DfaReachesWrongFalsely : Prop := dfaReachesRow.holds Try.pinned (OpenSpec.ofChange dfaReachesWrong)

/-- 'semigrouplaw07.DfaShortest': WHATEVER THE INPUT: true; the input reads as it did. -/
def dfaShortestSpec : ChangeSpec := { name := "dfaShortest", fn := fun _ => fun
  | [d1, d2] => { results := [.lit (.bool true)], args := [d1, d2] }
  | _ => none }
def dfaShortestRow : OpenClaim := { program := "ytmfakjfkjoichaa", sum := "ae525d9ec6912367c0c6c0d9d8cca2807a44222acc81091ce206cf086a9ab042", func := "semigroup/semigrouplaw07.DfaShortest", spec := "dfaShortest", unfollowed := true, recurses := true, plainKeys := false, apart := false }
def DfaShortestSaid : Prop := dfaShortestRow.holds Try.pinned (OpenSpec.ofChange dfaShortestSpec)

/-- ITS FALSE NEIGHBOUR: 'it returns false'. Refute it at one input. -/
def dfaShortestWrong : ChangeSpec := { name := "dfaShortest", fn := fun _ => fun
  | [d1, d2] => { results := [.lit (.bool false)], args := [d1, d2] }
  | _ => none }
def DfaShortestWrongFalsely : Prop := dfaShortestRow.holds Try.pinned (OpenSpec.ofChange dfaShortestWrong)

/-- 'semigrouplaw07.DfaPartitions': WHATEVER THE INPUT: true; the input reads as it did. -/
def dfaPartitionsSpec : ChangeSpec := { name := "dfaPartitions", fn := fun _ => fun
  | [d1, d2, d3] => { results := [.lit (.bool true)], args := [d1, d2, d3] }
  | _ => none }
def dfaPartitionsRow : OpenClaim := { program := "ytmfakjfkjoichaa", sum := "ae525d9ec6912367c0c6c0d9d8cca2807a44222acc81091ce206cf086a9ab042", func := "semigroup/semigrouplaw07.DfaPartitions", spec := "dfaPartitions", unfollowed := true, recurses := true, plainKeys := false, apart := false }
def DfaPartitionsSaid : Prop := dfaPartitionsRow.holds Try.pinned (OpenSpec.ofChange dfaPartitionsSpec)

/-- ITS FALSE NEIGHBOUR: 'it returns false'. Refute it at one input. -/
def dfaPartitionsWrong : ChangeSpec := { name := "dfaPartitions", fn := fun _ => fun
  | [d1, d2, d3] => { results := [.lit (.bool false)], args := [d1, d2, d3] }
  | _ => none }
def DfaPartitionsWrongFalsely : Prop := dfaPartitionsRow.holds Try.pinned (OpenSpec.ofChange dfaPartitionsWrong)

/-- 'semigrouplaw07.DfaCombines': WHATEVER THE INPUT: true; the input reads as it did. -/
def dfaCombinesSpec : ChangeSpec := { name := "dfaCombines", fn := fun _ => fun
  | [d1, d2, d3, d4] => { results := [.lit (.bool true)], args := [d1, d2, d3, d4] }
  | _ => none }
def dfaCombinesRow : OpenClaim := { program := "ytmfakjfkjoichaa", sum := "ae525d9ec6912367c0c6c0d9d8cca2807a44222acc81091ce206cf086a9ab042", func := "semigroup/semigrouplaw07.DfaCombines", spec := "dfaCombines", unfollowed := true, recurses := true, plainKeys := false, apart := false }
def DfaCombinesSaid : Prop := dfaCombinesRow.holds Try.pinned (OpenSpec.ofChange dfaCombinesSpec)

/-- ITS FALSE NEIGHBOUR: 'it returns false'. Refute it at one input. -/
def dfaCombinesWrong : ChangeSpec := { name := "dfaCombines", fn := fun _ => fun
  | [d1, d2, d3, d4] => { results := [.lit (.bool false)], args := [d1, d2, d3, d4] }
  | _ => none }
def DfaCombinesWrongFalsely : Prop := dfaCombinesRow.holds Try.pinned (OpenSpec.ofChange dfaCombinesWrong)

/- THE SECOND FORM. 'bulk': how many values and letters a reading holds, each counted each time it is reached (what is shared counts as often as it is met; a slice's spare places count too). A statement '..UptoSaid' is the law's where the arguments, and the package variables that the reading takes, are together of bulk at most 1048576: NARROWER than '..Said'. Prove '..Said' where nothing that the law and all that it calls make is longer than what came in: it says more and counts as full. Else prove '..UptoSaid'. A law counts once. -/
mutual
def uptoBulk {H : Type} : DataW H → Nat
  | .lit (.string bytes) => bytes.length + 1
  | .lit _ => 1
  | .nil => 1
  | .ptr d => uptoBulk d + 1
  | .slice elems spare => uptoBulkAll elems + uptoBulkAll spare + 1
  | .agg parts => uptoBulkAll parts + 1
  | .iface _ d => uptoBulk d + 1
  | .map entries => uptoBulkEntries entries + 1
  | .held _ => 1
def uptoBulkAll {H : Type} : List (DataW H) → Nat
  | [] => 0
  | d :: r => uptoBulk d + uptoBulkAll r
def uptoBulkEntries {H : Type} : List (Lit × DataW H) → Nat
  | [] => 0
  | x :: r => uptoBulkEntry x + uptoBulkEntries r
def uptoBulkEntry {H : Type} : Lit × DataW H → Nat
  | (.string bytes, d) => bytes.length + uptoBulk d + 1
  | (_, d) => uptoBulk d + 1
 end
def uptoSmall : (H : Type) → List (DataW H) → Bool := fun _ ds => decide (uptoBulkAll ds ≤ 1048576)
def OpenSpec.upto (s : _root_.Go.ChangeSpec) : _root_.Go.OpenSpec := { _root_.Go.OpenSpec.ofChange s with cond := some uptoSmall }

/-- 'semigrouplaw07.DfaValidates', WHERE WHAT IT READS IS OF BULK AT MOST 1048576: true; the input reads as it did. -/
def dfaValidatesUptoRow : OpenClaim := { program := "ytmfakjfkjoichaa", sum := "ae525d9ec6912367c0c6c0d9d8cca2807a44222acc81091ce206cf086a9ab042", func := "semigroup/semigrouplaw07.DfaValidates", spec := "dfaValidates", recurses := true, plainKeys := false, apart := false, narrowed := true }
def DfaValidatesUptoSaid : Prop := dfaValidatesUptoRow.holds Try.pinned (OpenSpec.upto dfaValidatesSpec)

/-- 'semigrouplaw07.DfaLists', WHERE WHAT IT READS IS OF BULK AT MOST 1048576: true; the input reads as it did. -/
def dfaListsUptoRow : OpenClaim := { program := "ytmfakjfkjoichaa", sum := "ae525d9ec6912367c0c6c0d9d8cca2807a44222acc81091ce206cf086a9ab042", func := "semigroup/semigrouplaw07.DfaLists", spec := "dfaLists", recurses := true, plainKeys := false, apart := false, narrowed := true }
def DfaListsUptoSaid : Prop := dfaListsUptoRow.holds Try.pinned (OpenSpec.upto dfaListsSpec)

/-- 'semigrouplaw07.DfaCounts', WHERE WHAT IT READS IS OF BULK AT MOST 1048576: true; the input reads as it did. -/
def dfaCountsUptoRow : OpenClaim := { program := "ytmfakjfkjoichaa", sum := "ae525d9ec6912367c0c6c0d9d8cca2807a44222acc81091ce206cf086a9ab042", func := "semigroup/semigrouplaw07.DfaCounts", spec := "dfaCounts", recurses := true, plainKeys := false, apart := false, narrowed := true }
def DfaCountsUptoSaid : Prop := dfaCountsUptoRow.holds Try.pinned (OpenSpec.upto dfaCountsSpec)

/-- 'semigrouplaw07.DfaRuns', WHERE WHAT IT READS IS OF BULK AT MOST 1048576: true; the input reads as it did. -/
def dfaRunsUptoRow : OpenClaim := { program := "ytmfakjfkjoichaa", sum := "ae525d9ec6912367c0c6c0d9d8cca2807a44222acc81091ce206cf086a9ab042", func := "semigroup/semigrouplaw07.DfaRuns", spec := "dfaRuns", recurses := true, plainKeys := false, apart := false, narrowed := true }
def DfaRunsUptoSaid : Prop := dfaRunsUptoRow.holds Try.pinned (OpenSpec.upto dfaRunsSpec)

/-- 'semigrouplaw07.DfaInfinite', WHERE WHAT IT READS IS OF BULK AT MOST 1048576: true; the input reads as it did. -/
def dfaInfiniteUptoRow : OpenClaim := { program := "ytmfakjfkjoichaa", sum := "ae525d9ec6912367c0c6c0d9d8cca2807a44222acc81091ce206cf086a9ab042", func := "semigroup/semigrouplaw07.DfaInfinite", spec := "dfaInfinite", recurses := true, plainKeys := false, apart := false, narrowed := true }
def DfaInfiniteUptoSaid : Prop := dfaInfiniteUptoRow.holds Try.pinned (OpenSpec.upto dfaInfiniteSpec)

/-- 'semigrouplaw07.DfaTrims', WHERE WHAT IT READS IS OF BULK AT MOST 1048576: true; the input reads as it did. -/
def dfaTrimsUptoRow : OpenClaim := { program := "ytmfakjfkjoichaa", sum := "ae525d9ec6912367c0c6c0d9d8cca2807a44222acc81091ce206cf086a9ab042", func := "semigroup/semigrouplaw07.DfaTrims", spec := "dfaTrims", unfollowed := true, recurses := true, plainKeys := false, apart := false, narrowed := true }
def DfaTrimsUptoSaid : Prop := dfaTrimsUptoRow.holds Try.pinned (OpenSpec.upto dfaTrimsSpec)

/-- 'semigrouplaw07.DfaEnumerates', WHERE WHAT IT READS IS OF BULK AT MOST 1048576: true; the input reads as it did. -/
def dfaEnumeratesUptoRow : OpenClaim := { program := "ytmfakjfkjoichaa", sum := "ae525d9ec6912367c0c6c0d9d8cca2807a44222acc81091ce206cf086a9ab042", func := "semigroup/semigrouplaw07.DfaEnumerates", spec := "dfaEnumerates", recurses := true, plainKeys := false, apart := false, narrowed := true }
def DfaEnumeratesUptoSaid : Prop := dfaEnumeratesUptoRow.holds Try.pinned (OpenSpec.upto dfaEnumeratesSpec)

/-- 'semigrouplaw07.DfaProducts', WHERE WHAT IT READS IS OF BULK AT MOST 1048576: true; the input reads as it did. -/
def dfaProductsUptoRow : OpenClaim := { program := "ytmfakjfkjoichaa", sum := "ae525d9ec6912367c0c6c0d9d8cca2807a44222acc81091ce206cf086a9ab042", func := "semigroup/semigrouplaw07.DfaProducts", spec := "dfaProducts", unfollowed := true, recurses := true, plainKeys := false, apart := false, narrowed := true }
def DfaProductsUptoSaid : Prop := dfaProductsUptoRow.holds Try.pinned (OpenSpec.upto dfaProductsSpec)

/-- 'semigrouplaw07.DfaReaches', WHERE WHAT IT READS IS OF BULK AT MOST 1048576: true; the input reads as it did. -/
def dfaReachesUptoRow : OpenClaim := { program := "ytmfakjfkjoichaa", sum := "ae525d9ec6912367c0c6c0d9d8cca2807a44222acc81091ce206cf086a9ab042", func := "semigroup/semigrouplaw07.DfaReaches", spec := "dfaReaches", unfollowed := true, recurses := true, plainKeys := false, apart := false, narrowed := true }
def DfaReachesUptoSaid : Prop := dfaReachesUptoRow.holds Try.pinned (OpenSpec.upto dfaReachesSpec)

/-- 'semigrouplaw07.DfaShortest', WHERE WHAT IT READS IS OF BULK AT MOST 1048576: true; the input reads as it did. -/
def dfaShortestUptoRow : OpenClaim := { program := "ytmfakjfkjoichaa", sum := "ae525d9ec6912367c0c6c0d9d8cca2807a44222acc81091ce206cf086a9ab042", func := "semigroup/semigrouplaw07.DfaShortest", spec := "dfaShortest", unfollowed := true, recurses := true, plainKeys := false, apart := false, narrowed := true }
def DfaShortestUptoSaid : Prop := dfaShortestUptoRow.holds Try.pinned (OpenSpec.upto dfaShortestSpec)

/-- 'semigrouplaw07.DfaPartitions', WHERE WHAT IT READS IS OF BULK AT MOST 1048576: true; the input reads as it did. -/
def dfaPartitionsUptoRow : OpenClaim := { program := "ytmfakjfkjoichaa", sum := "ae525d9ec6912367c0c6c0d9d8cca2807a44222acc81091ce206cf086a9ab042", func := "semigroup/semigrouplaw07.DfaPartitions", spec := "dfaPartitions", unfollowed := true, recurses := true, plainKeys := false, apart := false, narrowed := true }
def DfaPartitionsUptoSaid : Prop := dfaPartitionsUptoRow.holds Try.pinned (OpenSpec.upto dfaPartitionsSpec)

/-- 'semigrouplaw07.DfaCombines', WHERE WHAT IT READS IS OF BULK AT MOST 1048576: true; the input reads as it did. -/
def dfaCombinesUptoRow : OpenClaim := { program := "ytmfakjfkjoichaa", sum := "ae525d9ec6912367c0c6c0d9d8cca2807a44222acc81091ce206cf086a9ab042", func := "semigroup/semigrouplaw07.DfaCombines", spec := "dfaCombines", unfollowed := true, recurses := true, plainKeys := false, apart := false, narrowed := true }
def DfaCombinesUptoSaid : Prop := dfaCombinesUptoRow.holds Try.pinned (OpenSpec.upto dfaCombinesSpec)

end Rows
end Go.Proofs.Ytmfakjfkjoichaa
