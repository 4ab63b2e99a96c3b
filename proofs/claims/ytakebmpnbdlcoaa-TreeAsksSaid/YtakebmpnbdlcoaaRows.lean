/-
  No cell of these rows narrows 'for every input' (looked for: loops, veiled, ifaces, maps, wideKeys, modest, calm, conditions, laid).
  DERIVED. THE GIVEN ROWS OF THIS SEAT. 12 by the template 'for every input the law returns true; each argument reads behind the call as it read before'; 0 by the template 'total and deterministic' (their statements: YtakebmpnbdlcoaaTotals.lean).
  GIVEN WITH THE SEED: the statements are not yours to turn. If you find one false, say at which input.
  Laid BY PROGRAM, IN A SANDBOX (cutbox-rows.mjs): the forced cells as the released guide's own fill.sh prints them over the translation 4d1a73d4f28d9c54… (all of the seat's roots in one cut). By AI agents, Wed Nov 11 2026. No macro, syntax, notation, axiom, sorry.
-/
import Derived.Test.YtakebmpnbdlcoaaChecked
import GoSem.Claim
import GoSem.ClaimJoined
import GoSem.ClaimMapViews
import Derived.JoinedTies
import Derived.KernelRfl
namespace Go.Proofs.Ytakebmpnbdlcoaa
/- THE CELL 'sum', in the pinned program and in every row, IS THE sha256 OF THE DUMP (.gsa) THAT YtakebmpnbdlcoaaProg.lean LOADS. Nothing in Lean hashes anything: it is a label: what it is worth is what the hold of that sum in a sandbox is worth. -/
noncomputable def Try.pinned : Pinned := { name := "ytakebmpnbdlcoaa", sum := "4d1a73d4f28d9c54f5c4d94ebb214fe9cfef32bdf9b88ff8e4769dce704dde2b", checked := Try.checked }
namespace Rows
def none {H : Type} : Left H := { results := [], args := [] }

/-- 'capstanlaw7.TreeLeaves': WHATEVER THE INPUT: true; the input reads as it did. -/
def treeLeavesSpec : ChangeSpec := { name := "treeLeaves", fn := fun _ => fun
  | [d1, d2] => { results := [.lit (.bool true)], args := [d1, d2] }
  | _ => none }
def treeLeavesRow : OpenClaim := { program := "ytakebmpnbdlcoaa", sum := "4d1a73d4f28d9c54f5c4d94ebb214fe9cfef32bdf9b88ff8e4769dce704dde2b", func := "capstan/capstanlaw7.TreeLeaves", spec := "treeLeaves", plainKeys := false, apart := false }
def TreeLeavesSaid : Prop := treeLeavesRow.holds Try.pinned (OpenSpec.ofChange treeLeavesSpec)

/-- ITS FALSE NEIGHBOUR: 'it returns false'. Refute it at one input. -/
def treeLeavesWrong : ChangeSpec := { name := "treeLeaves", fn := fun _ => fun
  | [d1, d2] => { results := [.lit (.bool false)], args := [d1, d2] }
  | _ => none }
def TreeLeavesWrongFalsely : Prop := treeLeavesRow.holds Try.pinned (OpenSpec.ofChange treeLeavesWrong)

/-- 'capstanlaw7.TreeOrder': WHATEVER THE INPUT: true; the input reads as it did. -/
def treeOrderSpec : ChangeSpec := { name := "treeOrder", fn := fun _ => fun
  | [d1, d2, d3] => { results := [.lit (.bool true)], args := [d1, d2, d3] }
  | _ => none }
def treeOrderRow : OpenClaim := { program := "ytakebmpnbdlcoaa", sum := "4d1a73d4f28d9c54f5c4d94ebb214fe9cfef32bdf9b88ff8e4769dce704dde2b", func := "capstan/capstanlaw7.TreeOrder", spec := "treeOrder", plainKeys := false, apart := false }
def TreeOrderSaid : Prop := treeOrderRow.holds Try.pinned (OpenSpec.ofChange treeOrderSpec)

/-- ITS FALSE NEIGHBOUR: 'it returns false'. Refute it at one input. -/
def treeOrderWrong : ChangeSpec := { name := "treeOrder", fn := fun _ => fun
  | [d1, d2, d3] => { results := [.lit (.bool false)], args := [d1, d2, d3] }
  | _ => none }
def TreeOrderWrongFalsely : Prop := treeOrderRow.holds Try.pinned (OpenSpec.ofChange treeOrderWrong)

/-- 'capstanlaw7.TreeTwo': WHATEVER THE INPUT: true; the input reads as it did. -/
def treeTwoSpec : ChangeSpec := { name := "treeTwo", fn := fun _ => fun
  | [d1, d2, d3] => { results := [.lit (.bool true)], args := [d1, d2, d3] }
  | _ => none }
def treeTwoRow : OpenClaim := { program := "ytakebmpnbdlcoaa", sum := "4d1a73d4f28d9c54f5c4d94ebb214fe9cfef32bdf9b88ff8e4769dce704dde2b", func := "capstan/capstanlaw7.TreeTwo", spec := "treeTwo", plainKeys := false, apart := false }
def TreeTwoSaid : Prop := treeTwoRow.holds Try.pinned (OpenSpec.ofChange treeTwoSpec)

/-- ITS FALSE NEIGHBOUR: 'it returns false'. Refute it at one input. -/
def treeTwoWrong : ChangeSpec := { name := "treeTwo", fn := fun _ => fun
  | [d1, d2, d3] => { results := [.lit (.bool false)], args := [d1, d2, d3] }
  | _ => none }
def TreeTwoWrongFalsely : Prop := treeTwoRow.holds Try.pinned (OpenSpec.ofChange treeTwoWrong)

/-- 'capstanlaw7.TreeAsks': WHATEVER THE INPUT: true; the input reads as it did. -/
def treeAsksSpec : ChangeSpec := { name := "treeAsks", fn := fun _ => fun
  | [d1, d2, d3, d4] => { results := [.lit (.bool true)], args := [d1, d2, d3, d4] }
  | _ => none }
def treeAsksRow : OpenClaim := { program := "ytakebmpnbdlcoaa", sum := "4d1a73d4f28d9c54f5c4d94ebb214fe9cfef32bdf9b88ff8e4769dce704dde2b", func := "capstan/capstanlaw7.TreeAsks", spec := "treeAsks", plainKeys := false, apart := false }
def TreeAsksSaid : Prop := treeAsksRow.holds Try.pinned (OpenSpec.ofChange treeAsksSpec)

/-- ITS FALSE NEIGHBOUR: 'it returns false'. Refute it at one input. -/
def treeAsksWrong : ChangeSpec := { name := "treeAsks", fn := fun _ => fun
  | [d1, d2, d3, d4] => { results := [.lit (.bool false)], args := [d1, d2, d3, d4] }
  | _ => none }
def TreeAsksWrongFalsely : Prop := treeAsksRow.holds Try.pinned (OpenSpec.ofChange treeAsksWrong)

/-- 'capstanlaw7.TreeProves': WHATEVER THE INPUT: true; the input reads as it did. -/
def treeProvesSpec : ChangeSpec := { name := "treeProves", fn := fun _ => fun
  | [d1, d2, d3] => { results := [.lit (.bool true)], args := [d1, d2, d3] }
  | _ => none }
def treeProvesRow : OpenClaim := { program := "ytakebmpnbdlcoaa", sum := "4d1a73d4f28d9c54f5c4d94ebb214fe9cfef32bdf9b88ff8e4769dce704dde2b", func := "capstan/capstanlaw7.TreeProves", spec := "treeProves", plainKeys := false, apart := false }
def TreeProvesSaid : Prop := treeProvesRow.holds Try.pinned (OpenSpec.ofChange treeProvesSpec)

/-- ITS FALSE NEIGHBOUR: 'it returns false'. Refute it at one input. -/
def treeProvesWrong : ChangeSpec := { name := "treeProves", fn := fun _ => fun
  | [d1, d2, d3] => { results := [.lit (.bool false)], args := [d1, d2, d3] }
  | _ => none }
def TreeProvesWrongFalsely : Prop := treeProvesRow.holds Try.pinned (OpenSpec.ofChange treeProvesWrong)

/-- 'capstanlaw7.TreeOther': WHATEVER THE INPUT: true; the input reads as it did. -/
def treeOtherSpec : ChangeSpec := { name := "treeOther", fn := fun _ => fun
  | [d1, d2, d3, d4] => { results := [.lit (.bool true)], args := [d1, d2, d3, d4] }
  | _ => none }
def treeOtherRow : OpenClaim := { program := "ytakebmpnbdlcoaa", sum := "4d1a73d4f28d9c54f5c4d94ebb214fe9cfef32bdf9b88ff8e4769dce704dde2b", func := "capstan/capstanlaw7.TreeOther", spec := "treeOther", plainKeys := false, apart := false }
def TreeOtherSaid : Prop := treeOtherRow.holds Try.pinned (OpenSpec.ofChange treeOtherSpec)

/-- ITS FALSE NEIGHBOUR: 'it returns false'. Refute it at one input. -/
def treeOtherWrong : ChangeSpec := { name := "treeOther", fn := fun _ => fun
  | [d1, d2, d3, d4] => { results := [.lit (.bool false)], args := [d1, d2, d3, d4] }
  | _ => none }
def TreeOtherWrongFalsely : Prop := treeOtherRow.holds Try.pinned (OpenSpec.ofChange treeOtherWrong)

/-- 'capstanlaw7.TreePaths': WHATEVER THE INPUT: true; the input reads as it did. -/
def treePathsSpec : ChangeSpec := { name := "treePaths", fn := fun _ => fun
  | [d1, d2] => { results := [.lit (.bool true)], args := [d1, d2] }
  | _ => none }
def treePathsRow : OpenClaim := { program := "ytakebmpnbdlcoaa", sum := "4d1a73d4f28d9c54f5c4d94ebb214fe9cfef32bdf9b88ff8e4769dce704dde2b", func := "capstan/capstanlaw7.TreePaths", spec := "treePaths", plainKeys := false, apart := false }
def TreePathsSaid : Prop := treePathsRow.holds Try.pinned (OpenSpec.ofChange treePathsSpec)

/-- ITS FALSE NEIGHBOUR: 'it returns false'. Refute it at one input. -/
def treePathsWrong : ChangeSpec := { name := "treePaths", fn := fun _ => fun
  | [d1, d2] => { results := [.lit (.bool false)], args := [d1, d2] }
  | _ => none }
def TreePathsWrongFalsely : Prop := treePathsRow.holds Try.pinned (OpenSpec.ofChange treePathsWrong)

/-- 'capstanlaw12.TraceCommits': WHATEVER THE INPUT: true; the input reads as it did. -/
def traceCommitsSpec : ChangeSpec := { name := "traceCommits", fn := fun _ => fun
  | [d1, d2, d3, d4, d5] => { results := [.lit (.bool true)], args := [d1, d2, d3, d4, d5] }
  | _ => none }
def traceCommitsRow : OpenClaim := { program := "ytakebmpnbdlcoaa", sum := "4d1a73d4f28d9c54f5c4d94ebb214fe9cfef32bdf9b88ff8e4769dce704dde2b", func := "capstan/capstanlaw12.TraceCommits", spec := "traceCommits", recurses := true, plainKeys := false, apart := false }
def TraceCommitsSaid : Prop := traceCommitsRow.holds Try.pinned (OpenSpec.ofChange traceCommitsSpec)

/-- ITS FALSE NEIGHBOUR: 'it returns false'. Refute it at one input. -/
def traceCommitsWrong : ChangeSpec := { name := "traceCommits", fn := fun _ => fun
  | [d1, d2, d3, d4, d5] => { results := [.lit (.bool false)], args := [d1, d2, d3, d4, d5] }
  | _ => none }
def TraceCommitsWrongFalsely : Prop := traceCommitsRow.holds Try.pinned (OpenSpec.ofChange traceCommitsWrong)

/-- 'capstanlaw12.TraceProves': WHATEVER THE INPUT: true; the input reads as it did. -/
def traceProvesSpec : ChangeSpec := { name := "traceProves", fn := fun _ => fun
  | [d1, d2, d3, d4] => { results := [.lit (.bool true)], args := [d1, d2, d3, d4] }
  | _ => none }
def traceProvesRow : OpenClaim := { program := "ytakebmpnbdlcoaa", sum := "4d1a73d4f28d9c54f5c4d94ebb214fe9cfef32bdf9b88ff8e4769dce704dde2b", func := "capstan/capstanlaw12.TraceProves", spec := "traceProves", recurses := true, plainKeys := false, apart := false }
def TraceProvesSaid : Prop := traceProvesRow.holds Try.pinned (OpenSpec.ofChange traceProvesSpec)

/-- ITS FALSE NEIGHBOUR: 'it returns false'. Refute it at one input. -/
def traceProvesWrong : ChangeSpec := { name := "traceProves", fn := fun _ => fun
  | [d1, d2, d3, d4] => { results := [.lit (.bool false)], args := [d1, d2, d3, d4] }
  | _ => none }
def TraceProvesWrongFalsely : Prop := traceProvesRow.holds Try.pinned (OpenSpec.ofChange traceProvesWrong)

/-- 'capstanlaw12.TraceGrows': WHATEVER THE INPUT: true; the input reads as it did. -/
def traceGrowsSpec : ChangeSpec := { name := "traceGrows", fn := fun _ => fun
  | [d1, d2] => { results := [.lit (.bool true)], args := [d1, d2] }
  | _ => none }
def traceGrowsRow : OpenClaim := { program := "ytakebmpnbdlcoaa", sum := "4d1a73d4f28d9c54f5c4d94ebb214fe9cfef32bdf9b88ff8e4769dce704dde2b", func := "capstan/capstanlaw12.TraceGrows", spec := "traceGrows", recurses := true, plainKeys := false, apart := false }
def TraceGrowsSaid : Prop := traceGrowsRow.holds Try.pinned (OpenSpec.ofChange traceGrowsSpec)

/-- ITS FALSE NEIGHBOUR: 'it returns false'. Refute it at one input. -/
def traceGrowsWrong : ChangeSpec := { name := "traceGrows", fn := fun _ => fun
  | [d1, d2] => { results := [.lit (.bool false)], args := [d1, d2] }
  | _ => none }
def TraceGrowsWrongFalsely : Prop := traceGrowsRow.holds Try.pinned (OpenSpec.ofChange traceGrowsWrong)

/-- 'capstanlaw12.TraceSwaps': WHATEVER THE INPUT: true; the input reads as it did. -/
def traceSwapsSpec : ChangeSpec := { name := "traceSwaps", fn := fun _ => fun
  | [d1, d2, d3] => { results := [.lit (.bool true)], args := [d1, d2, d3] }
  | _ => none }
def traceSwapsRow : OpenClaim := { program := "ytakebmpnbdlcoaa", sum := "4d1a73d4f28d9c54f5c4d94ebb214fe9cfef32bdf9b88ff8e4769dce704dde2b", func := "capstan/capstanlaw12.TraceSwaps", spec := "traceSwaps", recurses := true, plainKeys := false, apart := false }
def TraceSwapsSaid : Prop := traceSwapsRow.holds Try.pinned (OpenSpec.ofChange traceSwapsSpec)

/-- ITS FALSE NEIGHBOUR: 'it returns false'. Refute it at one input. -/
def traceSwapsWrong : ChangeSpec := { name := "traceSwaps", fn := fun _ => fun
  | [d1, d2, d3] => { results := [.lit (.bool false)], args := [d1, d2, d3] }
  | _ => none }
def TraceSwapsWrongFalsely : Prop := traceSwapsRow.holds Try.pinned (OpenSpec.ofChange traceSwapsWrong)

/-- 'capstanlaw12.TracePaths': WHATEVER THE INPUT: true; the input reads as it did. -/
def tracePathsSpec : ChangeSpec := { name := "tracePaths", fn := fun _ => fun
  | [d1, d2] => { results := [.lit (.bool true)], args := [d1, d2] }
  | _ => none }
def tracePathsRow : OpenClaim := { program := "ytakebmpnbdlcoaa", sum := "4d1a73d4f28d9c54f5c4d94ebb214fe9cfef32bdf9b88ff8e4769dce704dde2b", func := "capstan/capstanlaw12.TracePaths", spec := "tracePaths", recurses := true, plainKeys := false, apart := false }
def TracePathsSaid : Prop := tracePathsRow.holds Try.pinned (OpenSpec.ofChange tracePathsSpec)

/-- ITS FALSE NEIGHBOUR: 'it returns false'. Refute it at one input. -/
def tracePathsWrong : ChangeSpec := { name := "tracePaths", fn := fun _ => fun
  | [d1, d2] => { results := [.lit (.bool false)], args := [d1, d2] }
  | _ => none }
def TracePathsWrongFalsely : Prop := tracePathsRow.holds Try.pinned (OpenSpec.ofChange tracePathsWrong)

/- THE SECOND FORM. 'bulk': how many values and letters a reading holds, each counted each time it is reached (what is shared counts as often as it is met; a slice's spare places count too). A statement '..UptoSaid' is the law's where the arguments, and the package variables that the reading takes, are together of bulk at most 1048576: NARROWER than '..Said'. Prove '..Said' where nothing that the law and all that it calls make is longer than what came in: it says more and counts as full. Else prove '..UptoSaid'. A law counts once. -/
mutual
def uptoBulk {H : Type} : DataW H → Nat
  | .lit (.string bytes) => bytes.length + 1
  | .lit _ => 1
  | .nil => 1
  | .ptr d => uptoBulk d + 1
  | .slice elems spare => uptoBulkAll elems + uptoBulkAll spare + 1
  | .agg parts => uptoBulkAll parts + 1
  | .iface _ d => uptoBulk d + 1
  | .map entries => uptoBulkEntries entries + 1
  | .held _ => 1
def uptoBulkAll {H : Type} : List (DataW H) → Nat
  | [] => 0
  | d :: r => uptoBulk d + uptoBulkAll r
def uptoBulkEntries {H : Type} : List (Lit × DataW H) → Nat
  | [] => 0
  | x :: r => uptoBulkEntry x + uptoBulkEntries r
def uptoBulkEntry {H : Type} : Lit × DataW H → Nat
  | (.string bytes, d) => bytes.length + uptoBulk d + 1
  | (_, d) => uptoBulk d + 1
 end
def uptoSmall : (H : Type) → List (DataW H) → Bool := fun _ ds => decide (uptoBulkAll ds ≤ 1048576)
def OpenSpec.upto (s : _root_.Go.ChangeSpec) : _root_.Go.OpenSpec := { _root_.Go.OpenSpec.ofChange s with cond := some uptoSmall }

/-- 'capstanlaw7.TreeLeaves', WHERE WHAT IT READS IS OF BULK AT MOST 1048576: true; the input reads as it did. -/
def treeLeavesUptoRow : OpenClaim := { program := "ytakebmpnbdlcoaa", sum := "4d1a73d4f28d9c54f5c4d94ebb214fe9cfef32bdf9b88ff8e4769dce704dde2b", func := "capstan/capstanlaw7.TreeLeaves", spec := "treeLeaves", plainKeys := false, apart := false, narrowed := true }
def TreeLeavesUptoSaid : Prop := treeLeavesUptoRow.holds Try.pinned (OpenSpec.upto treeLeavesSpec)

/-- 'capstanlaw7.TreeOrder', WHERE WHAT IT READS IS OF BULK AT MOST 1048576: true; the input reads as it did. -/
def treeOrderUptoRow : OpenClaim := { program := "ytakebmpnbdlcoaa", sum := "4d1a73d4f28d9c54f5c4d94ebb214fe9cfef32bdf9b88ff8e4769dce704dde2b", func := "capstan/capstanlaw7.TreeOrder", spec := "treeOrder", plainKeys := false, apart := false, narrowed := true }
def TreeOrderUptoSaid : Prop := treeOrderUptoRow.holds Try.pinned (OpenSpec.upto treeOrderSpec)

/-- 'capstanlaw7.TreeTwo', WHERE WHAT IT READS IS OF BULK AT MOST 1048576: true; the input reads as it did. -/
def treeTwoUptoRow : OpenClaim := { program := "ytakebmpnbdlcoaa", sum := "4d1a73d4f28d9c54f5c4d94ebb214fe9cfef32bdf9b88ff8e4769dce704dde2b", func := "capstan/capstanlaw7.TreeTwo", spec := "treeTwo", plainKeys := false, apart := false, narrowed := true }
def TreeTwoUptoSaid : Prop := treeTwoUptoRow.holds Try.pinned (OpenSpec.upto treeTwoSpec)

/-- 'capstanlaw7.TreeAsks', WHERE WHAT IT READS IS OF BULK AT MOST 1048576: true; the input reads as it did. -/
def treeAsksUptoRow : OpenClaim := { program := "ytakebmpnbdlcoaa", sum := "4d1a73d4f28d9c54f5c4d94ebb214fe9cfef32bdf9b88ff8e4769dce704dde2b", func := "capstan/capstanlaw7.TreeAsks", spec := "treeAsks", plainKeys := false, apart := false, narrowed := true }
def TreeAsksUptoSaid : Prop := treeAsksUptoRow.holds Try.pinned (OpenSpec.upto treeAsksSpec)

/-- 'capstanlaw7.TreeProves', WHERE WHAT IT READS IS OF BULK AT MOST 1048576: true; the input reads as it did. -/
def treeProvesUptoRow : OpenClaim := { program := "ytakebmpnbdlcoaa", sum := "4d1a73d4f28d9c54f5c4d94ebb214fe9cfef32bdf9b88ff8e4769dce704dde2b", func := "capstan/capstanlaw7.TreeProves", spec := "treeProves", plainKeys := false, apart := false, narrowed := true }
def TreeProvesUptoSaid : Prop := treeProvesUptoRow.holds Try.pinned (OpenSpec.upto treeProvesSpec)

/-- 'capstanlaw7.TreeOther', WHERE WHAT IT READS IS OF BULK AT MOST 1048576: true; the input reads as it did. -/
def treeOtherUptoRow : OpenClaim := { program := "ytakebmpnbdlcoaa", sum := "4d1a73d4f28d9c54f5c4d94ebb214fe9cfef32bdf9b88ff8e4769dce704dde2b", func := "capstan/capstanlaw7.TreeOther", spec := "treeOther", plainKeys := false, apart := false, narrowed := true }
def TreeOtherUptoSaid : Prop := treeOtherUptoRow.holds Try.pinned (OpenSpec.upto treeOtherSpec)

/-- 'capstanlaw7.TreePaths', WHERE WHAT IT READS IS OF BULK AT MOST 1048576: true; the input reads as it did. -/
def treePathsUptoRow : OpenClaim := { program := "ytakebmpnbdlcoaa", sum := "4d1a73d4f28d9c54f5c4d94ebb214fe9cfef32bdf9b88ff8e4769dce704dde2b", func := "capstan/capstanlaw7.TreePaths", spec := "treePaths", plainKeys := false, apart := false, narrowed := true }
def TreePathsUptoSaid : Prop := treePathsUptoRow.holds Try.pinned (OpenSpec.upto treePathsSpec)

/-- 'capstanlaw12.TraceCommits', WHERE WHAT IT READS IS OF BULK AT MOST 1048576: true; the input reads as it did. -/
def traceCommitsUptoRow : OpenClaim := { program := "ytakebmpnbdlcoaa", sum := "4d1a73d4f28d9c54f5c4d94ebb214fe9cfef32bdf9b88ff8e4769dce704dde2b", func := "capstan/capstanlaw12.TraceCommits", spec := "traceCommits", recurses := true, plainKeys := false, apart := false, narrowed := true }
def TraceCommitsUptoSaid : Prop := traceCommitsUptoRow.holds Try.pinned (OpenSpec.upto traceCommitsSpec)

/-- 'capstanlaw12.TraceProves', WHERE WHAT IT READS IS OF BULK AT MOST 1048576: true; the input reads as it did. -/
def traceProvesUptoRow : OpenClaim := { program := "ytakebmpnbdlcoaa", sum := "4d1a73d4f28d9c54f5c4d94ebb214fe9cfef32bdf9b88ff8e4769dce704dde2b", func := "capstan/capstanlaw12.TraceProves", spec := "traceProves", recurses := true, plainKeys := false, apart := false, narrowed := true }
def TraceProvesUptoSaid : Prop := traceProvesUptoRow.holds Try.pinned (OpenSpec.upto traceProvesSpec)

/-- 'capstanlaw12.TraceGrows', WHERE WHAT IT READS IS OF BULK AT MOST 1048576: true; the input reads as it did. -/
def traceGrowsUptoRow : OpenClaim := { program := "ytakebmpnbdlcoaa", sum := "4d1a73d4f28d9c54f5c4d94ebb214fe9cfef32bdf9b88ff8e4769dce704dde2b", func := "capstan/capstanlaw12.TraceGrows", spec := "traceGrows", recurses := true, plainKeys := false, apart := false, narrowed := true }
def TraceGrowsUptoSaid : Prop := traceGrowsUptoRow.holds Try.pinned (OpenSpec.upto traceGrowsSpec)

/-- 'capstanlaw12.TraceSwaps', WHERE WHAT IT READS IS OF BULK AT MOST 1048576: true; the input reads as it did. -/
def traceSwapsUptoRow : OpenClaim := { program := "ytakebmpnbdlcoaa", sum := "4d1a73d4f28d9c54f5c4d94ebb214fe9cfef32bdf9b88ff8e4769dce704dde2b", func := "capstan/capstanlaw12.TraceSwaps", spec := "traceSwaps", recurses := true, plainKeys := false, apart := false, narrowed := true }
def TraceSwapsUptoSaid : Prop := traceSwapsUptoRow.holds Try.pinned (OpenSpec.upto traceSwapsSpec)

/-- 'capstanlaw12.TracePaths', WHERE WHAT IT READS IS OF BULK AT MOST 1048576: true; the input reads as it did. -/
def tracePathsUptoRow : OpenClaim := { program := "ytakebmpnbdlcoaa", sum := "4d1a73d4f28d9c54f5c4d94ebb214fe9cfef32bdf9b88ff8e4769dce704dde2b", func := "capstan/capstanlaw12.TracePaths", spec := "tracePaths", recurses := true, plainKeys := false, apart := false, narrowed := true }
def TracePathsUptoSaid : Prop := tracePathsUptoRow.holds Try.pinned (OpenSpec.upto tracePathsSpec)

end Rows
end Go.Proofs.Ytakebmpnbdlcoaa
