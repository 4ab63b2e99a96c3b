/-
  No cell of these rows narrows 'for every input' (looked for: loops, veiled, ifaces, maps, wideKeys, modest, calm, conditions, laid).
  DERIVED. THE GIVEN ROWS OF THIS SEAT. 6 by the template 'for every input the law returns true; each argument reads behind the call as it read before'; 0 by the template 'total and deterministic' (their statements: YtdopgooglicaiaaTotals.lean).
  GIVEN WITH THE SEED: the statements are not yours to turn. If you find one false, say at which input.
  Laid BY PROGRAM, IN A SANDBOX (cutbox-rows.mjs): the forced cells as the released guide's own fill.sh prints them over the translation b618a7c5e868982d… (all of the seat's roots in one cut). By AI agents, Wed Nov 11 2026. No macro, syntax, notation, axiom, sorry.
-/
import Derived.Test.YtdopgooglicaiaaChecked
import GoSem.Claim
import GoSem.ClaimJoined
import GoSem.ClaimMapViews
import Derived.JoinedTies
import Derived.KernelRfl
namespace Go.Proofs.Ytdopgooglicaiaa
/- THE CELL 'sum', in the pinned program and in every row, IS THE sha256 OF THE DUMP (.gsa) THAT YtdopgooglicaiaaProg.lean LOADS. Nothing in Lean hashes anything: it is a label: what it is worth is what the hold of that sum in a sandbox is worth. -/
noncomputable def Try.pinned : Pinned := { name := "ytdopgooglicaiaa", sum := "b618a7c5e868982d8a12443d9f123178934fc04d6d94fef7736811113c047be1", checked := Try.checked }
namespace Rows
def none {H : Type} : Left H := { results := [], args := [] }

/-- 'capstanlaw17.CourtSilent': WHATEVER THE INPUT: true; the input reads as it did. -/
def courtSilentSpec : ChangeSpec := { name := "courtSilent", fn := fun _ => fun
  | [d1, d2] => { results := [.lit (.bool true)], args := [d1, d2] }
  | _ => none }
def courtSilentRow : OpenClaim := { program := "ytdopgooglicaiaa", sum := "b618a7c5e868982d8a12443d9f123178934fc04d6d94fef7736811113c047be1", func := "capstan/capstanlaw17.CourtSilent", spec := "courtSilent", unfollowed := true, recurses := true, plainKeys := false, apart := false }
def CourtSilentSaid : Prop := courtSilentRow.holds Try.pinned (OpenSpec.ofChange courtSilentSpec)

/-- ITS FALSE NEIGHBOUR: 'it returns false'. Refute it at one input. -/
def courtSilentWrong : ChangeSpec := { name := "courtSilent", fn := fun _ => fun
  | [d1, d2] => { results := [.lit (.bool false)], args := [d1, d2] }
  | _ => none }
def CourtSilentWrongFalsely : Prop := courtSilentRow.holds Try.pinned (OpenSpec.ofChange courtSilentWrong)

/-- 'capstanlaw17.CourtFinal': WHATEVER THE INPUT: true; the input reads as it did. -/
def courtFinalSpec : ChangeSpec := { name := "courtFinal", fn := fun _ => fun
  | [d1, d2] => { results := [.lit (.bool true)], args := [d1, d2] }
  | _ => none }
def courtFinalRow : OpenClaim := { program := "ytdopgooglicaiaa", sum := "b618a7c5e868982d8a12443d9f123178934fc04d6d94fef7736811113c047be1", func := "capstan/capstanlaw17.CourtFinal", spec := "courtFinal", unfollowed := true, recurses := true, plainKeys := false, apart := false }
def CourtFinalSaid : Prop := courtFinalRow.holds Try.pinned (OpenSpec.ofChange courtFinalSpec)

/-- ITS FALSE NEIGHBOUR: 'it returns false'. Refute it at one input. -/
def courtFinalWrong : ChangeSpec := { name := "courtFinal", fn := fun _ => fun
  | [d1, d2] => { results := [.lit (.bool false)], args := [d1, d2] }
  | _ => none }
def CourtFinalWrongFalsely : Prop := courtFinalRow.holds Try.pinned (OpenSpec.ofChange courtFinalWrong)

/-- 'capstanlaw17.CourtMoves': WHATEVER THE INPUT: true; the input reads as it did. -/
def courtMovesSpec : ChangeSpec := { name := "courtMoves", fn := fun _ => fun
  | [d1, d2, d3] => { results := [.lit (.bool true)], args := [d1, d2, d3] }
  | _ => none }
def courtMovesRow : OpenClaim := { program := "ytdopgooglicaiaa", sum := "b618a7c5e868982d8a12443d9f123178934fc04d6d94fef7736811113c047be1", func := "capstan/capstanlaw17.CourtMoves", spec := "courtMoves", unfollowed := true, recurses := true, plainKeys := false, apart := false }
def CourtMovesSaid : Prop := courtMovesRow.holds Try.pinned (OpenSpec.ofChange courtMovesSpec)

/-- ITS FALSE NEIGHBOUR: 'it returns false'. Refute it at one input. -/
def courtMovesWrong : ChangeSpec := { name := "courtMoves", fn := fun _ => fun
  | [d1, d2, d3] => { results := [.lit (.bool false)], args := [d1, d2, d3] }
  | _ => none }
def CourtMovesWrongFalsely : Prop := courtMovesRow.holds Try.pinned (OpenSpec.ofChange courtMovesWrong)

/-- 'capstanlaw17.CourtSues': WHATEVER THE INPUT: true; the input reads as it did. -/
def courtSuesSpec : ChangeSpec := { name := "courtSues", fn := fun _ => fun
  | [d1, d2] => { results := [.lit (.bool true)], args := [d1, d2] }
  | _ => none }
def courtSuesRow : OpenClaim := { program := "ytdopgooglicaiaa", sum := "b618a7c5e868982d8a12443d9f123178934fc04d6d94fef7736811113c047be1", func := "capstan/capstanlaw17.CourtSues", spec := "courtSues", unfollowed := true, recurses := true, plainKeys := false, apart := false }
def CourtSuesSaid : Prop := courtSuesRow.holds Try.pinned (OpenSpec.ofChange courtSuesSpec)

/-- ITS FALSE NEIGHBOUR: 'it returns false'. Refute it at one input. -/
def courtSuesWrong : ChangeSpec := { name := "courtSues", fn := fun _ => fun
  | [d1, d2] => { results := [.lit (.bool false)], args := [d1, d2] }
  | _ => none }
def CourtSuesWrongFalsely : Prop := courtSuesRow.holds Try.pinned (OpenSpec.ofChange courtSuesWrong)

/-- 'capstanlaw17.CourtSays': WHATEVER THE INPUT: true; the input reads as it did. -/
def courtSaysSpec : ChangeSpec := { name := "courtSays", fn := fun _ => fun
  | [d1, d2] => { results := [.lit (.bool true)], args := [d1, d2] }
  | _ => none }
def courtSaysRow : OpenClaim := { program := "ytdopgooglicaiaa", sum := "b618a7c5e868982d8a12443d9f123178934fc04d6d94fef7736811113c047be1", func := "capstan/capstanlaw17.CourtSays", spec := "courtSays", unfollowed := true, recurses := true, plainKeys := false, apart := false }
def CourtSaysSaid : Prop := courtSaysRow.holds Try.pinned (OpenSpec.ofChange courtSaysSpec)

/-- ITS FALSE NEIGHBOUR: 'it returns false'. Refute it at one input. -/
def courtSaysWrong : ChangeSpec := { name := "courtSays", fn := fun _ => fun
  | [d1, d2] => { results := [.lit (.bool false)], args := [d1, d2] }
  | _ => none }
def CourtSaysWrongFalsely : Prop := courtSaysRow.holds Try.pinned (OpenSpec.ofChange courtSaysWrong)

/-- 'capstanlaw7.TreeProves': WHATEVER THE INPUT: true; the input reads as it did. -/
def treeProvesSpec : ChangeSpec := { name := "treeProves", fn := fun _ => fun
  | [d1, d2, d3] => { results := [.lit (.bool true)], args := [d1, d2, d3] }
  | _ => none }
def treeProvesRow : OpenClaim := { program := "ytdopgooglicaiaa", sum := "b618a7c5e868982d8a12443d9f123178934fc04d6d94fef7736811113c047be1", func := "capstan/capstanlaw7.TreeProves", spec := "treeProves", plainKeys := false, apart := false }
def TreeProvesSaid : Prop := treeProvesRow.holds Try.pinned (OpenSpec.ofChange treeProvesSpec)

/-- ITS FALSE NEIGHBOUR: 'it returns false'. Refute it at one input. -/
def treeProvesWrong : ChangeSpec := { name := "treeProves", fn := fun _ => fun
  | [d1, d2, d3] => { results := [.lit (.bool false)], args := [d1, d2, d3] }
  | _ => none }
def TreeProvesWrongFalsely : Prop := treeProvesRow.holds Try.pinned (OpenSpec.ofChange treeProvesWrong)

/- THE SECOND FORM. 'bulk': how many values and letters a reading holds, each counted each time it is reached (what is shared counts as often as it is met; a slice's spare places count too). A statement '..UptoSaid' is the law's where the arguments, and the package variables that the reading takes, are together of bulk at most 1048576: NARROWER than '..Said'. Prove '..Said' where nothing that the law and all that it calls make is longer than what came in: it says more and counts as full. Else prove '..UptoSaid'. A law counts once. -/
mutual
def uptoBulk {H : Type} : DataW H → Nat
  | .lit (.string bytes) => bytes.length + 1
  | .lit _ => 1
  | .nil => 1
  | .ptr d => uptoBulk d + 1
  | .slice elems spare => uptoBulkAll elems + uptoBulkAll spare + 1
  | .agg parts => uptoBulkAll parts + 1
  | .iface _ d => uptoBulk d + 1
  | .map entries => uptoBulkEntries entries + 1
  | .held _ => 1
def uptoBulkAll {H : Type} : List (DataW H) → Nat
  | [] => 0
  | d :: r => uptoBulk d + uptoBulkAll r
def uptoBulkEntries {H : Type} : List (Lit × DataW H) → Nat
  | [] => 0
  | x :: r => uptoBulkEntry x + uptoBulkEntries r
def uptoBulkEntry {H : Type} : Lit × DataW H → Nat
  | (.string bytes, d) => bytes.length + uptoBulk d + 1
  | (_, d) => uptoBulk d + 1
 end
def uptoSmall : (H : Type) → List (DataW H) → Bool := fun _ ds => decide (uptoBulkAll ds ≤ 1048576)
def OpenSpec.upto (s : _root_.Go.ChangeSpec) : _root_.Go.OpenSpec := { _root_.Go.OpenSpec.ofChange s with cond := some uptoSmall }

/-- 'capstanlaw17.CourtSilent', WHERE WHAT IT READS IS OF BULK AT MOST 1048576: true; the input reads as it did. -/
def courtSilentUptoRow : OpenClaim := { program := "ytdopgooglicaiaa", sum := "b618a7c5e868982d8a12443d9f123178934fc04d6d94fef7736811113c047be1", func := "capstan/capstanlaw17.CourtSilent", spec := "courtSilent", unfollowed := true, recurses := true, plainKeys := false, apart := false, narrowed := true }
def CourtSilentUptoSaid : Prop := courtSilentUptoRow.holds Try.pinned (OpenSpec.upto courtSilentSpec)

/-- 'capstanlaw17.CourtFinal', WHERE WHAT IT READS IS OF BULK AT MOST 1048576: true; the input reads as it did. -/
def courtFinalUptoRow : OpenClaim := { program := "ytdopgooglicaiaa", sum := "b618a7c5e868982d8a12443d9f123178934fc04d6d94fef7736811113c047be1", func := "capstan/capstanlaw17.CourtFinal", spec := "courtFinal", unfollowed := true, recurses := true, plainKeys := false, apart := false, narrowed := true }
def CourtFinalUptoSaid : Prop := courtFinalUptoRow.holds Try.pinned (OpenSpec.upto courtFinalSpec)

/-- 'capstanlaw17.CourtMoves', WHERE WHAT IT READS IS OF BULK AT MOST 1048576: true; the input reads as it did. -/
def courtMovesUptoRow : OpenClaim := { program := "ytdopgooglicaiaa", sum := "b618a7c5e868982d8a12443d9f123178934fc04d6d94fef7736811113c047be1", func := "capstan/capstanlaw17.CourtMoves", spec := "courtMoves", unfollowed := true, recurses := true, plainKeys := false, apart := false, narrowed := true }
def CourtMovesUptoSaid : Prop := courtMovesUptoRow.holds Try.pinned (OpenSpec.upto courtMovesSpec)

/-- 'capstanlaw17.CourtSues', WHERE WHAT IT READS IS OF BULK AT MOST 1048576: true; the input reads as it did. -/
def courtSuesUptoRow : OpenClaim := { program := "ytdopgooglicaiaa", sum := "b618a7c5e868982d8a12443d9f123178934fc04d6d94fef7736811113c047be1", func := "capstan/capstanlaw17.CourtSues", spec := "courtSues", unfollowed := true, recurses := true, plainKeys := false, apart := false, narrowed := true }
def CourtSuesUptoSaid : Prop := courtSuesUptoRow.holds Try.pinned (OpenSpec.upto courtSuesSpec)

/-- 'capstanlaw17.CourtSays', WHERE WHAT IT READS IS OF BULK AT MOST 1048576: true; the input reads as it did. -/
def courtSaysUptoRow : OpenClaim := { program := "ytdopgooglicaiaa", sum := "b618a7c5e868982d8a12443d9f123178934fc04d6d94fef7736811113c047be1", func := "capstan/capstanlaw17.CourtSays", spec := "courtSays", unfollowed := true, recurses := true, plainKeys := false, apart := false, narrowed := true }
def CourtSaysUptoSaid : Prop := courtSaysUptoRow.holds Try.pinned (OpenSpec.upto courtSaysSpec)

/-- 'capstanlaw7.TreeProves', WHERE WHAT IT READS IS OF BULK AT MOST 1048576: true; the input reads as it did. -/
def treeProvesUptoRow : OpenClaim := { program := "ytdopgooglicaiaa", sum := "b618a7c5e868982d8a12443d9f123178934fc04d6d94fef7736811113c047be1", func := "capstan/capstanlaw7.TreeProves", spec := "treeProves", plainKeys := false, apart := false, narrowed := true }
def TreeProvesUptoSaid : Prop := treeProvesUptoRow.holds Try.pinned (OpenSpec.upto treeProvesSpec)

end Rows
end Go.Proofs.Ytdopgooglicaiaa
