/-
  No cell of these rows narrows 'for every input' (looked for: loops, veiled, ifaces, maps, wideKeys, modest, calm, conditions, laid).
  DERIVED. THE GIVEN ROWS OF THIS SEAT. 12 by the template 'for every input the law returns true; each argument reads behind the call as it read before'; 0 by the template 'total and deterministic' (their statements: YtaaiembhdfgkjaaTotals.lean).
  GIVEN WITH THE SEED: the statements are not yours to turn. If you find one false, say at which input.
  Laid BY PROGRAM, IN A SANDBOX (cutbox-rows.mjs): the forced cells as the released guide's own fill.sh prints them over the translation dc1a655d2ede5e14… (all of the seat's roots in one cut). By AI agents, Wed Nov 11 2026. No macro, syntax, notation, axiom, sorry.
-/
import Derived.Test.YtaaiembhdfgkjaaChecked
import GoSem.Claim
import GoSem.ClaimJoined
import GoSem.ClaimMapViews
import Derived.JoinedTies
import Derived.KernelRfl
namespace Go.Proofs.Ytaaiembhdfgkjaa
/- THE CELL 'sum', in the pinned program and in every row, IS THE sha256 OF THE DUMP (.gsa) THAT YtaaiembhdfgkjaaProg.lean LOADS. Nothing in Lean hashes anything: it is a label: what it is worth is what the hold of that sum in a sandbox is worth. -/
noncomputable def Try.pinned : Pinned := { name := "ytaaiembhdfgkjaa", sum := "dc1a655d2ede5e14384e3cffc66669d5a71963d97be85a0c13a936457bfa499e", checked := Try.checked }
namespace Rows
def none {H : Type} : Left H := { results := [], args := [] }

/-- 'capstanlaw2.ShaLong': WHATEVER THE INPUT: true; the input reads as it did. -/
def shaLongSpec : ChangeSpec := { name := "shaLong", fn := fun _ => fun
  | [d1, d2, d3, d4] => { results := [.lit (.bool true)], args := [d1, d2, d3, d4] }
  | _ => none }
def shaLongRow : OpenClaim := { program := "ytaaiembhdfgkjaa", sum := "dc1a655d2ede5e14384e3cffc66669d5a71963d97be85a0c13a936457bfa499e", func := "capstan/capstanlaw2.ShaLong", spec := "shaLong", apart := false }
def ShaLongSaid : Prop := shaLongRow.holds Try.pinned (OpenSpec.ofChange shaLongSpec)

/-- ITS FALSE NEIGHBOUR: 'it returns false'. Refute it at one input. -/
def shaLongWrong : ChangeSpec := { name := "shaLong", fn := fun _ => fun
  | [d1, d2, d3, d4] => { results := [.lit (.bool false)], args := [d1, d2, d3, d4] }
  | _ => none }
def ShaLongWrongFalsely : Prop := shaLongRow.holds Try.pinned (OpenSpec.ofChange shaLongWrong)

/-- 'capstanlaw2.ShaTwice': WHATEVER THE INPUT: true; the input reads as it did. -/
def shaTwiceSpec : ChangeSpec := { name := "shaTwice", fn := fun _ => fun
  | [d] => { results := [.lit (.bool true)], args := [d] }
  | _ => none }
def shaTwiceRow : OpenClaim := { program := "ytaaiembhdfgkjaa", sum := "dc1a655d2ede5e14384e3cffc66669d5a71963d97be85a0c13a936457bfa499e", func := "capstan/capstanlaw2.ShaTwice", spec := "shaTwice", apart := false }
def ShaTwiceSaid : Prop := shaTwiceRow.holds Try.pinned (OpenSpec.ofChange shaTwiceSpec)

/-- ITS FALSE NEIGHBOUR: 'it returns false'. Refute it at one input. -/
def shaTwiceWrong : ChangeSpec := { name := "shaTwice", fn := fun _ => fun
  | [d] => { results := [.lit (.bool false)], args := [d] }
  | _ => none }
def ShaTwiceWrongFalsely : Prop := shaTwiceRow.holds Try.pinned (OpenSpec.ofChange shaTwiceWrong)

/-- 'capstanlaw2.ShaHex': WHATEVER THE INPUT: true; the input reads as it did. -/
def shaHexSpec : ChangeSpec := { name := "shaHex", fn := fun _ => fun
  | [d] => { results := [.lit (.bool true)], args := [d] }
  | _ => none }
def shaHexRow : OpenClaim := { program := "ytaaiembhdfgkjaa", sum := "dc1a655d2ede5e14384e3cffc66669d5a71963d97be85a0c13a936457bfa499e", func := "capstan/capstanlaw2.ShaHex", spec := "shaHex", apart := false }
def ShaHexSaid : Prop := shaHexRow.holds Try.pinned (OpenSpec.ofChange shaHexSpec)

/-- ITS FALSE NEIGHBOUR: 'it returns false'. Refute it at one input. -/
def shaHexWrong : ChangeSpec := { name := "shaHex", fn := fun _ => fun
  | [d] => { results := [.lit (.bool false)], args := [d] }
  | _ => none }
def ShaHexWrongFalsely : Prop := shaHexRow.holds Try.pinned (OpenSpec.ofChange shaHexWrong)

/-- 'capstanlaw2.ShaFronts': WHATEVER THE INPUT: true; the input reads as it did. -/
def shaFrontsSpec : ChangeSpec := { name := "shaFronts", fn := fun _ => fun
  | [d1, d2, d3] => { results := [.lit (.bool true)], args := [d1, d2, d3] }
  | _ => none }
def shaFrontsRow : OpenClaim := { program := "ytaaiembhdfgkjaa", sum := "dc1a655d2ede5e14384e3cffc66669d5a71963d97be85a0c13a936457bfa499e", func := "capstan/capstanlaw2.ShaFronts", spec := "shaFronts", apart := false }
def ShaFrontsSaid : Prop := shaFrontsRow.holds Try.pinned (OpenSpec.ofChange shaFrontsSpec)

/-- ITS FALSE NEIGHBOUR: 'it returns false'. Refute it at one input. -/
def shaFrontsWrong : ChangeSpec := { name := "shaFronts", fn := fun _ => fun
  | [d1, d2, d3] => { results := [.lit (.bool false)], args := [d1, d2, d3] }
  | _ => none }
def ShaFrontsWrongFalsely : Prop := shaFrontsRow.holds Try.pinned (OpenSpec.ofChange shaFrontsWrong)

/-- 'capstanlaw2.ShaSums': WHATEVER THE INPUT: true; the input reads as it did. -/
def shaSumsSpec : ChangeSpec := { name := "shaSums", fn := fun _ => fun
  | [d1, d2, d3] => { results := [.lit (.bool true)], args := [d1, d2, d3] }
  | _ => none }
def shaSumsRow : OpenClaim := { program := "ytaaiembhdfgkjaa", sum := "dc1a655d2ede5e14384e3cffc66669d5a71963d97be85a0c13a936457bfa499e", func := "capstan/capstanlaw2.ShaSums", spec := "shaSums", apart := false }
def ShaSumsSaid : Prop := shaSumsRow.holds Try.pinned (OpenSpec.ofChange shaSumsSpec)

/-- ITS FALSE NEIGHBOUR: 'it returns false'. Refute it at one input. -/
def shaSumsWrong : ChangeSpec := { name := "shaSums", fn := fun _ => fun
  | [d1, d2, d3] => { results := [.lit (.bool false)], args := [d1, d2, d3] }
  | _ => none }
def ShaSumsWrongFalsely : Prop := shaSumsRow.holds Try.pinned (OpenSpec.ofChange shaSumsWrong)

/-- 'capstanlaw2.ShaTwo': WHATEVER THE INPUT: true; the input reads as it did. -/
def shaTwoSpec : ChangeSpec := { name := "shaTwo", fn := fun _ => fun
  | [d1, d2] => { results := [.lit (.bool true)], args := [d1, d2] }
  | _ => none }
def shaTwoRow : OpenClaim := { program := "ytaaiembhdfgkjaa", sum := "dc1a655d2ede5e14384e3cffc66669d5a71963d97be85a0c13a936457bfa499e", func := "capstan/capstanlaw2.ShaTwo", spec := "shaTwo", apart := false }
def ShaTwoSaid : Prop := shaTwoRow.holds Try.pinned (OpenSpec.ofChange shaTwoSpec)

/-- ITS FALSE NEIGHBOUR: 'it returns false'. Refute it at one input. -/
def shaTwoWrong : ChangeSpec := { name := "shaTwo", fn := fun _ => fun
  | [d1, d2] => { results := [.lit (.bool false)], args := [d1, d2] }
  | _ => none }
def ShaTwoWrongFalsely : Prop := shaTwoRow.holds Try.pinned (OpenSpec.ofChange shaTwoWrong)

/-- 'capstanlaw16.GameMoves': WHATEVER THE INPUT: true; the input reads as it did. -/
def gameMovesSpec : ChangeSpec := { name := "gameMoves", fn := fun _ => fun
  | [d1, d2] => { results := [.lit (.bool true)], args := [d1, d2] }
  | _ => none }
def gameMovesRow : OpenClaim := { program := "ytaaiembhdfgkjaa", sum := "dc1a655d2ede5e14384e3cffc66669d5a71963d97be85a0c13a936457bfa499e", func := "capstan/capstanlaw16.GameMoves", spec := "gameMoves", apart := false }
def GameMovesSaid : Prop := gameMovesRow.holds Try.pinned (OpenSpec.ofChange gameMovesSpec)

/-- ITS FALSE NEIGHBOUR: 'it returns false'. Refute it at one input. -/
def gameMovesWrong : ChangeSpec := { name := "gameMoves", fn := fun _ => fun
  | [d1, d2] => { results := [.lit (.bool false)], args := [d1, d2] }
  | _ => none }
def GameMovesWrongFalsely : Prop := gameMovesRow.holds Try.pinned (OpenSpec.ofChange gameMovesWrong)

/-- 'capstanlaw16.GameHalves': WHATEVER THE INPUT: true; the input reads as it did. -/
def gameHalvesSpec : ChangeSpec := { name := "gameHalves", fn := fun _ => fun
  | [d1, d2, d3] => { results := [.lit (.bool true)], args := [d1, d2, d3] }
  | _ => none }
def gameHalvesRow : OpenClaim := { program := "ytaaiembhdfgkjaa", sum := "dc1a655d2ede5e14384e3cffc66669d5a71963d97be85a0c13a936457bfa499e", func := "capstan/capstanlaw16.GameHalves", spec := "gameHalves", apart := false }
def GameHalvesSaid : Prop := gameHalvesRow.holds Try.pinned (OpenSpec.ofChange gameHalvesSpec)

/-- ITS FALSE NEIGHBOUR: 'it returns false'. Refute it at one input. -/
def gameHalvesWrong : ChangeSpec := { name := "gameHalves", fn := fun _ => fun
  | [d1, d2, d3] => { results := [.lit (.bool false)], args := [d1, d2, d3] }
  | _ => none }
def GameHalvesWrongFalsely : Prop := gameHalvesRow.holds Try.pinned (OpenSpec.ofChange gameHalvesWrong)

/-- 'capstanlaw16.GameExpires': WHATEVER THE INPUT: true; the input reads as it did. -/
def gameExpiresSpec : ChangeSpec := { name := "gameExpires", fn := fun _ => fun
  | [d1, d2, d3] => { results := [.lit (.bool true)], args := [d1, d2, d3] }
  | _ => none }
def gameExpiresRow : OpenClaim := { program := "ytaaiembhdfgkjaa", sum := "dc1a655d2ede5e14384e3cffc66669d5a71963d97be85a0c13a936457bfa499e", func := "capstan/capstanlaw16.GameExpires", spec := "gameExpires", apart := false }
def GameExpiresSaid : Prop := gameExpiresRow.holds Try.pinned (OpenSpec.ofChange gameExpiresSpec)

/-- ITS FALSE NEIGHBOUR: 'it returns false'. Refute it at one input. -/
def gameExpiresWrong : ChangeSpec := { name := "gameExpires", fn := fun _ => fun
  | [d1, d2, d3] => { results := [.lit (.bool false)], args := [d1, d2, d3] }
  | _ => none }
def GameExpiresWrongFalsely : Prop := gameExpiresRow.holds Try.pinned (OpenSpec.ofChange gameExpiresWrong)

/-- 'capstanlaw12.TraceGrows': WHATEVER THE INPUT: true; the input reads as it did. -/
def traceGrowsSpec : ChangeSpec := { name := "traceGrows", fn := fun _ => fun
  | [d1, d2] => { results := [.lit (.bool true)], args := [d1, d2] }
  | _ => none }
def traceGrowsRow : OpenClaim := { program := "ytaaiembhdfgkjaa", sum := "dc1a655d2ede5e14384e3cffc66669d5a71963d97be85a0c13a936457bfa499e", func := "capstan/capstanlaw12.TraceGrows", spec := "traceGrows", recurses := true, apart := false }
def TraceGrowsSaid : Prop := traceGrowsRow.holds Try.pinned (OpenSpec.ofChange traceGrowsSpec)

/-- ITS FALSE NEIGHBOUR: 'it returns false'. Refute it at one input. -/
def traceGrowsWrong : ChangeSpec := { name := "traceGrows", fn := fun _ => fun
  | [d1, d2] => { results := [.lit (.bool false)], args := [d1, d2] }
  | _ => none }
def TraceGrowsWrongFalsely : Prop := traceGrowsRow.holds Try.pinned (OpenSpec.ofChange traceGrowsWrong)

/-- 'capstanlaw12.TraceSwaps': WHATEVER THE INPUT: true; the input reads as it did. -/
def traceSwapsSpec : ChangeSpec := { name := "traceSwaps", fn := fun _ => fun
  | [d1, d2, d3] => { results := [.lit (.bool true)], args := [d1, d2, d3] }
  | _ => none }
def traceSwapsRow : OpenClaim := { program := "ytaaiembhdfgkjaa", sum := "dc1a655d2ede5e14384e3cffc66669d5a71963d97be85a0c13a936457bfa499e", func := "capstan/capstanlaw12.TraceSwaps", spec := "traceSwaps", recurses := true, apart := false }
def TraceSwapsSaid : Prop := traceSwapsRow.holds Try.pinned (OpenSpec.ofChange traceSwapsSpec)

/-- ITS FALSE NEIGHBOUR: 'it returns false'. Refute it at one input. -/
def traceSwapsWrong : ChangeSpec := { name := "traceSwaps", fn := fun _ => fun
  | [d1, d2, d3] => { results := [.lit (.bool false)], args := [d1, d2, d3] }
  | _ => none }
def TraceSwapsWrongFalsely : Prop := traceSwapsRow.holds Try.pinned (OpenSpec.ofChange traceSwapsWrong)

/-- 'capstanlaw12.TracePaths': WHATEVER THE INPUT: true; the input reads as it did. -/
def tracePathsSpec : ChangeSpec := { name := "tracePaths", fn := fun _ => fun
  | [d1, d2] => { results := [.lit (.bool true)], args := [d1, d2] }
  | _ => none }
def tracePathsRow : OpenClaim := { program := "ytaaiembhdfgkjaa", sum := "dc1a655d2ede5e14384e3cffc66669d5a71963d97be85a0c13a936457bfa499e", func := "capstan/capstanlaw12.TracePaths", spec := "tracePaths", recurses := true, apart := false }
def TracePathsSaid : Prop := tracePathsRow.holds Try.pinned (OpenSpec.ofChange tracePathsSpec)

/-- ITS FALSE NEIGHBOUR: 'it returns false'. Refute it at one input. -/
def tracePathsWrong : ChangeSpec := { name := "tracePaths", fn := fun _ => fun
  | [d1, d2] => { results := [.lit (.bool false)], args := [d1, d2] }
  | _ => none }
def TracePathsWrongFalsely : Prop := tracePathsRow.holds Try.pinned (OpenSpec.ofChange tracePathsWrong)

/- THE SECOND FORM. 'bulk': how many values and letters a reading holds, each counted each time it is reached (what is shared counts as often as it is met; a slice's spare places count too). A statement '..UptoSaid' is the law's where the arguments, and the package variables that the reading takes, are together of bulk at most 1048576: NARROWER than '..Said'. Prove '..Said' where nothing that the law and all that it calls make is longer than what came in: it says more and counts as full. Else prove '..UptoSaid'. A law counts once. -/
mutual
def uptoBulk {H : Type} : DataW H → Nat
  | .lit (.string bytes) => bytes.length + 1
  | .lit _ => 1
  | .nil => 1
  | .ptr d => uptoBulk d + 1
  | .slice elems spare => uptoBulkAll elems + uptoBulkAll spare + 1
  | .agg parts => uptoBulkAll parts + 1
  | .iface _ d => uptoBulk d + 1
  | .map entries => uptoBulkEntries entries + 1
  | .held _ => 1
def uptoBulkAll {H : Type} : List (DataW H) → Nat
  | [] => 0
  | d :: r => uptoBulk d + uptoBulkAll r
def uptoBulkEntries {H : Type} : List (Lit × DataW H) → Nat
  | [] => 0
  | x :: r => uptoBulkEntry x + uptoBulkEntries r
def uptoBulkEntry {H : Type} : Lit × DataW H → Nat
  | (.string bytes, d) => bytes.length + uptoBulk d + 1
  | (_, d) => uptoBulk d + 1
 end
def uptoSmall : (H : Type) → List (DataW H) → Bool := fun _ ds => decide (uptoBulkAll ds ≤ 1048576)
def OpenSpec.upto (s : _root_.Go.ChangeSpec) : _root_.Go.OpenSpec := { _root_.Go.OpenSpec.ofChange s with cond := some uptoSmall }

/-- 'capstanlaw2.ShaLong', WHERE WHAT IT READS IS OF BULK AT MOST 1048576: true; the input reads as it did. -/
def shaLongUptoRow : OpenClaim := { program := "ytaaiembhdfgkjaa", sum := "dc1a655d2ede5e14384e3cffc66669d5a71963d97be85a0c13a936457bfa499e", func := "capstan/capstanlaw2.ShaLong", spec := "shaLong", apart := false, narrowed := true }
def ShaLongUptoSaid : Prop := shaLongUptoRow.holds Try.pinned (OpenSpec.upto shaLongSpec)

/-- 'capstanlaw2.ShaTwice', WHERE WHAT IT READS IS OF BULK AT MOST 1048576: true; the input reads as it did. -/
def shaTwiceUptoRow : OpenClaim := { program := "ytaaiembhdfgkjaa", sum := "dc1a655d2ede5e14384e3cffc66669d5a71963d97be85a0c13a936457bfa499e", func := "capstan/capstanlaw2.ShaTwice", spec := "shaTwice", apart := false, narrowed := true }
def ShaTwiceUptoSaid : Prop := shaTwiceUptoRow.holds Try.pinned (OpenSpec.upto shaTwiceSpec)

/-- 'capstanlaw2.ShaHex', WHERE WHAT IT READS IS OF BULK AT MOST 1048576: true; the input reads as it did. -/
def shaHexUptoRow : OpenClaim := { program := "ytaaiembhdfgkjaa", sum := "dc1a655d2ede5e14384e3cffc66669d5a71963d97be85a0c13a936457bfa499e", func := "capstan/capstanlaw2.ShaHex", spec := "shaHex", apart := false, narrowed := true }
def ShaHexUptoSaid : Prop := shaHexUptoRow.holds Try.pinned (OpenSpec.upto shaHexSpec)

/-- 'capstanlaw2.ShaFronts', WHERE WHAT IT READS IS OF BULK AT MOST 1048576: true; the input reads as it did. -/
def shaFrontsUptoRow : OpenClaim := { program := "ytaaiembhdfgkjaa", sum := "dc1a655d2ede5e14384e3cffc66669d5a71963d97be85a0c13a936457bfa499e", func := "capstan/capstanlaw2.ShaFronts", spec := "shaFronts", apart := false, narrowed := true }
def ShaFrontsUptoSaid : Prop := shaFrontsUptoRow.holds Try.pinned (OpenSpec.upto shaFrontsSpec)

/-- 'capstanlaw2.ShaSums', WHERE WHAT IT READS IS OF BULK AT MOST 1048576: true; the input reads as it did. -/
def shaSumsUptoRow : OpenClaim := { program := "ytaaiembhdfgkjaa", sum := "dc1a655d2ede5e14384e3cffc66669d5a71963d97be85a0c13a936457bfa499e", func := "capstan/capstanlaw2.ShaSums", spec := "shaSums", apart := false, narrowed := true }
def ShaSumsUptoSaid : Prop := shaSumsUptoRow.holds Try.pinned (OpenSpec.upto shaSumsSpec)

/-- 'capstanlaw2.ShaTwo', WHERE WHAT IT READS IS OF BULK AT MOST 1048576: true; the input reads as it did. -/
def shaTwoUptoRow : OpenClaim := { program := "ytaaiembhdfgkjaa", sum := "dc1a655d2ede5e14384e3cffc66669d5a71963d97be85a0c13a936457bfa499e", func := "capstan/capstanlaw2.ShaTwo", spec := "shaTwo", apart := false, narrowed := true }
def ShaTwoUptoSaid : Prop := shaTwoUptoRow.holds Try.pinned (OpenSpec.upto shaTwoSpec)

/-- 'capstanlaw16.GameMoves', WHERE WHAT IT READS IS OF BULK AT MOST 1048576: true; the input reads as it did. -/
def gameMovesUptoRow : OpenClaim := { program := "ytaaiembhdfgkjaa", sum := "dc1a655d2ede5e14384e3cffc66669d5a71963d97be85a0c13a936457bfa499e", func := "capstan/capstanlaw16.GameMoves", spec := "gameMoves", apart := false, narrowed := true }
def GameMovesUptoSaid : Prop := gameMovesUptoRow.holds Try.pinned (OpenSpec.upto gameMovesSpec)

/-- 'capstanlaw16.GameHalves', WHERE WHAT IT READS IS OF BULK AT MOST 1048576: true; the input reads as it did. -/
def gameHalvesUptoRow : OpenClaim := { program := "ytaaiembhdfgkjaa", sum := "dc1a655d2ede5e14384e3cffc66669d5a71963d97be85a0c13a936457bfa499e", func := "capstan/capstanlaw16.GameHalves", spec := "gameHalves", apart := false, narrowed := true }
def GameHalvesUptoSaid : Prop := gameHalvesUptoRow.holds Try.pinned (OpenSpec.upto gameHalvesSpec)

/-- 'capstanlaw16.GameExpires', WHERE WHAT IT READS IS OF BULK AT MOST 1048576: true; the input reads as it did. -/
def gameExpiresUptoRow : OpenClaim := { program := "ytaaiembhdfgkjaa", sum := "dc1a655d2ede5e14384e3cffc66669d5a71963d97be85a0c13a936457bfa499e", func := "capstan/capstanlaw16.GameExpires", spec := "gameExpires", apart := false, narrowed := true }
def GameExpiresUptoSaid : Prop := gameExpiresUptoRow.holds Try.pinned (OpenSpec.upto gameExpiresSpec)

/-- 'capstanlaw12.TraceGrows', WHERE WHAT IT READS IS OF BULK AT MOST 1048576: true; the input reads as it did. -/
def traceGrowsUptoRow : OpenClaim := { program := "ytaaiembhdfgkjaa", sum := "dc1a655d2ede5e14384e3cffc66669d5a71963d97be85a0c13a936457bfa499e", func := "capstan/capstanlaw12.TraceGrows", spec := "traceGrows", recurses := true, apart := false, narrowed := true }
def TraceGrowsUptoSaid : Prop := traceGrowsUptoRow.holds Try.pinned (OpenSpec.upto traceGrowsSpec)

/-- 'capstanlaw12.TraceSwaps', WHERE WHAT IT READS IS OF BULK AT MOST 1048576: true; the input reads as it did. -/
def traceSwapsUptoRow : OpenClaim := { program := "ytaaiembhdfgkjaa", sum := "dc1a655d2ede5e14384e3cffc66669d5a71963d97be85a0c13a936457bfa499e", func := "capstan/capstanlaw12.TraceSwaps", spec := "traceSwaps", recurses := true, apart := false, narrowed := true }
def TraceSwapsUptoSaid : Prop := traceSwapsUptoRow.holds Try.pinned (OpenSpec.upto traceSwapsSpec)

/-- 'capstanlaw12.TracePaths', WHERE WHAT IT READS IS OF BULK AT MOST 1048576: true; the input reads as it did. -/
def tracePathsUptoRow : OpenClaim := { program := "ytaaiembhdfgkjaa", sum := "dc1a655d2ede5e14384e3cffc66669d5a71963d97be85a0c13a936457bfa499e", func := "capstan/capstanlaw12.TracePaths", spec := "tracePaths", recurses := true, apart := false, narrowed := true }
def TracePathsUptoSaid : Prop := tracePathsUptoRow.holds Try.pinned (OpenSpec.upto tracePathsSpec)

end Rows
end Go.Proofs.Ytaaiembhdfgkjaa
