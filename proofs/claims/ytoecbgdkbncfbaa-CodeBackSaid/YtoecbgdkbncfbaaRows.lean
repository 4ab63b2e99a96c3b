/-
  No cell of these rows narrows 'for every input' (looked for: loops, veiled, ifaces, maps, wideKeys, modest, calm, conditions, laid).
  DERIVED. THE GIVEN ROWS OF THIS SEAT. 9 by the template 'for every input the law returns true; each argument reads behind the call as it read before'; 0 by the template 'total and deterministic' (their statements: YtoecbgdkbncfbaaTotals.lean).
  GIVEN WITH THE SEED: the statements are not yours to turn. If you find one false, say at which input.
  Laid BY PROGRAM, IN A SANDBOX (cutbox-rows.mjs): the forced cells as the released guide's own fill.sh prints them over the translation 327c6a2d291d829a… (all of the seat's roots in one cut). By AI agents, Wed Nov 11 2026. No macro, syntax, notation, axiom, sorry.
-/
import Derived.Test.YtoecbgdkbncfbaaChecked
import GoSem.Claim
import GoSem.ClaimJoined
import GoSem.ClaimMapViews
import Derived.JoinedTies
import Derived.KernelRfl
namespace Go.Proofs.Ytoecbgdkbncfbaa
/- THE CELL 'sum', in the pinned program and in every row, IS THE sha256 OF THE DUMP (.gsa) THAT YtoecbgdkbncfbaaProg.lean LOADS. Nothing in Lean hashes anything: it is a label: what it is worth is what the hold of that sum in a sandbox is worth. -/
noncomputable def Try.pinned : Pinned := { name := "ytoecbgdkbncfbaa", sum := "327c6a2d291d829a35c34eac03cf84a882a192897c7f634777659f7343762bda", checked := Try.checked }
namespace Rows
def none {H : Type} : Left H := { results := [], args := [] }

/-- 'capstanlaw1.CodeShort': WHATEVER THE INPUT: true; the input reads as it did. -/
def codeShortSpec : ChangeSpec := { name := "codeShort", fn := fun _ => fun
  | [d1, d2] => { results := [.lit (.bool true)], args := [d1, d2] }
  | _ => none }
def codeShortRow : OpenClaim := { program := "ytoecbgdkbncfbaa", sum := "327c6a2d291d829a35c34eac03cf84a882a192897c7f634777659f7343762bda", func := "capstan/capstanlaw1.CodeShort", spec := "codeShort", apart := false }
def CodeShortSaid : Prop := codeShortRow.holds Try.pinned (OpenSpec.ofChange codeShortSpec)

/-- ITS FALSE NEIGHBOUR: 'it returns false'. Refute it at one input. -/
def codeShortWrong : ChangeSpec := { name := "codeShort", fn := fun _ => fun
  | [d1, d2] => { results := [.lit (.bool false)], args := [d1, d2] }
  | _ => none }
def CodeShortWrongFalsely : Prop := codeShortRow.holds Try.pinned (OpenSpec.ofChange codeShortWrong)

/-- 'capstanlaw1.CodeWrites': WHATEVER THE INPUT: true; the input reads as it did. -/
def codeWritesSpec : ChangeSpec := { name := "codeWrites", fn := fun _ => fun
  | [d1, d2, d3, d4] => { results := [.lit (.bool true)], args := [d1, d2, d3, d4] }
  | _ => none }
def codeWritesRow : OpenClaim := { program := "ytoecbgdkbncfbaa", sum := "327c6a2d291d829a35c34eac03cf84a882a192897c7f634777659f7343762bda", func := "capstan/capstanlaw1.CodeWrites", spec := "codeWrites", apart := false }
def CodeWritesSaid : Prop := codeWritesRow.holds Try.pinned (OpenSpec.ofChange codeWritesSpec)

/-- ITS FALSE NEIGHBOUR: 'it returns false'. Refute it at one input. -/
def codeWritesWrong : ChangeSpec := { name := "codeWrites", fn := fun _ => fun
  | [d1, d2, d3, d4] => { results := [.lit (.bool false)], args := [d1, d2, d3, d4] }
  | _ => none }
def CodeWritesWrongFalsely : Prop := codeWritesRow.holds Try.pinned (OpenSpec.ofChange codeWritesWrong)

/-- 'capstanlaw1.CodeLoose': WHATEVER THE INPUT: true; the input reads as it did. -/
def codeLooseSpec : ChangeSpec := { name := "codeLoose", fn := fun _ => fun
  | [d] => { results := [.lit (.bool true)], args := [d] }
  | _ => none }
def codeLooseRow : OpenClaim := { program := "ytoecbgdkbncfbaa", sum := "327c6a2d291d829a35c34eac03cf84a882a192897c7f634777659f7343762bda", func := "capstan/capstanlaw1.CodeLoose", spec := "codeLoose", unfollowed := true, recurses := true, apart := false }
def CodeLooseSaid : Prop := codeLooseRow.holds Try.pinned (OpenSpec.ofChange codeLooseSpec)

/-- ITS FALSE NEIGHBOUR: 'it returns false'. Refute it at one input. -/
def codeLooseWrong : ChangeSpec := { name := "codeLoose", fn := fun _ => fun
  | [d] => { results := [.lit (.bool false)], args := [d] }
  | _ => none }
def CodeLooseWrongFalsely : Prop := codeLooseRow.holds Try.pinned (OpenSpec.ofChange codeLooseWrong)

/-- 'capstanlaw1.CodeEdges': WHATEVER THE INPUT: true; the input reads as it did. -/
def codeEdgesSpec : ChangeSpec := { name := "codeEdges", fn := fun _ => fun
  | [d1, d2] => { results := [.lit (.bool true)], args := [d1, d2] }
  | _ => none }
def codeEdgesRow : OpenClaim := { program := "ytoecbgdkbncfbaa", sum := "327c6a2d291d829a35c34eac03cf84a882a192897c7f634777659f7343762bda", func := "capstan/capstanlaw1.CodeEdges", spec := "codeEdges", unfollowed := true, recurses := true, apart := false }
def CodeEdgesSaid : Prop := codeEdgesRow.holds Try.pinned (OpenSpec.ofChange codeEdgesSpec)

/-- ITS FALSE NEIGHBOUR: 'it returns false'. Refute it at one input. -/
def codeEdgesWrong : ChangeSpec := { name := "codeEdges", fn := fun _ => fun
  | [d1, d2] => { results := [.lit (.bool false)], args := [d1, d2] }
  | _ => none }
def CodeEdgesWrongFalsely : Prop := codeEdgesRow.holds Try.pinned (OpenSpec.ofChange codeEdgesWrong)

/-- 'capstanlaw1.CodeMany': WHATEVER THE INPUT: true; the input reads as it did. -/
def codeManySpec : ChangeSpec := { name := "codeMany", fn := fun _ => fun
  | [d1, d2] => { results := [.lit (.bool true)], args := [d1, d2] }
  | _ => none }
def codeManyRow : OpenClaim := { program := "ytoecbgdkbncfbaa", sum := "327c6a2d291d829a35c34eac03cf84a882a192897c7f634777659f7343762bda", func := "capstan/capstanlaw1.CodeMany", spec := "codeMany", unfollowed := true, recurses := true, apart := false }
def CodeManySaid : Prop := codeManyRow.holds Try.pinned (OpenSpec.ofChange codeManySpec)

/-- ITS FALSE NEIGHBOUR: 'it returns false'. Refute it at one input. -/
def codeManyWrong : ChangeSpec := { name := "codeMany", fn := fun _ => fun
  | [d1, d2] => { results := [.lit (.bool false)], args := [d1, d2] }
  | _ => none }
def CodeManyWrongFalsely : Prop := codeManyRow.holds Try.pinned (OpenSpec.ofChange codeManyWrong)

/-- 'capstanlaw1.CodeReads': WHATEVER THE INPUT: true; the input reads as it did. -/
def codeReadsSpec : ChangeSpec := { name := "codeReads", fn := fun _ => fun
  | [d1, d2] => { results := [.lit (.bool true)], args := [d1, d2] }
  | _ => none }
def codeReadsRow : OpenClaim := { program := "ytoecbgdkbncfbaa", sum := "327c6a2d291d829a35c34eac03cf84a882a192897c7f634777659f7343762bda", func := "capstan/capstanlaw1.CodeReads", spec := "codeReads", unfollowed := true, recurses := true, apart := false }
def CodeReadsSaid : Prop := codeReadsRow.holds Try.pinned (OpenSpec.ofChange codeReadsSpec)

/-- ITS FALSE NEIGHBOUR: 'it returns false'. Refute it at one input. -/
def codeReadsWrong : ChangeSpec := { name := "codeReads", fn := fun _ => fun
  | [d1, d2] => { results := [.lit (.bool false)], args := [d1, d2] }
  | _ => none }
def CodeReadsWrongFalsely : Prop := codeReadsRow.holds Try.pinned (OpenSpec.ofChange codeReadsWrong)

/-- 'capstanlaw1.CodeFails': WHATEVER THE INPUT: true; the input reads as it did. -/
def codeFailsSpec : ChangeSpec := { name := "codeFails", fn := fun _ => fun
  | [d1, d2, d3] => { results := [.lit (.bool true)], args := [d1, d2, d3] }
  | _ => none }
def codeFailsRow : OpenClaim := { program := "ytoecbgdkbncfbaa", sum := "327c6a2d291d829a35c34eac03cf84a882a192897c7f634777659f7343762bda", func := "capstan/capstanlaw1.CodeFails", spec := "codeFails", unfollowed := true, recurses := true, apart := false }
def CodeFailsSaid : Prop := codeFailsRow.holds Try.pinned (OpenSpec.ofChange codeFailsSpec)

/-- ITS FALSE NEIGHBOUR: 'it returns false'. Refute it at one input. -/
def codeFailsWrong : ChangeSpec := { name := "codeFails", fn := fun _ => fun
  | [d1, d2, d3] => { results := [.lit (.bool false)], args := [d1, d2, d3] }
  | _ => none }
def CodeFailsWrongFalsely : Prop := codeFailsRow.holds Try.pinned (OpenSpec.ofChange codeFailsWrong)

/-- 'capstanlaw1.CodeSums': WHATEVER THE INPUT: true; the input reads as it did. -/
def codeSumsSpec : ChangeSpec := { name := "codeSums", fn := fun _ => fun
  | [d1, d2, d3, d4] => { results := [.lit (.bool true)], args := [d1, d2, d3, d4] }
  | _ => none }
def codeSumsRow : OpenClaim := { program := "ytoecbgdkbncfbaa", sum := "327c6a2d291d829a35c34eac03cf84a882a192897c7f634777659f7343762bda", func := "capstan/capstanlaw1.CodeSums", spec := "codeSums", unfollowed := true, recurses := true, apart := false }
def CodeSumsSaid : Prop := codeSumsRow.holds Try.pinned (OpenSpec.ofChange codeSumsSpec)

/-- ITS FALSE NEIGHBOUR: 'it returns false'. Refute it at one input. -/
def codeSumsWrong : ChangeSpec := { name := "codeSums", fn := fun _ => fun
  | [d1, d2, d3, d4] => { results := [.lit (.bool false)], args := [d1, d2, d3, d4] }
  | _ => none }
def CodeSumsWrongFalsely : Prop := codeSumsRow.holds Try.pinned (OpenSpec.ofChange codeSumsWrong)

/-- 'capstanlaw1.CodeBack': WHATEVER THE INPUT: true; the input reads as it did. -/
def codeBackSpec : ChangeSpec := { name := "codeBack", fn := fun _ => fun
  | [d1, d2, d3] => { results := [.lit (.bool true)], args := [d1, d2, d3] }
  | _ => none }
def codeBackRow : OpenClaim := { program := "ytoecbgdkbncfbaa", sum := "327c6a2d291d829a35c34eac03cf84a882a192897c7f634777659f7343762bda", func := "capstan/capstanlaw1.CodeBack", spec := "codeBack", unfollowed := true, recurses := true, apart := false }
def CodeBackSaid : Prop := codeBackRow.holds Try.pinned (OpenSpec.ofChange codeBackSpec)

/-- ITS FALSE NEIGHBOUR: 'it returns false'. Refute it at one input. -/
def codeBackWrong : ChangeSpec := { name := "codeBack", fn := fun _ => fun
  | [d1, d2, d3] => { results := [.lit (.bool false)], args := [d1, d2, d3] }
  | _ => none }
def CodeBackWrongFalsely : Prop := codeBackRow.holds Try.pinned (OpenSpec.ofChange codeBackWrong)

/- THE SECOND FORM. 'bulk': how many values and letters a reading holds, each counted each time it is reached (what is shared counts as often as it is met; a slice's spare places count too). A statement '..UptoSaid' is the law's where the arguments, and the package variables that the reading takes, are together of bulk at most 1048576: NARROWER than '..Said'. Prove '..Said' where nothing that the law and all that it calls make is longer than what came in: it says more and counts as full. Else prove '..UptoSaid'. A law counts once. -/
mutual
def uptoBulk {H : Type} : DataW H → Nat
  | .lit (.string bytes) => bytes.length + 1
  | .lit _ => 1
  | .nil => 1
  | .ptr d => uptoBulk d + 1
  | .slice elems spare => uptoBulkAll elems + uptoBulkAll spare + 1
  | .agg parts => uptoBulkAll parts + 1
  | .iface _ d => uptoBulk d + 1
  | .map entries => uptoBulkEntries entries + 1
  | .held _ => 1
def uptoBulkAll {H : Type} : List (DataW H) → Nat
  | [] => 0
  | d :: r => uptoBulk d + uptoBulkAll r
def uptoBulkEntries {H : Type} : List (Lit × DataW H) → Nat
  | [] => 0
  | x :: r => uptoBulkEntry x + uptoBulkEntries r
def uptoBulkEntry {H : Type} : Lit × DataW H → Nat
  | (.string bytes, d) => bytes.length + uptoBulk d + 1
  | (_, d) => uptoBulk d + 1
 end
def uptoSmall : (H : Type) → List (DataW H) → Bool := fun _ ds => decide (uptoBulkAll ds ≤ 1048576)
def OpenSpec.upto (s : _root_.Go.ChangeSpec) : _root_.Go.OpenSpec := { _root_.Go.OpenSpec.ofChange s with cond := some uptoSmall }

/-- 'capstanlaw1.CodeShort', WHERE WHAT IT READS IS OF BULK AT MOST 1048576: true; the input reads as it did. -/
def codeShortUptoRow : OpenClaim := { program := "ytoecbgdkbncfbaa", sum := "327c6a2d291d829a35c34eac03cf84a882a192897c7f634777659f7343762bda", func := "capstan/capstanlaw1.CodeShort", spec := "codeShort", apart := false, narrowed := true }
def CodeShortUptoSaid : Prop := codeShortUptoRow.holds Try.pinned (OpenSpec.upto codeShortSpec)

/-- 'capstanlaw1.CodeWrites', WHERE WHAT IT READS IS OF BULK AT MOST 1048576: true; the input reads as it did. -/
def codeWritesUptoRow : OpenClaim := { program := "ytoecbgdkbncfbaa", sum := "327c6a2d291d829a35c34eac03cf84a882a192897c7f634777659f7343762bda", func := "capstan/capstanlaw1.CodeWrites", spec := "codeWrites", apart := false, narrowed := true }
def CodeWritesUptoSaid : Prop := codeWritesUptoRow.holds Try.pinned (OpenSpec.upto codeWritesSpec)

/-- 'capstanlaw1.CodeLoose', WHERE WHAT IT READS IS OF BULK AT MOST 1048576: true; the input reads as it did. -/
def codeLooseUptoRow : OpenClaim := { program := "ytoecbgdkbncfbaa", sum := "327c6a2d291d829a35c34eac03cf84a882a192897c7f634777659f7343762bda", func := "capstan/capstanlaw1.CodeLoose", spec := "codeLoose", unfollowed := true, recurses := true, apart := false, narrowed := true }
def CodeLooseUptoSaid : Prop := codeLooseUptoRow.holds Try.pinned (OpenSpec.upto codeLooseSpec)

/-- 'capstanlaw1.CodeEdges', WHERE WHAT IT READS IS OF BULK AT MOST 1048576: true; the input reads as it did. -/
def codeEdgesUptoRow : OpenClaim := { program := "ytoecbgdkbncfbaa", sum := "327c6a2d291d829a35c34eac03cf84a882a192897c7f634777659f7343762bda", func := "capstan/capstanlaw1.CodeEdges", spec := "codeEdges", unfollowed := true, recurses := true, apart := false, narrowed := true }
def CodeEdgesUptoSaid : Prop := codeEdgesUptoRow.holds Try.pinned (OpenSpec.upto codeEdgesSpec)

/-- 'capstanlaw1.CodeMany', WHERE WHAT IT READS IS OF BULK AT MOST 1048576: true; the input reads as it did. -/
def codeManyUptoRow : OpenClaim := { program := "ytoecbgdkbncfbaa", sum := "327c6a2d291d829a35c34eac03cf84a882a192897c7f634777659f7343762bda", func := "capstan/capstanlaw1.CodeMany", spec := "codeMany", unfollowed := true, recurses := true, apart := false, narrowed := true }
def CodeManyUptoSaid : Prop := codeManyUptoRow.holds Try.pinned (OpenSpec.upto codeManySpec)

/-- 'capstanlaw1.CodeReads', WHERE WHAT IT READS IS OF BULK AT MOST 1048576: true; the input reads as it did. -/
def codeReadsUptoRow : OpenClaim := { program := "ytoecbgdkbncfbaa", sum := "327c6a2d291d829a35c34eac03cf84a882a192897c7f634777659f7343762bda", func := "capstan/capstanlaw1.CodeReads", spec := "codeReads", unfollowed := true, recurses := true, apart := false, narrowed := true }
def CodeReadsUptoSaid : Prop := codeReadsUptoRow.holds Try.pinned (OpenSpec.upto codeReadsSpec)

/-- 'capstanlaw1.CodeFails', WHERE WHAT IT READS IS OF BULK AT MOST 1048576: true; the input reads as it did. -/
def codeFailsUptoRow : OpenClaim := { program := "ytoecbgdkbncfbaa", sum := "327c6a2d291d829a35c34eac03cf84a882a192897c7f634777659f7343762bda", func := "capstan/capstanlaw1.CodeFails", spec := "codeFails", unfollowed := true, recurses := true, apart := false, narrowed := true }
def CodeFailsUptoSaid : Prop := codeFailsUptoRow.holds Try.pinned (OpenSpec.upto codeFailsSpec)

/-- 'capstanlaw1.CodeSums', WHERE WHAT IT READS IS OF BULK AT MOST 1048576: true; the input reads as it did. -/
def codeSumsUptoRow : OpenClaim := { program := "ytoecbgdkbncfbaa", sum := "327c6a2d291d829a35c34eac03cf84a882a192897c7f634777659f7343762bda", func := "capstan/capstanlaw1.CodeSums", spec := "codeSums", unfollowed := true, recurses := true, apart := false, narrowed := true }
def CodeSumsUptoSaid : Prop := codeSumsUptoRow.holds Try.pinned (OpenSpec.upto codeSumsSpec)

/-- 'capstanlaw1.CodeBack', WHERE WHAT IT READS IS OF BULK AT MOST 1048576: true; the input reads as it did. -/
def codeBackUptoRow : OpenClaim := { program := "ytoecbgdkbncfbaa", sum := "327c6a2d291d829a35c34eac03cf84a882a192897c7f634777659f7343762bda", func := "capstan/capstanlaw1.CodeBack", spec := "codeBack", unfollowed := true, recurses := true, apart := false, narrowed := true }
def CodeBackUptoSaid : Prop := codeBackUptoRow.holds Try.pinned (OpenSpec.upto codeBackSpec)

end Rows
end Go.Proofs.Ytoecbgdkbncfbaa
