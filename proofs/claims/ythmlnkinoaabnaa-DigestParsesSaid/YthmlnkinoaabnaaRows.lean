/-
  No cell of these rows narrows 'for every input' (looked for: loops, veiled, ifaces, maps, wideKeys, modest, calm, conditions, laid).
  DERIVED. THE GIVEN ROWS OF THIS SEAT. 9 by the template 'for every input the law returns true; each argument reads behind the call as it read before'; 0 by the template 'total and deterministic' (their statements: YthmlnkinoaabnaaTotals.lean).
  GIVEN WITH THE SEED: the statements are not yours to turn. If you find one false, say at which input.
  Laid BY PROGRAM, IN A SANDBOX (cutbox-rows.mjs): the forced cells as the released guide's own fill.sh prints them over the translation 9bf041dbb83efc9a… (all of the seat's roots in one cut). By AI agents, Wed Nov 11 2026. No macro, syntax, notation, axiom, sorry.
-/
import Derived.Test.YthmlnkinoaabnaaChecked
import GoSem.Claim
import GoSem.ClaimJoined
import GoSem.ClaimMapViews
import Derived.JoinedTies
import Derived.KernelRfl
namespace Go.Proofs.Ythmlnkinoaabnaa
/- THE CELL 'sum', in the pinned program and in every row, IS THE sha256 OF THE DUMP (.gsa) THAT YthmlnkinoaabnaaProg.lean LOADS. Nothing in Lean hashes anything: it is a label: what it is worth is what the hold of that sum in a sandbox is worth. -/
noncomputable def Try.pinned : Pinned := { name := "ythmlnkinoaabnaa", sum := "9bf041dbb83efc9a2bb2664fb04b975137c3cfd6f0d0beb542b21a44b71ca5a4", checked := Try.checked }
namespace Rows
def none {H : Type} : Left H := { results := [], args := [] }

/-- 'erasurelaw25.DigestPermutes': WHATEVER THE INPUT: true; the input reads as it did. -/
def digestPermutesSpec : ChangeSpec := { name := "digestPermutes", fn := fun _ => fun
  | [d] => { results := [.lit (.bool true)], args := [d] }
  | _ => none }
def digestPermutesRow : OpenClaim := { program := "ythmlnkinoaabnaa", sum := "9bf041dbb83efc9a2bb2664fb04b975137c3cfd6f0d0beb542b21a44b71ca5a4", func := "erasure/erasurelaw25.DigestPermutes", spec := "digestPermutes", apart := false }
def DigestPermutesSaid : Prop := digestPermutesRow.holds Try.pinned (OpenSpec.ofChange digestPermutesSpec)

/-- ITS FALSE NEIGHBOUR: 'it returns false'. Refute it at one input. -/
def digestPermutesWrong : ChangeSpec := { name := "digestPermutes", fn := fun _ => fun
  | [d] => { results := [.lit (.bool false)], args := [d] }
  | _ => none }
def DigestPermutesWrongFalsely : Prop := digestPermutesRow.holds Try.pinned (OpenSpec.ofChange digestPermutesWrong)

/-- 'erasurelaw25.DigestInjective': WHATEVER THE INPUT: true; the input reads as it did. -/
def digestInjectiveSpec : ChangeSpec := { name := "digestInjective", fn := fun _ => fun
  | [d1, d2] => { results := [.lit (.bool true)], args := [d1, d2] }
  | _ => none }
def digestInjectiveRow : OpenClaim := { program := "ythmlnkinoaabnaa", sum := "9bf041dbb83efc9a2bb2664fb04b975137c3cfd6f0d0beb542b21a44b71ca5a4", func := "erasure/erasurelaw25.DigestInjective", spec := "digestInjective", apart := false }
def DigestInjectiveSaid : Prop := digestInjectiveRow.holds Try.pinned (OpenSpec.ofChange digestInjectiveSpec)

/-- ITS FALSE NEIGHBOUR: 'it returns false'. Refute it at one input. -/
def digestInjectiveWrong : ChangeSpec := { name := "digestInjective", fn := fun _ => fun
  | [d1, d2] => { results := [.lit (.bool false)], args := [d1, d2] }
  | _ => none }
def DigestInjectiveWrongFalsely : Prop := digestInjectiveRow.holds Try.pinned (OpenSpec.ofChange digestInjectiveWrong)

/-- 'erasurelaw25.DigestSums': WHATEVER THE INPUT: true; the input reads as it did. -/
def digestSumsSpec : ChangeSpec := { name := "digestSums", fn := fun _ => fun
  | [d1, d2] => { results := [.lit (.bool true)], args := [d1, d2] }
  | _ => none }
def digestSumsRow : OpenClaim := { program := "ythmlnkinoaabnaa", sum := "9bf041dbb83efc9a2bb2664fb04b975137c3cfd6f0d0beb542b21a44b71ca5a4", func := "erasure/erasurelaw25.DigestSums", spec := "digestSums", apart := false }
def DigestSumsSaid : Prop := digestSumsRow.holds Try.pinned (OpenSpec.ofChange digestSumsSpec)

/-- ITS FALSE NEIGHBOUR: 'it returns false'. Refute it at one input. -/
def digestSumsWrong : ChangeSpec := { name := "digestSums", fn := fun _ => fun
  | [d1, d2] => { results := [.lit (.bool false)], args := [d1, d2] }
  | _ => none }
def DigestSumsWrongFalsely : Prop := digestSumsRow.holds Try.pinned (OpenSpec.ofChange digestSumsWrong)

/-- 'erasurelaw25.DigestFormats': WHATEVER THE INPUT: true; the input reads as it did. -/
def digestFormatsSpec : ChangeSpec := { name := "digestFormats", fn := fun _ => fun
  | [d] => { results := [.lit (.bool true)], args := [d] }
  | _ => none }
def digestFormatsRow : OpenClaim := { program := "ythmlnkinoaabnaa", sum := "9bf041dbb83efc9a2bb2664fb04b975137c3cfd6f0d0beb542b21a44b71ca5a4", func := "erasure/erasurelaw25.DigestFormats", spec := "digestFormats", apart := false }
def DigestFormatsSaid : Prop := digestFormatsRow.holds Try.pinned (OpenSpec.ofChange digestFormatsSpec)

/-- ITS FALSE NEIGHBOUR: 'it returns false'. Refute it at one input. -/
def digestFormatsWrong : ChangeSpec := { name := "digestFormats", fn := fun _ => fun
  | [d] => { results := [.lit (.bool false)], args := [d] }
  | _ => none }
def DigestFormatsWrongFalsely : Prop := digestFormatsRow.holds Try.pinned (OpenSpec.ofChange digestFormatsWrong)

/-- 'erasurelaw25.DigestParses': WHATEVER THE INPUT: true; the input reads as it did. -/
def digestParsesSpec : ChangeSpec := { name := "digestParses", fn := fun _ => fun
  | [d1, d2, d3] => { results := [.lit (.bool true)], args := [d1, d2, d3] }
  | _ => none }
def digestParsesRow : OpenClaim := { program := "ythmlnkinoaabnaa", sum := "9bf041dbb83efc9a2bb2664fb04b975137c3cfd6f0d0beb542b21a44b71ca5a4", func := "erasure/erasurelaw25.DigestParses", spec := "digestParses", apart := false }
def DigestParsesSaid : Prop := digestParsesRow.holds Try.pinned (OpenSpec.ofChange digestParsesSpec)

/-- ITS FALSE NEIGHBOUR: 'it returns false'. Refute it at one input. -/
def digestParsesWrong : ChangeSpec := { name := "digestParses", fn := fun _ => fun
  | [d1, d2, d3] => { results := [.lit (.bool false)], args := [d1, d2, d3] }
  | _ => none }
def DigestParsesWrongFalsely : Prop := digestParsesRow.holds Try.pinned (OpenSpec.ofChange digestParsesWrong)

/-- 'erasurelaw25.DigestPairs': WHATEVER THE INPUT: true; the input reads as it did. -/
def digestPairsSpec : ChangeSpec := { name := "digestPairs", fn := fun _ => fun
  | [d1, d2, d3] => { results := [.lit (.bool true)], args := [d1, d2, d3] }
  | _ => none }
def digestPairsRow : OpenClaim := { program := "ythmlnkinoaabnaa", sum := "9bf041dbb83efc9a2bb2664fb04b975137c3cfd6f0d0beb542b21a44b71ca5a4", func := "erasure/erasurelaw25.DigestPairs", spec := "digestPairs", apart := false }
def DigestPairsSaid : Prop := digestPairsRow.holds Try.pinned (OpenSpec.ofChange digestPairsSpec)

/-- ITS FALSE NEIGHBOUR: 'it returns false'. Refute it at one input. -/
def digestPairsWrong : ChangeSpec := { name := "digestPairs", fn := fun _ => fun
  | [d1, d2, d3] => { results := [.lit (.bool false)], args := [d1, d2, d3] }
  | _ => none }
def DigestPairsWrongFalsely : Prop := digestPairsRow.holds Try.pinned (OpenSpec.ofChange digestPairsWrong)

/-- 'erasurelaw25.DigestKeyed': WHATEVER THE INPUT: true; the input reads as it did. -/
def digestKeyedSpec : ChangeSpec := { name := "digestKeyed", fn := fun _ => fun
  | [d1, d2, d3] => { results := [.lit (.bool true)], args := [d1, d2, d3] }
  | _ => none }
def digestKeyedRow : OpenClaim := { program := "ythmlnkinoaabnaa", sum := "9bf041dbb83efc9a2bb2664fb04b975137c3cfd6f0d0beb542b21a44b71ca5a4", func := "erasure/erasurelaw25.DigestKeyed", spec := "digestKeyed", apart := false }
def DigestKeyedSaid : Prop := digestKeyedRow.holds Try.pinned (OpenSpec.ofChange digestKeyedSpec)

/-- ITS FALSE NEIGHBOUR: 'it returns false'. Refute it at one input. -/
def digestKeyedWrong : ChangeSpec := { name := "digestKeyed", fn := fun _ => fun
  | [d1, d2, d3] => { results := [.lit (.bool false)], args := [d1, d2, d3] }
  | _ => none }
def DigestKeyedWrongFalsely : Prop := digestKeyedRow.holds Try.pinned (OpenSpec.ofChange digestKeyedWrong)

/-- 'erasurelaw25.DigestExpands': WHATEVER THE INPUT: true; the input reads as it did. -/
def digestExpandsSpec : ChangeSpec := { name := "digestExpands", fn := fun _ => fun
  | [d1, d2, d3] => { results := [.lit (.bool true)], args := [d1, d2, d3] }
  | _ => none }
def digestExpandsRow : OpenClaim := { program := "ythmlnkinoaabnaa", sum := "9bf041dbb83efc9a2bb2664fb04b975137c3cfd6f0d0beb542b21a44b71ca5a4", func := "erasure/erasurelaw25.DigestExpands", spec := "digestExpands", apart := false }
def DigestExpandsSaid : Prop := digestExpandsRow.holds Try.pinned (OpenSpec.ofChange digestExpandsSpec)

/-- ITS FALSE NEIGHBOUR: 'it returns false'. Refute it at one input. -/
def digestExpandsWrong : ChangeSpec := { name := "digestExpands", fn := fun _ => fun
  | [d1, d2, d3] => { results := [.lit (.bool false)], args := [d1, d2, d3] }
  | _ => none }
def DigestExpandsWrongFalsely : Prop := digestExpandsRow.holds Try.pinned (OpenSpec.ofChange digestExpandsWrong)

/-- 'erasurelaw25.DigestContinues': WHATEVER THE INPUT: true; the input reads as it did. -/
def digestContinuesSpec : ChangeSpec := { name := "digestContinues", fn := fun _ => fun
  | [d1, d2, d3] => { results := [.lit (.bool true)], args := [d1, d2, d3] }
  | _ => none }
def digestContinuesRow : OpenClaim := { program := "ythmlnkinoaabnaa", sum := "9bf041dbb83efc9a2bb2664fb04b975137c3cfd6f0d0beb542b21a44b71ca5a4", func := "erasure/erasurelaw25.DigestContinues", spec := "digestContinues", apart := false }
def DigestContinuesSaid : Prop := digestContinuesRow.holds Try.pinned (OpenSpec.ofChange digestContinuesSpec)

/-- ITS FALSE NEIGHBOUR: 'it returns false'. Refute it at one input. -/
def digestContinuesWrong : ChangeSpec := { name := "digestContinues", fn := fun _ => fun
  | [d1, d2, d3] => { results := [.lit (.bool false)], args := [d1, d2, d3] }
  | _ => none }
def DigestContinuesWrongFalsely : Prop := digestContinuesRow.holds Try.pinned (OpenSpec.ofChange digestContinuesWrong)

/- THE SECOND FORM. 'bulk': how many values and letters a reading holds, each counted each time it is reached (what is shared counts as often as it is met; a slice's spare places count too). A statement '..UptoSaid' is the law's where the arguments, and the package variables that the reading takes, are together of bulk at most 1048576: NARROWER than '..Said'. Prove '..Said' where nothing that the law and all that it calls make is longer than what came in: it says more and counts as full. Else prove '..UptoSaid'. A law counts once. -/
mutual
def uptoBulk {H : Type} : DataW H → Nat
  | .lit (.string bytes) => bytes.length + 1
  | .lit _ => 1
  | .nil => 1
  | .ptr d => uptoBulk d + 1
  | .slice elems spare => uptoBulkAll elems + uptoBulkAll spare + 1
  | .agg parts => uptoBulkAll parts + 1
  | .iface _ d => uptoBulk d + 1
  | .map entries => uptoBulkEntries entries + 1
  | .held _ => 1
def uptoBulkAll {H : Type} : List (DataW H) → Nat
  | [] => 0
  | d :: r => uptoBulk d + uptoBulkAll r
def uptoBulkEntries {H : Type} : List (Lit × DataW H) → Nat
  | [] => 0
  | x :: r => uptoBulkEntry x + uptoBulkEntries r
def uptoBulkEntry {H : Type} : Lit × DataW H → Nat
  | (.string bytes, d) => bytes.length + uptoBulk d + 1
  | (_, d) => uptoBulk d + 1
 end
def uptoSmall : (H : Type) → List (DataW H) → Bool := fun _ ds => decide (uptoBulkAll ds ≤ 1048576)
def OpenSpec.upto (s : _root_.Go.ChangeSpec) : _root_.Go.OpenSpec := { _root_.Go.OpenSpec.ofChange s with cond := some uptoSmall }

/-- 'erasurelaw25.DigestPermutes', WHERE WHAT IT READS IS OF BULK AT MOST 1048576: true; the input reads as it did. -/
def digestPermutesUptoRow : OpenClaim := { program := "ythmlnkinoaabnaa", sum := "9bf041dbb83efc9a2bb2664fb04b975137c3cfd6f0d0beb542b21a44b71ca5a4", func := "erasure/erasurelaw25.DigestPermutes", spec := "digestPermutes", apart := false, narrowed := true }
def DigestPermutesUptoSaid : Prop := digestPermutesUptoRow.holds Try.pinned (OpenSpec.upto digestPermutesSpec)

/-- 'erasurelaw25.DigestInjective', WHERE WHAT IT READS IS OF BULK AT MOST 1048576: true; the input reads as it did. -/
def digestInjectiveUptoRow : OpenClaim := { program := "ythmlnkinoaabnaa", sum := "9bf041dbb83efc9a2bb2664fb04b975137c3cfd6f0d0beb542b21a44b71ca5a4", func := "erasure/erasurelaw25.DigestInjective", spec := "digestInjective", apart := false, narrowed := true }
def DigestInjectiveUptoSaid : Prop := digestInjectiveUptoRow.holds Try.pinned (OpenSpec.upto digestInjectiveSpec)

/-- 'erasurelaw25.DigestSums', WHERE WHAT IT READS IS OF BULK AT MOST 1048576: true; the input reads as it did. -/
def digestSumsUptoRow : OpenClaim := { program := "ythmlnkinoaabnaa", sum := "9bf041dbb83efc9a2bb2664fb04b975137c3cfd6f0d0beb542b21a44b71ca5a4", func := "erasure/erasurelaw25.DigestSums", spec := "digestSums", apart := false, narrowed := true }
def DigestSumsUptoSaid : Prop := digestSumsUptoRow.holds Try.pinned (OpenSpec.upto digestSumsSpec)

/-- 'erasurelaw25.DigestFormats', WHERE WHAT IT READS IS OF BULK AT MOST 1048576: true; the input reads as it did. -/
def digestFormatsUptoRow : OpenClaim := { program := "ythmlnkinoaabnaa", sum := "9bf041dbb83efc9a2bb2664fb04b975137c3cfd6f0d0beb542b21a44b71ca5a4", func := "erasure/erasurelaw25.DigestFormats", spec := "digestFormats", apart := false, narrowed := true }
def DigestFormatsUptoSaid : Prop := digestFormatsUptoRow.holds Try.pinned (OpenSpec.upto digestFormatsSpec)

/-- 'erasurelaw25.DigestParses', WHERE WHAT IT READS IS OF BULK AT MOST 1048576: true; the input reads as it did. -/
def digestParsesUptoRow : OpenClaim := { program := "ythmlnkinoaabnaa", sum := "9bf041dbb83efc9a2bb2664fb04b975137c3cfd6f0d0beb542b21a44b71ca5a4", func := "erasure/erasurelaw25.DigestParses", spec := "digestParses", apart := false, narrowed := true }
def DigestParsesUptoSaid : Prop := digestParsesUptoRow.holds Try.pinned (OpenSpec.upto digestParsesSpec)

/-- 'erasurelaw25.DigestPairs', WHERE WHAT IT READS IS OF BULK AT MOST 1048576: true; the input reads as it did. -/
def digestPairsUptoRow : OpenClaim := { program := "ythmlnkinoaabnaa", sum := "9bf041dbb83efc9a2bb2664fb04b975137c3cfd6f0d0beb542b21a44b71ca5a4", func := "erasure/erasurelaw25.DigestPairs", spec := "digestPairs", apart := false, narrowed := true }
def DigestPairsUptoSaid : Prop := digestPairsUptoRow.holds Try.pinned (OpenSpec.upto digestPairsSpec)

/-- 'erasurelaw25.DigestKeyed', WHERE WHAT IT READS IS OF BULK AT MOST 1048576: true; the input reads as it did. -/
def digestKeyedUptoRow : OpenClaim := { program := "ythmlnkinoaabnaa", sum := "9bf041dbb83efc9a2bb2664fb04b975137c3cfd6f0d0beb542b21a44b71ca5a4", func := "erasure/erasurelaw25.DigestKeyed", spec := "digestKeyed", apart := false, narrowed := true }
def DigestKeyedUptoSaid : Prop := digestKeyedUptoRow.holds Try.pinned (OpenSpec.upto digestKeyedSpec)

/-- 'erasurelaw25.DigestExpands', WHERE WHAT IT READS IS OF BULK AT MOST 1048576: true; the input reads as it did. -/
def digestExpandsUptoRow : OpenClaim := { program := "ythmlnkinoaabnaa", sum := "9bf041dbb83efc9a2bb2664fb04b975137c3cfd6f0d0beb542b21a44b71ca5a4", func := "erasure/erasurelaw25.DigestExpands", spec := "digestExpands", apart := false, narrowed := true }
def DigestExpandsUptoSaid : Prop := digestExpandsUptoRow.holds Try.pinned (OpenSpec.upto digestExpandsSpec)

/-- 'erasurelaw25.DigestContinues', WHERE WHAT IT READS IS OF BULK AT MOST 1048576: true; the input reads as it did. -/
def digestContinuesUptoRow : OpenClaim := { program := "ythmlnkinoaabnaa", sum := "9bf041dbb83efc9a2bb2664fb04b975137c3cfd6f0d0beb542b21a44b71ca5a4", func := "erasure/erasurelaw25.DigestContinues", spec := "digestContinues", apart := false, narrowed := true }
def DigestContinuesUptoSaid : Prop := digestContinuesUptoRow.holds Try.pinned (OpenSpec.upto digestContinuesSpec)

end Rows
end Go.Proofs.Ythmlnkinoaabnaa
