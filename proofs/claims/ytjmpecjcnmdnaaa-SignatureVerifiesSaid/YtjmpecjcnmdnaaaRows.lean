/-
  No cell of these rows narrows 'for every input' (looked for: loops, veiled, ifaces, maps, wideKeys, modest, calm, conditions, laid).
  DERIVED. THE GIVEN ROWS OF THIS SEAT. 14 by the template 'for every input the law returns true; each argument reads behind the call as it read before'; 0 by the template 'total and deterministic' (their statements: YtjmpecjcnmdnaaaTotals.lean).
  GIVEN WITH THE SEED: the statements are not yours to turn. If you find one false, say at which input.
  Laid BY PROGRAM, IN A SANDBOX (cutbox-rows.mjs): the forced cells as the released guide's own fill.sh prints them over the translation 1f410b219561a2f6… (all of the seat's roots in one cut). By AI agents, Wed Nov 11 2026. No macro, syntax, notation, axiom, sorry.
-/
import Derived.Test.YtjmpecjcnmdnaaaChecked
import GoSem.Claim
import GoSem.ClaimJoined
import GoSem.ClaimMapViews
import Derived.JoinedTies
import Derived.KernelRfl
namespace Go.Proofs.Ytjmpecjcnmdnaaa
/- THE CELL 'sum', in the pinned program and in every row, IS THE sha256 OF THE DUMP (.gsa) THAT YtjmpecjcnmdnaaaProg.lean LOADS. Nothing in Lean hashes anything: it is a label: what it is worth is what the hold of that sum in a sandbox is worth. -/
noncomputable def Try.pinned : Pinned := { name := "ytjmpecjcnmdnaaa", sum := "1f410b219561a2f6b2ef27f9dc3ba99834711ad700ad6dfa2e10cea2683cedbe", checked := Try.checked }
namespace Rows
def none {H : Type} : Left H := { results := [], args := [] }

/-- 'erasurelaw38.MerkleRoots': WHATEVER THE INPUT: true; the input reads as it did. -/
def merkleRootsSpec : ChangeSpec := { name := "merkleRoots", fn := fun _ => fun
  | [d1, d2] => { results := [.lit (.bool true)], args := [d1, d2] }
  | _ => none }
def merkleRootsRow : OpenClaim := { program := "ytjmpecjcnmdnaaa", sum := "1f410b219561a2f6b2ef27f9dc3ba99834711ad700ad6dfa2e10cea2683cedbe", func := "erasure/erasurelaw38.MerkleRoots", spec := "merkleRoots", unfollowed := true, recurses := true, apart := false }
def MerkleRootsSaid : Prop := merkleRootsRow.holds Try.pinned (OpenSpec.ofChange merkleRootsSpec)

/-- ITS FALSE NEIGHBOUR: 'it returns false'. Refute it at one input. -/
def merkleRootsWrong : ChangeSpec := { name := "merkleRoots", fn := fun _ => fun
  | [d1, d2] => { results := [.lit (.bool false)], args := [d1, d2] }
  | _ => none }
def MerkleRootsWrongFalsely : Prop := merkleRootsRow.holds Try.pinned (OpenSpec.ofChange merkleRootsWrong)

/-- 'erasurelaw38.MerkleProofs': WHATEVER THE INPUT: true; the input reads as it did. -/
def merkleProofsSpec : ChangeSpec := { name := "merkleProofs", fn := fun _ => fun
  | [d1, d2] => { results := [.lit (.bool true)], args := [d1, d2] }
  | _ => none }
def merkleProofsRow : OpenClaim := { program := "ytjmpecjcnmdnaaa", sum := "1f410b219561a2f6b2ef27f9dc3ba99834711ad700ad6dfa2e10cea2683cedbe", func := "erasure/erasurelaw38.MerkleProofs", spec := "merkleProofs", unfollowed := true, recurses := true, apart := false }
def MerkleProofsSaid : Prop := merkleProofsRow.holds Try.pinned (OpenSpec.ofChange merkleProofsSpec)

/-- ITS FALSE NEIGHBOUR: 'it returns false'. Refute it at one input. -/
def merkleProofsWrong : ChangeSpec := { name := "merkleProofs", fn := fun _ => fun
  | [d1, d2] => { results := [.lit (.bool false)], args := [d1, d2] }
  | _ => none }
def MerkleProofsWrongFalsely : Prop := merkleProofsRow.holds Try.pinned (OpenSpec.ofChange merkleProofsWrong)

/-- 'erasurelaw38.MerkleApplies': WHATEVER THE INPUT: true; the input reads as it did. -/
def merkleAppliesSpec : ChangeSpec := { name := "merkleApplies", fn := fun _ => fun
  | [d1, d2, d3] => { results := [.lit (.bool true)], args := [d1, d2, d3] }
  | _ => none }
def merkleAppliesRow : OpenClaim := { program := "ytjmpecjcnmdnaaa", sum := "1f410b219561a2f6b2ef27f9dc3ba99834711ad700ad6dfa2e10cea2683cedbe", func := "erasure/erasurelaw38.MerkleApplies", spec := "merkleApplies", unfollowed := true, recurses := true, apart := false }
def MerkleAppliesSaid : Prop := merkleAppliesRow.holds Try.pinned (OpenSpec.ofChange merkleAppliesSpec)

/-- ITS FALSE NEIGHBOUR: 'it returns false'. Refute it at one input. -/
def merkleAppliesWrong : ChangeSpec := { name := "merkleApplies", fn := fun _ => fun
  | [d1, d2, d3] => { results := [.lit (.bool false)], args := [d1, d2, d3] }
  | _ => none }
def MerkleAppliesWrongFalsely : Prop := merkleAppliesRow.holds Try.pinned (OpenSpec.ofChange merkleAppliesWrong)

/-- 'erasurelaw38.MerkleAccepts': WHATEVER THE INPUT: true; the input reads as it did. -/
def merkleAcceptsSpec : ChangeSpec := { name := "merkleAccepts", fn := fun _ => fun
  | [d] => { results := [.lit (.bool true)], args := [d] }
  | _ => none }
def merkleAcceptsRow : OpenClaim := { program := "ytjmpecjcnmdnaaa", sum := "1f410b219561a2f6b2ef27f9dc3ba99834711ad700ad6dfa2e10cea2683cedbe", func := "erasure/erasurelaw38.MerkleAccepts", spec := "merkleAccepts", unfollowed := true, recurses := true, apart := false }
def MerkleAcceptsSaid : Prop := merkleAcceptsRow.holds Try.pinned (OpenSpec.ofChange merkleAcceptsSpec)

/-- ITS FALSE NEIGHBOUR: 'it returns false'. Refute it at one input. -/
def merkleAcceptsWrong : ChangeSpec := { name := "merkleAccepts", fn := fun _ => fun
  | [d] => { results := [.lit (.bool false)], args := [d] }
  | _ => none }
def MerkleAcceptsWrongFalsely : Prop := merkleAcceptsRow.holds Try.pinned (OpenSpec.ofChange merkleAcceptsWrong)

/-- 'erasurelaw38.MerkleReplaces': WHATEVER THE INPUT: true; the input reads as it did. -/
def merkleReplacesSpec : ChangeSpec := { name := "merkleReplaces", fn := fun _ => fun
  | [d1, d2, d3] => { results := [.lit (.bool true)], args := [d1, d2, d3] }
  | _ => none }
def merkleReplacesRow : OpenClaim := { program := "ytjmpecjcnmdnaaa", sum := "1f410b219561a2f6b2ef27f9dc3ba99834711ad700ad6dfa2e10cea2683cedbe", func := "erasure/erasurelaw38.MerkleReplaces", spec := "merkleReplaces", unfollowed := true, recurses := true, apart := false }
def MerkleReplacesSaid : Prop := merkleReplacesRow.holds Try.pinned (OpenSpec.ofChange merkleReplacesSpec)

/-- ITS FALSE NEIGHBOUR: 'it returns false'. Refute it at one input. -/
def merkleReplacesWrong : ChangeSpec := { name := "merkleReplaces", fn := fun _ => fun
  | [d1, d2, d3] => { results := [.lit (.bool false)], args := [d1, d2, d3] }
  | _ => none }
def MerkleReplacesWrongFalsely : Prop := merkleReplacesRow.holds Try.pinned (OpenSpec.ofChange merkleReplacesWrong)

/-- 'erasurelaw38.MerkleShapes': WHATEVER THE INPUT: true; the input reads as it did. -/
def merkleShapesSpec : ChangeSpec := { name := "merkleShapes", fn := fun _ => fun
  | [d1, d2, d3] => { results := [.lit (.bool true)], args := [d1, d2, d3] }
  | _ => none }
def merkleShapesRow : OpenClaim := { program := "ytjmpecjcnmdnaaa", sum := "1f410b219561a2f6b2ef27f9dc3ba99834711ad700ad6dfa2e10cea2683cedbe", func := "erasure/erasurelaw38.MerkleShapes", spec := "merkleShapes", unfollowed := true, recurses := true, apart := false }
def MerkleShapesSaid : Prop := merkleShapesRow.holds Try.pinned (OpenSpec.ofChange merkleShapesSpec)

/-- ITS FALSE NEIGHBOUR: 'it returns false'. Refute it at one input. -/
def merkleShapesWrong : ChangeSpec := { name := "merkleShapes", fn := fun _ => fun
  | [d1, d2, d3] => { results := [.lit (.bool false)], args := [d1, d2, d3] }
  | _ => none }
def MerkleShapesWrongFalsely : Prop := merkleShapesRow.holds Try.pinned (OpenSpec.ofChange merkleShapesWrong)

/-- 'erasurelaw38.MerkleLimit': WHATEVER THE INPUT: true; the input reads as it did. -/
def merkleLimitSpec : ChangeSpec := { name := "merkleLimit", fn := fun _ => fun
  | [d] => { results := [.lit (.bool true)], args := [d] }
  | _ => none }
def merkleLimitRow : OpenClaim := { program := "ytjmpecjcnmdnaaa", sum := "1f410b219561a2f6b2ef27f9dc3ba99834711ad700ad6dfa2e10cea2683cedbe", func := "erasure/erasurelaw38.MerkleLimit", spec := "merkleLimit", unfollowed := true, recurses := true, apart := false }
def MerkleLimitSaid : Prop := merkleLimitRow.holds Try.pinned (OpenSpec.ofChange merkleLimitSpec)

/-- ITS FALSE NEIGHBOUR: 'it returns false'. Refute it at one input. -/
def merkleLimitWrong : ChangeSpec := { name := "merkleLimit", fn := fun _ => fun
  | [d] => { results := [.lit (.bool false)], args := [d] }
  | _ => none }
def MerkleLimitWrongFalsely : Prop := merkleLimitRow.holds Try.pinned (OpenSpec.ofChange merkleLimitWrong)

/-- 'erasurelaw39.SignatureDigits': WHATEVER THE INPUT: true; the input reads as it did. -/
def signatureDigitsSpec : ChangeSpec := { name := "signatureDigits", fn := fun _ => fun
  | [d] => { results := [.lit (.bool true)], args := [d] }
  | _ => none }
def signatureDigitsRow : OpenClaim := { program := "ytjmpecjcnmdnaaa", sum := "1f410b219561a2f6b2ef27f9dc3ba99834711ad700ad6dfa2e10cea2683cedbe", func := "erasure/erasurelaw39.SignatureDigits", spec := "signatureDigits", apart := false }
def SignatureDigitsSaid : Prop := signatureDigitsRow.holds Try.pinned (OpenSpec.ofChange signatureDigitsSpec)

/-- ITS FALSE NEIGHBOUR: 'it returns false'. Refute it at one input. -/
def signatureDigitsWrong : ChangeSpec := { name := "signatureDigits", fn := fun _ => fun
  | [d] => { results := [.lit (.bool false)], args := [d] }
  | _ => none }
def SignatureDigitsWrongFalsely : Prop := signatureDigitsRow.holds Try.pinned (OpenSpec.ofChange signatureDigitsWrong)

/-- 'erasurelaw39.SignatureChecks': WHATEVER THE INPUT: true; the input reads as it did. -/
def signatureChecksSpec : ChangeSpec := { name := "signatureChecks", fn := fun _ => fun
  | [d1, d2] => { results := [.lit (.bool true)], args := [d1, d2] }
  | _ => none }
def signatureChecksRow : OpenClaim := { program := "ytjmpecjcnmdnaaa", sum := "1f410b219561a2f6b2ef27f9dc3ba99834711ad700ad6dfa2e10cea2683cedbe", func := "erasure/erasurelaw39.SignatureChecks", spec := "signatureChecks", apart := false }
def SignatureChecksSaid : Prop := signatureChecksRow.holds Try.pinned (OpenSpec.ofChange signatureChecksSpec)

/-- ITS FALSE NEIGHBOUR: 'it returns false'. Refute it at one input. -/
def signatureChecksWrong : ChangeSpec := { name := "signatureChecks", fn := fun _ => fun
  | [d1, d2] => { results := [.lit (.bool false)], args := [d1, d2] }
  | _ => none }
def SignatureChecksWrongFalsely : Prop := signatureChecksRow.holds Try.pinned (OpenSpec.ofChange signatureChecksWrong)

/-- 'erasurelaw39.SignatureVerifies': WHATEVER THE INPUT: true; the input reads as it did. -/
def signatureVerifiesSpec : ChangeSpec := { name := "signatureVerifies", fn := fun _ => fun
  | [d1, d2, d3] => { results := [.lit (.bool true)], args := [d1, d2, d3] }
  | _ => none }
def signatureVerifiesRow : OpenClaim := { program := "ytjmpecjcnmdnaaa", sum := "1f410b219561a2f6b2ef27f9dc3ba99834711ad700ad6dfa2e10cea2683cedbe", func := "erasure/erasurelaw39.SignatureVerifies", spec := "signatureVerifies", apart := false }
def SignatureVerifiesSaid : Prop := signatureVerifiesRow.holds Try.pinned (OpenSpec.ofChange signatureVerifiesSpec)

/-- ITS FALSE NEIGHBOUR: 'it returns false'. Refute it at one input. -/
def signatureVerifiesWrong : ChangeSpec := { name := "signatureVerifies", fn := fun _ => fun
  | [d1, d2, d3] => { results := [.lit (.bool false)], args := [d1, d2, d3] }
  | _ => none }
def SignatureVerifiesWrongFalsely : Prop := signatureVerifiesRow.holds Try.pinned (OpenSpec.ofChange signatureVerifiesWrong)

/-- 'erasurelaw39.SignatureDamage': WHATEVER THE INPUT: true; the input reads as it did. -/
def signatureDamageSpec : ChangeSpec := { name := "signatureDamage", fn := fun _ => fun
  | [d1, d2, d3] => { results := [.lit (.bool true)], args := [d1, d2, d3] }
  | _ => none }
def signatureDamageRow : OpenClaim := { program := "ytjmpecjcnmdnaaa", sum := "1f410b219561a2f6b2ef27f9dc3ba99834711ad700ad6dfa2e10cea2683cedbe", func := "erasure/erasurelaw39.SignatureDamage", spec := "signatureDamage", apart := false }
def SignatureDamageSaid : Prop := signatureDamageRow.holds Try.pinned (OpenSpec.ofChange signatureDamageSpec)

/-- ITS FALSE NEIGHBOUR: 'it returns false'. Refute it at one input. -/
def signatureDamageWrong : ChangeSpec := { name := "signatureDamage", fn := fun _ => fun
  | [d1, d2, d3] => { results := [.lit (.bool false)], args := [d1, d2, d3] }
  | _ => none }
def SignatureDamageWrongFalsely : Prop := signatureDamageRow.holds Try.pinned (OpenSpec.ofChange signatureDamageWrong)

/-- 'erasurelaw39.SignaturePublic': WHATEVER THE INPUT: true; the input reads as it did. -/
def signaturePublicSpec : ChangeSpec := { name := "signaturePublic", fn := fun _ => fun
  | [d] => { results := [.lit (.bool true)], args := [d] }
  | _ => none }
def signaturePublicRow : OpenClaim := { program := "ytjmpecjcnmdnaaa", sum := "1f410b219561a2f6b2ef27f9dc3ba99834711ad700ad6dfa2e10cea2683cedbe", func := "erasure/erasurelaw39.SignaturePublic", spec := "signaturePublic", unfollowed := true, recurses := true, apart := false }
def SignaturePublicSaid : Prop := signaturePublicRow.holds Try.pinned (OpenSpec.ofChange signaturePublicSpec)

/-- ITS FALSE NEIGHBOUR: 'it returns false'. Refute it at one input. -/
def signaturePublicWrong : ChangeSpec := { name := "signaturePublic", fn := fun _ => fun
  | [d] => { results := [.lit (.bool false)], args := [d] }
  | _ => none }
def SignaturePublicWrongFalsely : Prop := signaturePublicRow.holds Try.pinned (OpenSpec.ofChange signaturePublicWrong)

/-- 'erasurelaw39.SignatureSigns': WHATEVER THE INPUT: true; the input reads as it did. -/
def signatureSignsSpec : ChangeSpec := { name := "signatureSigns", fn := fun _ => fun
  | [d1, d2, d3] => { results := [.lit (.bool true)], args := [d1, d2, d3] }
  | _ => none }
def signatureSignsRow : OpenClaim := { program := "ytjmpecjcnmdnaaa", sum := "1f410b219561a2f6b2ef27f9dc3ba99834711ad700ad6dfa2e10cea2683cedbe", func := "erasure/erasurelaw39.SignatureSigns", spec := "signatureSigns", unfollowed := true, recurses := true, apart := false }
def SignatureSignsSaid : Prop := signatureSignsRow.holds Try.pinned (OpenSpec.ofChange signatureSignsSpec)

/-- ITS FALSE NEIGHBOUR: 'it returns false'. Refute it at one input. -/
def signatureSignsWrong : ChangeSpec := { name := "signatureSigns", fn := fun _ => fun
  | [d1, d2, d3] => { results := [.lit (.bool false)], args := [d1, d2, d3] }
  | _ => none }
def SignatureSignsWrongFalsely : Prop := signatureSignsRow.holds Try.pinned (OpenSpec.ofChange signatureSignsWrong)

/-- 'erasurelaw39.SignatureAccepts': WHATEVER THE INPUT: true; the input reads as it did. -/
def signatureAcceptsSpec : ChangeSpec := { name := "signatureAccepts", fn := fun _ => fun
  | [d1, d2, d3] => { results := [.lit (.bool true)], args := [d1, d2, d3] }
  | _ => none }
def signatureAcceptsRow : OpenClaim := { program := "ytjmpecjcnmdnaaa", sum := "1f410b219561a2f6b2ef27f9dc3ba99834711ad700ad6dfa2e10cea2683cedbe", func := "erasure/erasurelaw39.SignatureAccepts", spec := "signatureAccepts", unfollowed := true, recurses := true, apart := false }
def SignatureAcceptsSaid : Prop := signatureAcceptsRow.holds Try.pinned (OpenSpec.ofChange signatureAcceptsSpec)

/-- ITS FALSE NEIGHBOUR: 'it returns false'. Refute it at one input. -/
def signatureAcceptsWrong : ChangeSpec := { name := "signatureAccepts", fn := fun _ => fun
  | [d1, d2, d3] => { results := [.lit (.bool false)], args := [d1, d2, d3] }
  | _ => none }
def SignatureAcceptsWrongFalsely : Prop := signatureAcceptsRow.holds Try.pinned (OpenSpec.ofChange signatureAcceptsWrong)

/- THE SECOND FORM. 'bulk': how many values and letters a reading holds, each counted each time it is reached (what is shared counts as often as it is met; a slice's spare places count too). A statement '..UptoSaid' is the law's where the arguments, and the package variables that the reading takes, are together of bulk at most 1048576: NARROWER than '..Said'. Prove '..Said' where nothing that the law and all that it calls make is longer than what came in: it says more and counts as full. Else prove '..UptoSaid'. A law counts once. -/
mutual
def uptoBulk {H : Type} : DataW H → Nat
  | .lit (.string bytes) => bytes.length + 1
  | .lit _ => 1
  | .nil => 1
  | .ptr d => uptoBulk d + 1
  | .slice elems spare => uptoBulkAll elems + uptoBulkAll spare + 1
  | .agg parts => uptoBulkAll parts + 1
  | .iface _ d => uptoBulk d + 1
  | .map entries => uptoBulkEntries entries + 1
  | .held _ => 1
def uptoBulkAll {H : Type} : List (DataW H) → Nat
  | [] => 0
  | d :: r => uptoBulk d + uptoBulkAll r
def uptoBulkEntries {H : Type} : List (Lit × DataW H) → Nat
  | [] => 0
  | x :: r => uptoBulkEntry x + uptoBulkEntries r
def uptoBulkEntry {H : Type} : Lit × DataW H → Nat
  | (.string bytes, d) => bytes.length + uptoBulk d + 1
  | (_, d) => uptoBulk d + 1
 end
def uptoSmall : (H : Type) → List (DataW H) → Bool := fun _ ds => decide (uptoBulkAll ds ≤ 1048576)
def OpenSpec.upto (s : _root_.Go.ChangeSpec) : _root_.Go.OpenSpec := { _root_.Go.OpenSpec.ofChange s with cond := some uptoSmall }

/-- 'erasurelaw38.MerkleRoots', WHERE WHAT IT READS IS OF BULK AT MOST 1048576: true; the input reads as it did. -/
def merkleRootsUptoRow : OpenClaim := { program := "ytjmpecjcnmdnaaa", sum := "1f410b219561a2f6b2ef27f9dc3ba99834711ad700ad6dfa2e10cea2683cedbe", func := "erasure/erasurelaw38.MerkleRoots", spec := "merkleRoots", unfollowed := true, recurses := true, apart := false, narrowed := true }
def MerkleRootsUptoSaid : Prop := merkleRootsUptoRow.holds Try.pinned (OpenSpec.upto merkleRootsSpec)

/-- 'erasurelaw38.MerkleProofs', WHERE WHAT IT READS IS OF BULK AT MOST 1048576: true; the input reads as it did. -/
def merkleProofsUptoRow : OpenClaim := { program := "ytjmpecjcnmdnaaa", sum := "1f410b219561a2f6b2ef27f9dc3ba99834711ad700ad6dfa2e10cea2683cedbe", func := "erasure/erasurelaw38.MerkleProofs", spec := "merkleProofs", unfollowed := true, recurses := true, apart := false, narrowed := true }
def MerkleProofsUptoSaid : Prop := merkleProofsUptoRow.holds Try.pinned (OpenSpec.upto merkleProofsSpec)

/-- 'erasurelaw38.MerkleApplies', WHERE WHAT IT READS IS OF BULK AT MOST 1048576: true; the input reads as it did. -/
def merkleAppliesUptoRow : OpenClaim := { program := "ytjmpecjcnmdnaaa", sum := "1f410b219561a2f6b2ef27f9dc3ba99834711ad700ad6dfa2e10cea2683cedbe", func := "erasure/erasurelaw38.MerkleApplies", spec := "merkleApplies", unfollowed := true, recurses := true, apart := false, narrowed := true }
def MerkleAppliesUptoSaid : Prop := merkleAppliesUptoRow.holds Try.pinned (OpenSpec.upto merkleAppliesSpec)

/-- 'erasurelaw38.MerkleAccepts', WHERE WHAT IT READS IS OF BULK AT MOST 1048576: true; the input reads as it did. -/
def merkleAcceptsUptoRow : OpenClaim := { program := "ytjmpecjcnmdnaaa", sum := "1f410b219561a2f6b2ef27f9dc3ba99834711ad700ad6dfa2e10cea2683cedbe", func := "erasure/erasurelaw38.MerkleAccepts", spec := "merkleAccepts", unfollowed := true, recurses := true, apart := false, narrowed := true }
def MerkleAcceptsUptoSaid : Prop := merkleAcceptsUptoRow.holds Try.pinned (OpenSpec.upto merkleAcceptsSpec)

/-- 'erasurelaw38.MerkleReplaces', WHERE WHAT IT READS IS OF BULK AT MOST 1048576: true; the input reads as it did. -/
def merkleReplacesUptoRow : OpenClaim := { program := "ytjmpecjcnmdnaaa", sum := "1f410b219561a2f6b2ef27f9dc3ba99834711ad700ad6dfa2e10cea2683cedbe", func := "erasure/erasurelaw38.MerkleReplaces", spec := "merkleReplaces", unfollowed := true, recurses := true, apart := false, narrowed := true }
def MerkleReplacesUptoSaid : Prop := merkleReplacesUptoRow.holds Try.pinned (OpenSpec.upto merkleReplacesSpec)

/-- 'erasurelaw38.MerkleShapes', WHERE WHAT IT READS IS OF BULK AT MOST 1048576: true; the input reads as it did. -/
def merkleShapesUptoRow : OpenClaim := { program := "ytjmpecjcnmdnaaa", sum := "1f410b219561a2f6b2ef27f9dc3ba99834711ad700ad6dfa2e10cea2683cedbe", func := "erasure/erasurelaw38.MerkleShapes", spec := "merkleShapes", unfollowed := true, recurses := true, apart := false, narrowed := true }
def MerkleShapesUptoSaid : Prop := merkleShapesUptoRow.holds Try.pinned (OpenSpec.upto merkleShapesSpec)

/-- 'erasurelaw38.MerkleLimit', WHERE WHAT IT READS IS OF BULK AT MOST 1048576: true; the input reads as it did. -/
def merkleLimitUptoRow : OpenClaim := { program := "ytjmpecjcnmdnaaa", sum := "1f410b219561a2f6b2ef27f9dc3ba99834711ad700ad6dfa2e10cea2683cedbe", func := "erasure/erasurelaw38.MerkleLimit", spec := "merkleLimit", unfollowed := true, recurses := true, apart := false, narrowed := true }
def MerkleLimitUptoSaid : Prop := merkleLimitUptoRow.holds Try.pinned (OpenSpec.upto merkleLimitSpec)

/-- 'erasurelaw39.SignatureDigits', WHERE WHAT IT READS IS OF BULK AT MOST 1048576: true; the input reads as it did. -/
def signatureDigitsUptoRow : OpenClaim := { program := "ytjmpecjcnmdnaaa", sum := "1f410b219561a2f6b2ef27f9dc3ba99834711ad700ad6dfa2e10cea2683cedbe", func := "erasure/erasurelaw39.SignatureDigits", spec := "signatureDigits", apart := false, narrowed := true }
def SignatureDigitsUptoSaid : Prop := signatureDigitsUptoRow.holds Try.pinned (OpenSpec.upto signatureDigitsSpec)

/-- 'erasurelaw39.SignatureChecks', WHERE WHAT IT READS IS OF BULK AT MOST 1048576: true; the input reads as it did. -/
def signatureChecksUptoRow : OpenClaim := { program := "ytjmpecjcnmdnaaa", sum := "1f410b219561a2f6b2ef27f9dc3ba99834711ad700ad6dfa2e10cea2683cedbe", func := "erasure/erasurelaw39.SignatureChecks", spec := "signatureChecks", apart := false, narrowed := true }
def SignatureChecksUptoSaid : Prop := signatureChecksUptoRow.holds Try.pinned (OpenSpec.upto signatureChecksSpec)

/-- 'erasurelaw39.SignatureVerifies', WHERE WHAT IT READS IS OF BULK AT MOST 1048576: true; the input reads as it did. -/
def signatureVerifiesUptoRow : OpenClaim := { program := "ytjmpecjcnmdnaaa", sum := "1f410b219561a2f6b2ef27f9dc3ba99834711ad700ad6dfa2e10cea2683cedbe", func := "erasure/erasurelaw39.SignatureVerifies", spec := "signatureVerifies", apart := false, narrowed := true }
def SignatureVerifiesUptoSaid : Prop := signatureVerifiesUptoRow.holds Try.pinned (OpenSpec.upto signatureVerifiesSpec)

/-- 'erasurelaw39.SignatureDamage', WHERE WHAT IT READS IS OF BULK AT MOST 1048576: true; the input reads as it did. -/
def signatureDamageUptoRow : OpenClaim := { program := "ytjmpecjcnmdnaaa", sum := "1f410b219561a2f6b2ef27f9dc3ba99834711ad700ad6dfa2e10cea2683cedbe", func := "erasure/erasurelaw39.SignatureDamage", spec := "signatureDamage", apart := false, narrowed := true }
def SignatureDamageUptoSaid : Prop := signatureDamageUptoRow.holds Try.pinned (OpenSpec.upto signatureDamageSpec)

/-- 'erasurelaw39.SignaturePublic', WHERE WHAT IT READS IS OF BULK AT MOST 1048576: true; the input reads as it did. -/
def signaturePublicUptoRow : OpenClaim := { program := "ytjmpecjcnmdnaaa", sum := "1f410b219561a2f6b2ef27f9dc3ba99834711ad700ad6dfa2e10cea2683cedbe", func := "erasure/erasurelaw39.SignaturePublic", spec := "signaturePublic", unfollowed := true, recurses := true, apart := false, narrowed := true }
def SignaturePublicUptoSaid : Prop := signaturePublicUptoRow.holds Try.pinned (OpenSpec.upto signaturePublicSpec)

/-- 'erasurelaw39.SignatureSigns', WHERE WHAT IT READS IS OF BULK AT MOST 1048576: true; the input reads as it did. -/
def signatureSignsUptoRow : OpenClaim := { program := "ytjmpecjcnmdnaaa", sum := "1f410b219561a2f6b2ef27f9dc3ba99834711ad700ad6dfa2e10cea2683cedbe", func := "erasure/erasurelaw39.SignatureSigns", spec := "signatureSigns", unfollowed := true, recurses := true, apart := false, narrowed := true }
def SignatureSignsUptoSaid : Prop := signatureSignsUptoRow.holds Try.pinned (OpenSpec.upto signatureSignsSpec)

/-- 'erasurelaw39.SignatureAccepts', WHERE WHAT IT READS IS OF BULK AT MOST 1048576: true; the input reads as it did. -/
def signatureAcceptsUptoRow : OpenClaim := { program := "ytjmpecjcnmdnaaa", sum := "1f410b219561a2f6b2ef27f9dc3ba99834711ad700ad6dfa2e10cea2683cedbe", func := "erasure/erasurelaw39.SignatureAccepts", spec := "signatureAccepts", unfollowed := true, recurses := true, apart := false, narrowed := true }
def SignatureAcceptsUptoSaid : Prop := signatureAcceptsUptoRow.holds Try.pinned (OpenSpec.upto signatureAcceptsSpec)

end Rows
end Go.Proofs.Ytjmpecjcnmdnaaa
