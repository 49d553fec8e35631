/-
  No cell of these rows narrows 'for every input' (looked for: loops, veiled, ifaces, maps, wideKeys, modest, calm, conditions, laid).
  DERIVED. THE GIVEN ROWS OF THIS SEAT. 6 by the template 'for every input the law returns true; each argument reads behind the call as it read before'; 0 by the template 'total and deterministic' (their statements: YteknebkgpehphaaTotals.lean).
  GIVEN WITH THE SEED: the statements are not yours to turn. If you find one false, say at which input.
  Laid BY PROGRAM, IN A SANDBOX (cutbox-rows.mjs): the forced cells as the released guide's own fill.sh prints them over the translation 7522b33141d33203… (all of the seat's roots in one cut). By AI agents, Wed Nov 11 2026. No macro, syntax, notation, axiom, sorry.
-/
import Derived.Test.YteknebkgpehphaaChecked
import GoSem.Claim
import GoSem.ClaimJoined
import GoSem.ClaimMapViews
import Derived.JoinedTies
import Derived.KernelRfl
namespace Go.Proofs.Yteknebkgpehphaa
/- THE CELL 'sum', in the pinned program and in every row, IS THE sha256 OF THE DUMP (.gsa) THAT YteknebkgpehphaaProg.lean LOADS. Nothing in Lean hashes anything: it is a label: what it is worth is what the hold of that sum in a sandbox is worth. -/
noncomputable def Try.pinned : Pinned := { name := "yteknebkgpehphaa", sum := "7522b33141d332037a5cc2e6f6c18c6ac001b2f69175db11aa5e1f1a496ba184", checked := Try.checked }
namespace Rows
def none {H : Type} : Left H := { results := [], args := [] }

/-- 'fullinglaw2.LexerExamples': WHATEVER THE INPUT: true; the input reads as it did. -/
def lexerExamplesSpec : ChangeSpec := { name := "lexerExamples", fn := fun _ => fun
  | [] => { results := [.lit (.bool true)], args := [] }
  | _ => none }
def lexerExamplesRow : OpenClaim := { program := "yteknebkgpehphaa", sum := "7522b33141d332037a5cc2e6f6c18c6ac001b2f69175db11aa5e1f1a496ba184", func := "fulling/fullinglaw2.LexerExamples", spec := "lexerExamples", apart := false }
def LexerExamplesSaid : Prop := lexerExamplesRow.holds Try.pinned (OpenSpec.ofChange lexerExamplesSpec)

/-- ITS FALSE NEIGHBOUR: 'it returns false'. Refute it at one input. -/
def lexerExamplesWrong : ChangeSpec := { name := "lexerExamples", fn := fun _ => fun
  | [] => { results := [.lit (.bool false)], args := [] }
  | _ => none }
def LexerExamplesWrongFalsely : Prop := lexerExamplesRow.holds Try.pinned (OpenSpec.ofChange lexerExamplesWrong)

/-- 'fullinglaw2.LexerReference': WHATEVER THE INPUT: true; the input reads as it did. -/
def lexerReferenceSpec : ChangeSpec := { name := "lexerReference", fn := fun _ => fun
  | [d1, d2, d3, d4] => { results := [.lit (.bool true)], args := [d1, d2, d3, d4] }
  | _ => none }
def lexerReferenceRow : OpenClaim := { program := "yteknebkgpehphaa", sum := "7522b33141d332037a5cc2e6f6c18c6ac001b2f69175db11aa5e1f1a496ba184", func := "fulling/fullinglaw2.LexerReference", spec := "lexerReference", recurses := true, apart := false }
def LexerReferenceSaid : Prop := lexerReferenceRow.holds Try.pinned (OpenSpec.ofChange lexerReferenceSpec)

/-- ITS FALSE NEIGHBOUR: 'it returns false'. Refute it at one input. -/
def lexerReferenceWrong : ChangeSpec := { name := "lexerReference", fn := fun _ => fun
  | [d1, d2, d3, d4] => { results := [.lit (.bool false)], args := [d1, d2, d3, d4] }
  | _ => none }
def LexerReferenceWrongFalsely : Prop := lexerReferenceRow.holds Try.pinned (OpenSpec.ofChange lexerReferenceWrong)

/-- 'fullinglaw2.LexerOffsets': WHATEVER THE INPUT: true; the input reads as it did. -/
def lexerOffsetsSpec : ChangeSpec := { name := "lexerOffsets", fn := fun _ => fun
  | [d] => { results := [.lit (.bool true)], args := [d] }
  | _ => none }
def lexerOffsetsRow : OpenClaim := { program := "yteknebkgpehphaa", sum := "7522b33141d332037a5cc2e6f6c18c6ac001b2f69175db11aa5e1f1a496ba184", func := "fulling/fullinglaw2.LexerOffsets", spec := "lexerOffsets", apart := false }
def LexerOffsetsSaid : Prop := lexerOffsetsRow.holds Try.pinned (OpenSpec.ofChange lexerOffsetsSpec)

/-- ITS FALSE NEIGHBOUR: 'it returns false'. Refute it at one input. -/
def lexerOffsetsWrong : ChangeSpec := { name := "lexerOffsets", fn := fun _ => fun
  | [d] => { results := [.lit (.bool false)], args := [d] }
  | _ => none }
def LexerOffsetsWrongFalsely : Prop := lexerOffsetsRow.holds Try.pinned (OpenSpec.ofChange lexerOffsetsWrong)

/-- 'fullinglaw2.LexerRespaced': WHATEVER THE INPUT: true; the input reads as it did. -/
def lexerRespacedSpec : ChangeSpec := { name := "lexerRespaced", fn := fun _ => fun
  | [d1, d2] => { results := [.lit (.bool true)], args := [d1, d2] }
  | _ => none }
def lexerRespacedRow : OpenClaim := { program := "yteknebkgpehphaa", sum := "7522b33141d332037a5cc2e6f6c18c6ac001b2f69175db11aa5e1f1a496ba184", func := "fulling/fullinglaw2.LexerRespaced", spec := "lexerRespaced", apart := false }
def LexerRespacedSaid : Prop := lexerRespacedRow.holds Try.pinned (OpenSpec.ofChange lexerRespacedSpec)

/-- ITS FALSE NEIGHBOUR: 'it returns false'. Refute it at one input. -/
def lexerRespacedWrong : ChangeSpec := { name := "lexerRespaced", fn := fun _ => fun
  | [d1, d2] => { results := [.lit (.bool false)], args := [d1, d2] }
  | _ => none }
def LexerRespacedWrongFalsely : Prop := lexerRespacedRow.holds Try.pinned (OpenSpec.ofChange lexerRespacedWrong)

/-- 'fullinglaw2.LexerConcatenation': WHATEVER THE INPUT: true; the input reads as it did. -/
def lexerConcatenationSpec : ChangeSpec := { name := "lexerConcatenation", fn := fun _ => fun
  | [d1, d2] => { results := [.lit (.bool true)], args := [d1, d2] }
  | _ => none }
def lexerConcatenationRow : OpenClaim := { program := "yteknebkgpehphaa", sum := "7522b33141d332037a5cc2e6f6c18c6ac001b2f69175db11aa5e1f1a496ba184", func := "fulling/fullinglaw2.LexerConcatenation", spec := "lexerConcatenation", apart := false }
def LexerConcatenationSaid : Prop := lexerConcatenationRow.holds Try.pinned (OpenSpec.ofChange lexerConcatenationSpec)

/-- ITS FALSE NEIGHBOUR: 'it returns false'. Refute it at one input. -/
def lexerConcatenationWrong : ChangeSpec := { name := "lexerConcatenation", fn := fun _ => fun
  | [d1, d2] => { results := [.lit (.bool false)], args := [d1, d2] }
  | _ => none }
def LexerConcatenationWrongFalsely : Prop := lexerConcatenationRow.holds Try.pinned (OpenSpec.ofChange lexerConcatenationWrong)

/-- 'fullinglaw2.LexerNames': WHATEVER THE INPUT: true; the input reads as it did. -/
def lexerNamesSpec : ChangeSpec := { name := "lexerNames", fn := fun _ => fun
  | [d] => { results := [.lit (.bool true)], args := [d] }
  | _ => none }
def lexerNamesRow : OpenClaim := { program := "yteknebkgpehphaa", sum := "7522b33141d332037a5cc2e6f6c18c6ac001b2f69175db11aa5e1f1a496ba184", func := "fulling/fullinglaw2.LexerNames", spec := "lexerNames", apart := false }
def LexerNamesSaid : Prop := lexerNamesRow.holds Try.pinned (OpenSpec.ofChange lexerNamesSpec)

/-- ITS FALSE NEIGHBOUR: 'it returns false'. Refute it at one input. -/
def lexerNamesWrong : ChangeSpec := { name := "lexerNames", fn := fun _ => fun
  | [d] => { results := [.lit (.bool false)], args := [d] }
  | _ => none }
def LexerNamesWrongFalsely : Prop := lexerNamesRow.holds Try.pinned (OpenSpec.ofChange lexerNamesWrong)

/- THE SECOND FORM. 'bulk': how many values and letters a reading holds, each counted each time it is reached (what is shared counts as often as it is met; a slice's spare places count too). A statement '..UptoSaid' is the law's where the arguments, and the package variables that the reading takes, are together of bulk at most 1048576: NARROWER than '..Said'. Prove '..Said' where nothing that the law and all that it calls make is longer than what came in: it says more and counts as full. Else prove '..UptoSaid'. A law counts once. -/
mutual
def uptoBulk {H : Type} : DataW H → Nat
  | .lit (.string bytes) => bytes.length + 1
  | .lit _ => 1
  | .nil => 1
  | .ptr d => uptoBulk d + 1
  | .slice elems spare => uptoBulkAll elems + uptoBulkAll spare + 1
  | .agg parts => uptoBulkAll parts + 1
  | .iface _ d => uptoBulk d + 1
  | .map entries => uptoBulkEntries entries + 1
  | .held _ => 1
def uptoBulkAll {H : Type} : List (DataW H) → Nat
  | [] => 0
  | d :: r => uptoBulk d + uptoBulkAll r
def uptoBulkEntries {H : Type} : List (Lit × DataW H) → Nat
  | [] => 0
  | x :: r => uptoBulkEntry x + uptoBulkEntries r
def uptoBulkEntry {H : Type} : Lit × DataW H → Nat
  | (.string bytes, d) => bytes.length + uptoBulk d + 1
  | (_, d) => uptoBulk d + 1
 end
def uptoSmall : (H : Type) → List (DataW H) → Bool := fun _ ds => decide (uptoBulkAll ds ≤ 1048576)
def OpenSpec.upto (s : _root_.Go.ChangeSpec) : _root_.Go.OpenSpec := { _root_.Go.OpenSpec.ofChange s with cond := some uptoSmall }

/-- 'fullinglaw2.LexerExamples', WHERE WHAT IT READS IS OF BULK AT MOST 1048576: true; the input reads as it did. -/
def lexerExamplesUptoRow : OpenClaim := { program := "yteknebkgpehphaa", sum := "7522b33141d332037a5cc2e6f6c18c6ac001b2f69175db11aa5e1f1a496ba184", func := "fulling/fullinglaw2.LexerExamples", spec := "lexerExamples", apart := false, narrowed := true }
def LexerExamplesUptoSaid : Prop := lexerExamplesUptoRow.holds Try.pinned (OpenSpec.upto lexerExamplesSpec)

/-- 'fullinglaw2.LexerReference', WHERE WHAT IT READS IS OF BULK AT MOST 1048576: true; the input reads as it did. -/
def lexerReferenceUptoRow : OpenClaim := { program := "yteknebkgpehphaa", sum := "7522b33141d332037a5cc2e6f6c18c6ac001b2f69175db11aa5e1f1a496ba184", func := "fulling/fullinglaw2.LexerReference", spec := "lexerReference", recurses := true, apart := false, narrowed := true }
def LexerReferenceUptoSaid : Prop := lexerReferenceUptoRow.holds Try.pinned (OpenSpec.upto lexerReferenceSpec)

/-- 'fullinglaw2.LexerOffsets', WHERE WHAT IT READS IS OF BULK AT MOST 1048576: true; the input reads as it did. -/
def lexerOffsetsUptoRow : OpenClaim := { program := "yteknebkgpehphaa", sum := "7522b33141d332037a5cc2e6f6c18c6ac001b2f69175db11aa5e1f1a496ba184", func := "fulling/fullinglaw2.LexerOffsets", spec := "lexerOffsets", apart := false, narrowed := true }
def LexerOffsetsUptoSaid : Prop := lexerOffsetsUptoRow.holds Try.pinned (OpenSpec.upto lexerOffsetsSpec)

/-- 'fullinglaw2.LexerRespaced', WHERE WHAT IT READS IS OF BULK AT MOST 1048576: true; the input reads as it did. -/
def lexerRespacedUptoRow : OpenClaim := { program := "yteknebkgpehphaa", sum := "7522b33141d332037a5cc2e6f6c18c6ac001b2f69175db11aa5e1f1a496ba184", func := "fulling/fullinglaw2.LexerRespaced", spec := "lexerRespaced", apart := false, narrowed := true }
def LexerRespacedUptoSaid : Prop := lexerRespacedUptoRow.holds Try.pinned (OpenSpec.upto lexerRespacedSpec)

/-- 'fullinglaw2.LexerConcatenation', WHERE WHAT IT READS IS OF BULK AT MOST 1048576: true; the input reads as it did. -/
def lexerConcatenationUptoRow : OpenClaim := { program := "yteknebkgpehphaa", sum := "7522b33141d332037a5cc2e6f6c18c6ac001b2f69175db11aa5e1f1a496ba184", func := "fulling/fullinglaw2.LexerConcatenation", spec := "lexerConcatenation", apart := false, narrowed := true }
def LexerConcatenationUptoSaid : Prop := lexerConcatenationUptoRow.holds Try.pinned (OpenSpec.upto lexerConcatenationSpec)

/-- 'fullinglaw2.LexerNames', WHERE WHAT IT READS IS OF BULK AT MOST 1048576: true; the input reads as it did. -/
def lexerNamesUptoRow : OpenClaim := { program := "yteknebkgpehphaa", sum := "7522b33141d332037a5cc2e6f6c18c6ac001b2f69175db11aa5e1f1a496ba184", func := "fulling/fullinglaw2.LexerNames", spec := "lexerNames", apart := false, narrowed := true }
def LexerNamesUptoSaid : Prop := lexerNamesUptoRow.holds Try.pinned (OpenSpec.upto lexerNamesSpec)

end Rows
end Go.Proofs.Yteknebkgpehphaa
