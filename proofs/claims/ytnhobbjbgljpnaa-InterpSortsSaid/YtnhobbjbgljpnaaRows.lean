/-
  No cell of these rows narrows 'for every input' (looked for: loops, veiled, ifaces, maps, wideKeys, modest, calm, conditions, laid).
  DERIVED. THE GIVEN ROWS OF THIS SEAT. 9 by the template 'for every input the law returns true; each argument reads behind the call as it read before'; 0 by the template 'total and deterministic' (their statements: YtnhobbjbgljpnaaTotals.lean).
  GIVEN WITH THE SEED: the statements are not yours to turn. If you find one false, say at which input.
  Laid BY PROGRAM, IN A SANDBOX (cutbox-rows.mjs): the forced cells as the released guide's own fill.sh prints them over the translation 181520b738f03738… (all of the seat's roots in one cut). By AI agents, Wed Nov 11 2026. No macro, syntax, notation, axiom, sorry.
-/
import Derived.Test.YtnhobbjbgljpnaaChecked
import GoSem.Claim
import GoSem.ClaimJoined
import GoSem.ClaimMapViews
import Derived.JoinedTies
import Derived.KernelRfl
namespace Go.Proofs.Ytnhobbjbgljpnaa
/- THE CELL 'sum', in the pinned program and in every row, IS THE sha256 OF THE DUMP (.gsa) THAT YtnhobbjbgljpnaaProg.lean LOADS. Nothing in Lean hashes anything: it is a label: what it is worth is what the hold of that sum in a sandbox is worth. -/
noncomputable def Try.pinned : Pinned := { name := "ytnhobbjbgljpnaa", sum := "181520b738f037384e82dceab10029c4381d8bcb08e25e16a7cefc70153e9438", checked := Try.checked }
namespace Rows
def none {H : Type} : Left H := { results := [], args := [] }

/-- 'fullinglaw6.InterpExamples': WHATEVER THE INPUT: true; the input reads as it did. -/
def interpExamplesSpec : ChangeSpec := { name := "interpExamples", fn := fun _ => fun
  | [] => { results := [.lit (.bool true)], args := [] }
  | _ => none }
def interpExamplesRow : OpenClaim := { program := "ytnhobbjbgljpnaa", sum := "181520b738f037384e82dceab10029c4381d8bcb08e25e16a7cefc70153e9438", func := "fulling/fullinglaw6.InterpExamples", spec := "interpExamples", unfollowed := true, recurses := true, apart := false }
def InterpExamplesSaid : Prop := interpExamplesRow.holds Try.pinned (OpenSpec.ofChange interpExamplesSpec)

/-- ITS FALSE NEIGHBOUR: 'it returns false'. Refute it at one input. -/
def interpExamplesWrong : ChangeSpec := { name := "interpExamples", fn := fun _ => fun
  | [] => { results := [.lit (.bool false)], args := [] }
  | _ => none }
def InterpExamplesWrongFalsely : Prop := interpExamplesRow.holds Try.pinned (OpenSpec.ofChange interpExamplesWrong)

/-- 'fullinglaw6.InterpFuelMonotonic': WHATEVER THE INPUT: true; the input reads as it did. -/
def interpFuelMonotonicSpec : ChangeSpec := { name := "interpFuelMonotonic", fn := fun _ => fun
  | [d1, d2, d3, d4, d5, d6] => { results := [.lit (.bool true)], args := [d1, d2, d3, d4, d5, d6] }
  | _ => none }
def interpFuelMonotonicRow : OpenClaim := { program := "ytnhobbjbgljpnaa", sum := "181520b738f037384e82dceab10029c4381d8bcb08e25e16a7cefc70153e9438", func := "fulling/fullinglaw6.InterpFuelMonotonic", spec := "interpFuelMonotonic", unfollowed := true, recurses := true, apart := false }
def InterpFuelMonotonicSaid : Prop := interpFuelMonotonicRow.holds Try.pinned (OpenSpec.ofChange interpFuelMonotonicSpec)

/-- ITS FALSE NEIGHBOUR: 'it returns false'. Refute it at one input. -/
def interpFuelMonotonicWrong : ChangeSpec := { name := "interpFuelMonotonic", fn := fun _ => fun
  | [d1, d2, d3, d4, d5, d6] => { results := [.lit (.bool false)], args := [d1, d2, d3, d4, d5, d6] }
  | _ => none }
def InterpFuelMonotonicWrongFalsely : Prop := interpFuelMonotonicRow.holds Try.pinned (OpenSpec.ofChange interpFuelMonotonicWrong)

/-- 'fullinglaw6.InterpTicks': WHATEVER THE INPUT: true; the input reads as it did. -/
def interpTicksSpec : ChangeSpec := { name := "interpTicks", fn := fun _ => fun
  | [d1, d2, d3] => { results := [.lit (.bool true)], args := [d1, d2, d3] }
  | _ => none }
def interpTicksRow : OpenClaim := { program := "ytnhobbjbgljpnaa", sum := "181520b738f037384e82dceab10029c4381d8bcb08e25e16a7cefc70153e9438", func := "fulling/fullinglaw6.InterpTicks", spec := "interpTicks", unfollowed := true, recurses := true, apart := false }
def InterpTicksSaid : Prop := interpTicksRow.holds Try.pinned (OpenSpec.ofChange interpTicksSpec)

/-- ITS FALSE NEIGHBOUR: 'it returns false'. Refute it at one input. -/
def interpTicksWrong : ChangeSpec := { name := "interpTicks", fn := fun _ => fun
  | [d1, d2, d3] => { results := [.lit (.bool false)], args := [d1, d2, d3] }
  | _ => none }
def InterpTicksWrongFalsely : Prop := interpTicksRow.holds Try.pinned (OpenSpec.ofChange interpTicksWrong)

/-- 'fullinglaw6.InterpSorts': WHATEVER THE INPUT: true; the input reads as it did. -/
def interpSortsSpec : ChangeSpec := { name := "interpSorts", fn := fun _ => fun
  | [d1, d2, d3] => { results := [.lit (.bool true)], args := [d1, d2, d3] }
  | _ => none }
def interpSortsRow : OpenClaim := { program := "ytnhobbjbgljpnaa", sum := "181520b738f037384e82dceab10029c4381d8bcb08e25e16a7cefc70153e9438", func := "fulling/fullinglaw6.InterpSorts", spec := "interpSorts", unfollowed := true, recurses := true, apart := false }
def InterpSortsSaid : Prop := interpSortsRow.holds Try.pinned (OpenSpec.ofChange interpSortsSpec)

/-- ITS FALSE NEIGHBOUR: 'it returns false'. Refute it at one input. -/
def interpSortsWrong : ChangeSpec := { name := "interpSorts", fn := fun _ => fun
  | [d1, d2, d3] => { results := [.lit (.bool false)], args := [d1, d2, d3] }
  | _ => none }
def InterpSortsWrongFalsely : Prop := interpSortsRow.holds Try.pinned (OpenSpec.ofChange interpSortsWrong)

/-- 'fullinglaw6.InterpLaziness': WHATEVER THE INPUT: true; the input reads as it did. -/
def interpLazinessSpec : ChangeSpec := { name := "interpLaziness", fn := fun _ => fun
  | [d1, d2, d3] => { results := [.lit (.bool true)], args := [d1, d2, d3] }
  | _ => none }
def interpLazinessRow : OpenClaim := { program := "ytnhobbjbgljpnaa", sum := "181520b738f037384e82dceab10029c4381d8bcb08e25e16a7cefc70153e9438", func := "fulling/fullinglaw6.InterpLaziness", spec := "interpLaziness", unfollowed := true, recurses := true, apart := false }
def InterpLazinessSaid : Prop := interpLazinessRow.holds Try.pinned (OpenSpec.ofChange interpLazinessSpec)

/-- ITS FALSE NEIGHBOUR: 'it returns false'. Refute it at one input. -/
def interpLazinessWrong : ChangeSpec := { name := "interpLaziness", fn := fun _ => fun
  | [d1, d2, d3] => { results := [.lit (.bool false)], args := [d1, d2, d3] }
  | _ => none }
def InterpLazinessWrongFalsely : Prop := interpLazinessRow.holds Try.pinned (OpenSpec.ofChange interpLazinessWrong)

/-- 'fullinglaw6.InterpCalls': WHATEVER THE INPUT: true; the input reads as it did. -/
def interpCallsSpec : ChangeSpec := { name := "interpCalls", fn := fun _ => fun
  | [d1, d2, d3] => { results := [.lit (.bool true)], args := [d1, d2, d3] }
  | _ => none }
def interpCallsRow : OpenClaim := { program := "ytnhobbjbgljpnaa", sum := "181520b738f037384e82dceab10029c4381d8bcb08e25e16a7cefc70153e9438", func := "fulling/fullinglaw6.InterpCalls", spec := "interpCalls", unfollowed := true, recurses := true, apart := false }
def InterpCallsSaid : Prop := interpCallsRow.holds Try.pinned (OpenSpec.ofChange interpCallsSpec)

/-- ITS FALSE NEIGHBOUR: 'it returns false'. Refute it at one input. -/
def interpCallsWrong : ChangeSpec := { name := "interpCalls", fn := fun _ => fun
  | [d1, d2, d3] => { results := [.lit (.bool false)], args := [d1, d2, d3] }
  | _ => none }
def InterpCallsWrongFalsely : Prop := interpCallsRow.holds Try.pinned (OpenSpec.ofChange interpCallsWrong)

/-- 'fullinglaw6.InterpFresh': WHATEVER THE INPUT: true; the input reads as it did. -/
def interpFreshSpec : ChangeSpec := { name := "interpFresh", fn := fun _ => fun
  | [d1, d2, d3, d4, d5] => { results := [.lit (.bool true)], args := [d1, d2, d3, d4, d5] }
  | _ => none }
def interpFreshRow : OpenClaim := { program := "ytnhobbjbgljpnaa", sum := "181520b738f037384e82dceab10029c4381d8bcb08e25e16a7cefc70153e9438", func := "fulling/fullinglaw6.InterpFresh", spec := "interpFresh", unfollowed := true, recurses := true, apart := false }
def InterpFreshSaid : Prop := interpFreshRow.holds Try.pinned (OpenSpec.ofChange interpFreshSpec)

/-- ITS FALSE NEIGHBOUR: 'it returns false'. Refute it at one input. -/
def interpFreshWrong : ChangeSpec := { name := "interpFresh", fn := fun _ => fun
  | [d1, d2, d3, d4, d5] => { results := [.lit (.bool false)], args := [d1, d2, d3, d4, d5] }
  | _ => none }
def InterpFreshWrongFalsely : Prop := interpFreshRow.holds Try.pinned (OpenSpec.ofChange interpFreshWrong)

/-- 'fullinglaw6.InterpSwappedFunctions': WHATEVER THE INPUT: true; the input reads as it did. -/
def interpSwappedFunctionsSpec : ChangeSpec := { name := "interpSwappedFunctions", fn := fun _ => fun
  | [d1, d2, d3, d4, d5] => { results := [.lit (.bool true)], args := [d1, d2, d3, d4, d5] }
  | _ => none }
def interpSwappedFunctionsRow : OpenClaim := { program := "ytnhobbjbgljpnaa", sum := "181520b738f037384e82dceab10029c4381d8bcb08e25e16a7cefc70153e9438", func := "fulling/fullinglaw6.InterpSwappedFunctions", spec := "interpSwappedFunctions", unfollowed := true, recurses := true, apart := false }
def InterpSwappedFunctionsSaid : Prop := interpSwappedFunctionsRow.holds Try.pinned (OpenSpec.ofChange interpSwappedFunctionsSpec)

/-- ITS FALSE NEIGHBOUR: 'it returns false'. Refute it at one input. -/
def interpSwappedFunctionsWrong : ChangeSpec := { name := "interpSwappedFunctions", fn := fun _ => fun
  | [d1, d2, d3, d4, d5] => { results := [.lit (.bool false)], args := [d1, d2, d3, d4, d5] }
  | _ => none }
def InterpSwappedFunctionsWrongFalsely : Prop := interpSwappedFunctionsRow.holds Try.pinned (OpenSpec.ofChange interpSwappedFunctionsWrong)

/-- 'fullinglaw6.InterpTraps': WHATEVER THE INPUT: true; the input reads as it did. -/
def interpTrapsSpec : ChangeSpec := { name := "interpTraps", fn := fun _ => fun
  | [d1, d2, d3] => { results := [.lit (.bool true)], args := [d1, d2, d3] }
  | _ => none }
def interpTrapsRow : OpenClaim := { program := "ytnhobbjbgljpnaa", sum := "181520b738f037384e82dceab10029c4381d8bcb08e25e16a7cefc70153e9438", func := "fulling/fullinglaw6.InterpTraps", spec := "interpTraps", unfollowed := true, recurses := true, apart := false }
def InterpTrapsSaid : Prop := interpTrapsRow.holds Try.pinned (OpenSpec.ofChange interpTrapsSpec)

/-- ITS FALSE NEIGHBOUR: 'it returns false'. Refute it at one input. -/
def interpTrapsWrong : ChangeSpec := { name := "interpTraps", fn := fun _ => fun
  | [d1, d2, d3] => { results := [.lit (.bool false)], args := [d1, d2, d3] }
  | _ => none }
def InterpTrapsWrongFalsely : Prop := interpTrapsRow.holds Try.pinned (OpenSpec.ofChange interpTrapsWrong)

/- THE SECOND FORM. 'bulk': how many values and letters a reading holds, each counted each time it is reached (what is shared counts as often as it is met; a slice's spare places count too). A statement '..UptoSaid' is the law's where the arguments, and the package variables that the reading takes, are together of bulk at most 1048576: NARROWER than '..Said'. Prove '..Said' where nothing that the law and all that it calls make is longer than what came in: it says more and counts as full. Else prove '..UptoSaid'. A law counts once. -/
mutual
def uptoBulk {H : Type} : DataW H → Nat
  | .lit (.string bytes) => bytes.length + 1
  | .lit _ => 1
  | .nil => 1
  | .ptr d => uptoBulk d + 1
  | .slice elems spare => uptoBulkAll elems + uptoBulkAll spare + 1
  | .agg parts => uptoBulkAll parts + 1
  | .iface _ d => uptoBulk d + 1
  | .map entries => uptoBulkEntries entries + 1
  | .held _ => 1
def uptoBulkAll {H : Type} : List (DataW H) → Nat
  | [] => 0
  | d :: r => uptoBulk d + uptoBulkAll r
def uptoBulkEntries {H : Type} : List (Lit × DataW H) → Nat
  | [] => 0
  | x :: r => uptoBulkEntry x + uptoBulkEntries r
def uptoBulkEntry {H : Type} : Lit × DataW H → Nat
  | (.string bytes, d) => bytes.length + uptoBulk d + 1
  | (_, d) => uptoBulk d + 1
 end
def uptoSmall : (H : Type) → List (DataW H) → Bool := fun _ ds => decide (uptoBulkAll ds ≤ 1048576)
def OpenSpec.upto (s : _root_.Go.ChangeSpec) : _root_.Go.OpenSpec := { _root_.Go.OpenSpec.ofChange s with cond := some uptoSmall }

/-- 'fullinglaw6.InterpExamples', WHERE WHAT IT READS IS OF BULK AT MOST 1048576: true; the input reads as it did. -/
def interpExamplesUptoRow : OpenClaim := { program := "ytnhobbjbgljpnaa", sum := "181520b738f037384e82dceab10029c4381d8bcb08e25e16a7cefc70153e9438", func := "fulling/fullinglaw6.InterpExamples", spec := "interpExamples", unfollowed := true, recurses := true, apart := false, narrowed := true }
def InterpExamplesUptoSaid : Prop := interpExamplesUptoRow.holds Try.pinned (OpenSpec.upto interpExamplesSpec)

/-- 'fullinglaw6.InterpFuelMonotonic', WHERE WHAT IT READS IS OF BULK AT MOST 1048576: true; the input reads as it did. -/
def interpFuelMonotonicUptoRow : OpenClaim := { program := "ytnhobbjbgljpnaa", sum := "181520b738f037384e82dceab10029c4381d8bcb08e25e16a7cefc70153e9438", func := "fulling/fullinglaw6.InterpFuelMonotonic", spec := "interpFuelMonotonic", unfollowed := true, recurses := true, apart := false, narrowed := true }
def InterpFuelMonotonicUptoSaid : Prop := interpFuelMonotonicUptoRow.holds Try.pinned (OpenSpec.upto interpFuelMonotonicSpec)

/-- 'fullinglaw6.InterpTicks', WHERE WHAT IT READS IS OF BULK AT MOST 1048576: true; the input reads as it did. -/
def interpTicksUptoRow : OpenClaim := { program := "ytnhobbjbgljpnaa", sum := "181520b738f037384e82dceab10029c4381d8bcb08e25e16a7cefc70153e9438", func := "fulling/fullinglaw6.InterpTicks", spec := "interpTicks", unfollowed := true, recurses := true, apart := false, narrowed := true }
def InterpTicksUptoSaid : Prop := interpTicksUptoRow.holds Try.pinned (OpenSpec.upto interpTicksSpec)

/-- 'fullinglaw6.InterpSorts', WHERE WHAT IT READS IS OF BULK AT MOST 1048576: true; the input reads as it did. -/
def interpSortsUptoRow : OpenClaim := { program := "ytnhobbjbgljpnaa", sum := "181520b738f037384e82dceab10029c4381d8bcb08e25e16a7cefc70153e9438", func := "fulling/fullinglaw6.InterpSorts", spec := "interpSorts", unfollowed := true, recurses := true, apart := false, narrowed := true }
def InterpSortsUptoSaid : Prop := interpSortsUptoRow.holds Try.pinned (OpenSpec.upto interpSortsSpec)

/-- 'fullinglaw6.InterpLaziness', WHERE WHAT IT READS IS OF BULK AT MOST 1048576: true; the input reads as it did. -/
def interpLazinessUptoRow : OpenClaim := { program := "ytnhobbjbgljpnaa", sum := "181520b738f037384e82dceab10029c4381d8bcb08e25e16a7cefc70153e9438", func := "fulling/fullinglaw6.InterpLaziness", spec := "interpLaziness", unfollowed := true, recurses := true, apart := false, narrowed := true }
def InterpLazinessUptoSaid : Prop := interpLazinessUptoRow.holds Try.pinned (OpenSpec.upto interpLazinessSpec)

/-- 'fullinglaw6.InterpCalls', WHERE WHAT IT READS IS OF BULK AT MOST 1048576: true; the input reads as it did. -/
def interpCallsUptoRow : OpenClaim := { program := "ytnhobbjbgljpnaa", sum := "181520b738f037384e82dceab10029c4381d8bcb08e25e16a7cefc70153e9438", func := "fulling/fullinglaw6.InterpCalls", spec := "interpCalls", unfollowed := true, recurses := true, apart := false, narrowed := true }
def InterpCallsUptoSaid : Prop := interpCallsUptoRow.holds Try.pinned (OpenSpec.upto interpCallsSpec)

/-- 'fullinglaw6.InterpFresh', WHERE WHAT IT READS IS OF BULK AT MOST 1048576: true; the input reads as it did. -/
def interpFreshUptoRow : OpenClaim := { program := "ytnhobbjbgljpnaa", sum := "181520b738f037384e82dceab10029c4381d8bcb08e25e16a7cefc70153e9438", func := "fulling/fullinglaw6.InterpFresh", spec := "interpFresh", unfollowed := true, recurses := true, apart := false, narrowed := true }
def InterpFreshUptoSaid : Prop := interpFreshUptoRow.holds Try.pinned (OpenSpec.upto interpFreshSpec)

/-- 'fullinglaw6.InterpSwappedFunctions', WHERE WHAT IT READS IS OF BULK AT MOST 1048576: true; the input reads as it did. -/
def interpSwappedFunctionsUptoRow : OpenClaim := { program := "ytnhobbjbgljpnaa", sum := "181520b738f037384e82dceab10029c4381d8bcb08e25e16a7cefc70153e9438", func := "fulling/fullinglaw6.InterpSwappedFunctions", spec := "interpSwappedFunctions", unfollowed := true, recurses := true, apart := false, narrowed := true }
def InterpSwappedFunctionsUptoSaid : Prop := interpSwappedFunctionsUptoRow.holds Try.pinned (OpenSpec.upto interpSwappedFunctionsSpec)

/-- 'fullinglaw6.InterpTraps', WHERE WHAT IT READS IS OF BULK AT MOST 1048576: true; the input reads as it did. -/
def interpTrapsUptoRow : OpenClaim := { program := "ytnhobbjbgljpnaa", sum := "181520b738f037384e82dceab10029c4381d8bcb08e25e16a7cefc70153e9438", func := "fulling/fullinglaw6.InterpTraps", spec := "interpTraps", unfollowed := true, recurses := true, apart := false, narrowed := true }
def InterpTrapsUptoSaid : Prop := interpTrapsUptoRow.holds Try.pinned (OpenSpec.upto interpTrapsSpec)

end Rows
end Go.Proofs.Ytnhobbjbgljpnaa
