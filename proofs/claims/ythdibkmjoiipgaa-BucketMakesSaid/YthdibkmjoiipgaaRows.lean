/-
  No cell of these rows narrows 'for every input' (looked for: loops, veiled, ifaces, maps, wideKeys, modest, calm, conditions, laid).
  DERIVED. THE GIVEN ROWS OF THIS SEAT. 10 by the template 'for every input the law returns true; each argument reads behind the call as it read before'; 0 by the template 'total and deterministic' (their statements: YthdibkmjoiipgaaTotals.lean).
  GIVEN WITH THE SEED: the statements are not yours to turn. If you find one false, say at which input.
  Laid BY PROGRAM, IN A SANDBOX (cutbox-rows.mjs): the forced cells as the released guide's own fill.sh prints them over the translation eb45e85d1d2f0f8c… (all of the seat's roots in one cut). By AI agents, Wed Nov 11 2026. No macro, syntax, notation, axiom, sorry.
-/
import Derived.Test.YthdibkmjoiipgaaChecked
import GoSem.Claim
import GoSem.ClaimJoined
import GoSem.ClaimMapViews
import Derived.JoinedTies
import Derived.KernelRfl
namespace Go.Proofs.Ythdibkmjoiipgaa
/- THE CELL 'sum', in the pinned program and in every row, IS THE sha256 OF THE DUMP (.gsa) THAT YthdibkmjoiipgaaProg.lean LOADS. Nothing in Lean hashes anything: it is a label: what it is worth is what the hold of that sum in a sandbox is worth. -/
noncomputable def Try.pinned : Pinned := { name := "ythdibkmjoiipgaa", sum := "eb45e85d1d2f0f8c32b414af803a567e4d471931c58083370c0674388249e0ed", checked := Try.checked }
namespace Rows
def none {H : Type} : Left H := { results := [], args := [] }

/-- 'netcalculuslaw12.ServiceNumbers': WHATEVER THE INPUT: true; the input reads as it did. -/
def serviceNumbersSpec : ChangeSpec := { name := "serviceNumbers", fn := fun _ => fun
  | [d1, d2, d3, d4] => { results := [.lit (.bool true)], args := [d1, d2, d3, d4] }
  | _ => none }
def serviceNumbersRow : OpenClaim := { program := "ythdibkmjoiipgaa", sum := "eb45e85d1d2f0f8c32b414af803a567e4d471931c58083370c0674388249e0ed", func := "netcalculus/netcalculuslaw12.ServiceNumbers", spec := "serviceNumbers", unfollowed := true, recurses := true, apart := false }
def ServiceNumbersSaid : Prop := serviceNumbersRow.holds Try.pinned (OpenSpec.ofChange serviceNumbersSpec)

/-- ITS FALSE NEIGHBOUR: 'it returns false'. Refute it at one input. -/
def serviceNumbersWrong : ChangeSpec := { name := "serviceNumbers", fn := fun _ => fun
  | [d1, d2, d3, d4] => { results := [.lit (.bool false)], args := [d1, d2, d3, d4] }
  | _ => none }
def ServiceNumbersWrongFalsely : Prop := serviceNumbersRow.holds Try.pinned (OpenSpec.ofChange serviceNumbersWrong)

/-- 'netcalculuslaw11.BucketMakes': WHATEVER THE INPUT: true; the input reads as it did. -/
def bucketMakesSpec : ChangeSpec := { name := "bucketMakes", fn := fun _ => fun
  | [d1, d2, d3, d4] => { results := [.lit (.bool true)], args := [d1, d2, d3, d4] }
  | _ => none }
def bucketMakesRow : OpenClaim := { program := "ythdibkmjoiipgaa", sum := "eb45e85d1d2f0f8c32b414af803a567e4d471931c58083370c0674388249e0ed", func := "netcalculus/netcalculuslaw11.BucketMakes", spec := "bucketMakes", unfollowed := true, recurses := true, apart := false }
def BucketMakesSaid : Prop := bucketMakesRow.holds Try.pinned (OpenSpec.ofChange bucketMakesSpec)

/-- ITS FALSE NEIGHBOUR: 'it returns false'. Refute it at one input. -/
def bucketMakesWrong : ChangeSpec := { name := "bucketMakes", fn := fun _ => fun
  | [d1, d2, d3, d4] => { results := [.lit (.bool false)], args := [d1, d2, d3, d4] }
  | _ => none }
def BucketMakesWrongFalsely : Prop := bucketMakesRow.holds Try.pinned (OpenSpec.ofChange bucketMakesWrong)

/-- 'netcalculuslaw09.ClosureAnswers': WHATEVER THE INPUT: true; the input reads as it did. -/
def closureAnswersSpec : ChangeSpec := { name := "closureAnswers", fn := fun _ => fun
  | [d1, d2] => { results := [.lit (.bool true)], args := [d1, d2] }
  | _ => none }
def closureAnswersRow : OpenClaim := { program := "ythdibkmjoiipgaa", sum := "eb45e85d1d2f0f8c32b414af803a567e4d471931c58083370c0674388249e0ed", func := "netcalculus/netcalculuslaw09.ClosureAnswers", spec := "closureAnswers", unfollowed := true, recurses := true, apart := false }
def ClosureAnswersSaid : Prop := closureAnswersRow.holds Try.pinned (OpenSpec.ofChange closureAnswersSpec)

/-- ITS FALSE NEIGHBOUR: 'it returns false'. Refute it at one input. -/
def closureAnswersWrong : ChangeSpec := { name := "closureAnswers", fn := fun _ => fun
  | [d1, d2] => { results := [.lit (.bool false)], args := [d1, d2] }
  | _ => none }
def ClosureAnswersWrongFalsely : Prop := closureAnswersRow.holds Try.pinned (OpenSpec.ofChange closureAnswersWrong)

/-- 'netcalculuslaw09.ClosureChecks': WHATEVER THE INPUT: true; the input reads as it did. -/
def closureChecksSpec : ChangeSpec := { name := "closureChecks", fn := fun _ => fun
  | [d1, d2, d3] => { results := [.lit (.bool true)], args := [d1, d2, d3] }
  | _ => none }
def closureChecksRow : OpenClaim := { program := "ythdibkmjoiipgaa", sum := "eb45e85d1d2f0f8c32b414af803a567e4d471931c58083370c0674388249e0ed", func := "netcalculus/netcalculuslaw09.ClosureChecks", spec := "closureChecks", unfollowed := true, recurses := true, apart := false }
def ClosureChecksSaid : Prop := closureChecksRow.holds Try.pinned (OpenSpec.ofChange closureChecksSpec)

/-- ITS FALSE NEIGHBOUR: 'it returns false'. Refute it at one input. -/
def closureChecksWrong : ChangeSpec := { name := "closureChecks", fn := fun _ => fun
  | [d1, d2, d3] => { results := [.lit (.bool false)], args := [d1, d2, d3] }
  | _ => none }
def ClosureChecksWrongFalsely : Prop := closureChecksRow.holds Try.pinned (OpenSpec.ofChange closureChecksWrong)

/-- 'netcalculuslaw09.ClosureGreatest': WHATEVER THE INPUT: true; the input reads as it did. -/
def closureGreatestSpec : ChangeSpec := { name := "closureGreatest", fn := fun _ => fun
  | [d] => { results := [.lit (.bool true)], args := [d] }
  | _ => none }
def closureGreatestRow : OpenClaim := { program := "ythdibkmjoiipgaa", sum := "eb45e85d1d2f0f8c32b414af803a567e4d471931c58083370c0674388249e0ed", func := "netcalculus/netcalculuslaw09.ClosureGreatest", spec := "closureGreatest", unfollowed := true, recurses := true, apart := false }
def ClosureGreatestSaid : Prop := closureGreatestRow.holds Try.pinned (OpenSpec.ofChange closureGreatestSpec)

/-- ITS FALSE NEIGHBOUR: 'it returns false'. Refute it at one input. -/
def closureGreatestWrong : ChangeSpec := { name := "closureGreatest", fn := fun _ => fun
  | [d] => { results := [.lit (.bool false)], args := [d] }
  | _ => none }
def ClosureGreatestWrongFalsely : Prop := closureGreatestRow.holds Try.pinned (OpenSpec.ofChange closureGreatestWrong)

/-- 'netcalculuslaw09.ClosureSums': WHATEVER THE INPUT: true; the input reads as it did. -/
def closureSumsSpec : ChangeSpec := { name := "closureSums", fn := fun _ => fun
  | [d] => { results := [.lit (.bool true)], args := [d] }
  | _ => none }
def closureSumsRow : OpenClaim := { program := "ythdibkmjoiipgaa", sum := "eb45e85d1d2f0f8c32b414af803a567e4d471931c58083370c0674388249e0ed", func := "netcalculus/netcalculuslaw09.ClosureSums", spec := "closureSums", unfollowed := true, recurses := true, apart := false }
def ClosureSumsSaid : Prop := closureSumsRow.holds Try.pinned (OpenSpec.ofChange closureSumsSpec)

/-- ITS FALSE NEIGHBOUR: 'it returns false'. Refute it at one input. -/
def closureSumsWrong : ChangeSpec := { name := "closureSums", fn := fun _ => fun
  | [d] => { results := [.lit (.bool false)], args := [d] }
  | _ => none }
def ClosureSumsWrongFalsely : Prop := closureSumsRow.holds Try.pinned (OpenSpec.ofChange closureSumsWrong)

/-- 'netcalculuslaw09.ClosureKeeps': WHATEVER THE INPUT: true; the input reads as it did. -/
def closureKeepsSpec : ChangeSpec := { name := "closureKeeps", fn := fun _ => fun
  | [d] => { results := [.lit (.bool true)], args := [d] }
  | _ => none }
def closureKeepsRow : OpenClaim := { program := "ythdibkmjoiipgaa", sum := "eb45e85d1d2f0f8c32b414af803a567e4d471931c58083370c0674388249e0ed", func := "netcalculus/netcalculuslaw09.ClosureKeeps", spec := "closureKeeps", unfollowed := true, recurses := true, apart := false }
def ClosureKeepsSaid : Prop := closureKeepsRow.holds Try.pinned (OpenSpec.ofChange closureKeepsSpec)

/-- ITS FALSE NEIGHBOUR: 'it returns false'. Refute it at one input. -/
def closureKeepsWrong : ChangeSpec := { name := "closureKeeps", fn := fun _ => fun
  | [d] => { results := [.lit (.bool false)], args := [d] }
  | _ => none }
def ClosureKeepsWrongFalsely : Prop := closureKeepsRow.holds Try.pinned (OpenSpec.ofChange closureKeepsWrong)

/-- 'netcalculuslaw09.ClosureScales': WHATEVER THE INPUT: true; the input reads as it did. -/
def closureScalesSpec : ChangeSpec := { name := "closureScales", fn := fun _ => fun
  | [d] => { results := [.lit (.bool true)], args := [d] }
  | _ => none }
def closureScalesRow : OpenClaim := { program := "ythdibkmjoiipgaa", sum := "eb45e85d1d2f0f8c32b414af803a567e4d471931c58083370c0674388249e0ed", func := "netcalculus/netcalculuslaw09.ClosureScales", spec := "closureScales", unfollowed := true, recurses := true, apart := false }
def ClosureScalesSaid : Prop := closureScalesRow.holds Try.pinned (OpenSpec.ofChange closureScalesSpec)

/-- ITS FALSE NEIGHBOUR: 'it returns false'. Refute it at one input. -/
def closureScalesWrong : ChangeSpec := { name := "closureScales", fn := fun _ => fun
  | [d] => { results := [.lit (.bool false)], args := [d] }
  | _ => none }
def ClosureScalesWrongFalsely : Prop := closureScalesRow.holds Try.pinned (OpenSpec.ofChange closureScalesWrong)

/-- 'netcalculuslaw12.ServiceMakes': WHATEVER THE INPUT: true; the input reads as it did. -/
def serviceMakesSpec : ChangeSpec := { name := "serviceMakes", fn := fun _ => fun
  | [d1, d2, d3] => { results := [.lit (.bool true)], args := [d1, d2, d3] }
  | _ => none }
def serviceMakesRow : OpenClaim := { program := "ythdibkmjoiipgaa", sum := "eb45e85d1d2f0f8c32b414af803a567e4d471931c58083370c0674388249e0ed", func := "netcalculus/netcalculuslaw12.ServiceMakes", spec := "serviceMakes", unfollowed := true, recurses := true, apart := false }
def ServiceMakesSaid : Prop := serviceMakesRow.holds Try.pinned (OpenSpec.ofChange serviceMakesSpec)

/-- ITS FALSE NEIGHBOUR: 'it returns false'. Refute it at one input. -/
def serviceMakesWrong : ChangeSpec := { name := "serviceMakes", fn := fun _ => fun
  | [d1, d2, d3] => { results := [.lit (.bool false)], args := [d1, d2, d3] }
  | _ => none }
def ServiceMakesWrongFalsely : Prop := serviceMakesRow.holds Try.pinned (OpenSpec.ofChange serviceMakesWrong)

/-- 'netcalculuslaw09.ClosureConvolves': WHATEVER THE INPUT: true; the input reads as it did. -/
def closureConvolvesSpec : ChangeSpec := { name := "closureConvolves", fn := fun _ => fun
  | [d] => { results := [.lit (.bool true)], args := [d] }
  | _ => none }
def closureConvolvesRow : OpenClaim := { program := "ythdibkmjoiipgaa", sum := "eb45e85d1d2f0f8c32b414af803a567e4d471931c58083370c0674388249e0ed", func := "netcalculus/netcalculuslaw09.ClosureConvolves", spec := "closureConvolves", unfollowed := true, recurses := true, apart := false }
def ClosureConvolvesSaid : Prop := closureConvolvesRow.holds Try.pinned (OpenSpec.ofChange closureConvolvesSpec)

/-- ITS FALSE NEIGHBOUR: 'it returns false'. Refute it at one input. -/
def closureConvolvesWrong : ChangeSpec := { name := "closureConvolves", fn := fun _ => fun
  | [d] => { results := [.lit (.bool false)], args := [d] }
  | _ => none }
def ClosureConvolvesWrongFalsely : Prop := closureConvolvesRow.holds Try.pinned (OpenSpec.ofChange closureConvolvesWrong)

/- THE SECOND FORM. 'bulk': how many values and letters a reading holds, each counted each time it is reached (what is shared counts as often as it is met; a slice's spare places count too). A statement '..UptoSaid' is the law's where the arguments, and the package variables that the reading takes, are together of bulk at most 1048576: NARROWER than '..Said'. Prove '..Said' where nothing that the law and all that it calls make is longer than what came in: it says more and counts as full. Else prove '..UptoSaid'. A law counts once. -/
mutual
def uptoBulk {H : Type} : DataW H → Nat
  | .lit (.string bytes) => bytes.length + 1
  | .lit _ => 1
  | .nil => 1
  | .ptr d => uptoBulk d + 1
  | .slice elems spare => uptoBulkAll elems + uptoBulkAll spare + 1
  | .agg parts => uptoBulkAll parts + 1
  | .iface _ d => uptoBulk d + 1
  | .map entries => uptoBulkEntries entries + 1
  | .held _ => 1
def uptoBulkAll {H : Type} : List (DataW H) → Nat
  | [] => 0
  | d :: r => uptoBulk d + uptoBulkAll r
def uptoBulkEntries {H : Type} : List (Lit × DataW H) → Nat
  | [] => 0
  | x :: r => uptoBulkEntry x + uptoBulkEntries r
def uptoBulkEntry {H : Type} : Lit × DataW H → Nat
  | (.string bytes, d) => bytes.length + uptoBulk d + 1
  | (_, d) => uptoBulk d + 1
 end
def uptoSmall : (H : Type) → List (DataW H) → Bool := fun _ ds => decide (uptoBulkAll ds ≤ 1048576)
def OpenSpec.upto (s : _root_.Go.ChangeSpec) : _root_.Go.OpenSpec := { _root_.Go.OpenSpec.ofChange s with cond := some uptoSmall }

/-- 'netcalculuslaw12.ServiceNumbers', WHERE WHAT IT READS IS OF BULK AT MOST 1048576: true; the input reads as it did. -/
def serviceNumbersUptoRow : OpenClaim := { program := "ythdibkmjoiipgaa", sum := "eb45e85d1d2f0f8c32b414af803a567e4d471931c58083370c0674388249e0ed", func := "netcalculus/netcalculuslaw12.ServiceNumbers", spec := "serviceNumbers", unfollowed := true, recurses := true, apart := false, narrowed := true }
def ServiceNumbersUptoSaid : Prop := serviceNumbersUptoRow.holds Try.pinned (OpenSpec.upto serviceNumbersSpec)

/-- 'netcalculuslaw11.BucketMakes', WHERE WHAT IT READS IS OF BULK AT MOST 1048576: true; the input reads as it did. -/
def bucketMakesUptoRow : OpenClaim := { program := "ythdibkmjoiipgaa", sum := "eb45e85d1d2f0f8c32b414af803a567e4d471931c58083370c0674388249e0ed", func := "netcalculus/netcalculuslaw11.BucketMakes", spec := "bucketMakes", unfollowed := true, recurses := true, apart := false, narrowed := true }
def BucketMakesUptoSaid : Prop := bucketMakesUptoRow.holds Try.pinned (OpenSpec.upto bucketMakesSpec)

/-- 'netcalculuslaw09.ClosureAnswers', WHERE WHAT IT READS IS OF BULK AT MOST 1048576: true; the input reads as it did. -/
def closureAnswersUptoRow : OpenClaim := { program := "ythdibkmjoiipgaa", sum := "eb45e85d1d2f0f8c32b414af803a567e4d471931c58083370c0674388249e0ed", func := "netcalculus/netcalculuslaw09.ClosureAnswers", spec := "closureAnswers", unfollowed := true, recurses := true, apart := false, narrowed := true }
def ClosureAnswersUptoSaid : Prop := closureAnswersUptoRow.holds Try.pinned (OpenSpec.upto closureAnswersSpec)

/-- 'netcalculuslaw09.ClosureChecks', WHERE WHAT IT READS IS OF BULK AT MOST 1048576: true; the input reads as it did. -/
def closureChecksUptoRow : OpenClaim := { program := "ythdibkmjoiipgaa", sum := "eb45e85d1d2f0f8c32b414af803a567e4d471931c58083370c0674388249e0ed", func := "netcalculus/netcalculuslaw09.ClosureChecks", spec := "closureChecks", unfollowed := true, recurses := true, apart := false, narrowed := true }
def ClosureChecksUptoSaid : Prop := closureChecksUptoRow.holds Try.pinned (OpenSpec.upto closureChecksSpec)

/-- 'netcalculuslaw09.ClosureGreatest', WHERE WHAT IT READS IS OF BULK AT MOST 1048576: true; the input reads as it did. -/
def closureGreatestUptoRow : OpenClaim := { program := "ythdibkmjoiipgaa", sum := "eb45e85d1d2f0f8c32b414af803a567e4d471931c58083370c0674388249e0ed", func := "netcalculus/netcalculuslaw09.ClosureGreatest", spec := "closureGreatest", unfollowed := true, recurses := true, apart := false, narrowed := true }
def ClosureGreatestUptoSaid : Prop := closureGreatestUptoRow.holds Try.pinned (OpenSpec.upto closureGreatestSpec)

/-- 'netcalculuslaw09.ClosureSums', WHERE WHAT IT READS IS OF BULK AT MOST 1048576: true; the input reads as it did. -/
def closureSumsUptoRow : OpenClaim := { program := "ythdibkmjoiipgaa", sum := "eb45e85d1d2f0f8c32b414af803a567e4d471931c58083370c0674388249e0ed", func := "netcalculus/netcalculuslaw09.ClosureSums", spec := "closureSums", unfollowed := true, recurses := true, apart := false, narrowed := true }
def ClosureSumsUptoSaid : Prop := closureSumsUptoRow.holds Try.pinned (OpenSpec.upto closureSumsSpec)

/-- 'netcalculuslaw09.ClosureKeeps', WHERE WHAT IT READS IS OF BULK AT MOST 1048576: true; the input reads as it did. -/
def closureKeepsUptoRow : OpenClaim := { program := "ythdibkmjoiipgaa", sum := "eb45e85d1d2f0f8c32b414af803a567e4d471931c58083370c0674388249e0ed", func := "netcalculus/netcalculuslaw09.ClosureKeeps", spec := "closureKeeps", unfollowed := true, recurses := true, apart := false, narrowed := true }
def ClosureKeepsUptoSaid : Prop := closureKeepsUptoRow.holds Try.pinned (OpenSpec.upto closureKeepsSpec)

/-- 'netcalculuslaw09.ClosureScales', WHERE WHAT IT READS IS OF BULK AT MOST 1048576: true; the input reads as it did. -/
def closureScalesUptoRow : OpenClaim := { program := "ythdibkmjoiipgaa", sum := "eb45e85d1d2f0f8c32b414af803a567e4d471931c58083370c0674388249e0ed", func := "netcalculus/netcalculuslaw09.ClosureScales", spec := "closureScales", unfollowed := true, recurses := true, apart := false, narrowed := true }
def ClosureScalesUptoSaid : Prop := closureScalesUptoRow.holds Try.pinned (OpenSpec.upto closureScalesSpec)

/-- 'netcalculuslaw12.ServiceMakes', WHERE WHAT IT READS IS OF BULK AT MOST 1048576: true; the input reads as it did. -/
def serviceMakesUptoRow : OpenClaim := { program := "ythdibkmjoiipgaa", sum := "eb45e85d1d2f0f8c32b414af803a567e4d471931c58083370c0674388249e0ed", func := "netcalculus/netcalculuslaw12.ServiceMakes", spec := "serviceMakes", unfollowed := true, recurses := true, apart := false, narrowed := true }
def ServiceMakesUptoSaid : Prop := serviceMakesUptoRow.holds Try.pinned (OpenSpec.upto serviceMakesSpec)

/-- 'netcalculuslaw09.ClosureConvolves', WHERE WHAT IT READS IS OF BULK AT MOST 1048576: true; the input reads as it did. -/
def closureConvolvesUptoRow : OpenClaim := { program := "ythdibkmjoiipgaa", sum := "eb45e85d1d2f0f8c32b414af803a567e4d471931c58083370c0674388249e0ed", func := "netcalculus/netcalculuslaw09.ClosureConvolves", spec := "closureConvolves", unfollowed := true, recurses := true, apart := false, narrowed := true }
def ClosureConvolvesUptoSaid : Prop := closureConvolvesUptoRow.holds Try.pinned (OpenSpec.upto closureConvolvesSpec)

end Rows
end Go.Proofs.Ythdibkmjoiipgaa
