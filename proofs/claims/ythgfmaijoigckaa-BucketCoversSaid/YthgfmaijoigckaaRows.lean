/-
  No cell of these rows narrows 'for every input' (looked for: loops, veiled, ifaces, maps, wideKeys, modest, calm, conditions, laid).
  DERIVED. THE GIVEN ROWS OF THIS SEAT. 11 by the template 'for every input the law returns true; each argument reads behind the call as it read before'; 0 by the template 'total and deterministic' (their statements: YthgfmaijoigckaaTotals.lean).
  GIVEN WITH THE SEED: the statements are not yours to turn. If you find one false, say at which input.
  Laid BY PROGRAM, IN A SANDBOX (cutbox-rows.mjs): the forced cells as the released guide's own fill.sh prints them over the translation 06957a9e2eee13bb… (all of the seat's roots in one cut). By AI agents, Wed Nov 11 2026. No macro, syntax, notation, axiom, sorry.
-/
import Derived.Test.YthgfmaijoigckaaChecked
import GoSem.Claim
import GoSem.ClaimJoined
import GoSem.ClaimMapViews
import Derived.JoinedTies
import Derived.KernelRfl
namespace Go.Proofs.Ythgfmaijoigckaa
/- THE CELL 'sum', in the pinned program and in every row, IS THE sha256 OF THE DUMP (.gsa) THAT YthgfmaijoigckaaProg.lean LOADS. Nothing in Lean hashes anything: it is a label: what it is worth is what the hold of that sum in a sandbox is worth. -/
noncomputable def Try.pinned : Pinned := { name := "ythgfmaijoigckaa", sum := "06957a9e2eee13bb8ea94beb7c476a8b999633f23317e32da0943006a99015e5", checked := Try.checked }
namespace Rows
def none {H : Type} : Left H := { results := [], args := [] }

/-- 'netcalculuslaw12.ServiceNumbers': WHATEVER THE INPUT: true; the input reads as it did. -/
def serviceNumbersSpec : ChangeSpec := { name := "serviceNumbers", fn := fun _ => fun
  | [d1, d2, d3, d4] => { results := [.lit (.bool true)], args := [d1, d2, d3, d4] }
  | _ => none }
def serviceNumbersRow : OpenClaim := { program := "ythgfmaijoigckaa", sum := "06957a9e2eee13bb8ea94beb7c476a8b999633f23317e32da0943006a99015e5", func := "netcalculus/netcalculuslaw12.ServiceNumbers", spec := "serviceNumbers", unfollowed := true, recurses := true, apart := false }
def ServiceNumbersSaid : Prop := serviceNumbersRow.holds Try.pinned (OpenSpec.ofChange serviceNumbersSpec)

/-- ITS FALSE NEIGHBOUR: 'it returns false'. Refute it at one input. -/
def serviceNumbersWrong : ChangeSpec := { name := "serviceNumbers", fn := fun _ => fun
  | [d1, d2, d3, d4] => { results := [.lit (.bool false)], args := [d1, d2, d3, d4] }
  | _ => none }
def ServiceNumbersWrongFalsely : Prop := serviceNumbersRow.holds Try.pinned (OpenSpec.ofChange serviceNumbersWrong)

/-- 'netcalculuslaw08.DeconvolutionAnswers': WHATEVER THE INPUT: true; the input reads as it did. -/
def deconvolutionAnswersSpec : ChangeSpec := { name := "deconvolutionAnswers", fn := fun _ => fun
  | [d1, d2, d3] => { results := [.lit (.bool true)], args := [d1, d2, d3] }
  | _ => none }
def deconvolutionAnswersRow : OpenClaim := { program := "ythgfmaijoigckaa", sum := "06957a9e2eee13bb8ea94beb7c476a8b999633f23317e32da0943006a99015e5", func := "netcalculus/netcalculuslaw08.DeconvolutionAnswers", spec := "deconvolutionAnswers", unfollowed := true, recurses := true, apart := false }
def DeconvolutionAnswersSaid : Prop := deconvolutionAnswersRow.holds Try.pinned (OpenSpec.ofChange deconvolutionAnswersSpec)

/-- ITS FALSE NEIGHBOUR: 'it returns false'. Refute it at one input. -/
def deconvolutionAnswersWrong : ChangeSpec := { name := "deconvolutionAnswers", fn := fun _ => fun
  | [d1, d2, d3] => { results := [.lit (.bool false)], args := [d1, d2, d3] }
  | _ => none }
def DeconvolutionAnswersWrongFalsely : Prop := deconvolutionAnswersRow.holds Try.pinned (OpenSpec.ofChange deconvolutionAnswersWrong)

/-- 'netcalculuslaw08.DeconvolutionChecks': WHATEVER THE INPUT: true; the input reads as it did. -/
def deconvolutionChecksSpec : ChangeSpec := { name := "deconvolutionChecks", fn := fun _ => fun
  | [d1, d2, d3, d4] => { results := [.lit (.bool true)], args := [d1, d2, d3, d4] }
  | _ => none }
def deconvolutionChecksRow : OpenClaim := { program := "ythgfmaijoigckaa", sum := "06957a9e2eee13bb8ea94beb7c476a8b999633f23317e32da0943006a99015e5", func := "netcalculus/netcalculuslaw08.DeconvolutionChecks", spec := "deconvolutionChecks", unfollowed := true, recurses := true, apart := false }
def DeconvolutionChecksSaid : Prop := deconvolutionChecksRow.holds Try.pinned (OpenSpec.ofChange deconvolutionChecksSpec)

/-- ITS FALSE NEIGHBOUR: 'it returns false'. Refute it at one input. -/
def deconvolutionChecksWrong : ChangeSpec := { name := "deconvolutionChecks", fn := fun _ => fun
  | [d1, d2, d3, d4] => { results := [.lit (.bool false)], args := [d1, d2, d3, d4] }
  | _ => none }
def DeconvolutionChecksWrongFalsely : Prop := deconvolutionChecksRow.holds Try.pinned (OpenSpec.ofChange deconvolutionChecksWrong)

/-- 'netcalculuslaw08.DeconvolutionMonotone': WHATEVER THE INPUT: true; the input reads as it did. -/
def deconvolutionMonotoneSpec : ChangeSpec := { name := "deconvolutionMonotone", fn := fun _ => fun
  | [d] => { results := [.lit (.bool true)], args := [d] }
  | _ => none }
def deconvolutionMonotoneRow : OpenClaim := { program := "ythgfmaijoigckaa", sum := "06957a9e2eee13bb8ea94beb7c476a8b999633f23317e32da0943006a99015e5", func := "netcalculus/netcalculuslaw08.DeconvolutionMonotone", spec := "deconvolutionMonotone", unfollowed := true, recurses := true, apart := false }
def DeconvolutionMonotoneSaid : Prop := deconvolutionMonotoneRow.holds Try.pinned (OpenSpec.ofChange deconvolutionMonotoneSpec)

/-- ITS FALSE NEIGHBOUR: 'it returns false'. Refute it at one input. -/
def deconvolutionMonotoneWrong : ChangeSpec := { name := "deconvolutionMonotone", fn := fun _ => fun
  | [d] => { results := [.lit (.bool false)], args := [d] }
  | _ => none }
def DeconvolutionMonotoneWrongFalsely : Prop := deconvolutionMonotoneRow.holds Try.pinned (OpenSpec.ofChange deconvolutionMonotoneWrong)

/-- 'netcalculuslaw08.DeconvolutionWaits': WHATEVER THE INPUT: true; the input reads as it did. -/
def deconvolutionWaitsSpec : ChangeSpec := { name := "deconvolutionWaits", fn := fun _ => fun
  | [d1, d2] => { results := [.lit (.bool true)], args := [d1, d2] }
  | _ => none }
def deconvolutionWaitsRow : OpenClaim := { program := "ythgfmaijoigckaa", sum := "06957a9e2eee13bb8ea94beb7c476a8b999633f23317e32da0943006a99015e5", func := "netcalculus/netcalculuslaw08.DeconvolutionWaits", spec := "deconvolutionWaits", unfollowed := true, recurses := true, apart := false }
def DeconvolutionWaitsSaid : Prop := deconvolutionWaitsRow.holds Try.pinned (OpenSpec.ofChange deconvolutionWaitsSpec)

/-- ITS FALSE NEIGHBOUR: 'it returns false'. Refute it at one input. -/
def deconvolutionWaitsWrong : ChangeSpec := { name := "deconvolutionWaits", fn := fun _ => fun
  | [d1, d2] => { results := [.lit (.bool false)], args := [d1, d2] }
  | _ => none }
def DeconvolutionWaitsWrongFalsely : Prop := deconvolutionWaitsRow.holds Try.pinned (OpenSpec.ofChange deconvolutionWaitsWrong)

/-- 'netcalculuslaw10.DeviationBacklog': WHATEVER THE INPUT: true; the input reads as it did. -/
def deviationBacklogSpec : ChangeSpec := { name := "deviationBacklog", fn := fun _ => fun
  | [d] => { results := [.lit (.bool true)], args := [d] }
  | _ => none }
def deviationBacklogRow : OpenClaim := { program := "ythgfmaijoigckaa", sum := "06957a9e2eee13bb8ea94beb7c476a8b999633f23317e32da0943006a99015e5", func := "netcalculus/netcalculuslaw10.DeviationBacklog", spec := "deviationBacklog", unfollowed := true, recurses := true, apart := false }
def DeviationBacklogSaid : Prop := deviationBacklogRow.holds Try.pinned (OpenSpec.ofChange deviationBacklogSpec)

/-- ITS FALSE NEIGHBOUR: 'it returns false'. Refute it at one input. -/
def deviationBacklogWrong : ChangeSpec := { name := "deviationBacklog", fn := fun _ => fun
  | [d] => { results := [.lit (.bool false)], args := [d] }
  | _ => none }
def DeviationBacklogWrongFalsely : Prop := deviationBacklogRow.holds Try.pinned (OpenSpec.ofChange deviationBacklogWrong)

/-- 'netcalculuslaw11.BucketMakes': WHATEVER THE INPUT: true; the input reads as it did. -/
def bucketMakesSpec : ChangeSpec := { name := "bucketMakes", fn := fun _ => fun
  | [d1, d2, d3, d4] => { results := [.lit (.bool true)], args := [d1, d2, d3, d4] }
  | _ => none }
def bucketMakesRow : OpenClaim := { program := "ythgfmaijoigckaa", sum := "06957a9e2eee13bb8ea94beb7c476a8b999633f23317e32da0943006a99015e5", func := "netcalculus/netcalculuslaw11.BucketMakes", spec := "bucketMakes", unfollowed := true, recurses := true, apart := false }
def BucketMakesSaid : Prop := bucketMakesRow.holds Try.pinned (OpenSpec.ofChange bucketMakesSpec)

/-- ITS FALSE NEIGHBOUR: 'it returns false'. Refute it at one input. -/
def bucketMakesWrong : ChangeSpec := { name := "bucketMakes", fn := fun _ => fun
  | [d1, d2, d3, d4] => { results := [.lit (.bool false)], args := [d1, d2, d3, d4] }
  | _ => none }
def BucketMakesWrongFalsely : Prop := bucketMakesRow.holds Try.pinned (OpenSpec.ofChange bucketMakesWrong)

/-- 'netcalculuslaw11.BucketCovers': WHATEVER THE INPUT: true; the input reads as it did. -/
def bucketCoversSpec : ChangeSpec := { name := "bucketCovers", fn := fun _ => fun
  | [d] => { results := [.lit (.bool true)], args := [d] }
  | _ => none }
def bucketCoversRow : OpenClaim := { program := "ythgfmaijoigckaa", sum := "06957a9e2eee13bb8ea94beb7c476a8b999633f23317e32da0943006a99015e5", func := "netcalculus/netcalculuslaw11.BucketCovers", spec := "bucketCovers", unfollowed := true, recurses := true, apart := false }
def BucketCoversSaid : Prop := bucketCoversRow.holds Try.pinned (OpenSpec.ofChange bucketCoversSpec)

/-- ITS FALSE NEIGHBOUR: 'it returns false'. Refute it at one input. -/
def bucketCoversWrong : ChangeSpec := { name := "bucketCovers", fn := fun _ => fun
  | [d] => { results := [.lit (.bool false)], args := [d] }
  | _ => none }
def BucketCoversWrongFalsely : Prop := bucketCoversRow.holds Try.pinned (OpenSpec.ofChange bucketCoversWrong)

/-- 'netcalculuslaw12.ServiceMakes': WHATEVER THE INPUT: true; the input reads as it did. -/
def serviceMakesSpec : ChangeSpec := { name := "serviceMakes", fn := fun _ => fun
  | [d1, d2, d3] => { results := [.lit (.bool true)], args := [d1, d2, d3] }
  | _ => none }
def serviceMakesRow : OpenClaim := { program := "ythgfmaijoigckaa", sum := "06957a9e2eee13bb8ea94beb7c476a8b999633f23317e32da0943006a99015e5", func := "netcalculus/netcalculuslaw12.ServiceMakes", spec := "serviceMakes", unfollowed := true, recurses := true, apart := false }
def ServiceMakesSaid : Prop := serviceMakesRow.holds Try.pinned (OpenSpec.ofChange serviceMakesSpec)

/-- ITS FALSE NEIGHBOUR: 'it returns false'. Refute it at one input. -/
def serviceMakesWrong : ChangeSpec := { name := "serviceMakes", fn := fun _ => fun
  | [d1, d2, d3] => { results := [.lit (.bool false)], args := [d1, d2, d3] }
  | _ => none }
def ServiceMakesWrongFalsely : Prop := serviceMakesRow.holds Try.pinned (OpenSpec.ofChange serviceMakesWrong)

/-- 'netcalculuslaw12.ServiceGrows': WHATEVER THE INPUT: true; the input reads as it did. -/
def serviceGrowsSpec : ChangeSpec := { name := "serviceGrows", fn := fun _ => fun
  | [d] => { results := [.lit (.bool true)], args := [d] }
  | _ => none }
def serviceGrowsRow : OpenClaim := { program := "ythgfmaijoigckaa", sum := "06957a9e2eee13bb8ea94beb7c476a8b999633f23317e32da0943006a99015e5", func := "netcalculus/netcalculuslaw12.ServiceGrows", spec := "serviceGrows", unfollowed := true, recurses := true, apart := false }
def ServiceGrowsSaid : Prop := serviceGrowsRow.holds Try.pinned (OpenSpec.ofChange serviceGrowsSpec)

/-- ITS FALSE NEIGHBOUR: 'it returns false'. Refute it at one input. -/
def serviceGrowsWrong : ChangeSpec := { name := "serviceGrows", fn := fun _ => fun
  | [d] => { results := [.lit (.bool false)], args := [d] }
  | _ => none }
def ServiceGrowsWrongFalsely : Prop := serviceGrowsRow.holds Try.pinned (OpenSpec.ofChange serviceGrowsWrong)

/-- 'netcalculuslaw12.ServiceWaits': WHATEVER THE INPUT: true; the input reads as it did. -/
def serviceWaitsSpec : ChangeSpec := { name := "serviceWaits", fn := fun _ => fun
  | [d] => { results := [.lit (.bool true)], args := [d] }
  | _ => none }
def serviceWaitsRow : OpenClaim := { program := "ythgfmaijoigckaa", sum := "06957a9e2eee13bb8ea94beb7c476a8b999633f23317e32da0943006a99015e5", func := "netcalculus/netcalculuslaw12.ServiceWaits", spec := "serviceWaits", unfollowed := true, recurses := true, apart := false }
def ServiceWaitsSaid : Prop := serviceWaitsRow.holds Try.pinned (OpenSpec.ofChange serviceWaitsSpec)

/-- ITS FALSE NEIGHBOUR: 'it returns false'. Refute it at one input. -/
def serviceWaitsWrong : ChangeSpec := { name := "serviceWaits", fn := fun _ => fun
  | [d] => { results := [.lit (.bool false)], args := [d] }
  | _ => none }
def ServiceWaitsWrongFalsely : Prop := serviceWaitsRow.holds Try.pinned (OpenSpec.ofChange serviceWaitsWrong)

/- THE SECOND FORM. 'bulk': how many values and letters a reading holds, each counted each time it is reached (what is shared counts as often as it is met; a slice's spare places count too). A statement '..UptoSaid' is the law's where the arguments, and the package variables that the reading takes, are together of bulk at most 1048576: NARROWER than '..Said'. Prove '..Said' where nothing that the law and all that it calls make is longer than what came in: it says more and counts as full. Else prove '..UptoSaid'. A law counts once. -/
mutual
def uptoBulk {H : Type} : DataW H → Nat
  | .lit (.string bytes) => bytes.length + 1
  | .lit _ => 1
  | .nil => 1
  | .ptr d => uptoBulk d + 1
  | .slice elems spare => uptoBulkAll elems + uptoBulkAll spare + 1
  | .agg parts => uptoBulkAll parts + 1
  | .iface _ d => uptoBulk d + 1
  | .map entries => uptoBulkEntries entries + 1
  | .held _ => 1
def uptoBulkAll {H : Type} : List (DataW H) → Nat
  | [] => 0
  | d :: r => uptoBulk d + uptoBulkAll r
def uptoBulkEntries {H : Type} : List (Lit × DataW H) → Nat
  | [] => 0
  | x :: r => uptoBulkEntry x + uptoBulkEntries r
def uptoBulkEntry {H : Type} : Lit × DataW H → Nat
  | (.string bytes, d) => bytes.length + uptoBulk d + 1
  | (_, d) => uptoBulk d + 1
 end
def uptoSmall : (H : Type) → List (DataW H) → Bool := fun _ ds => decide (uptoBulkAll ds ≤ 1048576)
def OpenSpec.upto (s : _root_.Go.ChangeSpec) : _root_.Go.OpenSpec := { _root_.Go.OpenSpec.ofChange s with cond := some uptoSmall }

/-- 'netcalculuslaw12.ServiceNumbers', WHERE WHAT IT READS IS OF BULK AT MOST 1048576: true; the input reads as it did. -/
def serviceNumbersUptoRow : OpenClaim := { program := "ythgfmaijoigckaa", sum := "06957a9e2eee13bb8ea94beb7c476a8b999633f23317e32da0943006a99015e5", func := "netcalculus/netcalculuslaw12.ServiceNumbers", spec := "serviceNumbers", unfollowed := true, recurses := true, apart := false, narrowed := true }
def ServiceNumbersUptoSaid : Prop := serviceNumbersUptoRow.holds Try.pinned (OpenSpec.upto serviceNumbersSpec)

/-- 'netcalculuslaw08.DeconvolutionAnswers', WHERE WHAT IT READS IS OF BULK AT MOST 1048576: true; the input reads as it did. -/
def deconvolutionAnswersUptoRow : OpenClaim := { program := "ythgfmaijoigckaa", sum := "06957a9e2eee13bb8ea94beb7c476a8b999633f23317e32da0943006a99015e5", func := "netcalculus/netcalculuslaw08.DeconvolutionAnswers", spec := "deconvolutionAnswers", unfollowed := true, recurses := true, apart := false, narrowed := true }
def DeconvolutionAnswersUptoSaid : Prop := deconvolutionAnswersUptoRow.holds Try.pinned (OpenSpec.upto deconvolutionAnswersSpec)

/-- 'netcalculuslaw08.DeconvolutionChecks', WHERE WHAT IT READS IS OF BULK AT MOST 1048576: true; the input reads as it did. -/
def deconvolutionChecksUptoRow : OpenClaim := { program := "ythgfmaijoigckaa", sum := "06957a9e2eee13bb8ea94beb7c476a8b999633f23317e32da0943006a99015e5", func := "netcalculus/netcalculuslaw08.DeconvolutionChecks", spec := "deconvolutionChecks", unfollowed := true, recurses := true, apart := false, narrowed := true }
def DeconvolutionChecksUptoSaid : Prop := deconvolutionChecksUptoRow.holds Try.pinned (OpenSpec.upto deconvolutionChecksSpec)

/-- 'netcalculuslaw08.DeconvolutionMonotone', WHERE WHAT IT READS IS OF BULK AT MOST 1048576: true; the input reads as it did. -/
def deconvolutionMonotoneUptoRow : OpenClaim := { program := "ythgfmaijoigckaa", sum := "06957a9e2eee13bb8ea94beb7c476a8b999633f23317e32da0943006a99015e5", func := "netcalculus/netcalculuslaw08.DeconvolutionMonotone", spec := "deconvolutionMonotone", unfollowed := true, recurses := true, apart := false, narrowed := true }
def DeconvolutionMonotoneUptoSaid : Prop := deconvolutionMonotoneUptoRow.holds Try.pinned (OpenSpec.upto deconvolutionMonotoneSpec)

/-- 'netcalculuslaw08.DeconvolutionWaits', WHERE WHAT IT READS IS OF BULK AT MOST 1048576: true; the input reads as it did. -/
def deconvolutionWaitsUptoRow : OpenClaim := { program := "ythgfmaijoigckaa", sum := "06957a9e2eee13bb8ea94beb7c476a8b999633f23317e32da0943006a99015e5", func := "netcalculus/netcalculuslaw08.DeconvolutionWaits", spec := "deconvolutionWaits", unfollowed := true, recurses := true, apart := false, narrowed := true }
def DeconvolutionWaitsUptoSaid : Prop := deconvolutionWaitsUptoRow.holds Try.pinned (OpenSpec.upto deconvolutionWaitsSpec)

/-- 'netcalculuslaw10.DeviationBacklog', WHERE WHAT IT READS IS OF BULK AT MOST 1048576: true; the input reads as it did. -/
def deviationBacklogUptoRow : OpenClaim := { program := "ythgfmaijoigckaa", sum := "06957a9e2eee13bb8ea94beb7c476a8b999633f23317e32da0943006a99015e5", func := "netcalculus/netcalculuslaw10.DeviationBacklog", spec := "deviationBacklog", unfollowed := true, recurses := true, apart := false, narrowed := true }
def DeviationBacklogUptoSaid : Prop := deviationBacklogUptoRow.holds Try.pinned (OpenSpec.upto deviationBacklogSpec)

/-- 'netcalculuslaw11.BucketMakes', WHERE WHAT IT READS IS OF BULK AT MOST 1048576: true; the input reads as it did. -/
def bucketMakesUptoRow : OpenClaim := { program := "ythgfmaijoigckaa", sum := "06957a9e2eee13bb8ea94beb7c476a8b999633f23317e32da0943006a99015e5", func := "netcalculus/netcalculuslaw11.BucketMakes", spec := "bucketMakes", unfollowed := true, recurses := true, apart := false, narrowed := true }
def BucketMakesUptoSaid : Prop := bucketMakesUptoRow.holds Try.pinned (OpenSpec.upto bucketMakesSpec)

/-- 'netcalculuslaw11.BucketCovers', WHERE WHAT IT READS IS OF BULK AT MOST 1048576: true; the input reads as it did. -/
def bucketCoversUptoRow : OpenClaim := { program := "ythgfmaijoigckaa", sum := "06957a9e2eee13bb8ea94beb7c476a8b999633f23317e32da0943006a99015e5", func := "netcalculus/netcalculuslaw11.BucketCovers", spec := "bucketCovers", unfollowed := true, recurses := true, apart := false, narrowed := true }
def BucketCoversUptoSaid : Prop := bucketCoversUptoRow.holds Try.pinned (OpenSpec.upto bucketCoversSpec)

/-- 'netcalculuslaw12.ServiceMakes', WHERE WHAT IT READS IS OF BULK AT MOST 1048576: true; the input reads as it did. -/
def serviceMakesUptoRow : OpenClaim := { program := "ythgfmaijoigckaa", sum := "06957a9e2eee13bb8ea94beb7c476a8b999633f23317e32da0943006a99015e5", func := "netcalculus/netcalculuslaw12.ServiceMakes", spec := "serviceMakes", unfollowed := true, recurses := true, apart := false, narrowed := true }
def ServiceMakesUptoSaid : Prop := serviceMakesUptoRow.holds Try.pinned (OpenSpec.upto serviceMakesSpec)

/-- 'netcalculuslaw12.ServiceGrows', WHERE WHAT IT READS IS OF BULK AT MOST 1048576: true; the input reads as it did. -/
def serviceGrowsUptoRow : OpenClaim := { program := "ythgfmaijoigckaa", sum := "06957a9e2eee13bb8ea94beb7c476a8b999633f23317e32da0943006a99015e5", func := "netcalculus/netcalculuslaw12.ServiceGrows", spec := "serviceGrows", unfollowed := true, recurses := true, apart := false, narrowed := true }
def ServiceGrowsUptoSaid : Prop := serviceGrowsUptoRow.holds Try.pinned (OpenSpec.upto serviceGrowsSpec)

/-- 'netcalculuslaw12.ServiceWaits', WHERE WHAT IT READS IS OF BULK AT MOST 1048576: true; the input reads as it did. -/
def serviceWaitsUptoRow : OpenClaim := { program := "ythgfmaijoigckaa", sum := "06957a9e2eee13bb8ea94beb7c476a8b999633f23317e32da0943006a99015e5", func := "netcalculus/netcalculuslaw12.ServiceWaits", spec := "serviceWaits", unfollowed := true, recurses := true, apart := false, narrowed := true }
def ServiceWaitsUptoSaid : Prop := serviceWaitsUptoRow.holds Try.pinned (OpenSpec.upto serviceWaitsSpec)

end Rows
end Go.Proofs.Ythgfmaijoigckaa
