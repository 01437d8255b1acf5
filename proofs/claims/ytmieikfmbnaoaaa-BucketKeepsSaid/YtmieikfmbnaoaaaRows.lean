/-
  No cell of these rows narrows 'for every input' (looked for: loops, veiled, ifaces, maps, wideKeys, modest, calm, conditions, laid).
  DERIVED. THE GIVEN ROWS OF THIS SEAT. 12 by the template 'for every input the law returns true; each argument reads behind the call as it read before'; 0 by the template 'total and deterministic' (their statements: YtmieikfmbnaoaaaTotals.lean).
  GIVEN WITH THE SEED: the statements are not yours to turn. If you find one false, say at which input.
  Laid BY PROGRAM, IN A SANDBOX (cutbox-rows.mjs): the forced cells as the released guide's own fill.sh prints them over the translation 2b17066277b3d65f… (all of the seat's roots in one cut). By AI agents, Wed Nov 11 2026. No macro, syntax, notation, axiom, sorry.
-/
import Derived.Test.YtmieikfmbnaoaaaChecked
import GoSem.Claim
import GoSem.ClaimJoined
import GoSem.ClaimMapViews
import Derived.JoinedTies
import Derived.KernelRfl
namespace Go.Proofs.Ytmieikfmbnaoaaa
/- THE CELL 'sum', in the pinned program and in every row, IS THE sha256 OF THE DUMP (.gsa) THAT YtmieikfmbnaoaaaProg.lean LOADS. Nothing in Lean hashes anything: it is a label: what it is worth is what the hold of that sum in a sandbox is worth. -/
noncomputable def Try.pinned : Pinned := { name := "ytmieikfmbnaoaaa", sum := "2b17066277b3d65f574b04639e20b6916bfb4381c88ff8ad36074946841a9a70", checked := Try.checked }
namespace Rows
def none {H : Type} : Left H := { results := [], args := [] }

/-- 'netcalculuslaw11.BucketExcess': WHATEVER THE INPUT: true; the input reads as it did. -/
def bucketExcessSpec : ChangeSpec := { name := "bucketExcess", fn := fun _ => fun
  | [d1, d2, d3] => { results := [.lit (.bool true)], args := [d1, d2, d3] }
  | _ => none }
def bucketExcessRow : OpenClaim := { program := "ytmieikfmbnaoaaa", sum := "2b17066277b3d65f574b04639e20b6916bfb4381c88ff8ad36074946841a9a70", func := "netcalculus/netcalculuslaw11.BucketExcess", spec := "bucketExcess", unfollowed := true, recurses := true, apart := false }
def BucketExcessSaid : Prop := bucketExcessRow.holds Try.pinned (OpenSpec.ofChange bucketExcessSpec)

/-- ITS FALSE NEIGHBOUR: 'it returns false'. Refute it at one input. -/
def bucketExcessWrong : ChangeSpec := { name := "bucketExcess", fn := fun _ => fun
  | [d1, d2, d3] => { results := [.lit (.bool false)], args := [d1, d2, d3] }
  | _ => none }
def BucketExcessWrongFalsely : Prop := bucketExcessRow.holds Try.pinned (OpenSpec.ofChange bucketExcessWrong)

/-- 'netcalculuslaw11.BucketKeeps': WHATEVER THE INPUT: true; the input reads as it did. -/
def bucketKeepsSpec : ChangeSpec := { name := "bucketKeeps", fn := fun _ => fun
  | [d] => { results := [.lit (.bool true)], args := [d] }
  | _ => none }
def bucketKeepsRow : OpenClaim := { program := "ytmieikfmbnaoaaa", sum := "2b17066277b3d65f574b04639e20b6916bfb4381c88ff8ad36074946841a9a70", func := "netcalculus/netcalculuslaw11.BucketKeeps", spec := "bucketKeeps", unfollowed := true, recurses := true, apart := false }
def BucketKeepsSaid : Prop := bucketKeepsRow.holds Try.pinned (OpenSpec.ofChange bucketKeepsSpec)

/-- ITS FALSE NEIGHBOUR: 'it returns false'. Refute it at one input. -/
def bucketKeepsWrong : ChangeSpec := { name := "bucketKeeps", fn := fun _ => fun
  | [d] => { results := [.lit (.bool false)], args := [d] }
  | _ => none }
def BucketKeepsWrongFalsely : Prop := bucketKeepsRow.holds Try.pinned (OpenSpec.ofChange bucketKeepsWrong)

/-- 'netcalculuslaw12.ServiceDelays': WHATEVER THE INPUT: true; the input reads as it did. -/
def serviceDelaysSpec : ChangeSpec := { name := "serviceDelays", fn := fun _ => fun
  | [d] => { results := [.lit (.bool true)], args := [d] }
  | _ => none }
def serviceDelaysRow : OpenClaim := { program := "ytmieikfmbnaoaaa", sum := "2b17066277b3d65f574b04639e20b6916bfb4381c88ff8ad36074946841a9a70", func := "netcalculus/netcalculuslaw12.ServiceDelays", spec := "serviceDelays", unfollowed := true, recurses := true, apart := false }
def ServiceDelaysSaid : Prop := serviceDelaysRow.holds Try.pinned (OpenSpec.ofChange serviceDelaysSpec)

/-- ITS FALSE NEIGHBOUR: 'it returns false'. Refute it at one input. -/
def serviceDelaysWrong : ChangeSpec := { name := "serviceDelays", fn := fun _ => fun
  | [d] => { results := [.lit (.bool false)], args := [d] }
  | _ => none }
def ServiceDelaysWrongFalsely : Prop := serviceDelaysRow.holds Try.pinned (OpenSpec.ofChange serviceDelaysWrong)

/-- 'netcalculuslaw10.DeviationAnswers': WHATEVER THE INPUT: true; the input reads as it did. -/
def deviationAnswersSpec : ChangeSpec := { name := "deviationAnswers", fn := fun _ => fun
  | [d1, d2, d3, d4] => { results := [.lit (.bool true)], args := [d1, d2, d3, d4] }
  | _ => none }
def deviationAnswersRow : OpenClaim := { program := "ytmieikfmbnaoaaa", sum := "2b17066277b3d65f574b04639e20b6916bfb4381c88ff8ad36074946841a9a70", func := "netcalculus/netcalculuslaw10.DeviationAnswers", spec := "deviationAnswers", unfollowed := true, recurses := true, apart := false }
def DeviationAnswersSaid : Prop := deviationAnswersRow.holds Try.pinned (OpenSpec.ofChange deviationAnswersSpec)

/-- ITS FALSE NEIGHBOUR: 'it returns false'. Refute it at one input. -/
def deviationAnswersWrong : ChangeSpec := { name := "deviationAnswers", fn := fun _ => fun
  | [d1, d2, d3, d4] => { results := [.lit (.bool false)], args := [d1, d2, d3, d4] }
  | _ => none }
def DeviationAnswersWrongFalsely : Prop := deviationAnswersRow.holds Try.pinned (OpenSpec.ofChange deviationAnswersWrong)

/-- 'netcalculuslaw05.PointwisePairs': WHATEVER THE INPUT: true; the input reads as it did. -/
def pointwisePairsSpec : ChangeSpec := { name := "pointwisePairs", fn := fun _ => fun
  | [d1, d2, d3] => { results := [.lit (.bool true)], args := [d1, d2, d3] }
  | _ => none }
def pointwisePairsRow : OpenClaim := { program := "ytmieikfmbnaoaaa", sum := "2b17066277b3d65f574b04639e20b6916bfb4381c88ff8ad36074946841a9a70", func := "netcalculus/netcalculuslaw05.PointwisePairs", spec := "pointwisePairs", unfollowed := true, recurses := true, apart := false }
def PointwisePairsSaid : Prop := pointwisePairsRow.holds Try.pinned (OpenSpec.ofChange pointwisePairsSpec)

/-- ITS FALSE NEIGHBOUR: 'it returns false'. Refute it at one input. -/
def pointwisePairsWrong : ChangeSpec := { name := "pointwisePairs", fn := fun _ => fun
  | [d1, d2, d3] => { results := [.lit (.bool false)], args := [d1, d2, d3] }
  | _ => none }
def PointwisePairsWrongFalsely : Prop := pointwisePairsRow.holds Try.pinned (OpenSpec.ofChange pointwisePairsWrong)

/-- 'netcalculuslaw05.PointwiseValues': WHATEVER THE INPUT: true; the input reads as it did. -/
def pointwiseValuesSpec : ChangeSpec := { name := "pointwiseValues", fn := fun _ => fun
  | [d1, d2] => { results := [.lit (.bool true)], args := [d1, d2] }
  | _ => none }
def pointwiseValuesRow : OpenClaim := { program := "ytmieikfmbnaoaaa", sum := "2b17066277b3d65f574b04639e20b6916bfb4381c88ff8ad36074946841a9a70", func := "netcalculus/netcalculuslaw05.PointwiseValues", spec := "pointwiseValues", unfollowed := true, recurses := true, apart := false }
def PointwiseValuesSaid : Prop := pointwiseValuesRow.holds Try.pinned (OpenSpec.ofChange pointwiseValuesSpec)

/-- ITS FALSE NEIGHBOUR: 'it returns false'. Refute it at one input. -/
def pointwiseValuesWrong : ChangeSpec := { name := "pointwiseValues", fn := fun _ => fun
  | [d1, d2] => { results := [.lit (.bool false)], args := [d1, d2] }
  | _ => none }
def PointwiseValuesWrongFalsely : Prop := pointwiseValuesRow.holds Try.pinned (OpenSpec.ofChange pointwiseValuesWrong)

/-- 'netcalculuslaw05.PointwiseLattice': WHATEVER THE INPUT: true; the input reads as it did. -/
def pointwiseLatticeSpec : ChangeSpec := { name := "pointwiseLattice", fn := fun _ => fun
  | [d] => { results := [.lit (.bool true)], args := [d] }
  | _ => none }
def pointwiseLatticeRow : OpenClaim := { program := "ytmieikfmbnaoaaa", sum := "2b17066277b3d65f574b04639e20b6916bfb4381c88ff8ad36074946841a9a70", func := "netcalculus/netcalculuslaw05.PointwiseLattice", spec := "pointwiseLattice", unfollowed := true, recurses := true, apart := false }
def PointwiseLatticeSaid : Prop := pointwiseLatticeRow.holds Try.pinned (OpenSpec.ofChange pointwiseLatticeSpec)

/-- ITS FALSE NEIGHBOUR: 'it returns false'. Refute it at one input. -/
def pointwiseLatticeWrong : ChangeSpec := { name := "pointwiseLattice", fn := fun _ => fun
  | [d] => { results := [.lit (.bool false)], args := [d] }
  | _ => none }
def PointwiseLatticeWrongFalsely : Prop := pointwiseLatticeRow.holds Try.pinned (OpenSpec.ofChange pointwiseLatticeWrong)

/-- 'netcalculuslaw05.PointwiseTotals': WHATEVER THE INPUT: true; the input reads as it did. -/
def pointwiseTotalsSpec : ChangeSpec := { name := "pointwiseTotals", fn := fun _ => fun
  | [d] => { results := [.lit (.bool true)], args := [d] }
  | _ => none }
def pointwiseTotalsRow : OpenClaim := { program := "ytmieikfmbnaoaaa", sum := "2b17066277b3d65f574b04639e20b6916bfb4381c88ff8ad36074946841a9a70", func := "netcalculus/netcalculuslaw05.PointwiseTotals", spec := "pointwiseTotals", unfollowed := true, recurses := true, apart := false }
def PointwiseTotalsSaid : Prop := pointwiseTotalsRow.holds Try.pinned (OpenSpec.ofChange pointwiseTotalsSpec)

/-- ITS FALSE NEIGHBOUR: 'it returns false'. Refute it at one input. -/
def pointwiseTotalsWrong : ChangeSpec := { name := "pointwiseTotals", fn := fun _ => fun
  | [d] => { results := [.lit (.bool false)], args := [d] }
  | _ => none }
def PointwiseTotalsWrongFalsely : Prop := pointwiseTotalsRow.holds Try.pinned (OpenSpec.ofChange pointwiseTotalsWrong)

/-- 'netcalculuslaw05.PointwiseScales': WHATEVER THE INPUT: true; the input reads as it did. -/
def pointwiseScalesSpec : ChangeSpec := { name := "pointwiseScales", fn := fun _ => fun
  | [d] => { results := [.lit (.bool true)], args := [d] }
  | _ => none }
def pointwiseScalesRow : OpenClaim := { program := "ytmieikfmbnaoaaa", sum := "2b17066277b3d65f574b04639e20b6916bfb4381c88ff8ad36074946841a9a70", func := "netcalculus/netcalculuslaw05.PointwiseScales", spec := "pointwiseScales", unfollowed := true, recurses := true, apart := false }
def PointwiseScalesSaid : Prop := pointwiseScalesRow.holds Try.pinned (OpenSpec.ofChange pointwiseScalesSpec)

/-- ITS FALSE NEIGHBOUR: 'it returns false'. Refute it at one input. -/
def pointwiseScalesWrong : ChangeSpec := { name := "pointwiseScales", fn := fun _ => fun
  | [d] => { results := [.lit (.bool false)], args := [d] }
  | _ => none }
def PointwiseScalesWrongFalsely : Prop := pointwiseScalesRow.holds Try.pinned (OpenSpec.ofChange pointwiseScalesWrong)

/-- 'netcalculuslaw05.PointwiseMonotone': WHATEVER THE INPUT: true; the input reads as it did. -/
def pointwiseMonotoneSpec : ChangeSpec := { name := "pointwiseMonotone", fn := fun _ => fun
  | [d] => { results := [.lit (.bool true)], args := [d] }
  | _ => none }
def pointwiseMonotoneRow : OpenClaim := { program := "ytmieikfmbnaoaaa", sum := "2b17066277b3d65f574b04639e20b6916bfb4381c88ff8ad36074946841a9a70", func := "netcalculus/netcalculuslaw05.PointwiseMonotone", spec := "pointwiseMonotone", unfollowed := true, recurses := true, apart := false }
def PointwiseMonotoneSaid : Prop := pointwiseMonotoneRow.holds Try.pinned (OpenSpec.ofChange pointwiseMonotoneSpec)

/-- ITS FALSE NEIGHBOUR: 'it returns false'. Refute it at one input. -/
def pointwiseMonotoneWrong : ChangeSpec := { name := "pointwiseMonotone", fn := fun _ => fun
  | [d] => { results := [.lit (.bool false)], args := [d] }
  | _ => none }
def PointwiseMonotoneWrongFalsely : Prop := pointwiseMonotoneRow.holds Try.pinned (OpenSpec.ofChange pointwiseMonotoneWrong)

/-- 'netcalculuslaw05.PointwiseUndoes': WHATEVER THE INPUT: true; the input reads as it did. -/
def pointwiseUndoesSpec : ChangeSpec := { name := "pointwiseUndoes", fn := fun _ => fun
  | [d] => { results := [.lit (.bool true)], args := [d] }
  | _ => none }
def pointwiseUndoesRow : OpenClaim := { program := "ytmieikfmbnaoaaa", sum := "2b17066277b3d65f574b04639e20b6916bfb4381c88ff8ad36074946841a9a70", func := "netcalculus/netcalculuslaw05.PointwiseUndoes", spec := "pointwiseUndoes", unfollowed := true, recurses := true, apart := false }
def PointwiseUndoesSaid : Prop := pointwiseUndoesRow.holds Try.pinned (OpenSpec.ofChange pointwiseUndoesSpec)

/-- ITS FALSE NEIGHBOUR: 'it returns false'. Refute it at one input. -/
def pointwiseUndoesWrong : ChangeSpec := { name := "pointwiseUndoes", fn := fun _ => fun
  | [d] => { results := [.lit (.bool false)], args := [d] }
  | _ => none }
def PointwiseUndoesWrongFalsely : Prop := pointwiseUndoesRow.holds Try.pinned (OpenSpec.ofChange pointwiseUndoesWrong)

/-- 'netcalculuslaw05.PointwiseSingles': WHATEVER THE INPUT: true; the input reads as it did. -/
def pointwiseSinglesSpec : ChangeSpec := { name := "pointwiseSingles", fn := fun _ => fun
  | [d1, d2, d3, d4] => { results := [.lit (.bool true)], args := [d1, d2, d3, d4] }
  | _ => none }
def pointwiseSinglesRow : OpenClaim := { program := "ytmieikfmbnaoaaa", sum := "2b17066277b3d65f574b04639e20b6916bfb4381c88ff8ad36074946841a9a70", func := "netcalculus/netcalculuslaw05.PointwiseSingles", spec := "pointwiseSingles", unfollowed := true, recurses := true, apart := false }
def PointwiseSinglesSaid : Prop := pointwiseSinglesRow.holds Try.pinned (OpenSpec.ofChange pointwiseSinglesSpec)

/-- ITS FALSE NEIGHBOUR: 'it returns false'. Refute it at one input. -/
def pointwiseSinglesWrong : ChangeSpec := { name := "pointwiseSingles", fn := fun _ => fun
  | [d1, d2, d3, d4] => { results := [.lit (.bool false)], args := [d1, d2, d3, d4] }
  | _ => none }
def PointwiseSinglesWrongFalsely : Prop := pointwiseSinglesRow.holds Try.pinned (OpenSpec.ofChange pointwiseSinglesWrong)

/- THE SECOND FORM. 'bulk': how many values and letters a reading holds, each counted each time it is reached (what is shared counts as often as it is met; a slice's spare places count too). A statement '..UptoSaid' is the law's where the arguments, and the package variables that the reading takes, are together of bulk at most 1048576: NARROWER than '..Said'. Prove '..Said' where nothing that the law and all that it calls make is longer than what came in: it says more and counts as full. Else prove '..UptoSaid'. A law counts once. -/
mutual
def uptoBulk {H : Type} : DataW H → Nat
  | .lit (.string bytes) => bytes.length + 1
  | .lit _ => 1
  | .nil => 1
  | .ptr d => uptoBulk d + 1
  | .slice elems spare => uptoBulkAll elems + uptoBulkAll spare + 1
  | .agg parts => uptoBulkAll parts + 1
  | .iface _ d => uptoBulk d + 1
  | .map entries => uptoBulkEntries entries + 1
  | .held _ => 1
def uptoBulkAll {H : Type} : List (DataW H) → Nat
  | [] => 0
  | d :: r => uptoBulk d + uptoBulkAll r
def uptoBulkEntries {H : Type} : List (Lit × DataW H) → Nat
  | [] => 0
  | x :: r => uptoBulkEntry x + uptoBulkEntries r
def uptoBulkEntry {H : Type} : Lit × DataW H → Nat
  | (.string bytes, d) => bytes.length + uptoBulk d + 1
  | (_, d) => uptoBulk d + 1
 end
def uptoSmall : (H : Type) → List (DataW H) → Bool := fun _ ds => decide (uptoBulkAll ds ≤ 1048576)
def OpenSpec.upto (s : _root_.Go.ChangeSpec) : _root_.Go.OpenSpec := { _root_.Go.OpenSpec.ofChange s with cond := some uptoSmall }

/-- 'netcalculuslaw11.BucketExcess', WHERE WHAT IT READS IS OF BULK AT MOST 1048576: true; the input reads as it did. -/
def bucketExcessUptoRow : OpenClaim := { program := "ytmieikfmbnaoaaa", sum := "2b17066277b3d65f574b04639e20b6916bfb4381c88ff8ad36074946841a9a70", func := "netcalculus/netcalculuslaw11.BucketExcess", spec := "bucketExcess", unfollowed := true, recurses := true, apart := false, narrowed := true }
def BucketExcessUptoSaid : Prop := bucketExcessUptoRow.holds Try.pinned (OpenSpec.upto bucketExcessSpec)

/-- 'netcalculuslaw11.BucketKeeps', WHERE WHAT IT READS IS OF BULK AT MOST 1048576: true; the input reads as it did. -/
def bucketKeepsUptoRow : OpenClaim := { program := "ytmieikfmbnaoaaa", sum := "2b17066277b3d65f574b04639e20b6916bfb4381c88ff8ad36074946841a9a70", func := "netcalculus/netcalculuslaw11.BucketKeeps", spec := "bucketKeeps", unfollowed := true, recurses := true, apart := false, narrowed := true }
def BucketKeepsUptoSaid : Prop := bucketKeepsUptoRow.holds Try.pinned (OpenSpec.upto bucketKeepsSpec)

/-- 'netcalculuslaw12.ServiceDelays', WHERE WHAT IT READS IS OF BULK AT MOST 1048576: true; the input reads as it did. -/
def serviceDelaysUptoRow : OpenClaim := { program := "ytmieikfmbnaoaaa", sum := "2b17066277b3d65f574b04639e20b6916bfb4381c88ff8ad36074946841a9a70", func := "netcalculus/netcalculuslaw12.ServiceDelays", spec := "serviceDelays", unfollowed := true, recurses := true, apart := false, narrowed := true }
def ServiceDelaysUptoSaid : Prop := serviceDelaysUptoRow.holds Try.pinned (OpenSpec.upto serviceDelaysSpec)

/-- 'netcalculuslaw10.DeviationAnswers', WHERE WHAT IT READS IS OF BULK AT MOST 1048576: true; the input reads as it did. -/
def deviationAnswersUptoRow : OpenClaim := { program := "ytmieikfmbnaoaaa", sum := "2b17066277b3d65f574b04639e20b6916bfb4381c88ff8ad36074946841a9a70", func := "netcalculus/netcalculuslaw10.DeviationAnswers", spec := "deviationAnswers", unfollowed := true, recurses := true, apart := false, narrowed := true }
def DeviationAnswersUptoSaid : Prop := deviationAnswersUptoRow.holds Try.pinned (OpenSpec.upto deviationAnswersSpec)

/-- 'netcalculuslaw05.PointwisePairs', WHERE WHAT IT READS IS OF BULK AT MOST 1048576: true; the input reads as it did. -/
def pointwisePairsUptoRow : OpenClaim := { program := "ytmieikfmbnaoaaa", sum := "2b17066277b3d65f574b04639e20b6916bfb4381c88ff8ad36074946841a9a70", func := "netcalculus/netcalculuslaw05.PointwisePairs", spec := "pointwisePairs", unfollowed := true, recurses := true, apart := false, narrowed := true }
def PointwisePairsUptoSaid : Prop := pointwisePairsUptoRow.holds Try.pinned (OpenSpec.upto pointwisePairsSpec)

/-- 'netcalculuslaw05.PointwiseValues', WHERE WHAT IT READS IS OF BULK AT MOST 1048576: true; the input reads as it did. -/
def pointwiseValuesUptoRow : OpenClaim := { program := "ytmieikfmbnaoaaa", sum := "2b17066277b3d65f574b04639e20b6916bfb4381c88ff8ad36074946841a9a70", func := "netcalculus/netcalculuslaw05.PointwiseValues", spec := "pointwiseValues", unfollowed := true, recurses := true, apart := false, narrowed := true }
def PointwiseValuesUptoSaid : Prop := pointwiseValuesUptoRow.holds Try.pinned (OpenSpec.upto pointwiseValuesSpec)

/-- 'netcalculuslaw05.PointwiseLattice', WHERE WHAT IT READS IS OF BULK AT MOST 1048576: true; the input reads as it did. -/
def pointwiseLatticeUptoRow : OpenClaim := { program := "ytmieikfmbnaoaaa", sum := "2b17066277b3d65f574b04639e20b6916bfb4381c88ff8ad36074946841a9a70", func := "netcalculus/netcalculuslaw05.PointwiseLattice", spec := "pointwiseLattice", unfollowed := true, recurses := true, apart := false, narrowed := true }
def PointwiseLatticeUptoSaid : Prop := pointwiseLatticeUptoRow.holds Try.pinned (OpenSpec.upto pointwiseLatticeSpec)

/-- 'netcalculuslaw05.PointwiseTotals', WHERE WHAT IT READS IS OF BULK AT MOST 1048576: true; the input reads as it did. -/
def pointwiseTotalsUptoRow : OpenClaim := { program := "ytmieikfmbnaoaaa", sum := "2b17066277b3d65f574b04639e20b6916bfb4381c88ff8ad36074946841a9a70", func := "netcalculus/netcalculuslaw05.PointwiseTotals", spec := "pointwiseTotals", unfollowed := true, recurses := true, apart := false, narrowed := true }
def PointwiseTotalsUptoSaid : Prop := pointwiseTotalsUptoRow.holds Try.pinned (OpenSpec.upto pointwiseTotalsSpec)

/-- 'netcalculuslaw05.PointwiseScales', WHERE WHAT IT READS IS OF BULK AT MOST 1048576: true; the input reads as it did. -/
def pointwiseScalesUptoRow : OpenClaim := { program := "ytmieikfmbnaoaaa", sum := "2b17066277b3d65f574b04639e20b6916bfb4381c88ff8ad36074946841a9a70", func := "netcalculus/netcalculuslaw05.PointwiseScales", spec := "pointwiseScales", unfollowed := true, recurses := true, apart := false, narrowed := true }
def PointwiseScalesUptoSaid : Prop := pointwiseScalesUptoRow.holds Try.pinned (OpenSpec.upto pointwiseScalesSpec)

/-- 'netcalculuslaw05.PointwiseMonotone', WHERE WHAT IT READS IS OF BULK AT MOST 1048576: true; the input reads as it did. -/
def pointwiseMonotoneUptoRow : OpenClaim := { program := "ytmieikfmbnaoaaa", sum := "2b17066277b3d65f574b04639e20b6916bfb4381c88ff8ad36074946841a9a70", func := "netcalculus/netcalculuslaw05.PointwiseMonotone", spec := "pointwiseMonotone", unfollowed := true, recurses := true, apart := false, narrowed := true }
def PointwiseMonotoneUptoSaid : Prop := pointwiseMonotoneUptoRow.holds Try.pinned (OpenSpec.upto pointwiseMonotoneSpec)

/-- 'netcalculuslaw05.PointwiseUndoes', WHERE WHAT IT READS IS OF BULK AT MOST 1048576: true; the input reads as it did. -/
def pointwiseUndoesUptoRow : OpenClaim := { program := "ytmieikfmbnaoaaa", sum := "2b17066277b3d65f574b04639e20b6916bfb4381c88ff8ad36074946841a9a70", func := "netcalculus/netcalculuslaw05.PointwiseUndoes", spec := "pointwiseUndoes", unfollowed := true, recurses := true, apart := false, narrowed := true }
def PointwiseUndoesUptoSaid : Prop := pointwiseUndoesUptoRow.holds Try.pinned (OpenSpec.upto pointwiseUndoesSpec)

/-- 'netcalculuslaw05.PointwiseSingles', WHERE WHAT IT READS IS OF BULK AT MOST 1048576: true; the input reads as it did. -/
def pointwiseSinglesUptoRow : OpenClaim := { program := "ytmieikfmbnaoaaa", sum := "2b17066277b3d65f574b04639e20b6916bfb4381c88ff8ad36074946841a9a70", func := "netcalculus/netcalculuslaw05.PointwiseSingles", spec := "pointwiseSingles", unfollowed := true, recurses := true, apart := false, narrowed := true }
def PointwiseSinglesUptoSaid : Prop := pointwiseSinglesUptoRow.holds Try.pinned (OpenSpec.upto pointwiseSinglesSpec)

end Rows
end Go.Proofs.Ytmieikfmbnaoaaa
