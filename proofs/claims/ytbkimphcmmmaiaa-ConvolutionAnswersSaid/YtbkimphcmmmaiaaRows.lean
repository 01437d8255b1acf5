/-
  No cell of these rows narrows 'for every input' (looked for: loops, veiled, ifaces, maps, wideKeys, modest, calm, conditions, laid).
  DERIVED. THE GIVEN ROWS OF THIS SEAT. 12 by the template 'for every input the law returns true; each argument reads behind the call as it read before'; 0 by the template 'total and deterministic' (their statements: YtbkimphcmmmaiaaTotals.lean).
  GIVEN WITH THE SEED: the statements are not yours to turn. If you find one false, say at which input.
  Laid BY PROGRAM, IN A SANDBOX (cutbox-rows.mjs): the forced cells as the released guide's own fill.sh prints them over the translation 1b9a84a0f0cf0a1d… (all of the seat's roots in one cut). By AI agents, Wed Nov 11 2026. No macro, syntax, notation, axiom, sorry.
-/
import Derived.Test.YtbkimphcmmmaiaaChecked
import GoSem.Claim
import GoSem.ClaimJoined
import GoSem.ClaimMapViews
import Derived.JoinedTies
import Derived.KernelRfl
namespace Go.Proofs.Ytbkimphcmmmaiaa
/- THE CELL 'sum', in the pinned program and in every row, IS THE sha256 OF THE DUMP (.gsa) THAT YtbkimphcmmmaiaaProg.lean LOADS. Nothing in Lean hashes anything: it is a label: what it is worth is what the hold of that sum in a sandbox is worth. -/
noncomputable def Try.pinned : Pinned := { name := "ytbkimphcmmmaiaa", sum := "1b9a84a0f0cf0a1d1dbd1acece3d2afdd488c4ecbe1042b68bf60d3e5a46166a", checked := Try.checked }
namespace Rows
def none {H : Type} : Left H := { results := [], args := [] }

/-- 'netcalculuslaw11.BucketAdds': WHATEVER THE INPUT: true; the input reads as it did. -/
def bucketAddsSpec : ChangeSpec := { name := "bucketAdds", fn := fun _ => fun
  | [d] => { results := [.lit (.bool true)], args := [d] }
  | _ => none }
def bucketAddsRow : OpenClaim := { program := "ytbkimphcmmmaiaa", sum := "1b9a84a0f0cf0a1d1dbd1acece3d2afdd488c4ecbe1042b68bf60d3e5a46166a", func := "netcalculus/netcalculuslaw11.BucketAdds", spec := "bucketAdds", unfollowed := true, recurses := true, apart := false }
def BucketAddsSaid : Prop := bucketAddsRow.holds Try.pinned (OpenSpec.ofChange bucketAddsSpec)

/-- ITS FALSE NEIGHBOUR: 'it returns false'. Refute it at one input. -/
def bucketAddsWrong : ChangeSpec := { name := "bucketAdds", fn := fun _ => fun
  | [d] => { results := [.lit (.bool false)], args := [d] }
  | _ => none }
def BucketAddsWrongFalsely : Prop := bucketAddsRow.holds Try.pinned (OpenSpec.ofChange bucketAddsWrong)

/-- 'netcalculuslaw08.DeconvolutionTwice': WHATEVER THE INPUT: true; the input reads as it did. -/
def deconvolutionTwiceSpec : ChangeSpec := { name := "deconvolutionTwice", fn := fun _ => fun
  | [d] => { results := [.lit (.bool true)], args := [d] }
  | _ => none }
def deconvolutionTwiceRow : OpenClaim := { program := "ytbkimphcmmmaiaa", sum := "1b9a84a0f0cf0a1d1dbd1acece3d2afdd488c4ecbe1042b68bf60d3e5a46166a", func := "netcalculus/netcalculuslaw08.DeconvolutionTwice", spec := "deconvolutionTwice", unfollowed := true, recurses := true, apart := false }
def DeconvolutionTwiceSaid : Prop := deconvolutionTwiceRow.holds Try.pinned (OpenSpec.ofChange deconvolutionTwiceSpec)

/-- ITS FALSE NEIGHBOUR: 'it returns false'. Refute it at one input. -/
def deconvolutionTwiceWrong : ChangeSpec := { name := "deconvolutionTwice", fn := fun _ => fun
  | [d] => { results := [.lit (.bool false)], args := [d] }
  | _ => none }
def DeconvolutionTwiceWrongFalsely : Prop := deconvolutionTwiceRow.holds Try.pinned (OpenSpec.ofChange deconvolutionTwiceWrong)

/-- 'netcalculuslaw07.ConvolutionAlgebra': WHATEVER THE INPUT: true; the input reads as it did. -/
def convolutionAlgebraSpec : ChangeSpec := { name := "convolutionAlgebra", fn := fun _ => fun
  | [d] => { results := [.lit (.bool true)], args := [d] }
  | _ => none }
def convolutionAlgebraRow : OpenClaim := { program := "ytbkimphcmmmaiaa", sum := "1b9a84a0f0cf0a1d1dbd1acece3d2afdd488c4ecbe1042b68bf60d3e5a46166a", func := "netcalculus/netcalculuslaw07.ConvolutionAlgebra", spec := "convolutionAlgebra", unfollowed := true, recurses := true, apart := false }
def ConvolutionAlgebraSaid : Prop := convolutionAlgebraRow.holds Try.pinned (OpenSpec.ofChange convolutionAlgebraSpec)

/-- ITS FALSE NEIGHBOUR: 'it returns false'. Refute it at one input. -/
def convolutionAlgebraWrong : ChangeSpec := { name := "convolutionAlgebra", fn := fun _ => fun
  | [d] => { results := [.lit (.bool false)], args := [d] }
  | _ => none }
def ConvolutionAlgebraWrongFalsely : Prop := convolutionAlgebraRow.holds Try.pinned (OpenSpec.ofChange convolutionAlgebraWrong)

/-- 'netcalculuslaw07.ConvolutionSpreads': WHATEVER THE INPUT: true; the input reads as it did. -/
def convolutionSpreadsSpec : ChangeSpec := { name := "convolutionSpreads", fn := fun _ => fun
  | [d] => { results := [.lit (.bool true)], args := [d] }
  | _ => none }
def convolutionSpreadsRow : OpenClaim := { program := "ytbkimphcmmmaiaa", sum := "1b9a84a0f0cf0a1d1dbd1acece3d2afdd488c4ecbe1042b68bf60d3e5a46166a", func := "netcalculus/netcalculuslaw07.ConvolutionSpreads", spec := "convolutionSpreads", unfollowed := true, recurses := true, apart := false }
def ConvolutionSpreadsSaid : Prop := convolutionSpreadsRow.holds Try.pinned (OpenSpec.ofChange convolutionSpreadsSpec)

/-- ITS FALSE NEIGHBOUR: 'it returns false'. Refute it at one input. -/
def convolutionSpreadsWrong : ChangeSpec := { name := "convolutionSpreads", fn := fun _ => fun
  | [d] => { results := [.lit (.bool false)], args := [d] }
  | _ => none }
def ConvolutionSpreadsWrongFalsely : Prop := convolutionSpreadsRow.holds Try.pinned (OpenSpec.ofChange convolutionSpreadsWrong)

/-- 'netcalculuslaw07.ConvolutionLines': WHATEVER THE INPUT: true; the input reads as it did. -/
def convolutionLinesSpec : ChangeSpec := { name := "convolutionLines", fn := fun _ => fun
  | [d] => { results := [.lit (.bool true)], args := [d] }
  | _ => none }
def convolutionLinesRow : OpenClaim := { program := "ytbkimphcmmmaiaa", sum := "1b9a84a0f0cf0a1d1dbd1acece3d2afdd488c4ecbe1042b68bf60d3e5a46166a", func := "netcalculus/netcalculuslaw07.ConvolutionLines", spec := "convolutionLines", unfollowed := true, recurses := true, apart := false }
def ConvolutionLinesSaid : Prop := convolutionLinesRow.holds Try.pinned (OpenSpec.ofChange convolutionLinesSpec)

/-- ITS FALSE NEIGHBOUR: 'it returns false'. Refute it at one input. -/
def convolutionLinesWrong : ChangeSpec := { name := "convolutionLines", fn := fun _ => fun
  | [d] => { results := [.lit (.bool false)], args := [d] }
  | _ => none }
def ConvolutionLinesWrongFalsely : Prop := convolutionLinesRow.holds Try.pinned (OpenSpec.ofChange convolutionLinesWrong)

/-- 'netcalculuslaw07.ConvolutionConcave': WHATEVER THE INPUT: true; the input reads as it did. -/
def convolutionConcaveSpec : ChangeSpec := { name := "convolutionConcave", fn := fun _ => fun
  | [d] => { results := [.lit (.bool true)], args := [d] }
  | _ => none }
def convolutionConcaveRow : OpenClaim := { program := "ytbkimphcmmmaiaa", sum := "1b9a84a0f0cf0a1d1dbd1acece3d2afdd488c4ecbe1042b68bf60d3e5a46166a", func := "netcalculus/netcalculuslaw07.ConvolutionConcave", spec := "convolutionConcave", unfollowed := true, recurses := true, apart := false }
def ConvolutionConcaveSaid : Prop := convolutionConcaveRow.holds Try.pinned (OpenSpec.ofChange convolutionConcaveSpec)

/-- ITS FALSE NEIGHBOUR: 'it returns false'. Refute it at one input. -/
def convolutionConcaveWrong : ChangeSpec := { name := "convolutionConcave", fn := fun _ => fun
  | [d] => { results := [.lit (.bool false)], args := [d] }
  | _ => none }
def ConvolutionConcaveWrongFalsely : Prop := convolutionConcaveRow.holds Try.pinned (OpenSpec.ofChange convolutionConcaveWrong)

/-- 'netcalculuslaw07.ConvolutionProves': WHATEVER THE INPUT: true; the input reads as it did. -/
def convolutionProvesSpec : ChangeSpec := { name := "convolutionProves", fn := fun _ => fun
  | [d1, d2] => { results := [.lit (.bool true)], args := [d1, d2] }
  | _ => none }
def convolutionProvesRow : OpenClaim := { program := "ytbkimphcmmmaiaa", sum := "1b9a84a0f0cf0a1d1dbd1acece3d2afdd488c4ecbe1042b68bf60d3e5a46166a", func := "netcalculus/netcalculuslaw07.ConvolutionProves", spec := "convolutionProves", unfollowed := true, recurses := true, apart := false }
def ConvolutionProvesSaid : Prop := convolutionProvesRow.holds Try.pinned (OpenSpec.ofChange convolutionProvesSpec)

/-- ITS FALSE NEIGHBOUR: 'it returns false'. Refute it at one input. -/
def convolutionProvesWrong : ChangeSpec := { name := "convolutionProves", fn := fun _ => fun
  | [d1, d2] => { results := [.lit (.bool false)], args := [d1, d2] }
  | _ => none }
def ConvolutionProvesWrongFalsely : Prop := convolutionProvesRow.holds Try.pinned (OpenSpec.ofChange convolutionProvesWrong)

/-- 'netcalculuslaw07.ConvolutionMonotone': WHATEVER THE INPUT: true; the input reads as it did. -/
def convolutionMonotoneSpec : ChangeSpec := { name := "convolutionMonotone", fn := fun _ => fun
  | [d] => { results := [.lit (.bool true)], args := [d] }
  | _ => none }
def convolutionMonotoneRow : OpenClaim := { program := "ytbkimphcmmmaiaa", sum := "1b9a84a0f0cf0a1d1dbd1acece3d2afdd488c4ecbe1042b68bf60d3e5a46166a", func := "netcalculus/netcalculuslaw07.ConvolutionMonotone", spec := "convolutionMonotone", unfollowed := true, recurses := true, apart := false }
def ConvolutionMonotoneSaid : Prop := convolutionMonotoneRow.holds Try.pinned (OpenSpec.ofChange convolutionMonotoneSpec)

/-- ITS FALSE NEIGHBOUR: 'it returns false'. Refute it at one input. -/
def convolutionMonotoneWrong : ChangeSpec := { name := "convolutionMonotone", fn := fun _ => fun
  | [d] => { results := [.lit (.bool false)], args := [d] }
  | _ => none }
def ConvolutionMonotoneWrongFalsely : Prop := convolutionMonotoneRow.holds Try.pinned (OpenSpec.ofChange convolutionMonotoneWrong)

/-- 'netcalculuslaw08.DeconvolutionAdjoint': WHATEVER THE INPUT: true; the input reads as it did. -/
def deconvolutionAdjointSpec : ChangeSpec := { name := "deconvolutionAdjoint", fn := fun _ => fun
  | [d] => { results := [.lit (.bool true)], args := [d] }
  | _ => none }
def deconvolutionAdjointRow : OpenClaim := { program := "ytbkimphcmmmaiaa", sum := "1b9a84a0f0cf0a1d1dbd1acece3d2afdd488c4ecbe1042b68bf60d3e5a46166a", func := "netcalculus/netcalculuslaw08.DeconvolutionAdjoint", spec := "deconvolutionAdjoint", unfollowed := true, recurses := true, apart := false }
def DeconvolutionAdjointSaid : Prop := deconvolutionAdjointRow.holds Try.pinned (OpenSpec.ofChange deconvolutionAdjointSpec)

/-- ITS FALSE NEIGHBOUR: 'it returns false'. Refute it at one input. -/
def deconvolutionAdjointWrong : ChangeSpec := { name := "deconvolutionAdjoint", fn := fun _ => fun
  | [d] => { results := [.lit (.bool false)], args := [d] }
  | _ => none }
def DeconvolutionAdjointWrongFalsely : Prop := deconvolutionAdjointRow.holds Try.pinned (OpenSpec.ofChange deconvolutionAdjointWrong)

/-- 'netcalculuslaw07.ConvolutionAnswers': WHATEVER THE INPUT: true; the input reads as it did. -/
def convolutionAnswersSpec : ChangeSpec := { name := "convolutionAnswers", fn := fun _ => fun
  | [d1, d2, d3] => { results := [.lit (.bool true)], args := [d1, d2, d3] }
  | _ => none }
def convolutionAnswersRow : OpenClaim := { program := "ytbkimphcmmmaiaa", sum := "1b9a84a0f0cf0a1d1dbd1acece3d2afdd488c4ecbe1042b68bf60d3e5a46166a", func := "netcalculus/netcalculuslaw07.ConvolutionAnswers", spec := "convolutionAnswers", unfollowed := true, recurses := true, apart := false }
def ConvolutionAnswersSaid : Prop := convolutionAnswersRow.holds Try.pinned (OpenSpec.ofChange convolutionAnswersSpec)

/-- ITS FALSE NEIGHBOUR: 'it returns false'. Refute it at one input. -/
def convolutionAnswersWrong : ChangeSpec := { name := "convolutionAnswers", fn := fun _ => fun
  | [d1, d2, d3] => { results := [.lit (.bool false)], args := [d1, d2, d3] }
  | _ => none }
def ConvolutionAnswersWrongFalsely : Prop := convolutionAnswersRow.holds Try.pinned (OpenSpec.ofChange convolutionAnswersWrong)

/-- 'netcalculuslaw10.DeviationOnce': WHATEVER THE INPUT: true; the input reads as it did. -/
def deviationOnceSpec : ChangeSpec := { name := "deviationOnce", fn := fun _ => fun
  | [d] => { results := [.lit (.bool true)], args := [d] }
  | _ => none }
def deviationOnceRow : OpenClaim := { program := "ytbkimphcmmmaiaa", sum := "1b9a84a0f0cf0a1d1dbd1acece3d2afdd488c4ecbe1042b68bf60d3e5a46166a", func := "netcalculus/netcalculuslaw10.DeviationOnce", spec := "deviationOnce", unfollowed := true, recurses := true, apart := false }
def DeviationOnceSaid : Prop := deviationOnceRow.holds Try.pinned (OpenSpec.ofChange deviationOnceSpec)

/-- ITS FALSE NEIGHBOUR: 'it returns false'. Refute it at one input. -/
def deviationOnceWrong : ChangeSpec := { name := "deviationOnce", fn := fun _ => fun
  | [d] => { results := [.lit (.bool false)], args := [d] }
  | _ => none }
def DeviationOnceWrongFalsely : Prop := deviationOnceRow.holds Try.pinned (OpenSpec.ofChange deviationOnceWrong)

/-- 'netcalculuslaw12.ServiceChains': WHATEVER THE INPUT: true; the input reads as it did. -/
def serviceChainsSpec : ChangeSpec := { name := "serviceChains", fn := fun _ => fun
  | [d] => { results := [.lit (.bool true)], args := [d] }
  | _ => none }
def serviceChainsRow : OpenClaim := { program := "ytbkimphcmmmaiaa", sum := "1b9a84a0f0cf0a1d1dbd1acece3d2afdd488c4ecbe1042b68bf60d3e5a46166a", func := "netcalculus/netcalculuslaw12.ServiceChains", spec := "serviceChains", unfollowed := true, recurses := true, apart := false }
def ServiceChainsSaid : Prop := serviceChainsRow.holds Try.pinned (OpenSpec.ofChange serviceChainsSpec)

/-- ITS FALSE NEIGHBOUR: 'it returns false'. Refute it at one input. -/
def serviceChainsWrong : ChangeSpec := { name := "serviceChains", fn := fun _ => fun
  | [d] => { results := [.lit (.bool false)], args := [d] }
  | _ => none }
def ServiceChainsWrongFalsely : Prop := serviceChainsRow.holds Try.pinned (OpenSpec.ofChange serviceChainsWrong)

/- THE SECOND FORM. 'bulk': how many values and letters a reading holds, each counted each time it is reached (what is shared counts as often as it is met; a slice's spare places count too). A statement '..UptoSaid' is the law's where the arguments, and the package variables that the reading takes, are together of bulk at most 1048576: NARROWER than '..Said'. Prove '..Said' where nothing that the law and all that it calls make is longer than what came in: it says more and counts as full. Else prove '..UptoSaid'. A law counts once. -/
mutual
def uptoBulk {H : Type} : DataW H → Nat
  | .lit (.string bytes) => bytes.length + 1
  | .lit _ => 1
  | .nil => 1
  | .ptr d => uptoBulk d + 1
  | .slice elems spare => uptoBulkAll elems + uptoBulkAll spare + 1
  | .agg parts => uptoBulkAll parts + 1
  | .iface _ d => uptoBulk d + 1
  | .map entries => uptoBulkEntries entries + 1
  | .held _ => 1
def uptoBulkAll {H : Type} : List (DataW H) → Nat
  | [] => 0
  | d :: r => uptoBulk d + uptoBulkAll r
def uptoBulkEntries {H : Type} : List (Lit × DataW H) → Nat
  | [] => 0
  | x :: r => uptoBulkEntry x + uptoBulkEntries r
def uptoBulkEntry {H : Type} : Lit × DataW H → Nat
  | (.string bytes, d) => bytes.length + uptoBulk d + 1
  | (_, d) => uptoBulk d + 1
 end
def uptoSmall : (H : Type) → List (DataW H) → Bool := fun _ ds => decide (uptoBulkAll ds ≤ 1048576)
def OpenSpec.upto (s : _root_.Go.ChangeSpec) : _root_.Go.OpenSpec := { _root_.Go.OpenSpec.ofChange s with cond := some uptoSmall }

/-- 'netcalculuslaw11.BucketAdds', WHERE WHAT IT READS IS OF BULK AT MOST 1048576: true; the input reads as it did. -/
def bucketAddsUptoRow : OpenClaim := { program := "ytbkimphcmmmaiaa", sum := "1b9a84a0f0cf0a1d1dbd1acece3d2afdd488c4ecbe1042b68bf60d3e5a46166a", func := "netcalculus/netcalculuslaw11.BucketAdds", spec := "bucketAdds", unfollowed := true, recurses := true, apart := false, narrowed := true }
def BucketAddsUptoSaid : Prop := bucketAddsUptoRow.holds Try.pinned (OpenSpec.upto bucketAddsSpec)

/-- 'netcalculuslaw08.DeconvolutionTwice', WHERE WHAT IT READS IS OF BULK AT MOST 1048576: true; the input reads as it did. -/
def deconvolutionTwiceUptoRow : OpenClaim := { program := "ytbkimphcmmmaiaa", sum := "1b9a84a0f0cf0a1d1dbd1acece3d2afdd488c4ecbe1042b68bf60d3e5a46166a", func := "netcalculus/netcalculuslaw08.DeconvolutionTwice", spec := "deconvolutionTwice", unfollowed := true, recurses := true, apart := false, narrowed := true }
def DeconvolutionTwiceUptoSaid : Prop := deconvolutionTwiceUptoRow.holds Try.pinned (OpenSpec.upto deconvolutionTwiceSpec)

/-- 'netcalculuslaw07.ConvolutionAlgebra', WHERE WHAT IT READS IS OF BULK AT MOST 1048576: true; the input reads as it did. -/
def convolutionAlgebraUptoRow : OpenClaim := { program := "ytbkimphcmmmaiaa", sum := "1b9a84a0f0cf0a1d1dbd1acece3d2afdd488c4ecbe1042b68bf60d3e5a46166a", func := "netcalculus/netcalculuslaw07.ConvolutionAlgebra", spec := "convolutionAlgebra", unfollowed := true, recurses := true, apart := false, narrowed := true }
def ConvolutionAlgebraUptoSaid : Prop := convolutionAlgebraUptoRow.holds Try.pinned (OpenSpec.upto convolutionAlgebraSpec)

/-- 'netcalculuslaw07.ConvolutionSpreads', WHERE WHAT IT READS IS OF BULK AT MOST 1048576: true; the input reads as it did. -/
def convolutionSpreadsUptoRow : OpenClaim := { program := "ytbkimphcmmmaiaa", sum := "1b9a84a0f0cf0a1d1dbd1acece3d2afdd488c4ecbe1042b68bf60d3e5a46166a", func := "netcalculus/netcalculuslaw07.ConvolutionSpreads", spec := "convolutionSpreads", unfollowed := true, recurses := true, apart := false, narrowed := true }
def ConvolutionSpreadsUptoSaid : Prop := convolutionSpreadsUptoRow.holds Try.pinned (OpenSpec.upto convolutionSpreadsSpec)

/-- 'netcalculuslaw07.ConvolutionLines', WHERE WHAT IT READS IS OF BULK AT MOST 1048576: true; the input reads as it did. -/
def convolutionLinesUptoRow : OpenClaim := { program := "ytbkimphcmmmaiaa", sum := "1b9a84a0f0cf0a1d1dbd1acece3d2afdd488c4ecbe1042b68bf60d3e5a46166a", func := "netcalculus/netcalculuslaw07.ConvolutionLines", spec := "convolutionLines", unfollowed := true, recurses := true, apart := false, narrowed := true }
def ConvolutionLinesUptoSaid : Prop := convolutionLinesUptoRow.holds Try.pinned (OpenSpec.upto convolutionLinesSpec)

/-- 'netcalculuslaw07.ConvolutionConcave', WHERE WHAT IT READS IS OF BULK AT MOST 1048576: true; the input reads as it did. -/
def convolutionConcaveUptoRow : OpenClaim := { program := "ytbkimphcmmmaiaa", sum := "1b9a84a0f0cf0a1d1dbd1acece3d2afdd488c4ecbe1042b68bf60d3e5a46166a", func := "netcalculus/netcalculuslaw07.ConvolutionConcave", spec := "convolutionConcave", unfollowed := true, recurses := true, apart := false, narrowed := true }
def ConvolutionConcaveUptoSaid : Prop := convolutionConcaveUptoRow.holds Try.pinned (OpenSpec.upto convolutionConcaveSpec)

/-- 'netcalculuslaw07.ConvolutionProves', WHERE WHAT IT READS IS OF BULK AT MOST 1048576: true; the input reads as it did. -/
def convolutionProvesUptoRow : OpenClaim := { program := "ytbkimphcmmmaiaa", sum := "1b9a84a0f0cf0a1d1dbd1acece3d2afdd488c4ecbe1042b68bf60d3e5a46166a", func := "netcalculus/netcalculuslaw07.ConvolutionProves", spec := "convolutionProves", unfollowed := true, recurses := true, apart := false, narrowed := true }
def ConvolutionProvesUptoSaid : Prop := convolutionProvesUptoRow.holds Try.pinned (OpenSpec.upto convolutionProvesSpec)

/-- 'netcalculuslaw07.ConvolutionMonotone', WHERE WHAT IT READS IS OF BULK AT MOST 1048576: true; the input reads as it did. -/
def convolutionMonotoneUptoRow : OpenClaim := { program := "ytbkimphcmmmaiaa", sum := "1b9a84a0f0cf0a1d1dbd1acece3d2afdd488c4ecbe1042b68bf60d3e5a46166a", func := "netcalculus/netcalculuslaw07.ConvolutionMonotone", spec := "convolutionMonotone", unfollowed := true, recurses := true, apart := false, narrowed := true }
def ConvolutionMonotoneUptoSaid : Prop := convolutionMonotoneUptoRow.holds Try.pinned (OpenSpec.upto convolutionMonotoneSpec)

/-- 'netcalculuslaw08.DeconvolutionAdjoint', WHERE WHAT IT READS IS OF BULK AT MOST 1048576: true; the input reads as it did. -/
def deconvolutionAdjointUptoRow : OpenClaim := { program := "ytbkimphcmmmaiaa", sum := "1b9a84a0f0cf0a1d1dbd1acece3d2afdd488c4ecbe1042b68bf60d3e5a46166a", func := "netcalculus/netcalculuslaw08.DeconvolutionAdjoint", spec := "deconvolutionAdjoint", unfollowed := true, recurses := true, apart := false, narrowed := true }
def DeconvolutionAdjointUptoSaid : Prop := deconvolutionAdjointUptoRow.holds Try.pinned (OpenSpec.upto deconvolutionAdjointSpec)

/-- 'netcalculuslaw07.ConvolutionAnswers', WHERE WHAT IT READS IS OF BULK AT MOST 1048576: true; the input reads as it did. -/
def convolutionAnswersUptoRow : OpenClaim := { program := "ytbkimphcmmmaiaa", sum := "1b9a84a0f0cf0a1d1dbd1acece3d2afdd488c4ecbe1042b68bf60d3e5a46166a", func := "netcalculus/netcalculuslaw07.ConvolutionAnswers", spec := "convolutionAnswers", unfollowed := true, recurses := true, apart := false, narrowed := true }
def ConvolutionAnswersUptoSaid : Prop := convolutionAnswersUptoRow.holds Try.pinned (OpenSpec.upto convolutionAnswersSpec)

/-- 'netcalculuslaw10.DeviationOnce', WHERE WHAT IT READS IS OF BULK AT MOST 1048576: true; the input reads as it did. -/
def deviationOnceUptoRow : OpenClaim := { program := "ytbkimphcmmmaiaa", sum := "1b9a84a0f0cf0a1d1dbd1acece3d2afdd488c4ecbe1042b68bf60d3e5a46166a", func := "netcalculus/netcalculuslaw10.DeviationOnce", spec := "deviationOnce", unfollowed := true, recurses := true, apart := false, narrowed := true }
def DeviationOnceUptoSaid : Prop := deviationOnceUptoRow.holds Try.pinned (OpenSpec.upto deviationOnceSpec)

/-- 'netcalculuslaw12.ServiceChains', WHERE WHAT IT READS IS OF BULK AT MOST 1048576: true; the input reads as it did. -/
def serviceChainsUptoRow : OpenClaim := { program := "ytbkimphcmmmaiaa", sum := "1b9a84a0f0cf0a1d1dbd1acece3d2afdd488c4ecbe1042b68bf60d3e5a46166a", func := "netcalculus/netcalculuslaw12.ServiceChains", spec := "serviceChains", unfollowed := true, recurses := true, apart := false, narrowed := true }
def ServiceChainsUptoSaid : Prop := serviceChainsUptoRow.holds Try.pinned (OpenSpec.upto serviceChainsSpec)

end Rows
end Go.Proofs.Ytbkimphcmmmaiaa
