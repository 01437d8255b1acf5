/-
  No cell of these rows narrows 'for every input' (looked for: loops, veiled, ifaces, maps, wideKeys, modest, calm, conditions, laid).
  DERIVED. THE GIVEN ROWS OF THIS SEAT. 12 by the template 'for every input the law returns true; each argument reads behind the call as it read before'; 0 by the template 'total and deterministic' (their statements: YteddogbhofhlaaaTotals.lean).
  GIVEN WITH THE SEED: the statements are not yours to turn. If you find one false, say at which input.
  Laid BY PROGRAM, IN A SANDBOX (cutbox-rows.mjs): the forced cells as the released guide's own fill.sh prints them over the translation d30ddd591d434db9… (all of the seat's roots in one cut). By AI agents, Wed Nov 11 2026. No macro, syntax, notation, axiom, sorry.
-/
import Derived.Test.YteddogbhofhlaaaChecked
import GoSem.Claim
import GoSem.ClaimJoined
import GoSem.ClaimMapViews
import Derived.JoinedTies
import Derived.KernelRfl
namespace Go.Proofs.Yteddogbhofhlaaa
/- THE CELL 'sum', in the pinned program and in every row, IS THE sha256 OF THE DUMP (.gsa) THAT YteddogbhofhlaaaProg.lean LOADS. Nothing in Lean hashes anything: it is a label: what it is worth is what the hold of that sum in a sandbox is worth. -/
noncomputable def Try.pinned : Pinned := { name := "yteddogbhofhlaaa", sum := "d30ddd591d434db9c46773c3bc1ad955f76a0f40ef811698a6a243b745d5eb43", checked := Try.checked }
namespace Rows
def none {H : Type} : Left H := { results := [], args := [] }

/-- 'netcalculuslaw02.CurveNormal': WHATEVER THE INPUT: true; the input reads as it did. -/
def curveNormalSpec : ChangeSpec := { name := "curveNormal", fn := fun _ => fun
  | [d1, d2] => { results := [.lit (.bool true)], args := [d1, d2] }
  | _ => none }
def curveNormalRow : OpenClaim := { program := "yteddogbhofhlaaa", sum := "d30ddd591d434db9c46773c3bc1ad955f76a0f40ef811698a6a243b745d5eb43", func := "netcalculus/netcalculuslaw02.CurveNormal", spec := "curveNormal", unfollowed := true, recurses := true, apart := false }
def CurveNormalSaid : Prop := curveNormalRow.holds Try.pinned (OpenSpec.ofChange curveNormalSpec)

/-- ITS FALSE NEIGHBOUR: 'it returns false'. Refute it at one input. -/
def curveNormalWrong : ChangeSpec := { name := "curveNormal", fn := fun _ => fun
  | [d1, d2] => { results := [.lit (.bool false)], args := [d1, d2] }
  | _ => none }
def CurveNormalWrongFalsely : Prop := curveNormalRow.holds Try.pinned (OpenSpec.ofChange curveNormalWrong)

/-- 'netcalculuslaw02.CurveTail': WHATEVER THE INPUT: true; the input reads as it did. -/
def curveTailSpec : ChangeSpec := { name := "curveTail", fn := fun _ => fun
  | [d1, d2] => { results := [.lit (.bool true)], args := [d1, d2] }
  | _ => none }
def curveTailRow : OpenClaim := { program := "yteddogbhofhlaaa", sum := "d30ddd591d434db9c46773c3bc1ad955f76a0f40ef811698a6a243b745d5eb43", func := "netcalculus/netcalculuslaw02.CurveTail", spec := "curveTail", unfollowed := true, recurses := true, apart := false }
def CurveTailSaid : Prop := curveTailRow.holds Try.pinned (OpenSpec.ofChange curveTailSpec)

/-- ITS FALSE NEIGHBOUR: 'it returns false'. Refute it at one input. -/
def curveTailWrong : ChangeSpec := { name := "curveTail", fn := fun _ => fun
  | [d1, d2] => { results := [.lit (.bool false)], args := [d1, d2] }
  | _ => none }
def CurveTailWrongFalsely : Prop := curveTailRow.holds Try.pinned (OpenSpec.ofChange curveTailWrong)

/-- 'netcalculuslaw04.OrderAnswers': WHATEVER THE INPUT: true; the input reads as it did. -/
def orderAnswersSpec : ChangeSpec := { name := "orderAnswers", fn := fun _ => fun
  | [d1, d2, d3] => { results := [.lit (.bool true)], args := [d1, d2, d3] }
  | _ => none }
def orderAnswersRow : OpenClaim := { program := "yteddogbhofhlaaa", sum := "d30ddd591d434db9c46773c3bc1ad955f76a0f40ef811698a6a243b745d5eb43", func := "netcalculus/netcalculuslaw04.OrderAnswers", spec := "orderAnswers", apart := false }
def OrderAnswersSaid : Prop := orderAnswersRow.holds Try.pinned (OpenSpec.ofChange orderAnswersSpec)

/-- ITS FALSE NEIGHBOUR: 'it returns false'. Refute it at one input. -/
def orderAnswersWrong : ChangeSpec := { name := "orderAnswers", fn := fun _ => fun
  | [d1, d2, d3] => { results := [.lit (.bool false)], args := [d1, d2, d3] }
  | _ => none }
def OrderAnswersWrongFalsely : Prop := orderAnswersRow.holds Try.pinned (OpenSpec.ofChange orderAnswersWrong)

/-- 'netcalculuslaw04.OrderDual': WHATEVER THE INPUT: true; the input reads as it did. -/
def orderDualSpec : ChangeSpec := { name := "orderDual", fn := fun _ => fun
  | [d] => { results := [.lit (.bool true)], args := [d] }
  | _ => none }
def orderDualRow : OpenClaim := { program := "yteddogbhofhlaaa", sum := "d30ddd591d434db9c46773c3bc1ad955f76a0f40ef811698a6a243b745d5eb43", func := "netcalculus/netcalculuslaw04.OrderDual", spec := "orderDual", apart := false }
def OrderDualSaid : Prop := orderDualRow.holds Try.pinned (OpenSpec.ofChange orderDualSpec)

/-- ITS FALSE NEIGHBOUR: 'it returns false'. Refute it at one input. -/
def orderDualWrong : ChangeSpec := { name := "orderDual", fn := fun _ => fun
  | [d] => { results := [.lit (.bool false)], args := [d] }
  | _ => none }
def OrderDualWrongFalsely : Prop := orderDualRow.holds Try.pinned (OpenSpec.ofChange orderDualWrong)

/-- 'netcalculuslaw02.CurveEqual': WHATEVER THE INPUT: true; the input reads as it did. -/
def curveEqualSpec : ChangeSpec := { name := "curveEqual", fn := fun _ => fun
  | [d] => { results := [.lit (.bool true)], args := [d] }
  | _ => none }
def curveEqualRow : OpenClaim := { program := "yteddogbhofhlaaa", sum := "d30ddd591d434db9c46773c3bc1ad955f76a0f40ef811698a6a243b745d5eb43", func := "netcalculus/netcalculuslaw02.CurveEqual", spec := "curveEqual", unfollowed := true, recurses := true, apart := false }
def CurveEqualSaid : Prop := curveEqualRow.holds Try.pinned (OpenSpec.ofChange curveEqualSpec)

/-- ITS FALSE NEIGHBOUR: 'it returns false'. Refute it at one input. -/
def curveEqualWrong : ChangeSpec := { name := "curveEqual", fn := fun _ => fun
  | [d] => { results := [.lit (.bool false)], args := [d] }
  | _ => none }
def CurveEqualWrongFalsely : Prop := curveEqualRow.holds Try.pinned (OpenSpec.ofChange curveEqualWrong)

/-- 'netcalculuslaw04.OrderFirst': WHATEVER THE INPUT: true; the input reads as it did. -/
def orderFirstSpec : ChangeSpec := { name := "orderFirst", fn := fun _ => fun
  | [d1, d2] => { results := [.lit (.bool true)], args := [d1, d2] }
  | _ => none }
def orderFirstRow : OpenClaim := { program := "yteddogbhofhlaaa", sum := "d30ddd591d434db9c46773c3bc1ad955f76a0f40ef811698a6a243b745d5eb43", func := "netcalculus/netcalculuslaw04.OrderFirst", spec := "orderFirst", apart := false }
def OrderFirstSaid : Prop := orderFirstRow.holds Try.pinned (OpenSpec.ofChange orderFirstSpec)

/-- ITS FALSE NEIGHBOUR: 'it returns false'. Refute it at one input. -/
def orderFirstWrong : ChangeSpec := { name := "orderFirst", fn := fun _ => fun
  | [d1, d2] => { results := [.lit (.bool false)], args := [d1, d2] }
  | _ => none }
def OrderFirstWrongFalsely : Prop := orderFirstRow.holds Try.pinned (OpenSpec.ofChange orderFirstWrong)

/-- 'netcalculuslaw04.OrderLast': WHATEVER THE INPUT: true; the input reads as it did. -/
def orderLastSpec : ChangeSpec := { name := "orderLast", fn := fun _ => fun
  | [d] => { results := [.lit (.bool true)], args := [d] }
  | _ => none }
def orderLastRow : OpenClaim := { program := "yteddogbhofhlaaa", sum := "d30ddd591d434db9c46773c3bc1ad955f76a0f40ef811698a6a243b745d5eb43", func := "netcalculus/netcalculuslaw04.OrderLast", spec := "orderLast", apart := false }
def OrderLastSaid : Prop := orderLastRow.holds Try.pinned (OpenSpec.ofChange orderLastSpec)

/-- ITS FALSE NEIGHBOUR: 'it returns false'. Refute it at one input. -/
def orderLastWrong : ChangeSpec := { name := "orderLast", fn := fun _ => fun
  | [d] => { results := [.lit (.bool false)], args := [d] }
  | _ => none }
def OrderLastWrongFalsely : Prop := orderLastRow.holds Try.pinned (OpenSpec.ofChange orderLastWrong)

/-- 'netcalculuslaw02.CurveGrows': WHATEVER THE INPUT: true; the input reads as it did. -/
def curveGrowsSpec : ChangeSpec := { name := "curveGrows", fn := fun _ => fun
  | [d1, d2] => { results := [.lit (.bool true)], args := [d1, d2] }
  | _ => none }
def curveGrowsRow : OpenClaim := { program := "yteddogbhofhlaaa", sum := "d30ddd591d434db9c46773c3bc1ad955f76a0f40ef811698a6a243b745d5eb43", func := "netcalculus/netcalculuslaw02.CurveGrows", spec := "curveGrows", unfollowed := true, recurses := true, apart := false }
def CurveGrowsSaid : Prop := curveGrowsRow.holds Try.pinned (OpenSpec.ofChange curveGrowsSpec)

/-- ITS FALSE NEIGHBOUR: 'it returns false'. Refute it at one input. -/
def curveGrowsWrong : ChangeSpec := { name := "curveGrows", fn := fun _ => fun
  | [d1, d2] => { results := [.lit (.bool false)], args := [d1, d2] }
  | _ => none }
def CurveGrowsWrongFalsely : Prop := curveGrowsRow.holds Try.pinned (OpenSpec.ofChange curveGrowsWrong)

/-- 'netcalculuslaw04.OrderSlopes': WHATEVER THE INPUT: true; the input reads as it did. -/
def orderSlopesSpec : ChangeSpec := { name := "orderSlopes", fn := fun _ => fun
  | [d] => { results := [.lit (.bool true)], args := [d] }
  | _ => none }
def orderSlopesRow : OpenClaim := { program := "yteddogbhofhlaaa", sum := "d30ddd591d434db9c46773c3bc1ad955f76a0f40ef811698a6a243b745d5eb43", func := "netcalculus/netcalculuslaw04.OrderSlopes", spec := "orderSlopes", apart := false }
def OrderSlopesSaid : Prop := orderSlopesRow.holds Try.pinned (OpenSpec.ofChange orderSlopesSpec)

/-- ITS FALSE NEIGHBOUR: 'it returns false'. Refute it at one input. -/
def orderSlopesWrong : ChangeSpec := { name := "orderSlopes", fn := fun _ => fun
  | [d] => { results := [.lit (.bool false)], args := [d] }
  | _ => none }
def OrderSlopesWrongFalsely : Prop := orderSlopesRow.holds Try.pinned (OpenSpec.ofChange orderSlopesWrong)

/-- 'netcalculuslaw02.CurveAnswers': WHATEVER THE INPUT: true; the input reads as it did. -/
def curveAnswersSpec : ChangeSpec := { name := "curveAnswers", fn := fun _ => fun
  | [d1, d2, d3, d4] => { results := [.lit (.bool true)], args := [d1, d2, d3, d4] }
  | _ => none }
def curveAnswersRow : OpenClaim := { program := "yteddogbhofhlaaa", sum := "d30ddd591d434db9c46773c3bc1ad955f76a0f40ef811698a6a243b745d5eb43", func := "netcalculus/netcalculuslaw02.CurveAnswers", spec := "curveAnswers", unfollowed := true, recurses := true, apart := false }
def CurveAnswersSaid : Prop := curveAnswersRow.holds Try.pinned (OpenSpec.ofChange curveAnswersSpec)

/-- ITS FALSE NEIGHBOUR: 'it returns false'. Refute it at one input. -/
def curveAnswersWrong : ChangeSpec := { name := "curveAnswers", fn := fun _ => fun
  | [d1, d2, d3, d4] => { results := [.lit (.bool false)], args := [d1, d2, d3, d4] }
  | _ => none }
def CurveAnswersWrongFalsely : Prop := curveAnswersRow.holds Try.pinned (OpenSpec.ofChange curveAnswersWrong)

/-- 'netcalculuslaw04.OrderIsOrder': WHATEVER THE INPUT: true; the input reads as it did. -/
def orderIsOrderSpec : ChangeSpec := { name := "orderIsOrder", fn := fun _ => fun
  | [d] => { results := [.lit (.bool true)], args := [d] }
  | _ => none }
def orderIsOrderRow : OpenClaim := { program := "yteddogbhofhlaaa", sum := "d30ddd591d434db9c46773c3bc1ad955f76a0f40ef811698a6a243b745d5eb43", func := "netcalculus/netcalculuslaw04.OrderIsOrder", spec := "orderIsOrder", unfollowed := true, recurses := true, apart := false }
def OrderIsOrderSaid : Prop := orderIsOrderRow.holds Try.pinned (OpenSpec.ofChange orderIsOrderSpec)

/-- ITS FALSE NEIGHBOUR: 'it returns false'. Refute it at one input. -/
def orderIsOrderWrong : ChangeSpec := { name := "orderIsOrder", fn := fun _ => fun
  | [d] => { results := [.lit (.bool false)], args := [d] }
  | _ => none }
def OrderIsOrderWrongFalsely : Prop := orderIsOrderRow.holds Try.pinned (OpenSpec.ofChange orderIsOrderWrong)

/-- 'netcalculuslaw12.ServiceDelays': WHATEVER THE INPUT: true; the input reads as it did. -/
def serviceDelaysSpec : ChangeSpec := { name := "serviceDelays", fn := fun _ => fun
  | [d] => { results := [.lit (.bool true)], args := [d] }
  | _ => none }
def serviceDelaysRow : OpenClaim := { program := "yteddogbhofhlaaa", sum := "d30ddd591d434db9c46773c3bc1ad955f76a0f40ef811698a6a243b745d5eb43", func := "netcalculus/netcalculuslaw12.ServiceDelays", spec := "serviceDelays", unfollowed := true, recurses := true, apart := false }
def ServiceDelaysSaid : Prop := serviceDelaysRow.holds Try.pinned (OpenSpec.ofChange serviceDelaysSpec)

/-- ITS FALSE NEIGHBOUR: 'it returns false'. Refute it at one input. -/
def serviceDelaysWrong : ChangeSpec := { name := "serviceDelays", fn := fun _ => fun
  | [d] => { results := [.lit (.bool false)], args := [d] }
  | _ => none }
def ServiceDelaysWrongFalsely : Prop := serviceDelaysRow.holds Try.pinned (OpenSpec.ofChange serviceDelaysWrong)

/- THE SECOND FORM. 'bulk': how many values and letters a reading holds, each counted each time it is reached (what is shared counts as often as it is met; a slice's spare places count too). A statement '..UptoSaid' is the law's where the arguments, and the package variables that the reading takes, are together of bulk at most 1048576: NARROWER than '..Said'. Prove '..Said' where nothing that the law and all that it calls make is longer than what came in: it says more and counts as full. Else prove '..UptoSaid'. A law counts once. -/
mutual
def uptoBulk {H : Type} : DataW H → Nat
  | .lit (.string bytes) => bytes.length + 1
  | .lit _ => 1
  | .nil => 1
  | .ptr d => uptoBulk d + 1
  | .slice elems spare => uptoBulkAll elems + uptoBulkAll spare + 1
  | .agg parts => uptoBulkAll parts + 1
  | .iface _ d => uptoBulk d + 1
  | .map entries => uptoBulkEntries entries + 1
  | .held _ => 1
def uptoBulkAll {H : Type} : List (DataW H) → Nat
  | [] => 0
  | d :: r => uptoBulk d + uptoBulkAll r
def uptoBulkEntries {H : Type} : List (Lit × DataW H) → Nat
  | [] => 0
  | x :: r => uptoBulkEntry x + uptoBulkEntries r
def uptoBulkEntry {H : Type} : Lit × DataW H → Nat
  | (.string bytes, d) => bytes.length + uptoBulk d + 1
  | (_, d) => uptoBulk d + 1
 end
def uptoSmall : (H : Type) → List (DataW H) → Bool := fun _ ds => decide (uptoBulkAll ds ≤ 1048576)
def OpenSpec.upto (s : _root_.Go.ChangeSpec) : _root_.Go.OpenSpec := { _root_.Go.OpenSpec.ofChange s with cond := some uptoSmall }

/-- 'netcalculuslaw02.CurveNormal', WHERE WHAT IT READS IS OF BULK AT MOST 1048576: true; the input reads as it did. -/
def curveNormalUptoRow : OpenClaim := { program := "yteddogbhofhlaaa", sum := "d30ddd591d434db9c46773c3bc1ad955f76a0f40ef811698a6a243b745d5eb43", func := "netcalculus/netcalculuslaw02.CurveNormal", spec := "curveNormal", unfollowed := true, recurses := true, apart := false, narrowed := true }
def CurveNormalUptoSaid : Prop := curveNormalUptoRow.holds Try.pinned (OpenSpec.upto curveNormalSpec)

/-- 'netcalculuslaw02.CurveTail', WHERE WHAT IT READS IS OF BULK AT MOST 1048576: true; the input reads as it did. -/
def curveTailUptoRow : OpenClaim := { program := "yteddogbhofhlaaa", sum := "d30ddd591d434db9c46773c3bc1ad955f76a0f40ef811698a6a243b745d5eb43", func := "netcalculus/netcalculuslaw02.CurveTail", spec := "curveTail", unfollowed := true, recurses := true, apart := false, narrowed := true }
def CurveTailUptoSaid : Prop := curveTailUptoRow.holds Try.pinned (OpenSpec.upto curveTailSpec)

/-- 'netcalculuslaw04.OrderAnswers', WHERE WHAT IT READS IS OF BULK AT MOST 1048576: true; the input reads as it did. -/
def orderAnswersUptoRow : OpenClaim := { program := "yteddogbhofhlaaa", sum := "d30ddd591d434db9c46773c3bc1ad955f76a0f40ef811698a6a243b745d5eb43", func := "netcalculus/netcalculuslaw04.OrderAnswers", spec := "orderAnswers", apart := false, narrowed := true }
def OrderAnswersUptoSaid : Prop := orderAnswersUptoRow.holds Try.pinned (OpenSpec.upto orderAnswersSpec)

/-- 'netcalculuslaw04.OrderDual', WHERE WHAT IT READS IS OF BULK AT MOST 1048576: true; the input reads as it did. -/
def orderDualUptoRow : OpenClaim := { program := "yteddogbhofhlaaa", sum := "d30ddd591d434db9c46773c3bc1ad955f76a0f40ef811698a6a243b745d5eb43", func := "netcalculus/netcalculuslaw04.OrderDual", spec := "orderDual", apart := false, narrowed := true }
def OrderDualUptoSaid : Prop := orderDualUptoRow.holds Try.pinned (OpenSpec.upto orderDualSpec)

/-- 'netcalculuslaw02.CurveEqual', WHERE WHAT IT READS IS OF BULK AT MOST 1048576: true; the input reads as it did. -/
def curveEqualUptoRow : OpenClaim := { program := "yteddogbhofhlaaa", sum := "d30ddd591d434db9c46773c3bc1ad955f76a0f40ef811698a6a243b745d5eb43", func := "netcalculus/netcalculuslaw02.CurveEqual", spec := "curveEqual", unfollowed := true, recurses := true, apart := false, narrowed := true }
def CurveEqualUptoSaid : Prop := curveEqualUptoRow.holds Try.pinned (OpenSpec.upto curveEqualSpec)

/-- 'netcalculuslaw04.OrderFirst', WHERE WHAT IT READS IS OF BULK AT MOST 1048576: true; the input reads as it did. -/
def orderFirstUptoRow : OpenClaim := { program := "yteddogbhofhlaaa", sum := "d30ddd591d434db9c46773c3bc1ad955f76a0f40ef811698a6a243b745d5eb43", func := "netcalculus/netcalculuslaw04.OrderFirst", spec := "orderFirst", apart := false, narrowed := true }
def OrderFirstUptoSaid : Prop := orderFirstUptoRow.holds Try.pinned (OpenSpec.upto orderFirstSpec)

/-- 'netcalculuslaw04.OrderLast', WHERE WHAT IT READS IS OF BULK AT MOST 1048576: true; the input reads as it did. -/
def orderLastUptoRow : OpenClaim := { program := "yteddogbhofhlaaa", sum := "d30ddd591d434db9c46773c3bc1ad955f76a0f40ef811698a6a243b745d5eb43", func := "netcalculus/netcalculuslaw04.OrderLast", spec := "orderLast", apart := false, narrowed := true }
def OrderLastUptoSaid : Prop := orderLastUptoRow.holds Try.pinned (OpenSpec.upto orderLastSpec)

/-- 'netcalculuslaw02.CurveGrows', WHERE WHAT IT READS IS OF BULK AT MOST 1048576: true; the input reads as it did. -/
def curveGrowsUptoRow : OpenClaim := { program := "yteddogbhofhlaaa", sum := "d30ddd591d434db9c46773c3bc1ad955f76a0f40ef811698a6a243b745d5eb43", func := "netcalculus/netcalculuslaw02.CurveGrows", spec := "curveGrows", unfollowed := true, recurses := true, apart := false, narrowed := true }
def CurveGrowsUptoSaid : Prop := curveGrowsUptoRow.holds Try.pinned (OpenSpec.upto curveGrowsSpec)

/-- 'netcalculuslaw04.OrderSlopes', WHERE WHAT IT READS IS OF BULK AT MOST 1048576: true; the input reads as it did. -/
def orderSlopesUptoRow : OpenClaim := { program := "yteddogbhofhlaaa", sum := "d30ddd591d434db9c46773c3bc1ad955f76a0f40ef811698a6a243b745d5eb43", func := "netcalculus/netcalculuslaw04.OrderSlopes", spec := "orderSlopes", apart := false, narrowed := true }
def OrderSlopesUptoSaid : Prop := orderSlopesUptoRow.holds Try.pinned (OpenSpec.upto orderSlopesSpec)

/-- 'netcalculuslaw02.CurveAnswers', WHERE WHAT IT READS IS OF BULK AT MOST 1048576: true; the input reads as it did. -/
def curveAnswersUptoRow : OpenClaim := { program := "yteddogbhofhlaaa", sum := "d30ddd591d434db9c46773c3bc1ad955f76a0f40ef811698a6a243b745d5eb43", func := "netcalculus/netcalculuslaw02.CurveAnswers", spec := "curveAnswers", unfollowed := true, recurses := true, apart := false, narrowed := true }
def CurveAnswersUptoSaid : Prop := curveAnswersUptoRow.holds Try.pinned (OpenSpec.upto curveAnswersSpec)

/-- 'netcalculuslaw04.OrderIsOrder', WHERE WHAT IT READS IS OF BULK AT MOST 1048576: true; the input reads as it did. -/
def orderIsOrderUptoRow : OpenClaim := { program := "yteddogbhofhlaaa", sum := "d30ddd591d434db9c46773c3bc1ad955f76a0f40ef811698a6a243b745d5eb43", func := "netcalculus/netcalculuslaw04.OrderIsOrder", spec := "orderIsOrder", unfollowed := true, recurses := true, apart := false, narrowed := true }
def OrderIsOrderUptoSaid : Prop := orderIsOrderUptoRow.holds Try.pinned (OpenSpec.upto orderIsOrderSpec)

/-- 'netcalculuslaw12.ServiceDelays', WHERE WHAT IT READS IS OF BULK AT MOST 1048576: true; the input reads as it did. -/
def serviceDelaysUptoRow : OpenClaim := { program := "yteddogbhofhlaaa", sum := "d30ddd591d434db9c46773c3bc1ad955f76a0f40ef811698a6a243b745d5eb43", func := "netcalculus/netcalculuslaw12.ServiceDelays", spec := "serviceDelays", unfollowed := true, recurses := true, apart := false, narrowed := true }
def ServiceDelaysUptoSaid : Prop := serviceDelaysUptoRow.holds Try.pinned (OpenSpec.upto serviceDelaysSpec)

end Rows
end Go.Proofs.Yteddogbhofhlaaa
