/-
  No cell of these rows narrows 'for every input' (looked for: loops, veiled, ifaces, maps, wideKeys, modest, calm, conditions, laid).
  DERIVED. THE GIVEN ROWS OF THIS SEAT. 4 by the template 'for every input the law returns true; each argument reads behind the call as it read before'; 0 by the template 'total and deterministic' (their statements: YtaejfleahamapaaGreatTotals.lean).
  GIVEN WITH THE SEED: the statements are not yours to turn. If you find one false, say at which input.
  Laid BY PROGRAM, IN A SANDBOX (cutbox-rows.mjs): the forced cells as the released guide's own fill.sh prints them over the translation 277494cdfeeb5604… (all of the seat's roots in one cut). By AI agents, Wed Nov 11 2026. No macro, syntax, notation, axiom, sorry.
-/
import Derived.Test.YtaejfleahamapaaGreatChecked
import GoSem.Claim
import GoSem.ClaimJoined
import GoSem.ClaimMapViews
import Derived.JoinedTies
import Derived.KernelRfl
namespace Go.Proofs.YtaejfleahamapaaGreat
/- THE CELL 'sum', in the pinned program and in every row, IS THE sha256 OF THE DUMP (.gsa) THAT YtaejfleahamapaaGreatProg.lean LOADS. Nothing in Lean hashes anything: it is a label: what it is worth is what the hold of that sum in a sandbox is worth. -/
noncomputable def Tryz.pinned : Pinned := { name := "ytaejfleahamapaagreat", sum := "277494cdfeeb56049094b784b36abd829f0e2c687623cc1e86f96bc32ab81771", checked := Tryz.checked }
namespace Rows
def none {H : Type} : Left H := { results := [], args := [] }

/-- 'netcalculustop.TopCertified': WHATEVER THE INPUT: true; the input reads as it did. -/
def topCertifiedSpec : ChangeSpec := { name := "topCertified", fn := fun _ => fun
  | [d] => { results := [.lit (.bool true)], args := [d] }
  | _ => none }
def topCertifiedRow : OpenClaim := { program := "ytaejfleahamapaagreat", sum := "277494cdfeeb56049094b784b36abd829f0e2c687623cc1e86f96bc32ab81771", func := "netcalculus/netcalculustop.TopCertified", spec := "topCertified", unfollowed := true, recurses := true, apart := false }
def TopCertifiedSaid : Prop := topCertifiedRow.holds Tryz.pinned (OpenSpec.ofChange topCertifiedSpec)

/-- ITS FALSE NEIGHBOUR: 'it returns false'. Refute it at one input. -/
def topCertifiedWrong : ChangeSpec := { name := "topCertified", fn := fun _ => fun
  | [d] => { results := [.lit (.bool false)], args := [d] }
  | _ => none }
def TopCertifiedWrongFalsely : Prop := topCertifiedRow.holds Tryz.pinned (OpenSpec.ofChange topCertifiedWrong)

/-- 'netcalculustop.TopPoliced': WHATEVER THE INPUT: true; the input reads as it did. -/
def topPolicedSpec : ChangeSpec := { name := "topPoliced", fn := fun _ => fun
  | [d] => { results := [.lit (.bool true)], args := [d] }
  | _ => none }
def topPolicedRow : OpenClaim := { program := "ytaejfleahamapaagreat", sum := "277494cdfeeb56049094b784b36abd829f0e2c687623cc1e86f96bc32ab81771", func := "netcalculus/netcalculustop.TopPoliced", spec := "topPoliced", unfollowed := true, recurses := true, apart := false }
def TopPolicedSaid : Prop := topPolicedRow.holds Tryz.pinned (OpenSpec.ofChange topPolicedSpec)

/-- ITS FALSE NEIGHBOUR: 'it returns false'. Refute it at one input. -/
def topPolicedWrong : ChangeSpec := { name := "topPoliced", fn := fun _ => fun
  | [d] => { results := [.lit (.bool false)], args := [d] }
  | _ => none }
def TopPolicedWrongFalsely : Prop := topPolicedRow.holds Tryz.pinned (OpenSpec.ofChange topPolicedWrong)

/-- 'netcalculustop.TopAttained': WHATEVER THE INPUT: true; the input reads as it did. -/
def topAttainedSpec : ChangeSpec := { name := "topAttained", fn := fun _ => fun
  | [d] => { results := [.lit (.bool true)], args := [d] }
  | _ => none }
def topAttainedRow : OpenClaim := { program := "ytaejfleahamapaagreat", sum := "277494cdfeeb56049094b784b36abd829f0e2c687623cc1e86f96bc32ab81771", func := "netcalculus/netcalculustop.TopAttained", spec := "topAttained", unfollowed := true, recurses := true, apart := false }
def TopAttainedSaid : Prop := topAttainedRow.holds Tryz.pinned (OpenSpec.ofChange topAttainedSpec)

/-- ITS FALSE NEIGHBOUR: 'it returns false'. Refute it at one input. -/
def topAttainedWrong : ChangeSpec := { name := "topAttained", fn := fun _ => fun
  | [d] => { results := [.lit (.bool false)], args := [d] }
  | _ => none }
def TopAttainedWrongFalsely : Prop := topAttainedRow.holds Tryz.pinned (OpenSpec.ofChange topAttainedWrong)

/-- 'netcalculustop.TopTandem': WHATEVER THE INPUT: true; the input reads as it did. -/
def topTandemSpec : ChangeSpec := { name := "topTandem", fn := fun _ => fun
  | [d] => { results := [.lit (.bool true)], args := [d] }
  | _ => none }
def topTandemRow : OpenClaim := { program := "ytaejfleahamapaagreat", sum := "277494cdfeeb56049094b784b36abd829f0e2c687623cc1e86f96bc32ab81771", func := "netcalculus/netcalculustop.TopTandem", spec := "topTandem", unfollowed := true, recurses := true, apart := false }
def TopTandemSaid : Prop := topTandemRow.holds Tryz.pinned (OpenSpec.ofChange topTandemSpec)

/-- ITS FALSE NEIGHBOUR: 'it returns false'. Refute it at one input. -/
def topTandemWrong : ChangeSpec := { name := "topTandem", fn := fun _ => fun
  | [d] => { results := [.lit (.bool false)], args := [d] }
  | _ => none }
def TopTandemWrongFalsely : Prop := topTandemRow.holds Tryz.pinned (OpenSpec.ofChange topTandemWrong)

/- THE SECOND FORM. 'bulk': how many values and letters a reading holds, each counted each time it is reached (what is shared counts as often as it is met; a slice's spare places count too). A statement '..UptoSaid' is the law's where the arguments, and the package variables that the reading takes, are together of bulk at most 1048576: NARROWER than '..Said'. Prove '..Said' where nothing that the law and all that it calls make is longer than what came in: it says more and counts as full. Else prove '..UptoSaid'. A law counts once. -/
mutual
def uptoBulk {H : Type} : DataW H → Nat
  | .lit (.string bytes) => bytes.length + 1
  | .lit _ => 1
  | .nil => 1
  | .ptr d => uptoBulk d + 1
  | .slice elems spare => uptoBulkAll elems + uptoBulkAll spare + 1
  | .agg parts => uptoBulkAll parts + 1
  | .iface _ d => uptoBulk d + 1
  | .map entries => uptoBulkEntries entries + 1
  | .held _ => 1
def uptoBulkAll {H : Type} : List (DataW H) → Nat
  | [] => 0
  | d :: r => uptoBulk d + uptoBulkAll r
def uptoBulkEntries {H : Type} : List (Lit × DataW H) → Nat
  | [] => 0
  | x :: r => uptoBulkEntry x + uptoBulkEntries r
def uptoBulkEntry {H : Type} : Lit × DataW H → Nat
  | (.string bytes, d) => bytes.length + uptoBulk d + 1
  | (_, d) => uptoBulk d + 1
 end
def uptoSmall : (H : Type) → List (DataW H) → Bool := fun _ ds => decide (uptoBulkAll ds ≤ 1048576)
def OpenSpec.upto (s : _root_.Go.ChangeSpec) : _root_.Go.OpenSpec := { _root_.Go.OpenSpec.ofChange s with cond := some uptoSmall }

/-- 'netcalculustop.TopCertified', WHERE WHAT IT READS IS OF BULK AT MOST 1048576: true; the input reads as it did. -/
def topCertifiedUptoRow : OpenClaim := { program := "ytaejfleahamapaagreat", sum := "277494cdfeeb56049094b784b36abd829f0e2c687623cc1e86f96bc32ab81771", func := "netcalculus/netcalculustop.TopCertified", spec := "topCertified", unfollowed := true, recurses := true, apart := false, narrowed := true }
def TopCertifiedUptoSaid : Prop := topCertifiedUptoRow.holds Tryz.pinned (OpenSpec.upto topCertifiedSpec)

/-- 'netcalculustop.TopPoliced', WHERE WHAT IT READS IS OF BULK AT MOST 1048576: true; the input reads as it did. -/
def topPolicedUptoRow : OpenClaim := { program := "ytaejfleahamapaagreat", sum := "277494cdfeeb56049094b784b36abd829f0e2c687623cc1e86f96bc32ab81771", func := "netcalculus/netcalculustop.TopPoliced", spec := "topPoliced", unfollowed := true, recurses := true, apart := false, narrowed := true }
def TopPolicedUptoSaid : Prop := topPolicedUptoRow.holds Tryz.pinned (OpenSpec.upto topPolicedSpec)

/-- 'netcalculustop.TopAttained', WHERE WHAT IT READS IS OF BULK AT MOST 1048576: true; the input reads as it did. -/
def topAttainedUptoRow : OpenClaim := { program := "ytaejfleahamapaagreat", sum := "277494cdfeeb56049094b784b36abd829f0e2c687623cc1e86f96bc32ab81771", func := "netcalculus/netcalculustop.TopAttained", spec := "topAttained", unfollowed := true, recurses := true, apart := false, narrowed := true }
def TopAttainedUptoSaid : Prop := topAttainedUptoRow.holds Tryz.pinned (OpenSpec.upto topAttainedSpec)

/-- 'netcalculustop.TopTandem', WHERE WHAT IT READS IS OF BULK AT MOST 1048576: true; the input reads as it did. -/
def topTandemUptoRow : OpenClaim := { program := "ytaejfleahamapaagreat", sum := "277494cdfeeb56049094b784b36abd829f0e2c687623cc1e86f96bc32ab81771", func := "netcalculus/netcalculustop.TopTandem", spec := "topTandem", unfollowed := true, recurses := true, apart := false, narrowed := true }
def TopTandemUptoSaid : Prop := topTandemUptoRow.holds Tryz.pinned (OpenSpec.upto topTandemSpec)

end Rows
end Go.Proofs.YtaejfleahamapaaGreat
