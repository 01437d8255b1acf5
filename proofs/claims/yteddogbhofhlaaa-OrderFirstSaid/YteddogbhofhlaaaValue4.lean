/- netcalculuslaw04.value: what it returns for a valid curve. -/
import Derived.Test.YteddogbhofhlaaaCurve2
namespace Go.Proofs.Yteddogbhofhlaaa
open Go.RowKit
set_option linter.unusedVariables false

theorem value4_any (A : Option Addr) (n c : Nat) (p i t : Int) (zs : List Int) (w : World) (hA : Ints w w.heap.size A n zs) (ok : Cv.Ok ⟨zs, p, i⟩) (h0 : 0 ≤ t) (h1 : t ≤ 1048576) :
    Calls Try.prog 38 #[.agg #[.slice A n c, .int .i64 p, .int .i64 i], .int .i64 t] w fun e w' => e = .returned (.int .i64 (Cv.at ⟨zs, p, i⟩ t.toNat)) ∧ Below w.heap.size w w' := by
  have hn : n ≤ 400 := by have h1 := ok.n2; have h2 : zs.length = n := hA.1; simp only at h1; omega
  have hv : Cv.value ⟨zs, p, i⟩ t = (Cv.at ⟨zs, p, i⟩ t.toNat, 0) := by unfold Cv.value; rw [if_pos (Cv.okB_true ok), if_neg (by omega)]
  have HV := Lib.hid hv
  clear hv ok
  go_enter Try.func38, Try.ntmps38
  go_wp2_with fail
  refine (value_any A n c p i t zs _ (hA.alloc' _) (by omega)).mono ?_
  rw [HV.out]
  rintro e w1 ⟨rfl, hb⟩
  have bw := bthen (balloc w _) hb
  clear hb
  go_wp2_with fail
  go_ret
  exact ⟨rfl, bw⟩
end Go.Proofs.Yteddogbhofhlaaa
