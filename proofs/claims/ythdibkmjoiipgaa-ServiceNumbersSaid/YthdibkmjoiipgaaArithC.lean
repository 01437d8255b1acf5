/- Compare of the reference. -/
import Derived.Test.YthdibkmjoiipgaaArith
namespace Go.Proofs.Ythdibkmjoiipgaa
open Go.RowKit
set_option linter.unusedVariables false

-- rcmp_any the name, netcalculus/netcalculusref01.Compare the function, rvalid_any Valid's contract
theorem rcmp_any (a b c d : Int) (w : World) (h1 : FOk a b) (h2 : FOk c d) :
    Calls Try.prog 69 #[.agg #[.int .i64 a, .int .i64 b], .agg #[.int .i64 c, .int .i64 d]] w fun e w' => e = .returned (.int .i64 (fcmp a b c d)) ∧ Below w.heap.size w w' := by
  have E := Lib.hid (FE.new w a b c d)
  have F1 := Lib.hid (fokB_t h1); have F2 := Lib.hid (fokB_t h2)
  have m1 := mul_bd h1.2.2.1 h1.2.2.2.1 (show -1073741824 ≤ d by have := h2.1; omega) h2.2.1
  have m2 := mul_bd h2.2.2.1 h2.2.2.2.1 (show -1073741824 ≤ b by have := h1.1; omega) h1.2.1
  have e1 : IntKind.i64.wrap (a * d) = a * d := IntWalk.i64_in _ (by omega)
  have e2 : IntKind.i64.wrap (c * b) = c * b := IntWalk.i64_in _ (by omega)
  have hF : fcmp a b c d = if a * d < c * b then -1 else if c * b < a * d then 1 else 0 := if_pos ⟨h1, h2⟩
  rw [hF]
  clear hF h1 h2 m1 m2
  by_cases h3 : a * d < c * b
  · rw [if_pos h3]
    -- netcalculus/netcalculusref01.Compare the function, rvalid_any Valid's contract
    go_enter Try.func69, Try.ntmps69
    obtain ⟨f0, f1, f2, f3, hlf⟩ := E.out.cells
    go_wp2_with fail
    refine (rvalid_any a b _).mono ?_
    rw [F1.out]
    rintro e w1 ⟨rfl, hb⟩
    have E := Lib.hid (E.out.below hb)
    try (replace ZB := Lib.hid (ZB.out.below hb ZB.out.lt))
    clear hb
    clear f0 f1 f2 f3 hlf
    obtain ⟨f0, f1, f2, f3, hlf⟩ := E.out.cells
    go_wp2_with fail
    refine (rvalid_any c d _).mono ?_
    rw [F2.out]
    rintro e w1 ⟨rfl, hb⟩
    have E := Lib.hid (E.out.below hb)
    try (replace ZB := Lib.hid (ZB.out.below hb ZB.out.lt))
    clear hb
    clear f0 f1 f2 f3 hlf
    obtain ⟨f0, f1, f2, f3, hlf⟩ := E.out.cells
    go_wp2_with fail
    go_quiet (fail)
    clear e1 e2
    go_wp2_with fail
    go_ret
    exact ⟨rfl, bdrewN E.out.bw⟩
  · rw [if_neg h3]
    by_cases h4 : c * b < a * d
    · rw [if_pos h4]
      -- netcalculus/netcalculusref01.Compare the function, rvalid_any Valid's contract
      go_enter Try.func69, Try.ntmps69
      obtain ⟨f0, f1, f2, f3, hlf⟩ := E.out.cells
      go_wp2_with fail
      refine (rvalid_any a b _).mono ?_
      rw [F1.out]
      rintro e w1 ⟨rfl, hb⟩
      have E := Lib.hid (E.out.below hb)
      try (replace ZB := Lib.hid (ZB.out.below hb ZB.out.lt))
      clear hb
      clear f0 f1 f2 f3 hlf
      obtain ⟨f0, f1, f2, f3, hlf⟩ := E.out.cells
      go_wp2_with fail
      refine (rvalid_any c d _).mono ?_
      rw [F2.out]
      rintro e w1 ⟨rfl, hb⟩
      have E := Lib.hid (E.out.below hb)
      try (replace ZB := Lib.hid (ZB.out.below hb ZB.out.lt))
      clear hb
      clear f0 f1 f2 f3 hlf
      obtain ⟨f0, f1, f2, f3, hlf⟩ := E.out.cells
      go_wp2_with fail
      go_quiet (fail)
      clear e1 e2
      go_wp2_with fail
      go_ret
      exact ⟨rfl, bdrewN E.out.bw⟩
    · rw [if_neg h4]
      -- netcalculus/netcalculusref01.Compare the function, rvalid_any Valid's contract
      go_enter Try.func69, Try.ntmps69
      obtain ⟨f0, f1, f2, f3, hlf⟩ := E.out.cells
      go_wp2_with fail
      refine (rvalid_any a b _).mono ?_
      rw [F1.out]
      rintro e w1 ⟨rfl, hb⟩
      have E := Lib.hid (E.out.below hb)
      try (replace ZB := Lib.hid (ZB.out.below hb ZB.out.lt))
      clear hb
      clear f0 f1 f2 f3 hlf
      obtain ⟨f0, f1, f2, f3, hlf⟩ := E.out.cells
      go_wp2_with fail
      refine (rvalid_any c d _).mono ?_
      rw [F2.out]
      rintro e w1 ⟨rfl, hb⟩
      have E := Lib.hid (E.out.below hb)
      try (replace ZB := Lib.hid (ZB.out.below hb ZB.out.lt))
      clear hb
      clear f0 f1 f2 f3 hlf
      obtain ⟨f0, f1, f2, f3, hlf⟩ := E.out.cells
      go_wp2_with fail
      go_quiet (fail)
      clear e1 e2
      go_wp2_with fail
      go_ret
      exact ⟨rfl, bdrewN E.out.bw⟩
end Go.Proofs.Ythdibkmjoiipgaa
