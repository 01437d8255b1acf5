/- good of the reference of the buckets. -/
import Derived.Test.YthdibkmjoiipgaaBk
namespace Go.Proofs.Ythdibkmjoiipgaa
open Go.RowKit
set_option linter.unusedVariables false

theorem rgood_any (n d : Int) (w : World) :
    Calls Try.prog 81 #[.agg #[.int .i64 n, .int .i64 d]] w fun e w' => e = .returned (.bool (gokB n d)) ∧ Below w.heap.size w w' := by
  have FB := Lib.hid (Blk.new w 23 #[.int .i64 n, .int .i64 d])
  have BW := Lib.hid (balloc w (.cells #[.int .i64 n, .int .i64 d] 23))
  by_cases h1 : FOk n d
  · by_cases h2 : 0 ≤ n
    · have c2 : decide (0 ≤ n) = true := by simpa using h2
      have F := Lib.hid (fokB_t h1)
      rw [gokB_t ⟨h1, h2⟩]
      clear h1 h2
      obtain ⟨f0, f1⟩ : _ ∧ _ := ⟨FB.out.cell 0, FB.out.cell 1⟩
      simp at f0 f1
      have hlf := FB.out.lt
      go_enter Try.func81, Try.ntmps81
      go_wp2_with fail
      refine (rvalid_any n d _).mono ?_
      rw [F.out]
      rintro e w1 ⟨rfl, hb⟩
      have FB := Lib.hid (FB.out.below hb FB.out.lt); have BW := Lib.hid (bthen BW.out hb)
      clear hb f0 f1 hlf
      obtain ⟨f0, f1⟩ : _ ∧ _ := ⟨FB.out.cell 0, FB.out.cell 1⟩
      simp at f0 f1
      have hlf := FB.out.lt
      go_wp2_with fail
      go_ret
      exact ⟨rfl, BW.out⟩
    · have c2 : decide (0 ≤ n) = false := by simpa using h2
      have F := Lib.hid (fokB_t h1)
      rw [gokB_f (fun h => h2 h.2)]
      clear h1 h2
      obtain ⟨f0, f1⟩ : _ ∧ _ := ⟨FB.out.cell 0, FB.out.cell 1⟩
      simp at f0 f1
      have hlf := FB.out.lt
      go_enter Try.func81, Try.ntmps81
      go_wp2_with fail
      refine (rvalid_any n d _).mono ?_
      rw [F.out]
      rintro e w1 ⟨rfl, hb⟩
      have FB := Lib.hid (FB.out.below hb FB.out.lt); have BW := Lib.hid (bthen BW.out hb)
      clear hb f0 f1 hlf
      obtain ⟨f0, f1⟩ : _ ∧ _ := ⟨FB.out.cell 0, FB.out.cell 1⟩
      simp at f0 f1
      have hlf := FB.out.lt
      go_wp2_with fail
      go_ret
      exact ⟨rfl, BW.out⟩
  · have F := Lib.hid (fokB_f h1)
    rw [gokB_f (fun h => h1 h.1)]
    clear h1
    obtain ⟨f0, f1⟩ : _ ∧ _ := ⟨FB.out.cell 0, FB.out.cell 1⟩
    simp at f0 f1
    have hlf := FB.out.lt
    go_enter Try.func81, Try.ntmps81
    go_wp2_with fail
    refine (rvalid_any n d _).mono ?_
    rw [F.out]
    rintro e w1 ⟨rfl, hb⟩
    have FB := Lib.hid (FB.out.below hb FB.out.lt); have BW := Lib.hid (bthen BW.out hb)
    clear hb f0 f1 hlf
    obtain ⟨f0, f1⟩ : _ ∧ _ := ⟨FB.out.cell 0, FB.out.cell 1⟩
    simp at f0 f1
    have hlf := FB.out.lt
    go_wp2_with fail
    go_ret
    exact ⟨rfl, BW.out⟩
end Go.Proofs.Ythdibkmjoiipgaa
