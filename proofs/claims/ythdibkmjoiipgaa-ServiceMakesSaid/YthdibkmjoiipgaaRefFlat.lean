/- netcalculusref02.Flat(0) and Wait: what they return. -/
import Derived.Test.YthdibkmjoiipgaaRefMade
import Derived.Test.YthdibkmjoiipgaaFlat
import Derived.Test.YthdibkmjoiipgaaRefSame
namespace Go.Proofs.Ythdibkmjoiipgaa
open Go.RowKit
set_option linter.unusedVariables false

theorem zz_at (t : Nat) : Cv.at ⟨[0, 0], 1, 0⟩ t = 0 := by
  have h : ∀ k, nth [0, 0] k = 0 := fun k => by
    rcases Nat.lt_or_ge k 2 with hk | hk
    · have : k = 0 ∨ k = 1 := by omega
      rcases this with rfl | rfl <;> rfl
    · exact nth_out _ _ hk
  unfold Cv.at
  simp only [h]
  simp
  intro _ h
  exact absurd h inf_pos
theorem zz_fun : Cv.at ⟨[0, 0], 1, 0⟩ = fun _ => 0 := funext zz_at
set_option maxHeartbeats 1000000 in
theorem refFlat0_any (w : World) : Calls Try.prog 117 #[.int .i64 0] w (RetS2 (fun f er => f = cvZ ∧ er = 0) w) := by
  have RB := Lib.hid ((Blk.new w 46 #[.slice none 0 0, .int .i64 0, .int .i64 0]).alloc (.cells #[.int .i64 0, .int .i64 0] 3))
  have BW := Lib.hid (bthen (balloc w (.cells #[.slice none 0 0, .int .i64 0, .int .i64 0] 46)) (balloc _ (.cells #[.int .i64 0, .int .i64 0] 3)))
  have il := ints_litC (w.alloc (.cells #[.slice none 0 0, .int .i64 0, .int .i64 0] 46)) [0, 0]
  simp only [List.map_cons, List.map_nil, World.size_alloc] at il
  have IL := Lib.hid il
  have up : Up0 (Cv.at ⟨[0, 0], 1, 0⟩) := by rw [zz_fun]; exact ⟨Int.le_refl _, fun t => Int.le_refl _⟩
  have pre : Pre ⟨[0, 0], 1, 0⟩ := ⟨by decide, by decide, by decide, by decide, by decide, fun k => by
    have : nth [0, 0] k = 0 := by
      rcases Nat.lt_or_ge k 2 with hk | hk
      · have : k = 0 ∨ k = 1 := by omega
        rcases this with rfl | rfl <;> rfl
      · exact nth_out _ _ hk
    show 0 ≤ nth [0, 0] k ∧ nth [0, 0] k ≤ 4611686018427387904
    rw [this]; omega⟩
  clear il
  go_enter Try.func117, Try.ntmps117
  go_wp2_with fail
  refine (refMade_any (some ⟨w.heap.size + 1, 0, none⟩) 2 2 1 0 [0, 0] _ (by simp only [World.size_alloc]; exact IL.out) (Nat.le_refl _) pre up (fun m t hm h hmt => by
    exfalso
    have : m = 0 ∨ m = 1 := by simp at hm; omega
    rcases this with rfl | rfl <;> exact absurd h inf_pos)).mono ?_
  rintro e w5 ⟨r, er, A5, n5, c5, hS, hc5, rfl, hI5, hA5, hbq⟩
  rw [zz_fun] at hS
  obtain ⟨rfl, rfl⟩ := hS.unique ⟨_, zero_nf, .inl ⟨cvZ_lim, rfl, rfl⟩⟩
  have hs0 := RB.out.lt
  replace RB := Lib.hid (RB.out.below hbq RB.out.lt)
  replace BW := Lib.hid (bthen BW.out hbq)
  have HI5 := Lib.hid hI5; have HA5 := Lib.hid hA5
  clear hS hI5 hA5 hbq up pre
  obtain ⟨⟨r0, r1, r2⟩, ⟨y0, y1, y2⟩, hlr⟩ := RB.out.c3
  go_wp2_with fail
  have rb := RB.out.store3 (.slice A5 n5 c5) (.int .i64 1) (.int .i64 0)
  refine bodyPost_ret (v := .tuple #[.agg #[.slice A5 n5 c5, .int .i64 1, .int .i64 0], .int .i64 0]) (by simp [results, Try.results117, go_sem, rb.cell]) rfl ?_
  exact retS2_store (f := cvZ) (er := 0) ⟨rfl, rfl⟩ hc5 HA5.out (Nat.le_refl _) hs0 HI5.out BW.out
end Go.Proofs.Ythdibkmjoiipgaa
