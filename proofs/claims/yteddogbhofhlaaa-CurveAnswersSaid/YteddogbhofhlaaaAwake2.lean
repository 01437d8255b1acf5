/- awake of the statements on curves: it returns true. -/
import Derived.Test.YteddogbhofhlaaaMake
import Derived.Test.YteddogbhofhlaaaTheory
namespace Go.Proofs.Yteddogbhofhlaaa
open Go.RowKit
set_option linter.unusedVariables false

theorem ok036 : Cv.Ok ⟨[0, 3, 6], 2, 6⟩ :=
  ⟨by decide, by decide, by decide, by decide, by decide, by decide, by decide, by decide, by decide, fun k hk => (by decide : ∀ k, k < 2 → nth [0, 3, 6] k ≤ nth [0, 3, 6] (k + 1)) k (by have h : k + 1 < 3 := hk; omega), by intro h; exact absurd h (by decide), by intro _; decide⟩
theorem fin036 : Cv.Fin ⟨[0, 3, 6], 2, 6⟩ := ⟨ok036, by decide⟩
theorem at036 (t : Nat) : Cv.at ⟨[0, 3, 6], 2, 6⟩ t = 3 * (t : Int) := by
  refine Cv.FinL.unique (h := fun t => 3 * (t : Int)) fin036.toL (by decide) ?_ t
  intro t ht
  show 3 * ((t + 2 : Nat) : Int) = 3 * (t : Int) + 6
  omega
theorem nf036 : NF (Cv.at ⟨[0, 3, 6], 2, 6⟩) ⟨[0], 1, 3⟩ := by
  refine .inl ⟨by decide, by decide, ?_, ?_, ?_, .inl rfl, ?_⟩
  · intro t ht
    have : t = 0 := by have h : t < 1 := ht; omega
    subst this
    rw [at036]; rfl
  · intro t ht
    rw [at036, at036]
    show 3 * ((t + 1 : Nat) : Int) = 3 * (t : Int) + 3
    omega
  · intro q s b h1 h2; exact h1
  · intro t ht
    have : t = 0 := by have h : t < 1 := ht; omega
    subst this
    rw [at036]; decide
theorem norm036 {g : Cv} {er : Int} (h : NormalS ⟨[0, 3, 6], 2, 6⟩ g er) : g = ⟨[0], 1, 3⟩ ∧ er = 0 := by
  obtain ⟨h1, h2, _⟩ := normal_ok ok036 h
  exact ⟨h2.unique nf036, h1⟩
theorem okLine : Cv.Ok ⟨[0], 1, 3⟩ :=
  ⟨by decide, by decide, by decide, by decide, by decide, by decide, by decide, by decide, by decide, by intro k hk; have h : k + 1 < 1 := hk; omega, by intro h; exact absurd h (by decide), by intro _; decide⟩
theorem valLine : Cv.value ⟨[0], 1, 3⟩ 10 = (30, 0) := by
  unfold Cv.value
  rw [if_pos (Cv.okB_true okLine), if_neg (by omega)]
  rfl
theorem lineC3 : lineC 3 = (⟨[0], 1, 3⟩, 0) := rfl
theorem waitC2 : waitC 2 = (⟨[0, 0, 0, inf], 1, 0⟩, 0) := rfl
theorem same1 : Cv.same ⟨[0], 1, 3⟩ ⟨[0], 1, 3⟩ = true := rfl
theorem same2 : Cv.same ⟨[0, 0, 0, inf], 1, 0⟩ ⟨[0, 0, 0, inf], 1, 0⟩ = true := by rw [Cv.same_iff]

set_option maxHeartbeats 2000000 in
theorem awake2_any (w : World) : Calls Try.prog 23 #[] w fun e w' => e = .returned (.bool true) ∧ Below w.heap.size w w' := by
  go_enter Try.func23, Try.ntmps23
  go_wp2_with fail
  refine (normal_any _ 3 3 2 6 [0, 3, 6] _ (by exact ints_litC w [0, 3, 6]) (by omega)).mono ?_
  rintro e w1 ⟨f, er, hN, A1, n1, c1, rfl, hI1, hf1, hb1⟩
  obtain ⟨rfl, rfl⟩ := norm036 hN
  clear hN
  obtain rfl : n1 = 1 := hI1.1.symm
  have bw1 := bthen (balloc w _) hb1
  have HI1 := Lib.hid hI1; have BW1 := Lib.hid bw1
  clear hI1 bw1 hb1
  go_wp2_with fail
  refine (line_any 3 _).mono ?_
  rw [lineC3]
  rintro e w2 ⟨A2, n2, c2, rfl, hI2, hf2, hb2⟩
  obtain rfl : n2 = 1 := hI2.1.symm
  have I12 := (HI1.out.alloc' (.cells #[.slice A1 1 c1, .int .i64 1, .int .i64 3] 26)).ext hb2
  have bw2 := bthen (bthen BW1.out (balloc _ _)) hb2
  have fB2 := Blk.below (Blk.new w1 26 #[.slice A1 1 c1, .int .i64 1, .int .i64 3]) hb2 (by simp)
  have FB2 := Lib.hid fB2; clear fB2
  have HI12 := Lib.hid I12; have HI2 := Lib.hid hI2; have BW2 := Lib.hid bw2
  clear I12 hI2 bw2 hb2
  go_wp2_with fail
  refine (wait_any 2 _).mono ?_
  rw [waitC2]
  rintro e w3 ⟨A3, n3, c3, rfl, hI3, hf3, hb3⟩
  obtain rfl : n3 = 4 := hI3.1.symm
  have I13 := (HI12.out.alloc' (.cells #[.slice A2 1 c2, .int .i64 1, .int .i64 3] 26)).ext hb3
  have I23 := (HI2.out.alloc' (.cells #[.slice A2 1 c2, .int .i64 1, .int .i64 3] 26)).ext hb3
  have bw3 := bthen (bthen BW2.out (balloc _ _)) hb3
  have fB3 := Blk.below (FB2.out.alloc (.cells #[.slice A2 1 c2, .int .i64 1, .int .i64 3] 26)) hb3 (FB2.out.alloc (.cells #[.slice A2 1 c2, .int .i64 1, .int .i64 3] 26)).lt
  have gB3 := Blk.below (Blk.new w2 26 #[.slice A2 1 c2, .int .i64 1, .int .i64 3]) hb3 (by simp)
  have hl2 := gB3.lt
  have q0 := gB3.cell 0; have q1 := gB3.cell 1; have q2 := gB3.cell 2
  simp at q0 q1 q2
  have FB3 := Lib.hid fB3; have GB3 := Lib.hid gB3; clear fB3 gB3
  have HI13 := Lib.hid I13; have HI23 := Lib.hid I23; have HI3 := Lib.hid hI3; have BW3 := Lib.hid bw3
  clear I13 I23 hI3 bw3 hb3
  go_wp2_with fail
  refine (value_any A2 1 c2 1 3 10 [0] _ (by exact HI23.out.alloc' _) (by omega)).mono ?_
  rw [valLine]
  rintro e w4 ⟨rfl, hb4⟩
  have I14 := (HI13.out.alloc' (.cells #[.slice A3 4 c3, .int .i64 1, .int .i64 0] 26)).ext hb4
  have I24 := (HI23.out.alloc' (.cells #[.slice A3 4 c3, .int .i64 1, .int .i64 0] 26)).ext hb4
  have I34 := (HI3.out.alloc' (.cells #[.slice A3 4 c3, .int .i64 1, .int .i64 0] 26)).ext hb4
  have bw4 := bthen (bthen BW3.out (balloc _ _)) hb4
  clear q0 q1 q2 hl2
  have fB4 := Blk.below (FB3.out.alloc (.cells #[.slice A3 4 c3, .int .i64 1, .int .i64 0] 26)) hb4 (FB3.out.alloc (.cells #[.slice A3 4 c3, .int .i64 1, .int .i64 0] 26)).lt
  have gB4 := Blk.below (GB3.out.alloc (.cells #[.slice A3 4 c3, .int .i64 1, .int .i64 0] 26)) hb4 (GB3.out.alloc (.cells #[.slice A3 4 c3, .int .i64 1, .int .i64 0] 26)).lt
  have wB4 := Blk.below (Blk.new w3 26 #[.slice A3 4 c3, .int .i64 1, .int .i64 0]) hb4 (by simp)
  have q0 := fB4.cell 0; have q1 := fB4.cell 1; have q2 := fB4.cell 2
  simp at q0 q1 q2
  have hl1 := fB4.lt
  have FB4 := Lib.hid fB4; have GB4 := Lib.hid gB4; have WB4 := Lib.hid wB4; clear fB4 gB4 wB4
  have HI14 := Lib.hid I14; have HI24 := Lib.hid I24; have HI34 := Lib.hid I34; have BW4 := Lib.hid bw4
  clear I14 I24 I34 bw4 hb4
  go_wp2_with fail
  refine (refSame_any A1 _ 1 1 c1 1 1 1 3 3 [0] [0] _ (by exact HI14.out.alloc' _) (by exact ints_litC w4 [0]) (by omega) (by omega)).mono ?_
  rw [same1]
  rintro e w5 ⟨rfl, hb5⟩
  have I15 := (HI14.out.alloc' (.cells #[.int .i64 0] 3)).ext hb5
  have I25 := (HI24.out.alloc' (.cells #[.int .i64 0] 3)).ext hb5
  have I35 := (HI34.out.alloc' (.cells #[.int .i64 0] 3)).ext hb5
  have bw5 := bthen (bthen BW4.out (balloc _ _)) hb5
  clear q0 q1 q2 hl1
  have fB5 := Blk.below (FB4.out.alloc (.cells #[.int .i64 0] 3)) hb5 (FB4.out.alloc (.cells #[.int .i64 0] 3)).lt
  have gB5 := Blk.below (GB4.out.alloc (.cells #[.int .i64 0] 3)) hb5 (GB4.out.alloc (.cells #[.int .i64 0] 3)).lt
  have wB5 := Blk.below (WB4.out.alloc (.cells #[.int .i64 0] 3)) hb5 (WB4.out.alloc (.cells #[.int .i64 0] 3)).lt
  have q0 := fB5.cell 0; have q1 := fB5.cell 1; have q2 := fB5.cell 2
  simp at q0 q1 q2
  have hl1 := fB5.lt; have hl2 := gB5.lt
  have p0 := gB5.cell 0; have p1 := gB5.cell 1; have p2 := gB5.cell 2
  simp at p0 p1 p2
  have WB5 := Lib.hid wB5; clear fB5 gB5 wB5
  have HI15 := Lib.hid I15; have HI25 := Lib.hid I25; have HI35 := Lib.hid I35; have BW5 := Lib.hid bw5
  clear I15 I25 I35 bw5 hb5
  go_wp2_with fail
  refine (refSame_any A1 A2 1 1 c1 c2 1 1 3 3 [0] [0] _ (by exact HI15.out) (by exact HI25.out) (by omega) (by omega)).mono ?_
  rw [same1]
  rintro e w6 ⟨rfl, hb6⟩
  have I36 := HI35.out.ext hb6
  have bw6 := bthen BW5.out hb6
  clear q0 q1 q2 p0 p1 p2 hl1 hl2
  have wB6 := Blk.below WB5.out hb6 WB5.out.lt
  have q0 := wB6.cell 0; have q1 := wB6.cell 1; have q2 := wB6.cell 2
  simp at q0 q1 q2
  have hl1 := wB6.lt
  have HI36 := Lib.hid I36; have BW6 := Lib.hid bw6
  clear I36 bw6 hb6
  go_wp2_with fail
  refine (refSame_any A3 _ 4 4 c3 4 1 1 0 0 [0, 0, 0, inf] [0, 0, 0, inf] _ (by exact HI36.out.alloc' _) (by exact ints_litC w6 [0, 0, 0, inf]) (by omega) (by omega)).mono ?_
  rw [same2]
  rintro e w7 ⟨rfl, hb7⟩
  have bw7 := bthen (bthen BW6.out (balloc _ _)) hb7
  go_wp2_with fail
  go_ret
  exact ⟨rfl, bw7⟩
end Go.Proofs.Yteddogbhofhlaaa
