/- The examples of the chapter on services: netcalculuslaw12.awake returns true. -/
import Derived.Test.YthdibkmjoiipgaaWait
import Derived.Test.YthdibkmjoiipgaaRefAt
import Derived.Test.YthdibkmjoiipgaaRefSame
namespace Go.Proofs.Ythdibkmjoiipgaa
open Go.RowKit
set_option linter.unusedVariables false

theorem ex12_pc : (∃ g, NF (pcV 3 2 2 1) g ∧ Lim g ∧ g.Ok) ∧ cdiv 2 1 ≤ 400 := pace_cur (by decide) (by omega) (by omega) (by decide) (by omega)
set_option maxHeartbeats 2000000 in
set_option maxRecDepth 100000 in
theorem awake12_any (w : World) : Calls Try.prog 13 #[] w fun e w' => e = .returned (.bool true) ∧ Below w.heap.size w w' := by
  obtain ⟨⟨f, hf1, hf2, hf3⟩, hcd⟩ := ex12_pc
  have f1 := hf3.n1; have f2 := hf3.n2; have f3 := hf3.p1; have f4 := hf3.p2; have f5 := hf3.pn; have f6 := hf3.i1; have f7 := hf3.i2
  have HF1 := Lib.hid hf1; have HF3 := Lib.hid hf3; have HF2 := Lib.hid hf2
  clear hf1 hf2 hf3
  go_enter Try.func13, Try.ntmps13
  go_wp2_with fail
  refine (pace_any 3 2 2 1 w).mono ?_
  rintro e w1 ⟨r, er, hS, A, n, c, rfl, hI, hA, hb⟩
  obtain ⟨rfl, rfl⟩ : r = f ∧ er = 0 := pace_made (by decide) (by omega) (by decide) hcd hS HF1.out HF2.out
  have hn : r.vals.length = n := hI.1
  have FA := Lib.hid (By.new (L := 0) (B := 0) (c := c) hI (fun b off s e => Nat.zero_le _) (Nat.le_refl _) (Nat.zero_le _))
  have BW := Lib.hid (bthen hb (balloc _ (.cells #[.slice A n c, .int .i64 r.per, .int .i64 r.inc] 46)))
  clear hS hI hA hb hcd
  rw [hn] at f1 f2 f5
  go_upto_region 2 with fail
  generalize hwe : w1.alloc (.cells #[.slice A n c, .int .i64 r.per, .int .i64 r.inc] 46) = we at *
  clear hwe
  generalize w1.heap.size = PF at *
  go_wp2_with fail
  refine (wait_any 10 1 2 1 4 1 3 1 we (by decide) (by decide) (by decide) (by decide)).mono ?_
  rw [show wtG 10 1 2 1 4 1 3 1 = (9, 2, 0) from by decide]
  rintro e w2 ⟨rfl, hb⟩
  replace FA := Lib.hid ((FA.out.below hb).alloc (.cells #[.int .i64 9, .int .i64 2] 23)); replace BW := Lib.hid (bthen (bthen BW.out hb) (balloc _ (.cells #[.int .i64 9, .int .i64 2] 23)))
  have XB := Lib.hid (Blk.new w2 23 #[.int .i64 9, .int .i64 2])
  clear hb
  go_upto_region 3 with fail
  generalize hwe : w2.alloc (.cells #[.int .i64 9, .int .i64 2] 23) = wg at *
  clear hwe
  generalize w2.heap.size = PX at *
  obtain ⟨a0, a1, a2, hla⟩ := FA.out.cells
  obtain ⟨x0, x1⟩ : _ ∧ _ := ⟨XB.out.cell 0, XB.out.cell 1⟩
  simp at x0 x1
  have hlx := XB.out.lt
  go_wp2_with fail
  refine (refValid_any A n c r.per r.inc r.vals _ (by exact FA.out.ints) (by omega)).mono ?_
  rw [show Cv.okB ⟨r.vals, r.per, r.inc⟩ = true from Cv.okB_true HF3.out]
  rintro e wq ⟨rfl, hb⟩
  replace FA := Lib.hid (FA.out.below hb); replace XB := Lib.hid (XB.out.below hb XB.out.lt); replace BW := Lib.hid (bthen BW.out hb)
  clear hb
  clear a0 a1 a2 hla x0 x1 hlx
  obtain ⟨a0, a1, a2, hla⟩ := FA.out.cells
  obtain ⟨x0, x1⟩ : _ ∧ _ := ⟨XB.out.cell 0, XB.out.cell 1⟩
  simp at x0 x1
  have hlx := XB.out.lt
  -- A A n n c c r curve 2 tick 0 value FA the variable's facts HF3 its validity
  go_wp2_with fail
  refine (refAt_any A n c r.per r.inc 2 r.vals _ (by exact FA.out.ints) (by omega) (by omega) (by omega) (by omega) (by omega) HF3.out.nn (by omega) (by omega)).mono ?_
  rw [show Cv.at ⟨r.vals, r.per, r.inc⟩ ((2 : Int)).toNat = 0 from by rw [show (2 : Int).toNat = 2 from rfl]; exact (HF1.out.at 2).trans (by decide)]
  rintro e wq ⟨rfl, hb⟩
  replace FA := Lib.hid (FA.out.below hb); replace XB := Lib.hid (XB.out.below hb XB.out.lt); replace BW := Lib.hid (bthen BW.out hb)
  clear hb
  clear a0 a1 a2 hla x0 x1 hlx
  obtain ⟨a0, a1, a2, hla⟩ := FA.out.cells
  obtain ⟨x0, x1⟩ : _ ∧ _ := ⟨XB.out.cell 0, XB.out.cell 1⟩
  simp at x0 x1
  have hlx := XB.out.lt
  -- A A n n c c r curve 3 tick 2 value FA the variable's facts HF3 its validity
  go_wp2_with fail
  refine (refAt_any A n c r.per r.inc 3 r.vals _ (by exact FA.out.ints) (by omega) (by omega) (by omega) (by omega) (by omega) HF3.out.nn (by omega) (by omega)).mono ?_
  rw [show Cv.at ⟨r.vals, r.per, r.inc⟩ ((3 : Int)).toNat = 2 from by rw [show (3 : Int).toNat = 3 from rfl]; exact (HF1.out.at 3).trans (by decide)]
  rintro e wq ⟨rfl, hb⟩
  replace FA := Lib.hid (FA.out.below hb); replace XB := Lib.hid (XB.out.below hb XB.out.lt); replace BW := Lib.hid (bthen BW.out hb)
  clear hb
  clear a0 a1 a2 hla x0 x1 hlx
  obtain ⟨a0, a1, a2, hla⟩ := FA.out.cells
  obtain ⟨x0, x1⟩ : _ ∧ _ := ⟨XB.out.cell 0, XB.out.cell 1⟩
  simp at x0 x1
  have hlx := XB.out.lt
  -- A A n n c c r curve 6 tick 6 value FA the variable's facts HF3 its validity
  go_wp2_with fail
  refine (refAt_any A n c r.per r.inc 6 r.vals _ (by exact FA.out.ints) (by omega) (by omega) (by omega) (by omega) (by omega) HF3.out.nn (by omega) (by omega)).mono ?_
  rw [show Cv.at ⟨r.vals, r.per, r.inc⟩ ((6 : Int)).toNat = 6 from by rw [show (6 : Int).toNat = 6 from rfl]; exact (HF1.out.at 6).trans (by decide)]
  rintro e wq ⟨rfl, hb⟩
  replace FA := Lib.hid (FA.out.below hb); replace XB := Lib.hid (XB.out.below hb XB.out.lt); replace BW := Lib.hid (bthen BW.out hb)
  clear hb
  clear a0 a1 a2 hla x0 x1 hlx
  obtain ⟨a0, a1, a2, hla⟩ := FA.out.cells
  obtain ⟨x0, x1⟩ : _ ∧ _ := ⟨XB.out.cell 0, XB.out.cell 1⟩
  simp at x0 x1
  have hlx := XB.out.lt
  go_wp2_with fail
  go_ret
  exact ⟨rfl, BW.out⟩
end Go.Proofs.Ythdibkmjoiipgaa
