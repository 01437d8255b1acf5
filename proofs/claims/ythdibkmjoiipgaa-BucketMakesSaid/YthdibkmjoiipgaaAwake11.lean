/- The examples of the chapter on buckets: netcalculuslaw11.awake returns true. -/
import Derived.Test.YthdibkmjoiipgaaTok
import Derived.Test.YthdibkmjoiipgaaExc
import Derived.Test.YthdibkmjoiipgaaBy
import Derived.Test.YthdibkmjoiipgaaRefSame
import Derived.Deep.DeepCutAuto
namespace Go.Proofs.Ythdibkmjoiipgaa
open Go.RowKit
set_option linter.unusedVariables false

theorem ex11_tok : ∃ g, NF (tokV 5 1 3 2) g ∧ Lim g ∧ g.Ok := by
  refine lim_of (tok_up (by omega) (by omega) (by omega) (by omega)) (p := 2) (i := 3) (by omega) (by omega) (tok_per (B := 5) (b := 1) (R := 3) (r := 2) (by omega) (by omega)) (fun t ht => ?_) (by omega)
  have h : ∀ t, t < 3 → tokV 5 1 3 2 t ≤ 1073741824 := by decide
  exact h t (by omega)
theorem ex11_st : ∃ g, NF (stV 14 2 0) g ∧ Lim g ∧ g.Ok := by
  refine lim_of (st_up (by omega) (by omega) (by omega)) (p := 2) (i := 14) (by omega) (by omega) (st_per (S := 14) (E := 2) (A := 0) (by omega)) (fun t ht => ?_) (by omega)
  have h : ∀ t, t < 3 → stV 14 2 0 t ≤ 1073741824 := by decide
  exact h t (by omega)
theorem ex11_exc : ExcM [3, 0, 4] 2 1 3 4 := by
  refine ⟨by omega, fun i j hij hj => ?_, .inr ⟨2, 2, Nat.le_refl _, by omega, by decide⟩⟩
  have h : ∀ j, j < 3 → ∀ i, i < 3 → excT [3, 0, 4] 2 1 i j ≤ 4 ∨ j < i := by decide
  exact (h j hj i (by omega)).resolve_right (by omega)
set_option maxHeartbeats 2000000 in
set_option maxRecDepth 100000 in
theorem awake11_any (w : World) : Calls Try.prog 21 #[] w fun e w' => e = .returned (.bool true) ∧ Below w.heap.size w w' := by
  obtain ⟨f, hf1, hf2, hf3⟩ := ex11_tok
  obtain ⟨g, hg1, hg2, hg3⟩ := ex11_st
  have f1 := hf3.n1; have f2 := hf3.n2; have f3 := hf3.p1; have f4 := hf3.p2; have f5 := hf3.pn; have f6 := hf3.i1; have f7 := hf3.i2
  have g1 := hg3.n1; have g2 := hg3.n2; have g3 := hg3.p1; have g4 := hg3.p2; have g5 := hg3.pn; have g6 := hg3.i1; have g7 := hg3.i2
  have HF1 := Lib.hid hf1; have HF3 := Lib.hid hf3; have HG1 := Lib.hid hg1; have HG3 := Lib.hid hg3; have HF2 := Lib.hid hf2; have HG2 := Lib.hid hg2
  clear hf1 hf2 hf3 hg1 hg2 hg3
  go_enter Try.func21, Try.ntmps21
  go_wp2_with fail
  refine (token_any 5 1 3 2 w).mono ?_
  rintro e w1 ⟨r, er, hS, A, n, c, rfl, hI, hA, hb⟩
  obtain ⟨rfl, rfl⟩ : r = f ∧ er = 0 := by
    rcases hS with ⟨h, _⟩ | ⟨_, _, h, _⟩ | ⟨_, _, _, h⟩
    · exact absurd (by decide) h
    · omega
    · exact h.eq HF1.out HF2.out
  have hn : r.vals.length = n := hI.1
  have FA := Lib.hid (By.new (L := 0) (B := 0) (c := c) hI (fun b off s e => Nat.zero_le _) (Nat.le_refl _) (Nat.zero_le _))
  have BW := Lib.hid (bthen hb (balloc _ (.cells #[.slice A n c, .int .i64 r.per, .int .i64 r.inc] 46)))
  clear hS hI hA hb
  rw [hn] at f1 f2 f5
  go_upto_region 2 with fail
  generalize hwe : w1.alloc (.cells #[.slice A n c, .int .i64 r.per, .int .i64 r.inc] 46) = we at *
  clear hwe
  generalize w1.heap.size = PF at *
  go_wp2_with fail
  refine (steps_any 14 2 0 we).mono ?_
  rintro e w2 ⟨u, er, hS, B, m, d, rfl, hI, hA, hb⟩
  obtain ⟨rfl, rfl⟩ : u = g ∧ er = 0 := by
    rcases hS with ⟨h, _⟩ | ⟨_, h⟩
    · exact absurd (show StOk 14 2 0 from ⟨by omega, by omega, by omega, by omega, by omega, by omega⟩) h
    · exact h.eq HG1.out HG2.out
  have hm : u.vals.length = m := hI.1
  replace FA := Lib.hid ((FA.out.below hb).alloc (.cells #[.slice B m d, .int .i64 u.per, .int .i64 u.inc] 46))
  have GB := Lib.hid (By.new (L := 0) (B := 0) (c := d) hI (fun b off s e => Nat.zero_le _) (Nat.le_refl _) (Nat.zero_le _))
  replace BW := Lib.hid (bthen (bthen BW.out hb) (balloc _ (.cells #[.slice B m d, .int .i64 u.per, .int .i64 u.inc] 46)))
  clear hS hI hA hb
  rw [hm] at g1 g2 g5
  go_upto_region 3 with fail
  generalize hwe : w2.alloc (.cells #[.slice B m d, .int .i64 u.per, .int .i64 u.inc] 46) = wf at *
  clear hwe
  generalize w2.heap.size = PG at *
  have il := ints_litC wf [3, 0, 4]
  simp only [List.map_cons, List.map_nil] at il
  have IL := Lib.hid il
  replace FA := Lib.hid (FA.out.alloc (.cells #[.int .i64 3, .int .i64 0, .int .i64 4] 3)); replace GB := Lib.hid (GB.out.alloc (.cells #[.int .i64 3, .int .i64 0, .int .i64 4] 3)); replace BW := Lib.hid (bthen BW.out (balloc _ (.cells #[.int .i64 3, .int .i64 0, .int .i64 4] 3)))
  clear il
  go_wp2_with fail
  refine (excess_any 0 1 2 1 (some ⟨wf.heap.size, 0, none⟩) 3 3 [3, 0, 4] _ (by exact IL.out) (by omega)).mono ?_
  rintro e w3 ⟨x, y, er, hS, rfl, hb⟩
  obtain ⟨rfl, rfl, rfl⟩ : x = 4 ∧ y = 1 ∧ er = 0 := by
    rcases hS with ⟨h, _⟩ | ⟨_, k, hk, rfl, rfl, rfl⟩
    · exact absurd (show ExcOk 0 1 2 1 [3, 0, 4] 3 from ⟨by decide, by decide, by omega, fun k hk => by
        have h : ∀ k, k < 3 → 0 ≤ nth [3, 0, 4] k ∧ nth [3, 0, 4] k ≤ 1500 := by decide
        exact h k hk⟩) h
    · obtain rfl := hk.unique ex11_exc
      exact ⟨by decide, by decide, by decide⟩
  replace FA := Lib.hid ((FA.out.below hb).alloc (.cells #[.int .i64 4, .int .i64 1] 23)); replace GB := Lib.hid ((GB.out.below hb).alloc (.cells #[.int .i64 4, .int .i64 1] 23)); replace BW := Lib.hid (bthen (bthen BW.out hb) (balloc _ (.cells #[.int .i64 4, .int .i64 1] 23)))
  have XB := Lib.hid (Blk.new w3 23 #[.int .i64 4, .int .i64 1])
  clear hS hb IL
  go_upto_region 4 with fail
  generalize hwe : w3.alloc (.cells #[.int .i64 4, .int .i64 1] 23) = wg at *
  clear hwe
  generalize w3.heap.size = PX at *
  obtain ⟨a0, a1, a2, hla⟩ := FA.out.cells
  obtain ⟨b0, b1, b2, hlb⟩ := GB.out.cells
  obtain ⟨x0, x1⟩ : _ ∧ _ := ⟨XB.out.cell 0, XB.out.cell 1⟩
  simp at x0 x1
  have hlx := XB.out.lt
  go_wp2_with fail
  refine (refValid_any A n c r.per r.inc r.vals _ (by exact FA.out.ints) (by omega)).mono ?_
  rw [show Cv.okB ⟨r.vals, r.per, r.inc⟩ = true from Cv.okB_true HF3.out]
  rintro e wq ⟨rfl, hb⟩
  replace FA := Lib.hid (FA.out.below hb); replace GB := Lib.hid (GB.out.below hb); replace XB := Lib.hid (XB.out.below hb XB.out.lt); replace BW := Lib.hid (bthen BW.out hb)
  clear hb
  clear a0 a1 a2 hla b0 b1 b2 hlb x0 x1 hlx
  obtain ⟨a0, a1, a2, hla⟩ := FA.out.cells
  obtain ⟨b0, b1, b2, hlb⟩ := GB.out.cells
  obtain ⟨x0, x1⟩ : _ ∧ _ := ⟨XB.out.cell 0, XB.out.cell 1⟩
  simp at x0 x1
  have hlx := XB.out.lt
  -- A A n n c c r curve 1 tick 5 value FA the variable's facts HF3 its validity
  go_wp2_with fail
  refine (refAt_any A n c r.per r.inc 1 r.vals _ (by exact FA.out.ints) (by omega) (by omega) (by omega) (by omega) (by omega) HF3.out.nn (by omega) (by omega)).mono ?_
  rw [show Cv.at ⟨r.vals, r.per, r.inc⟩ ((1 : Int)).toNat = 5 from by rw [show (1 : Int).toNat = 1 from rfl]; exact (HF1.out.at 1).trans (by decide)]
  rintro e wq ⟨rfl, hb⟩
  replace FA := Lib.hid (FA.out.below hb); replace GB := Lib.hid (GB.out.below hb); replace XB := Lib.hid (XB.out.below hb XB.out.lt); replace BW := Lib.hid (bthen BW.out hb)
  clear hb
  clear a0 a1 a2 hla b0 b1 b2 hlb x0 x1 hlx
  obtain ⟨a0, a1, a2, hla⟩ := FA.out.cells
  obtain ⟨b0, b1, b2, hlb⟩ := GB.out.cells
  obtain ⟨x0, x1⟩ : _ ∧ _ := ⟨XB.out.cell 0, XB.out.cell 1⟩
  simp at x0 x1
  have hlx := XB.out.lt
  -- A A n n c c r curve 4 tick 9 value FA the variable's facts HF3 its validity
  go_wp2_with fail
  refine (refAt_any A n c r.per r.inc 4 r.vals _ (by exact FA.out.ints) (by omega) (by omega) (by omega) (by omega) (by omega) HF3.out.nn (by omega) (by omega)).mono ?_
  rw [show Cv.at ⟨r.vals, r.per, r.inc⟩ ((4 : Int)).toNat = 9 from by rw [show (4 : Int).toNat = 4 from rfl]; exact (HF1.out.at 4).trans (by decide)]
  rintro e wq ⟨rfl, hb⟩
  replace FA := Lib.hid (FA.out.below hb); replace GB := Lib.hid (GB.out.below hb); replace XB := Lib.hid (XB.out.below hb XB.out.lt); replace BW := Lib.hid (bthen BW.out hb)
  clear hb
  clear a0 a1 a2 hla b0 b1 b2 hlb x0 x1 hlx
  obtain ⟨a0, a1, a2, hla⟩ := FA.out.cells
  obtain ⟨b0, b1, b2, hlb⟩ := GB.out.cells
  obtain ⟨x0, x1⟩ : _ ∧ _ := ⟨XB.out.cell 0, XB.out.cell 1⟩
  simp at x0 x1
  have hlx := XB.out.lt
  -- A A n n c c r curve 5 tick 11 value FA the variable's facts HF3 its validity
  go_wp2_with fail
  refine (refAt_any A n c r.per r.inc 5 r.vals _ (by exact FA.out.ints) (by omega) (by omega) (by omega) (by omega) (by omega) HF3.out.nn (by omega) (by omega)).mono ?_
  rw [show Cv.at ⟨r.vals, r.per, r.inc⟩ ((5 : Int)).toNat = 11 from by rw [show (5 : Int).toNat = 5 from rfl]; exact (HF1.out.at 5).trans (by decide)]
  rintro e wq ⟨rfl, hb⟩
  replace FA := Lib.hid (FA.out.below hb); replace GB := Lib.hid (GB.out.below hb); replace XB := Lib.hid (XB.out.below hb XB.out.lt); replace BW := Lib.hid (bthen BW.out hb)
  clear hb
  clear a0 a1 a2 hla b0 b1 b2 hlb x0 x1 hlx
  obtain ⟨a0, a1, a2, hla⟩ := FA.out.cells
  obtain ⟨b0, b1, b2, hlb⟩ := GB.out.cells
  obtain ⟨x0, x1⟩ : _ ∧ _ := ⟨XB.out.cell 0, XB.out.cell 1⟩
  simp at x0 x1
  have hlx := XB.out.lt
  go_wp2_with fail
  refine (refValid_any B m d u.per u.inc u.vals _ (by exact GB.out.ints) (by omega)).mono ?_
  rw [show Cv.okB ⟨u.vals, u.per, u.inc⟩ = true from Cv.okB_true HG3.out]
  rintro e wq ⟨rfl, hb⟩
  replace FA := Lib.hid (FA.out.below hb); replace GB := Lib.hid (GB.out.below hb); replace XB := Lib.hid (XB.out.below hb XB.out.lt); replace BW := Lib.hid (bthen BW.out hb)
  clear hb
  clear a0 a1 a2 hla b0 b1 b2 hlb x0 x1 hlx
  obtain ⟨a0, a1, a2, hla⟩ := FA.out.cells
  obtain ⟨b0, b1, b2, hlb⟩ := GB.out.cells
  obtain ⟨x0, x1⟩ : _ ∧ _ := ⟨XB.out.cell 0, XB.out.cell 1⟩
  simp at x0 x1
  have hlx := XB.out.lt
  -- B A m n d c u curve 3 tick 28 value GB the variable's facts HG3 its validity
  go_wp2_with fail
  refine (refAt_any B m d u.per u.inc 3 u.vals _ (by exact GB.out.ints) (by omega) (by omega) (by omega) (by omega) (by omega) HG3.out.nn (by omega) (by omega)).mono ?_
  rw [show Cv.at ⟨u.vals, u.per, u.inc⟩ ((3 : Int)).toNat = 28 from by rw [show (3 : Int).toNat = 3 from rfl]; exact (HG1.out.at 3).trans (by decide)]
  rintro e wq ⟨rfl, hb⟩
  replace FA := Lib.hid (FA.out.below hb); replace GB := Lib.hid (GB.out.below hb); replace XB := Lib.hid (XB.out.below hb XB.out.lt); replace BW := Lib.hid (bthen BW.out hb)
  clear hb
  clear a0 a1 a2 hla b0 b1 b2 hlb x0 x1 hlx
  obtain ⟨a0, a1, a2, hla⟩ := FA.out.cells
  obtain ⟨b0, b1, b2, hlb⟩ := GB.out.cells
  obtain ⟨x0, x1⟩ : _ ∧ _ := ⟨XB.out.cell 0, XB.out.cell 1⟩
  simp at x0 x1
  have hlx := XB.out.lt
  go_wp2_with fail
  go_ret
  exact ⟨rfl, BW.out⟩
end Go.Proofs.Ythdibkmjoiipgaa
