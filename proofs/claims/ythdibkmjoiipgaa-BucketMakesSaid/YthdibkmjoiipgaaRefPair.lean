/- netcalculusref05.Pair: two normal forms and a common period. -/
import Derived.Test.YthdibkmjoiipgaaBy
import Derived.Test.YthdibkmjoiipgaaRefNormal
import Derived.Test.YthdibkmjoiipgaaMade
import Derived.Test.YthdibkmjoiipgaaRefAt
import Derived.Deep.RegionHeld3
namespace Go.Proofs.Ythdibkmjoiipgaa
open Go.RowKit
set_option linter.unusedVariables false

def RetPr (f g : Cv) (w : World) (e : Ending) (w' : World) : Prop :=
  ∃ (a b : Cv) (l er : Int) (A : Option Addr) (n c : Nat) (B : Option Addr) (m d : Nat), PairR f g a b l er ∧
    e = .returned (.tuple #[.agg #[.slice A n c, .int .i64 a.per, .int .i64 a.inc], .agg #[.slice B m d, .int .i64 b.per, .int .i64 b.inc], .int .i64 l, .int .i64 er]) ∧
    Ints w' w'.heap.size A n a.vals ∧ Ints w' w'.heap.size B m b.vals ∧ (∀ b off s, A = some ⟨b, off, s⟩ → w.heap.size ≤ b) ∧ (∀ b off s, B = some ⟨b, off, s⟩ → w.heap.size ≤ b) ∧ Below w.heap.size w w'
theorem lcm2_any (p q : Int) (w : World) (hp1 : 1 ≤ p) (hp : p ≤ 1000) (hq1 : 1 ≤ q) (hq : q ≤ 1000) :
    Calls Try.prog 138 #[.int .i64 p, .int .i64 q] w fun e w' => e = .returned (.int .i64 (comm p.toNat q.toNat : Nat)) ∧ Below w.heap.size w w' := by
  obtain ⟨p, rfl⟩ := Int.eq_ofNat_of_zero_le (show 0 ≤ p by omega)
  obtain ⟨q, rfl⟩ := Int.eq_ofNat_of_zero_le (show 0 ≤ q by omega)
  simp only [Int.toNat_natCast]
  exact refLcm_any p q w (by omega) (by omega) (by omega)

theorem b3st {B : Nat} {w0 w : World} (h : Below B w0 w) {g : Nat} (hg : B ≤ g) (x y z : Value) : Below B w0 (((w.setCell ⟨g, 0, none⟩ x).setCell ⟨g, 1, none⟩ y).setCell ⟨g, 2, none⟩ z) := ((h.setCell (by simpa using hg) x).setCell (by simpa using hg) y).setCell (by simpa using hg) z
/-- the results' blocks -/
structure R2 (w wx : World) : Prop where
  a : Blk wx (w.heap.size + 1 + 1) 46 #[.slice none 0 0, .int .i64 0, .int .i64 0]
  b : Blk wx (w.heap.size + 1 + 1 + 1) 46 #[.slice none 0 0, .int .i64 0, .int .i64 0]
  bw : Below w.heap.size w wx
theorem R2.below {w wx wy : World} (h : R2 w wx) (hb : Below wx.heap.size wx wy) : R2 w wy := ⟨h.a.below hb h.a.lt, h.b.below hb h.b.lt, bthen h.bw hb⟩
theorem R2.drew {w wx : World} (h : R2 w wx) : R2 w wx.drew := ⟨h.a, h.b, Below.drew h.bw⟩
theorem R2.cells {w wx : World} (h : R2 w wx) : (wx.cell? ⟨w.heap.size + 1 + 1, 0, none⟩ = some (.slice none 0 0) ∧ wx.cell? ⟨w.heap.size + 1 + 1, 1, none⟩ = some (.int .i64 0) ∧ wx.cell? ⟨w.heap.size + 1 + 1, 2, none⟩ = some (.int .i64 0) ∧
    wx.frozen? ⟨w.heap.size + 1 + 1, 0, none⟩ = false ∧ wx.frozen? ⟨w.heap.size + 1 + 1, 1, none⟩ = false ∧ wx.frozen? ⟨w.heap.size + 1 + 1, 2, none⟩ = false) ∧ (wx.cell? ⟨w.heap.size + 1 + 1 + 1, 0, none⟩ = some (.slice none 0 0) ∧ wx.cell? ⟨w.heap.size + 1 + 1 + 1, 1, none⟩ = some (.int .i64 0) ∧ wx.cell? ⟨w.heap.size + 1 + 1 + 1, 2, none⟩ = some (.int .i64 0) ∧
    wx.frozen? ⟨w.heap.size + 1 + 1 + 1, 0, none⟩ = false ∧ wx.frozen? ⟨w.heap.size + 1 + 1 + 1, 1, none⟩ = false ∧ wx.frozen? ⟨w.heap.size + 1 + 1 + 1, 2, none⟩ = false) := by
  have q0 := h.a.cell 0; have q1 := h.a.cell 1; have q2 := h.a.cell 2; have r0 := h.b.cell 0; have r1 := h.b.cell 1; have r2 := h.b.cell 2
  simp at q0 q1 q2 r0 r1 r2
  exact ⟨⟨q0, q1, q2, h.a.frozen 0, h.a.frozen 1, h.a.frozen 2⟩, r0, r1, r2, h.b.frozen 0, h.b.frozen 1, h.b.frozen 2⟩


set_option maxHeartbeats 2000000 in
set_option maxRecDepth 100000 in
theorem refPair_any (A B : Option Addr) (n m c d : Nat) (p i q j : Int) (xs ys : List Int) (w : World) (hA : Ints w w.heap.size A n xs) (hB : Ints w w.heap.size B m ys) (hn : (n : Int) ≤ 1000000) (hm : (m : Int) ≤ 1000000) (hnc : n ≤ c) (hmd : m ≤ d) :
    Calls Try.prog 147 #[.agg #[.slice A n c, .int .i64 p, .int .i64 i], .agg #[.slice B m d, .int .i64 q, .int .i64 j]] w (RetPr ⟨xs, p, i⟩ ⟨ys, q, j⟩ w) := by
  have P := Lib.hid (((PS.new (c := c) (p := p) (i := i) (d := d) (q := q) (j := j) hA hB).alloc (.cells #[.slice none 0 0, .int .i64 0, .int .i64 0] 46)).alloc (.cells #[.slice none 0 0, .int .i64 0, .int .i64 0] 46))
  have ra := (Blk.new ((w.alloc (.cells #[.slice A n c, .int .i64 p, .int .i64 i] 46)).alloc (.cells #[.slice B m d, .int .i64 q, .int .i64 j] 46)) 46 #[.slice none 0 0, .int .i64 0, .int .i64 0]).alloc (.cells #[.slice none 0 0, .int .i64 0, .int .i64 0] 46)
  have rb := Blk.new (((w.alloc (.cells #[.slice A n c, .int .i64 p, .int .i64 i] 46)).alloc (.cells #[.slice B m d, .int .i64 q, .int .i64 j] 46)).alloc (.cells #[.slice none 0 0, .int .i64 0, .int .i64 0] 46)) 46 #[.slice none 0 0, .int .i64 0, .int .i64 0]
  rw [World.size_alloc, World.size_alloc] at ra
  rw [World.size_alloc, World.size_alloc, World.size_alloc] at rb
  have RR := Lib.hid (show R2 w _ from ⟨ra, rb, P.out.bw⟩)
  have HNC := Lib.hid hnc; have HMD := Lib.hid hmd
  clear hA hB ra rb hnc hmd
  go_enter Try.func147, Try.ntmps147
  go_wp2_with fail
  refine (refNormal_any A n c p i xs _ P.out.ia HNC.out hn).mono ?_
  rintro e w1 ⟨a, er, hN, A1, n1, c1, rfl, hI1, hA1, hb1⟩
  simp only [World.size_alloc] at hA1
  have HN := Lib.hid hN
  have P := Lib.hid (P.out.below hb1)
  have RR := Lib.hid (RR.out.below hb1)
  have hs1 := RR.out.b.lt
  have FA := Lib.hid (By.new (L := w.heap.size + 1 + 1 + 1 + 1) (c := c1) hI1 hA1 (Nat.le_refl _) (by omega))
  have P := Lib.hid (P.out.alloc (.cells #[.slice A1 n1 c1, .int .i64 a.per, .int .i64 a.inc] 46))
  have RR := Lib.hid (RR.out.below (balloc _ (.cells #[.slice A1 n1 c1, .int .i64 a.per, .int .i64 a.inc] 46)))
  clear hN hI1 hA1 hb1
  obtain ⟨f0, f1, f2, g0, g1, g2, hlf, hlg⟩ := P.out.cells
  go_wp2_with fail
  refine (refNormal_any B m d q j ys _ P.out.ib HMD.out hm).mono ?_
  rintro e w2 ⟨b, er2, hN2, A2, n2, c2, rfl, hI2, hA2, hb2⟩
  simp only [World.size_alloc] at hA2
  have HN2 := Lib.hid hN2
  have RR := Lib.hid ((RR.out.below hb2).below (balloc _ (.cells #[.slice A2 n2 c2, .int .i64 b.per, .int .i64 b.inc] 46)))
  have hs2 := FA.out.lt
  simp only [World.size_alloc] at hs2
  have hs3 := hb2.size
  simp only [World.size_alloc] at hs3
  have FB := Lib.hid (By.new (L := w.heap.size + 1 + 1 + 1 + 1) (c := c2) hI2 hA2 (by omega) (by omega))
  have FA := Lib.hid ((FA.out.below hb2).alloc (.cells #[.slice A2 n2 c2, .int .i64 b.per, .int .i64 b.inc] 46))
  clear hN2 hI2 hA2 hb2 P f0 f1 f2 g0 g1 g2 hlf hlg
  have hne1 : w.heap.size + 1 + 1 ≠ w1.heap.size := by omega
  have hne2 : w.heap.size + 1 + 1 ≠ w2.heap.size := by omega
  have hne3 : w.heap.size + 1 + 1 + 1 ≠ w1.heap.size := by omega
  have hne4 : w.heap.size + 1 + 1 + 1 ≠ w2.heap.size := by omega
  by_cases hok : er = 0 ∧ er2 = 0
  · obtain ⟨rfl, rfl⟩ := hok
    have hN1 : Cv.Ok ⟨xs, p, i⟩ ∧ NF (Cv.at ⟨xs, p, i⟩) a ∧ a.Ok := by
      rcases HN.out with ⟨h1, h2, h3, _⟩ | ⟨_, _, h⟩
      · exact ⟨h1, h2, h3⟩
      · omega
    have hN2 : Cv.Ok ⟨ys, q, j⟩ ∧ NF (Cv.at ⟨ys, q, j⟩) b ∧ b.Ok := by
      rcases HN2.out with ⟨h1, h2, h3, _⟩ | ⟨_, _, h⟩
      · exact ⟨h1, h2, h3⟩
      · omega
    have hp1 := hN1.2.2.p1; have hp2 := hN1.2.2.p2; have hq1 := hN2.2.2.p1; have hq2 := hN2.2.2.p2
    have H1 := Lib.hid hN1; have H2 := Lib.hid hN2
    clear hN1 hN2 HN HN2
    obtain ⟨a0, a1, a2, hla⟩ := FA.out.cells
    obtain ⟨b0, b1, b2, hlb⟩ := FB.out.cells
    go_wp2_with fail
    refine (lcm2_any a.per b.per _ (by omega) (by omega) (by omega) (by omega)).mono ?_
    obtain ⟨C, hC⟩ : ∃ C, C = comm a.per.toNat b.per.toNat := ⟨_, rfl⟩
    rw [← hC]
    rintro e w3 ⟨rfl, hbq⟩
    have HC := Lib.hid hC
    have FA := Lib.hid (FA.out.below hbq); have FB := Lib.hid (FB.out.below hbq); have RR := Lib.hid (RR.out.below hbq)
    clear hbq hC
    clear a0 a1 a2 hla b0 b1 b2 hlb
    by_cases hcc : 120 < C
    · have F := Lib.hid (show PairR ⟨xs, p, i⟩ ⟨ys, q, j⟩ a b 0 3 from .inr ⟨H1.out.1, H2.out.1, H1.out.2.1, H2.out.2.1, H1.out.2.2, H2.out.2.2, .inl ⟨by rw [← HC.out]; exact hcc, rfl⟩⟩)
      have hci : (120 : Int) < (C : Int) := by omega
      clear hcc
      obtain ⟨⟨r0, r1, r2, x0, x1, x2⟩, s0, s1, s2, y0, y1, y2⟩ := RR.out.cells
      obtain ⟨a0, a1, a2, hla⟩ := FA.out.cells
      obtain ⟨b0, b1, b2, hlb⟩ := FB.out.cells
      go_wp2_with fail
      go_region_held3 (fun w' => w'.cell? ⟨w1.heap.size, 0, none⟩ = some (.slice A1 n1 c1) ∧ w'.cell? ⟨w1.heap.size, 1, none⟩ = some (.int .i64 a.per) ∧ w'.cell? ⟨w1.heap.size, 2, none⟩ = some (.int .i64 a.inc) ∧ w'.cell? ⟨w2.heap.size, 0, none⟩ = some (.slice A2 n2 c2) ∧ w'.cell? ⟨w2.heap.size, 1, none⟩ = some (.int .i64 b.per) ∧ w'.cell? ⟨w2.heap.size, 2, none⟩ = some (.int .i64 b.inc)) (first | go_keep | exact ⟨(cell_set3 hne1).trans a0, (cell_set3 hne1).trans a1, (cell_set3 hne1).trans a2, (cell_set3 hne2).trans b0, (cell_set3 hne2).trans b1, (cell_set3 hne2).trans b2⟩) (fail)
      all_goals
        have ra := (((RR.out.a.store3 (.slice A1 n1 c1) (.int .i64 a.per) (.int .i64 a.inc)).far (p := ⟨w.heap.size + 1 + 1 + 1, 0, none⟩) (by simp) (.slice A2 n2 c2)).far (p := ⟨w.heap.size + 1 + 1 + 1, 1, none⟩) (by simp) (.int .i64 b.per)).far (p := ⟨w.heap.size + 1 + 1 + 1, 2, none⟩) (by simp) (.int .i64 b.inc)
        have rb := ((((RR.out.b.far (p := ⟨w.heap.size + 1 + 1, 0, none⟩) (by simp) (.slice A1 n1 c1)).far (p := ⟨w.heap.size + 1 + 1, 1, none⟩) (by simp) (.int .i64 a.per)).far (p := ⟨w.heap.size + 1 + 1, 2, none⟩) (by simp) (.int .i64 a.inc))).store3 (.slice A2 n2 c2) (.int .i64 b.per) (.int .i64 b.inc)
        have FA := Lib.hid ((FA.out.set3 (g := w.heap.size + 1 + 1) (.inr (by omega)) (.slice A1 n1 c1) (.int .i64 a.per) (.int .i64 a.inc)).set3 (g := w.heap.size + 1 + 1 + 1) (.inr (by omega)) (.slice A2 n2 c2) (.int .i64 b.per) (.int .i64 b.inc))
        have FB := Lib.hid ((FB.out.set3 (g := w.heap.size + 1 + 1) (.inr (by omega)) (.slice A1 n1 c1) (.int .i64 a.per) (.int .i64 a.inc)).set3 (g := w.heap.size + 1 + 1 + 1) (.inr (by omega)) (.slice A2 n2 c2) (.int .i64 b.per) (.int .i64 b.inc))
        have bw := b3st (b3st RR.out.bw (g := w.heap.size + 1 + 1) (by omega) (.slice A1 n1 c1) (.int .i64 a.per) (.int .i64 a.inc)) (g := w.heap.size + 1 + 1 + 1) (by omega) (.slice A2 n2 c2) (.int .i64 b.per) (.int .i64 b.inc)
        have ra := Blk.drew ra; have rb := Blk.drew rb; have FA := Lib.hid FA.out.drew; have FB := Lib.hid FB.out.drew; have bw := Below.drew bw
        clear r0 r1 r2 x0 x1 x2 s0 s1 s2 y0 y1 y2 RR
        clear a0 a1 a2 hla b0 b1 b2 hlb
        go_wp2_with fail
        exact bodyPost_ret (v := .tuple #[.agg #[.slice A1 n1 c1, .int .i64 a.per, .int .i64 a.inc], .agg #[.slice A2 n2 c2, .int .i64 b.per, .int .i64 b.inc], .int .i64 0, .int .i64 3]) (by simp [results, Try.results147, go_sem, ra.cell, rb.cell]) rfl
          ⟨a, b, _, _, A1, n1, c1, A2, n2, c2, F.out, rfl, FA.out.ints, FB.out.ints, fun b' off s e => by have := FA.out.lo b' off s e; omega, fun b' off s e => by have := FB.out.lo b' off s e; omega, bw⟩
    · have F := Lib.hid (show PairR ⟨xs, p, i⟩ ⟨ys, q, j⟩ a b C 0 from .inr ⟨H1.out.1, H2.out.1, H1.out.2.1, H2.out.2.1, H1.out.2.2, H2.out.2.2, .inr ⟨by rw [← HC.out]; omega, by rw [HC.out], rfl⟩⟩)
      have hci : ¬ (120 : Int) < (C : Int) := by omega
      clear hcc
      obtain ⟨⟨r0, r1, r2, x0, x1, x2⟩, s0, s1, s2, y0, y1, y2⟩ := RR.out.cells
      obtain ⟨a0, a1, a2, hla⟩ := FA.out.cells
      obtain ⟨b0, b1, b2, hlb⟩ := FB.out.cells
      go_wp2_with fail
      go_region_held3 (fun w' => w'.cell? ⟨w1.heap.size, 0, none⟩ = some (.slice A1 n1 c1) ∧ w'.cell? ⟨w1.heap.size, 1, none⟩ = some (.int .i64 a.per) ∧ w'.cell? ⟨w1.heap.size, 2, none⟩ = some (.int .i64 a.inc) ∧ w'.cell? ⟨w2.heap.size, 0, none⟩ = some (.slice A2 n2 c2) ∧ w'.cell? ⟨w2.heap.size, 1, none⟩ = some (.int .i64 b.per) ∧ w'.cell? ⟨w2.heap.size, 2, none⟩ = some (.int .i64 b.inc)) (first | go_keep | exact ⟨(cell_set3 hne1).trans a0, (cell_set3 hne1).trans a1, (cell_set3 hne1).trans a2, (cell_set3 hne2).trans b0, (cell_set3 hne2).trans b1, (cell_set3 hne2).trans b2⟩) (fail)
      all_goals
        have ra := (((RR.out.a.store3 (.slice A1 n1 c1) (.int .i64 a.per) (.int .i64 a.inc)).far (p := ⟨w.heap.size + 1 + 1 + 1, 0, none⟩) (by simp) (.slice A2 n2 c2)).far (p := ⟨w.heap.size + 1 + 1 + 1, 1, none⟩) (by simp) (.int .i64 b.per)).far (p := ⟨w.heap.size + 1 + 1 + 1, 2, none⟩) (by simp) (.int .i64 b.inc)
        have rb := ((((RR.out.b.far (p := ⟨w.heap.size + 1 + 1, 0, none⟩) (by simp) (.slice A1 n1 c1)).far (p := ⟨w.heap.size + 1 + 1, 1, none⟩) (by simp) (.int .i64 a.per)).far (p := ⟨w.heap.size + 1 + 1, 2, none⟩) (by simp) (.int .i64 a.inc))).store3 (.slice A2 n2 c2) (.int .i64 b.per) (.int .i64 b.inc)
        have FA := Lib.hid ((FA.out.set3 (g := w.heap.size + 1 + 1) (.inr (by omega)) (.slice A1 n1 c1) (.int .i64 a.per) (.int .i64 a.inc)).set3 (g := w.heap.size + 1 + 1 + 1) (.inr (by omega)) (.slice A2 n2 c2) (.int .i64 b.per) (.int .i64 b.inc))
        have FB := Lib.hid ((FB.out.set3 (g := w.heap.size + 1 + 1) (.inr (by omega)) (.slice A1 n1 c1) (.int .i64 a.per) (.int .i64 a.inc)).set3 (g := w.heap.size + 1 + 1 + 1) (.inr (by omega)) (.slice A2 n2 c2) (.int .i64 b.per) (.int .i64 b.inc))
        have bw := b3st (b3st RR.out.bw (g := w.heap.size + 1 + 1) (by omega) (.slice A1 n1 c1) (.int .i64 a.per) (.int .i64 a.inc)) (g := w.heap.size + 1 + 1 + 1) (by omega) (.slice A2 n2 c2) (.int .i64 b.per) (.int .i64 b.inc)
        have ra := Blk.drew ra; have rb := Blk.drew rb; have FA := Lib.hid FA.out.drew; have FB := Lib.hid FB.out.drew; have bw := Below.drew bw
        clear r0 r1 r2 x0 x1 x2 s0 s1 s2 y0 y1 y2 RR
        clear a0 a1 a2 hla b0 b1 b2 hlb
        go_wp2_with fail
        exact bodyPost_ret (v := .tuple #[.agg #[.slice A1 n1 c1, .int .i64 a.per, .int .i64 a.inc], .agg #[.slice A2 n2 c2, .int .i64 b.per, .int .i64 b.inc], .int .i64 C, .int .i64 0]) (by simp [results, Try.results147, go_sem, ra.cell, rb.cell]) rfl
          ⟨a, b, _, _, A1, n1, c1, A2, n2, c2, F.out, rfl, FA.out.ints, FB.out.ints, fun b' off s e => by have := FA.out.lo b' off s e; omega, fun b' off s e => by have := FB.out.lo b' off s e; omega, bw⟩
  · have hbad : ¬ (Cv.Ok ⟨xs, p, i⟩ ∧ Cv.Ok ⟨ys, q, j⟩) := by
      rintro ⟨h1, h2⟩
      rcases HN.out with ⟨_, _, _, e1⟩ | ⟨h, _⟩
      · rcases HN2.out with ⟨_, _, _, e2⟩ | ⟨h, _⟩
        · exact hok ⟨e1, e2⟩
        · exact h h2
      · exact h h1
    have F := Lib.hid (show PairR ⟨xs, p, i⟩ ⟨ys, q, j⟩ a b 0 1 from .inl ⟨hbad, rfl⟩)
    have he : (er != 0) = true ∨ ((er != 0) = false ∧ (er2 != 0) = true) := by
      by_cases h : er = 0
      · right
        exact ⟨by simpa using h, by simp only [bne_iff_ne, ne_eq]; exact fun h2 => hok ⟨h, h2⟩⟩
      · left; simpa using h
    clear hbad HN HN2 hok
    rcases he with he | ⟨he, he2⟩
    · obtain ⟨⟨r0, r1, r2, x0, x1, x2⟩, s0, s1, s2, y0, y1, y2⟩ := RR.out.cells
      obtain ⟨a0, a1, a2, hla⟩ := FA.out.cells
      obtain ⟨b0, b1, b2, hlb⟩ := FB.out.cells
      go_wp2_with fail
      go_region_held3 (fun w' => w'.cell? ⟨w1.heap.size, 0, none⟩ = some (.slice A1 n1 c1) ∧ w'.cell? ⟨w1.heap.size, 1, none⟩ = some (.int .i64 a.per) ∧ w'.cell? ⟨w1.heap.size, 2, none⟩ = some (.int .i64 a.inc) ∧ w'.cell? ⟨w2.heap.size, 0, none⟩ = some (.slice A2 n2 c2) ∧ w'.cell? ⟨w2.heap.size, 1, none⟩ = some (.int .i64 b.per) ∧ w'.cell? ⟨w2.heap.size, 2, none⟩ = some (.int .i64 b.inc)) (first | go_keep | exact ⟨(cell_set3 hne1).trans a0, (cell_set3 hne1).trans a1, (cell_set3 hne1).trans a2, (cell_set3 hne2).trans b0, (cell_set3 hne2).trans b1, (cell_set3 hne2).trans b2⟩) (fail)
      all_goals
        have ra := (((RR.out.a.store3 (.slice A1 n1 c1) (.int .i64 a.per) (.int .i64 a.inc)).far (p := ⟨w.heap.size + 1 + 1 + 1, 0, none⟩) (by simp) (.slice A2 n2 c2)).far (p := ⟨w.heap.size + 1 + 1 + 1, 1, none⟩) (by simp) (.int .i64 b.per)).far (p := ⟨w.heap.size + 1 + 1 + 1, 2, none⟩) (by simp) (.int .i64 b.inc)
        have rb := ((((RR.out.b.far (p := ⟨w.heap.size + 1 + 1, 0, none⟩) (by simp) (.slice A1 n1 c1)).far (p := ⟨w.heap.size + 1 + 1, 1, none⟩) (by simp) (.int .i64 a.per)).far (p := ⟨w.heap.size + 1 + 1, 2, none⟩) (by simp) (.int .i64 a.inc))).store3 (.slice A2 n2 c2) (.int .i64 b.per) (.int .i64 b.inc)
        have FA := Lib.hid ((FA.out.set3 (g := w.heap.size + 1 + 1) (.inr (by omega)) (.slice A1 n1 c1) (.int .i64 a.per) (.int .i64 a.inc)).set3 (g := w.heap.size + 1 + 1 + 1) (.inr (by omega)) (.slice A2 n2 c2) (.int .i64 b.per) (.int .i64 b.inc))
        have FB := Lib.hid ((FB.out.set3 (g := w.heap.size + 1 + 1) (.inr (by omega)) (.slice A1 n1 c1) (.int .i64 a.per) (.int .i64 a.inc)).set3 (g := w.heap.size + 1 + 1 + 1) (.inr (by omega)) (.slice A2 n2 c2) (.int .i64 b.per) (.int .i64 b.inc))
        have bw := b3st (b3st RR.out.bw (g := w.heap.size + 1 + 1) (by omega) (.slice A1 n1 c1) (.int .i64 a.per) (.int .i64 a.inc)) (g := w.heap.size + 1 + 1 + 1) (by omega) (.slice A2 n2 c2) (.int .i64 b.per) (.int .i64 b.inc)
        have ra := Blk.drew ra; have rb := Blk.drew rb; have FA := Lib.hid FA.out.drew; have FB := Lib.hid FB.out.drew; have bw := Below.drew bw
        clear r0 r1 r2 x0 x1 x2 s0 s1 s2 y0 y1 y2 RR
        clear a0 a1 a2 hla b0 b1 b2 hlb
        go_wp2_with fail
        exact bodyPost_ret (v := .tuple #[.agg #[.slice A1 n1 c1, .int .i64 a.per, .int .i64 a.inc], .agg #[.slice A2 n2 c2, .int .i64 b.per, .int .i64 b.inc], .int .i64 0, .int .i64 1]) (by simp [results, Try.results147, go_sem, ra.cell, rb.cell]) rfl
          ⟨a, b, _, _, A1, n1, c1, A2, n2, c2, F.out, rfl, FA.out.ints, FB.out.ints, fun b' off s e => by have := FA.out.lo b' off s e; omega, fun b' off s e => by have := FB.out.lo b' off s e; omega, bw⟩
    · obtain ⟨⟨r0, r1, r2, x0, x1, x2⟩, s0, s1, s2, y0, y1, y2⟩ := RR.out.cells
      obtain ⟨a0, a1, a2, hla⟩ := FA.out.cells
      obtain ⟨b0, b1, b2, hlb⟩ := FB.out.cells
      go_wp2_with fail
      go_region_held3 (fun w' => w'.cell? ⟨w1.heap.size, 0, none⟩ = some (.slice A1 n1 c1) ∧ w'.cell? ⟨w1.heap.size, 1, none⟩ = some (.int .i64 a.per) ∧ w'.cell? ⟨w1.heap.size, 2, none⟩ = some (.int .i64 a.inc) ∧ w'.cell? ⟨w2.heap.size, 0, none⟩ = some (.slice A2 n2 c2) ∧ w'.cell? ⟨w2.heap.size, 1, none⟩ = some (.int .i64 b.per) ∧ w'.cell? ⟨w2.heap.size, 2, none⟩ = some (.int .i64 b.inc)) (first | go_keep | exact ⟨(cell_set3 hne1).trans a0, (cell_set3 hne1).trans a1, (cell_set3 hne1).trans a2, (cell_set3 hne2).trans b0, (cell_set3 hne2).trans b1, (cell_set3 hne2).trans b2⟩) (fail)
      all_goals
        have ra := (((RR.out.a.store3 (.slice A1 n1 c1) (.int .i64 a.per) (.int .i64 a.inc)).far (p := ⟨w.heap.size + 1 + 1 + 1, 0, none⟩) (by simp) (.slice A2 n2 c2)).far (p := ⟨w.heap.size + 1 + 1 + 1, 1, none⟩) (by simp) (.int .i64 b.per)).far (p := ⟨w.heap.size + 1 + 1 + 1, 2, none⟩) (by simp) (.int .i64 b.inc)
        have rb := ((((RR.out.b.far (p := ⟨w.heap.size + 1 + 1, 0, none⟩) (by simp) (.slice A1 n1 c1)).far (p := ⟨w.heap.size + 1 + 1, 1, none⟩) (by simp) (.int .i64 a.per)).far (p := ⟨w.heap.size + 1 + 1, 2, none⟩) (by simp) (.int .i64 a.inc))).store3 (.slice A2 n2 c2) (.int .i64 b.per) (.int .i64 b.inc)
        have FA := Lib.hid ((FA.out.set3 (g := w.heap.size + 1 + 1) (.inr (by omega)) (.slice A1 n1 c1) (.int .i64 a.per) (.int .i64 a.inc)).set3 (g := w.heap.size + 1 + 1 + 1) (.inr (by omega)) (.slice A2 n2 c2) (.int .i64 b.per) (.int .i64 b.inc))
        have FB := Lib.hid ((FB.out.set3 (g := w.heap.size + 1 + 1) (.inr (by omega)) (.slice A1 n1 c1) (.int .i64 a.per) (.int .i64 a.inc)).set3 (g := w.heap.size + 1 + 1 + 1) (.inr (by omega)) (.slice A2 n2 c2) (.int .i64 b.per) (.int .i64 b.inc))
        have bw := b3st (b3st RR.out.bw (g := w.heap.size + 1 + 1) (by omega) (.slice A1 n1 c1) (.int .i64 a.per) (.int .i64 a.inc)) (g := w.heap.size + 1 + 1 + 1) (by omega) (.slice A2 n2 c2) (.int .i64 b.per) (.int .i64 b.inc)
        have ra := Blk.drew ra; have rb := Blk.drew rb; have FA := Lib.hid FA.out.drew; have FB := Lib.hid FB.out.drew; have bw := Below.drew bw
        clear r0 r1 r2 x0 x1 x2 s0 s1 s2 y0 y1 y2 RR
        clear a0 a1 a2 hla b0 b1 b2 hlb
        go_wp2_with fail
        exact bodyPost_ret (v := .tuple #[.agg #[.slice A1 n1 c1, .int .i64 a.per, .int .i64 a.inc], .agg #[.slice A2 n2 c2, .int .i64 b.per, .int .i64 b.inc], .int .i64 0, .int .i64 1]) (by simp [results, Try.results147, go_sem, ra.cell, rb.cell]) rfl
          ⟨a, b, _, _, A1, n1, c1, A2, n2, c2, F.out, rfl, FA.out.ints, FB.out.ints, fun b' off s e => by have := FA.out.lo b' off s e; omega, fun b' off s e => by have := FB.out.lo b' off s e; omega, bw⟩
end Go.Proofs.Ythdibkmjoiipgaa
