/- The statement OrderSlopes: the walk. -/
import Derived.Test.YteddogbhofhlaaaEnv2
import Derived.Test.YteddogbhofhlaaaZero
import Derived.Test.YteddogbhofhlaaaSlope
import Derived.Test.YteddogbhofhlaaaLastLaw
namespace Go.Proofs.Yteddogbhofhlaaa
open Go.RowKit
set_option linter.unusedVariables false

/-- the slope of a finite curve, as curve.Slope returns it -/
theorem slope_of {f : Cv} (hf : f.Fin) (hi : f.inc ≤ 1000) (hp : f.per ≤ 8) : ∃ x y k : Int, f.slope = (x, y, true) ∧ 0 < k ∧ k * x = f.inc ∧ k * y = f.per ∧ 0 ≤ x ∧ x ≤ 1000 ∧ 0 ≤ y ∧ y ≤ 8 := by
  have hp1 := hf.1.p1; have hi1 := hf.1.i1
  have hfb : f.finB = true := by
    unfold Cv.finB
    simp only [Bool.and_eq_true, bne_iff_ne]
    exact ⟨Cv.okB_true hf.1, hf.2⟩
  obtain ⟨k, hk⟩ : ∃ k, k = Nat.gcd f.inc.toNat f.per.toNat := ⟨_, rfl⟩
  have hk0 : 0 < k := by rw [hk]; exact Nat.gcd_pos_of_pos_right _ (by omega)
  have e1 : k * (f.inc.toNat / k) = f.inc.toNat := Nat.mul_div_cancel' (by rw [hk]; exact Nat.gcd_dvd_left _ _)
  have e2 : k * (f.per.toNat / k) = f.per.toNat := Nat.mul_div_cancel' (by rw [hk]; exact Nat.gcd_dvd_right _ _)
  have l1 := Nat.div_le_self f.inc.toNat k
  have l2 := Nat.div_le_self f.per.toNat k
  refine ⟨((f.inc.toNat / k : Nat) : Int), ((f.per.toNat / k : Nat) : Int), (k : Int), by unfold Cv.slope; rw [if_pos hfb, ← hk], by omega, ?_, ?_, ?_⟩
  · rw [← Int.natCast_mul, e1]; omega
  · rw [← Int.natCast_mul, e2]; omega
  · generalize f.inc.toNat / k = a at *
    generalize f.per.toNat / k = b at *
    omega

theorem cross {k l x y u v : Int} (hk : 0 < k) (hl : 0 < l) (h : x * v < u * y) : (k * x) * (l * v) < (l * u) * (k * y) := by
  have h1 : (k * l) * (x * v) < (k * l) * (u * y) := Int.mul_lt_mul_of_pos_left h (Int.mul_pos hk hl)
  have e1 : (k * x) * (l * v) = (k * l) * (x * v) := by ac_rfl
  have e2 : (l * u) * (k * y) = (k * l) * (u * y) := by ac_rfl
  rw [e1, e2]; exact h1

theorem slopes_plain {f g : Cv} (df : DrawC 7 f) (dg : DrawC 7 g) (hf : f.Fin) (hg : g.Fin) {t x : Int} {ok ex : Bool} (h1 : SeS (Up f g) t ok) (h2 : ExS (Up f g) x ex) :
    (f.inc * g.per < g.inc * f.per → ok = true) ∧ (g.inc * f.per < f.inc * g.per → ex = true ∧ ok = false) := by
  refine ⟨fun h => ?_, fun h => ?_⟩
  · rcases h1 with ⟨h, _⟩ | ⟨_, _, hm⟩
    · exact h
    · exfalso
      obtain ⟨n, hn, hu⟩ := hm 34300
      rw [up_fin hf hg] at hu
      have := slope_wins hg hf dg df h hn
      omega
  · have hup : ∀ n, 34300 ≤ n → Up f g n := fun n hn => (up_fin hf hg n).2 (slope_wins hf hg df dg h hn)
    constructor
    · rcases h2 with ⟨h, _⟩ | ⟨_, _, hm⟩
      · exact h
      · exact absurd (hup 34300 (Nat.le_refl _)) (hm _)
    · rcases h1 with ⟨_, n, _, hn, _⟩ | ⟨h, _⟩
      · exact absurd (hup (max n 34300) (by omega)) (hn _ (by omega))
      · exact h

set_option maxHeartbeats 8000000 in
set_option maxRecDepth 100000 in
theorem slopesLaw_any (A0 : Option Addr) (n0 c0 : Nat) (L : List Int) (w : World) (hL : Ints w w.heap.size A0 n0 L) (hc0 : n0 ≤ c0) (hn0 : (n0 : Int) ≤ 9223372036854775807) :
    Calls Try.prog 11 #[.slice A0 n0 c0] w fun e w' => e = .returned (.bool true) ∧ Below w.heap.size w w' := by
  go_enter Try.func11, Try.ntmps11
  go_wp2_with fail
  refine (new_any A0 n0 c0 L w hL hc0 hn0).mono ?_
  rintro e w1 ⟨rfl, hS1, hb1⟩
  have hpl := hS1.lt
  clear hL
  go_wp2_with fail
  refine (srcZero_any w.heap.size 7 w1 hS1 (by omega) (by omega)).mono ?_
  rintro e w2 ⟨f, A, n, c, hD, rfl, hI, hA, hS2, hk2⟩
  go_wp2_with fail
  refine (srcZero_any w.heap.size 7 w2 hS2 (by omega) (by omega)).mono ?_
  rintro e w3 ⟨g, B, m, d, hD2, rfl, hI2, hB, hS3, hk3⟩
  have E := Lib.hid (Env2.drawn (c := c) (d := d) (kstep (Kept.of hb1) hk2) hI hA hpl hI2 hB hS2.lt hS3 hk3)
  have hn : n ≤ 400 := by have h1 := hD.1.ok.n2; have h2 : f.vals.length = n := hI.1; omega
  have hm : m ≤ 400 := by have h1 := hD2.1.ok.n2; have h2 : g.vals.length = m := hI2.1; omega
  have HD := Lib.hid (show DrawC 7 f ∧ f.Fin from hD); have HD2 := Lib.hid (show DrawC 7 g ∧ g.Fin from hD2)
  clear hD hI hA hS1 hS2 hk2 hb1 hpl hD2 hI2 hB hS3 hk3
  as_aux_lemma =>
  obtain ⟨x1, y1, k1, hs1, hk1, ha1, hb1, hx10, hx11, hy10, hy11⟩ := slope_of HD.out.2 HD.out.1.inc HD.out.1.per
  obtain ⟨x2, y2, k2, hs2, hk2, ha2, hb2, hx20, hx21, hy20, hy21⟩ := slope_of HD2.out.2 HD2.out.1.inc HD2.out.1.per
  have HS1 := Lib.hid hs1; have HS2 := Lib.hid hs2
  have HC1 := Lib.hid (show x1 * y2 < x2 * y1 → f.inc * g.per < g.inc * f.per from fun h => by rw [← ha1, ← hb1, ← ha2, ← hb2]; exact cross hk1 hk2 h)
  have HC2 := Lib.hid (show x2 * y1 < x1 * y2 → g.inc * f.per < f.inc * g.per from fun h => by rw [← ha1, ← hb1, ← ha2, ← hb2]; exact cross hk2 hk1 h)
  have hm1 : 0 ≤ x1 * y2 ∧ x1 * y2 ≤ 1000 * 8 := ⟨Int.mul_nonneg hx10 hy20, Int.mul_le_mul hx11 hy21 hy20 (by omega)⟩
  have hm2 : 0 ≤ x2 * y1 ∧ x2 * y1 ≤ 1000 * 8 := ⟨Int.mul_nonneg hx20 hy10, Int.mul_le_mul hx21 hy11 hy10 (by omega)⟩
  obtain ⟨u1, hu1⟩ : ∃ u1, u1 = x1 * y2 := ⟨_, rfl⟩
  obtain ⟨u2, hu2⟩ : ∃ u2, u2 = x2 * y1 := ⟨_, rfl⟩
  rw [← hu1, ← hu2] at HC1 HC2
  rw [← hu1] at hm1
  rw [← hu2] at hm2
  have em1 : x1 * y2 = u1 := hu1.symm
  have em2 : x2 * y1 = u2 := hu2.symm
  have em3 : y1 * x2 = u2 := by rw [Int.mul_comm]; exact em2
  have em4 : y2 * x1 = u1 := by rw [Int.mul_comm]; exact em1
  have EM := Lib.hid (And.intro em1 em2)
  clear hs1 hs2 ha1 hb1 ha2 hb2 hk1 hk2 hx10 hx11 hy10 hy11 hx20 hx21 hy20 hy21 hu1 hu2 em1 em2 em3 em4
  obtain ⟨f0, f1, f2, g0, g1, g2, hlf, hlg, hlp⟩ := E.out.cells
  go_wp2_with fail
  refine (slope_any A n c f.per f.inc f.vals _ E.out.lf.ints (by omega)).mono ?_
  unfold RetSl
  rw [HS1.out]
  rintro e w4 ⟨rfl, hb⟩
  as_aux_lemma =>
  have X1 := Lib.hid (Blk.new w4 49 #[.int .i64 x1, .int .i64 y1])
  have E := Lib.hid ((E.out.below hb).alloc (.cells #[.int .i64 x1, .int .i64 y1] 49))
  clear hb f0 f1 f2 g0 g1 g2 hlf hlg hlp
  obtain ⟨f0, f1, f2, g0, g1, g2, hlf, hlg, hlp⟩ := E.out.cells
  go_wp2_with fail
  refine (slope_any B m d g.per g.inc g.vals _ E.out.lg.ints (by omega)).mono ?_
  unfold RetSl
  rw [HS2.out]
  rintro e w5 ⟨rfl, hb⟩
  as_aux_lemma =>
  have X1 := Lib.hid ((X1.out.below hb X1.out.lt).alloc (.cells #[.int .i64 x2, .int .i64 y2] 49))
  have X2 := Lib.hid (Blk.new w5 49 #[.int .i64 x2, .int .i64 y2])
  have E := Lib.hid ((E.out.below hb).alloc (.cells #[.int .i64 x2, .int .i64 y2] 49))
  clear hb f0 f1 f2 g0 g1 g2 hlf hlg hlp
  obtain ⟨f0, f1, f2, g0, g1, g2, hlf, hlg, hlp⟩ := E.out.cells
  go_wp2_with fail
  refine (settles_any A B n m c d f.per f.inc g.per g.inc f.vals g.vals _ E.out.lf.ints E.out.lg.ints (by omega) (by omega)).mono ?_
  intro e w6 hr
  obtain ⟨t, ok, h1, rfl, hb⟩ := RetE.ok HD.out.1.ok HD2.out.1.ok hr
  as_aux_lemma =>
  have E := Lib.hid (E.out.below hb); have X1 := Lib.hid (X1.out.below hb X1.out.lt); have X2 := Lib.hid (X2.out.below hb X2.out.lt); have H1 := Lib.hid h1
  clear hr hb h1 f0 f1 f2 g0 g1 g2 hlf hlg hlp
  obtain ⟨f0, f1, f2, g0, g1, g2, hlf, hlg, hlp⟩ := E.out.cells
  go_wp2_with fail
  refine (exceeds_any A B n m c d f.per f.inc g.per g.inc f.vals g.vals _ E.out.lf.ints E.out.lg.ints (by omega) (by omega)).mono ?_
  intro e w7 hr
  obtain ⟨t2, ex, h2, rfl, hb⟩ := RetE.ok HD.out.1.ok HD2.out.1.ok hr
  as_aux_lemma =>
  have E := Lib.hid (E.out.below hb); have X1 := Lib.hid (X1.out.below hb X1.out.lt); have X2 := Lib.hid (X2.out.below hb X2.out.lt)
  obtain ⟨P1, P2⟩ := slopes_plain HD.out.1 HD2.out.1 HD.out.2 HD2.out.2 H1.out h2
  clear hr hb h2 f0 f1 f2 g0 g1 g2 hlf hlg hlp
  have a0 := X1.out.cell 0; have a1 := X1.out.cell 1; have b0 := X2.out.cell 0; have b1 := X2.out.cell 1
  simp at a0 a1 b0 b1
  have hla := X1.out.lt; have hlb := X2.out.lt
  obtain ⟨em1, em2⟩ := EM.out
  have hcase : u1 < u2 ∨ u1 = u2 ∨ u2 < u1 := by omega
  rcases hcase with hc | hc | hc
  · obtain rfl : ok = true := P1 (HC1.out hc)
    have d1 : decide (u1 - u2 < 0) = true := by simp; omega
    have d2 : decide (u1 < u2) = true := by simpa using hc
    clear P1 P2
    go_wp2_with fail
    refine (awake4_any _).mono ?_
    rintro e w8 ⟨rfl, hb⟩
    have bw := (E.out.below hb).fin
    go_wp2_with fail
    go_ret
    exact ⟨rfl, bw⟩
  · have d1 : decide (u1 - u2 < 0) = false := by simp; omega
    have d3 : decide (0 < u1 - u2) = false := by simp; omega
    have hc0 : u1 - u2 = 0 := by omega
    clear P1 P2 hc
    go_wp2_with fail
    refine (awake4_any _).mono ?_
    rintro e w8 ⟨rfl, hb⟩
    have bw := (E.out.below hb).fin
    go_wp2_with fail
    go_ret
    exact ⟨rfl, bw⟩
  · obtain ⟨rfl, rfl⟩ := P2 (HC2.out hc)
    have d1 : decide (u1 - u2 < 0) = false := by simp; omega
    have d3 : decide (0 < u1 - u2) = true := by simp; omega
    clear P1 P2
    go_wp2_with fail
    refine (awake4_any _).mono ?_
    rintro e w8 ⟨rfl, hb⟩
    have bw := (E.out.below hb).fin
    go_wp2_with fail
    go_ret
    exact ⟨rfl, bw⟩
end Go.Proofs.Yteddogbhofhlaaa
