/- The statement OrderDual: the walk. -/
import Derived.Test.YteddogbhofhlaaaEnv2
namespace Go.Proofs.Yteddogbhofhlaaa
open Go.RowKit
set_option linter.unusedVariables false

set_option maxHeartbeats 4000000 in
set_option maxRecDepth 100000 in
theorem dualLaw_any (A0 : Option Addr) (n0 c0 : Nat) (L : List Int) (w : World) (hL : Ints w w.heap.size A0 n0 L) (hc0 : n0 ≤ c0) (hn0 : (n0 : Int) ≤ 9223372036854775807) :
    Calls Try.prog 6 #[.slice A0 n0 c0] w fun e w' => e = .returned (.bool true) ∧ Below w.heap.size w w' := by
  go_enter Try.func6, Try.ntmps6
  go_wp2_with fail
  refine (new_any A0 n0 c0 L w hL hc0 hn0).mono ?_
  rintro e w1 ⟨rfl, hS1, hb1⟩
  have hpl := hS1.lt
  clear hL
  go_wp2_with fail
  refine (srcCurve_any w.heap.size 6 w1 hS1 (by omega) (by omega)).mono ?_
  rintro e w2 ⟨f, A, n, c, hD, rfl, hI, hA, hS2, hk2⟩
  go_wp2_with fail
  refine (srcCurve_any w.heap.size 6 w2 hS2 (by omega) (by omega)).mono ?_
  rintro e w3 ⟨g, B, m, d, hD2, rfl, hI2, hB, hS3, hk3⟩
  have E := Lib.hid (Env2.drawn (c := c) (d := d) (kstep (Kept.of hb1) hk2) hI hA hpl hI2 hB hS2.lt hS3 hk3)
  have hn : n ≤ 14 := by have h1 := hD.len; have h2 : f.vals.length = n := hI.1; omega
  have hm : m ≤ 14 := by have h1 := hD2.len; have h2 : g.vals.length = m := hI2.1; omega
  have HF := Lib.hid hD.ok; have HG := Lib.hid hD2.ok
  clear hD hI hA hS1 hS2 hk2 hb1 hpl hD2 hI2 hB hS3 hk3
  as_aux_lemma =>
  have qz := E.out.cells
  obtain ⟨f0, f1, f2, g0, g1, g2, hlf, hlg, hlp⟩ := qz
  go_wp2_with fail
  refine (settles_any A B n m c d f.per f.inc g.per g.inc f.vals g.vals _ E.out.lf.ints E.out.lg.ints (by omega) (by omega)).mono ?_
  intro e w4 hr
  obtain ⟨t, ok, h1, rfl, hb⟩ := RetE.ok HF.out HG.out hr
  as_aux_lemma =>
  have E := Lib.hid (E.out.below hb); have H1 := Lib.hid h1
  clear hr hb h1 f0 f1 f2 g0 g1 g2 hlf hlg hlp
  have qz := E.out.cells
  obtain ⟨f0, f1, f2, g0, g1, g2, hlf, hlg, hlp⟩ := qz
  go_wp2_with fail
  refine (settles_any B A m n d c g.per g.inc f.per f.inc g.vals f.vals _ E.out.lg.ints E.out.lf.ints (by omega) (by omega)).mono ?_
  intro e w5 hr
  obtain ⟨u, is, h2, rfl, hb⟩ := RetE.ok HG.out HF.out hr
  as_aux_lemma =>
  have E := Lib.hid (E.out.below hb); have H2 := Lib.hid h2
  clear hr hb h2 f0 f1 f2 g0 g1 g2 hlf hlg hlp
  have qz := E.out.cells
  obtain ⟨f0, f1, f2, g0, g1, g2, hlf, hlg, hlp⟩ := qz
  go_wp2_with fail
  refine (exceeds_any A B n m c d f.per f.inc g.per g.inc f.vals g.vals _ E.out.lf.ints E.out.lg.ints (by omega) (by omega)).mono ?_
  intro e w6 hr
  obtain ⟨x, ex, h3, rfl, hb⟩ := RetE.ok HF.out HG.out hr
  as_aux_lemma =>
  have E := Lib.hid (E.out.below hb); have H3 := Lib.hid h3
  clear hr hb h3 f0 f1 f2 g0 g1 g2 hlf hlg hlp
  have qz := E.out.cells
  obtain ⟨f0, f1, f2, g0, g1, g2, hlf, hlg, hlp⟩ := qz
  go_wp2_with fail
  refine (meets_any A B n m c d f.per f.inc g.per g.inc f.vals g.vals _ E.out.lf.ints E.out.lg.ints (by omega) (by omega)).mono ?_
  intro e w7 hr
  obtain ⟨y, meets, h4, rfl, hb⟩ := RetE.ok HF.out HG.out hr
  as_aux_lemma =>
  have E := Lib.hid (E.out.below hb)
  obtain ⟨P1, P2, P3⟩ := dual_plain H1.out H2.out H3.out h4
  clear hr hb h4 f0 f1 f2 g0 g1 g2 hlf hlg hlp H1 H2 H3 HF HG
  cases ok
  case false =>
    have hex : ex = true := by
      cases ex
      · exact absurd (.inr (.inr ⟨rfl, rfl⟩)) P1
      · rfl
    have hmf : meets = false := by
      cases meets
      · rfl
      · have := (P2.1 rfl).1; cases this
    subst hex hmf
    clear P1 P2 P3
    go_wp2_with fail
    refine (awake4_any _).mono ?_
    rintro e w8 ⟨rfl, hb⟩
    have bw := (E.out.below hb).fin
    go_wp2_with fail
    go_ret
    exact ⟨rfl, bw⟩
  case true =>
    have hex : ex = decide (0 < t) := by
      by_cases h : decide (0 < t) = ex
      · exact h.symm
      · exact absurd (.inl ⟨rfl, h⟩) P1
    have hxt : ex = true → x < t := fun h => by
      have h2 : ¬ t ≤ x := fun h3 => P1 (.inr (.inl ⟨rfl, h, h3⟩))
      omega
    cases is
    case false =>
      have hmf : meets = false := by
        cases meets
        · rfl
        · have := (P2.1 rfl).2; cases this
      subst hmf
      clear P1 P2 P3
      by_cases ht : 0 < t
      · have hx2 := hxt (by rw [hex]; simpa using ht)
        have d1 : decide (0 < t) = true := by simpa using ht
        rw [d1] at hex
        subst hex
        have d2 : decide (t ≤ x) = false := by simp; omega
        clear hxt
        go_wp2_with fail
        refine (awake4_any _).mono ?_
        rintro e w8 ⟨rfl, hb⟩
        have bw := (E.out.below hb).fin
        go_wp2_with fail
        go_ret
        exact ⟨rfl, bw⟩
      · have d1 : decide (0 < t) = false := by simpa using ht
        rw [d1] at hex
        subst hex
        clear hxt
        go_wp2_with fail
        refine (awake4_any _).mono ?_
        rintro e w8 ⟨rfl, hb⟩
        have bw := (E.out.below hb).fin
        go_wp2_with fail
        go_ret
        exact ⟨rfl, bw⟩
    case true =>
      have hmt : meets = true := P2.2 ⟨rfl, rfl⟩
      have hy := P3 hmt
      have hmx : (if t < u then u else t) = y := by rw [hy]; split <;> omega
      subst hmt
      clear P1 P2 P3 hy
      by_cases ht : 0 < t
      · have hx2 := hxt (by rw [hex]; simpa using ht)
        have d1 : decide (0 < t) = true := by simpa using ht
        rw [d1] at hex
        subst hex
        have d2 : decide (t ≤ x) = false := by simp; omega
        clear hxt
        go_wp2_with fail
        refine (awake4_any _).mono ?_
        rintro e w8 ⟨rfl, hb⟩
        have bw := (E.out.below hb).fin
        go_wp2_with fail
        go_ret
        exact ⟨rfl, bw⟩
      · have d1 : decide (0 < t) = false := by simpa using ht
        rw [d1] at hex
        subst hex
        clear hxt
        go_wp2_with fail
        refine (awake4_any _).mono ?_
        rintro e w8 ⟨rfl, hb⟩
        have bw := (E.out.below hb).fin
        go_wp2_with fail
        go_ret
        exact ⟨rfl, bw⟩
end Go.Proofs.Yteddogbhofhlaaa
