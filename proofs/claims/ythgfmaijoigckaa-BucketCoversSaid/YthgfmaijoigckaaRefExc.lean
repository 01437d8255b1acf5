/- The reference of Exceeds: what it returns. -/
import Derived.Test.YthgfmaijoigckaaRefOrd
namespace Go.Proofs.Ythgfmaijoigckaa
open Go.RowKit
set_option linter.unusedVariables false

theorem finB_iff {f : Cv} : f.finB = true ↔ f.Fin := by
  unfold Cv.finB Cv.Fin
  rw [Bool.and_eq_true, Cv.okB_iff, bne_iff_ne]

theorem refExceeds_bad (A B : Option Addr) (n m c d : Nat) (p i q j : Int) (xs ys : List Int) (w : World) (hA : Ints w w.heap.size A n xs) (hB : Ints w w.heap.size B m ys) (hn : (n : Int) ≤ 1000000) (hm : (m : Int) ≤ 1000000) (hbad : ¬ (Cv.Ok ⟨xs, p, i⟩ ∧ Cv.Ok ⟨ys, q, j⟩)) (S : Int → Bool → Prop) :
    Calls Try.prog 102 #[.agg #[.slice A n c, .int .i64 p, .int .i64 i], .agg #[.slice B m d, .int .i64 q, .int .i64 j]] w (RetE S ⟨xs, p, i⟩ ⟨ys, q, j⟩ w) := by
  have P := Lib.hid (PS.new (c := c) (p := p) (i := i) (d := d) (q := q) (j := j) hA hB)
  have HBAD := Lib.hid hbad
  clear hA hB hbad
  go_enter Try.func102, Try.ntmps102
  obtain ⟨f0, f1, f2, g0, g1, g2, hlf, hlg⟩ := P.out.cells
  go_wp2_with fail
  refine (refValid_any A n c p i xs _ P.out.ia hn).mono ?_
  rintro e w1 ⟨rfl, hbq⟩
  by_cases hof : Cv.Ok ⟨xs, p, i⟩
  · have hog : Cv.okB ⟨ys, q, j⟩ = false := Cv.okB_false (fun h => HBAD.out ⟨hof, h⟩)
    rw [Cv.okB_true hof]
    have OG := Lib.hid hog
    clear hof hog
    have P := Lib.hid (P.out.below (by first | exact hbq | exact bofdrew hbq))
    clear hbq
    clear f0 f1 f2 g0 g1 g2 hlf hlg
    obtain ⟨f0, f1, f2, g0, g1, g2, hlf, hlg⟩ := P.out.cells
    go_wp2_with fail
    refine (refValid_any B m d q j ys _ P.out.ib hm).mono ?_
    rw [OG.out]
    rintro e w1 ⟨rfl, hbq⟩
    have P := Lib.hid (P.out.below (by first | exact hbq | exact bofdrew hbq))
    clear hbq
    clear f0 f1 f2 g0 g1 g2 hlf hlg
    obtain ⟨f0, f1, f2, g0, g1, g2, hlf, hlg⟩ := P.out.cells
    have bw := P.out.bw
    go_wp2_with fail
    refine bodyPost_ret (v := .tuple #[.int .i64 0, .bool false, .int .i64 1]) (by simp [results, Try.results102, go_sem]) rfl ?_
    exact ⟨0, false, 1, .inr ⟨HBAD.out, rfl, rfl, rfl⟩, rfl, bw⟩
  · rw [Cv.okB_false hof]
    have P := Lib.hid (P.out.below (by first | exact hbq | exact bofdrew hbq))
    clear hbq
    clear f0 f1 f2 g0 g1 g2 hlf hlg
    obtain ⟨f0, f1, f2, g0, g1, g2, hlf, hlg⟩ := P.out.cells
    have bw := P.out.bw
    clear hof
    go_wp2_with fail
    refine bodyPost_ret (v := .tuple #[.int .i64 0, .bool false, .int .i64 1]) (by simp [results, Try.results102, go_sem]) rfl ?_
    exact ⟨0, false, 1, .inr ⟨HBAD.out, rfl, rfl, rfl⟩, rfl, bw⟩

set_option maxHeartbeats 4000000 in
set_option maxRecDepth 100000 in
theorem refExceeds_ok (A B : Option Addr) (n m c d : Nat) (p i q j : Int) (xs ys : List Int) (w : World) (hA : Ints w w.heap.size A n xs) (hB : Ints w w.heap.size B m ys) (hf : Cv.Ok ⟨xs, p, i⟩) (hg : Cv.Ok ⟨ys, q, j⟩) :
    Calls Try.prog 102 #[.agg #[.slice A n c, .int .i64 p, .int .i64 i], .agg #[.slice B m d, .int .i64 q, .int .i64 j]] w (RetE (fun t ok => ExS (Up ⟨xs, p, i⟩ ⟨ys, q, j⟩) t ok) ⟨xs, p, i⟩ ⟨ys, q, j⟩ w) := by
  have P := Lib.hid (PS.new (c := c) (p := p) (i := i) (d := d) (q := q) (j := j) hA hB)
  have OB := ord_b hf hg
  have hn := hf.n2; have hm := hg.n2
  have hl := hA.1; have hl2 := hB.1
  have hc1 := OB.c1; have hc2 := OB.c2; have hd1 := OB.d1; have hd2 := OB.d2
  simp only [hl, hl2] at hn hm
  obtain ⟨M, hM⟩ : ∃ M, M = ordM ⟨xs, p, i⟩ ⟨ys, q, j⟩ := ⟨_, rfl⟩
  obtain ⟨C, hC⟩ : ∃ C, C = ordC ⟨xs, p, i⟩ ⟨ys, q, j⟩ := ⟨_, rfl⟩
  obtain ⟨D, hD⟩ : ∃ D, D = ordD ⟨xs, p, i⟩ ⟨ys, q, j⟩ := ⟨_, rfl⟩
  have hM4 : M ≤ 400 := by rw [hM]; unfold ordM; simp only [hl, hl2]; omega
  rw [← hC] at hc1 hc2
  rw [← hD] at hd1 hd2
  have HF := Lib.hid hf; have HG := Lib.hid hg; have HM := Lib.hid hM; have HC := Lib.hid hC; have HD := Lib.hid hD
  clear hA hB hf hg OB hl hl2 hM hC hD
  go_enter Try.func102, Try.ntmps102
  obtain ⟨f0, f1, f2, g0, g1, g2, hlf, hlg⟩ := P.out.cells
  go_wp2_with fail
  refine (refValid_any A n c p i xs _ P.out.ia (by omega)).mono ?_
  rw [Cv.okB_true HF.out]
  rintro e w1 ⟨rfl, hbq⟩
  have P := Lib.hid (P.out.below (by first | exact hbq | exact bofdrew hbq))
  clear hbq
  clear f0 f1 f2 g0 g1 g2 hlf hlg
  obtain ⟨f0, f1, f2, g0, g1, g2, hlf, hlg⟩ := P.out.cells
  go_wp2_with fail
  refine (refValid_any B m d q j ys _ P.out.ib (by omega)).mono ?_
  rw [Cv.okB_true HG.out]
  rintro e w2 ⟨rfl, hbq⟩
  have P := Lib.hid (P.out.below (by first | exact hbq | exact bofdrew hbq))
  clear hbq
  clear f0 f1 f2 g0 g1 g2 hlf hlg
  obtain ⟨f0, f1, f2, g0, g1, g2, hlf, hlg⟩ := P.out.cells
  go_wp2_with fail
  refine (refWindow_any A B n m c d p i q j xs ys _ P.out.ia P.out.ib HF.out HG.out).mono ?_
  rw [← HM.out, ← HC.out, ← HD.out]
  rintro e w3 ⟨rfl, hbq⟩
  as_aux_lemma =>
  have P := Lib.hid (P.out.below (by first | exact hbq | exact bofdrew hbq))
  clear hbq
  clear f0 f1 f2 g0 g1 g2 hlf hlg
  obtain ⟨f0, f1, f2, g0, g1, g2, hlf, hlg⟩ := P.out.cells
  go_wp2_with fail
  clear f0 f1 f2 g0 g1 g2 hlf hlg
  go_loopg [10] (M + C) (fun gg s10 wx => ∃ k : Nat, k + gg = M + C ∧ s10 = .int .i64 k ∧ NoUpTo ⟨xs, p, i⟩ ⟨ys, q, j⟩ k ∧ PS w wx A n c p i xs B m d q j ys)
  case atStart => exact ⟨0, by omega, rfl, NoUpTo.zero _ _, P.out⟩
  case round =>
    as_aux_lemma =>
    clear P
    obtain ⟨k, hkg, rfl, hno, hP⟩ := hrel
    have P := Lib.hid hP; have HNO := Lib.hid hno
    clear hP hno
    obtain ⟨f0, f1, f2, g0, g1, g2, hlf, hlg⟩ := P.out.cells
    have hkT : k ≤ M + C := by omega
    by_cases hlt : k < M + C
    · have hlti : (k : Int) < (M : Int) + (C : Int) := by omega
      obtain ⟨v, hv⟩ : ∃ v, v = abv ⟨xs, p, i⟩ ⟨ys, q, j⟩ k := ⟨_, rfl⟩
      have HV := Lib.hid hv
      clear hv
      go_wp2_with fail
      refine (refAbove_any A B n m c d p i q j xs ys _ P.out.ia P.out.ib k HF.out HG.out (by omega) (by omega)).mono ?_
      rw [Int.toNat_natCast, ← HV.out]
      rintro e w4 ⟨rfl, hbq⟩
      have P := Lib.hid (P.out.below (by first | exact hbq | exact bofdrew hbq))
      clear hbq
      clear f0 f1 f2 g0 g1 g2 hlf hlg
      obtain ⟨f0, f1, f2, g0, g1, g2, hlf, hlg⟩ := P.out.cells
      by_cases hab : 0 < v
      · have dv : decide (0 < v) = true := by simpa using hab
        have F := Lib.hid (ex2_found HF.out HG.out (by omega) HNO.out ((abv_pos HF.out HG.out (by omega)).1 (by rw [← HV.out]; exact hab)))
        have bw := P.out.bw
        clear hab
        go_wp2_with fail
        refine bodyPost_ret (v := .tuple #[.int .i64 k, .bool true, .int .i64 0]) (by simp [results, Try.results102, go_sem]) rfl ?_
        exact ⟨k, true, 0, .inl ⟨HF.out, HG.out, rfl, F.out⟩, rfl, bw⟩
      · have dv : decide (0 < v) = false := by simpa using hab
        have F := Lib.hid (HNO.out.succ (fun h => hab (by rw [HV.out]; exact (abv_pos HF.out HG.out (by omega)).2 h)))
        clear hab
        go_wp2_with fail
        go_roundg (gk - 1)
        case measure => omega
        case rel => exact ⟨k + 1, by omega, by go_num, F.out, P.out⟩
    · have hkT2 : k = M + C := by omega
      have hge : ¬ ((k : Int) < (M : Int) + (C : Int)) := by omega
      have F := Lib.hid HNO.out
      rw [hkT2, HM.out, HC.out] at F
      clear hlt
      go_wp2_with fail
      refine (refFinite_any A n c p i xs _ P.out.ia (by omega)).mono ?_
      rintro e w4 ⟨rfl, hbq⟩
      as_aux_lemma =>
      have P := Lib.hid (P.out.below (by first | exact hbq | exact bofdrew hbq))
      clear hbq
      clear f0 f1 f2 g0 g1 g2 hlf hlg
      obtain ⟨f0, f1, f2, g0, g1, g2, hlf, hlg⟩ := P.out.cells
      clear hge
      by_cases hff : Cv.finB ⟨xs, p, i⟩ = true
      · rw [hff]
        have FF := Lib.hid (finB_iff.1 hff)
        clear hff
        go_wp2_with fail
        refine (refFinite_any B m d q j ys _ P.out.ib (by omega)).mono ?_
        rintro e w5 ⟨rfl, hbq⟩
        have P := Lib.hid (P.out.below (by first | exact hbq | exact bofdrew hbq))
        clear hbq
        clear f0 f1 f2 g0 g1 g2 hlf hlg
        obtain ⟨f0, f1, f2, g0, g1, g2, hlf, hlg⟩ := P.out.cells
        by_cases hgg : Cv.finB ⟨ys, q, j⟩ = true
        · rw [hgg]
          have GG := Lib.hid (finB_iff.1 hgg)
          clear hgg
          by_cases hD0 : D ≤ 0
          · have dD : decide (D ≤ 0) = true := by simpa using hD0
            have F2 := Lib.hid (ex2_none HF.out HG.out F.out (.inr (by rw [← HD.out]; exact hD0)))
            have bw := P.out.bw
            clear hD0
            go_wp2_with fail
            refine bodyPost_ret (v := .tuple #[.int .i64 0, .bool false, .int .i64 0]) (by simp [results, Try.results102, go_sem]) rfl ?_
            exact ⟨0, false, 0, .inl ⟨HF.out, HG.out, rfl, F2.out⟩, rfl, bw⟩
          · have dD : decide (D ≤ 0) = false := by simpa using hD0
            have hD1 : 0 < D := by omega
            clear hD0
            go_wp2_with fail
            clear f0 f1 f2 g0 g1 g2 hlf hlg
            go_loopg [12, 11] C (fun gg s12 s11 wx => ∃ (r : Nat) (L : Int), r + gg = C ∧ s12 = .int .i64 ((M + r : Nat) : Int) ∧ s11 = .int .i64 L ∧ Hid (ExR ⟨xs, p, i⟩ ⟨ys, q, j⟩ r L) ∧ -1 ≤ L ∧ L ≤ 2305843009213693952 ∧ PS w wx A n c p i xs B m d q j ys)
            case atStart => exact ⟨0, -1, by omega, by simp, rfl, ExR.start _ _, by omega, by omega, P.out⟩
            case round =>
              as_aux_lemma =>
              clear P
              obtain ⟨r, L, hrg, rfl, rfl, hex, hL0, hL1, hP⟩ := hrel
              have P := Lib.hid hP; have HEX := Lib.hid hex.out
              clear hP hex
              obtain ⟨f0, f1, f2, g0, g1, g2, hlf, hlg⟩ := P.out.cells
              by_cases hlt : r < C
              · obtain ⟨t, ht⟩ : ∃ t, M + r = t := ⟨_, rfl⟩
                rw [ht]
                have htb : t ≤ 20000 := by omega
                have hlti : (t : Int) < (M : Int) + (C : Int) := by omega
                obtain ⟨v, hv⟩ : ∃ v, v = abv ⟨xs, p, i⟩ ⟨ys, q, j⟩ t := ⟨_, rfl⟩
                have hvd : dif ⟨xs, p, i⟩ ⟨ys, q, j⟩ (ordM ⟨xs, p, i⟩ ⟨ys, q, j⟩ + r) = v := by rw [hv, abv_fin FF.out GG.out htb, ← ht, HM.out]
                have hdb := dif_bd FF.out GG.out (n := ordM ⟨xs, p, i⟩ ⟨ys, q, j⟩ + r) (by rw [← HM.out]; omega)
                have hv0 : v ≤ 0 := by
                  have h1 := F.out t (by rw [← HM.out, ← HC.out]; omega)
                  rw [← abv_pos HF.out HG.out htb, ← hv] at h1
                  omega
                rw [hvd] at hdb
                have hq0 : 0 ≤ -v / D := Int.ediv_nonneg (by omega) (by omega)
                have hq1 : -v / D ≤ -v := Int.ediv_le_self _ (by omega)
                have ed : -(v.tdiv D) = -v / D := by rw [← Int.neg_tdiv]; exact Int.tdiv_eq_ediv_of_nonneg (by omega)
                obtain ⟨u, hu⟩ := Int.eq_ofNat_of_zero_le hq0
                have hucc : (u + 1) * C ≤ 30000000000001 * 14400 := Nat.mul_le_mul (by omega) hc2
                obtain ⟨T, hT⟩ : ∃ T, T = t + (u + 1) * C := ⟨_, rfl⟩
                have CAND := Lib.hid (HEX.out.next FF.out GG.out (by rw [← HD.out]; exact hD1) (by rw [hvd]; exact hv0) (T := T) (by rw [hvd, ← HD.out, hu, Int.toNat_natCast, ← HM.out, ← HC.out, ht, hT]))
                rw [hu] at ed hq1
                have huc2 : ((u : Int) + 1) * (C : Int) = (((u + 1) * C : Nat) : Int) := by simp
                have hTI : (t : Int) + ((u : Int) + 1) * (C : Int) = T := by rw [hT, huc2]; omega
                have hub : (u : Int) ≤ 30000000000000 := by omega
                have hm1 : ((u : Int) + 1) * (C : Int) ≤ 432000000000014400 := by rw [huc2]; omega
                have hm0 : 0 ≤ ((u : Int) + 1) * (C : Int) := by rw [huc2]; omega
                have hTb : (T : Int) ≤ 2305843009213693952 := by omega
                have hDn : D ≠ 0 := by omega
                have HV := Lib.hid hv; have HT := Lib.hid ht
                have TN := Lib.hid (show ((t : Int) + 1) = ((M + (r + 1) : Nat) : Int) by omega)
                clear hv ht hvd hq0 hq1 hu hucc hT huc2
                go_wp2_with fail
                refine (refAbove_any A B n m c d p i q j xs ys _ P.out.ia P.out.ib t HF.out HG.out (by omega) (by omega)).mono ?_
                rw [Int.toNat_natCast, ← HV.out]
                rintro e w6 ⟨rfl, hbq⟩
                have P := Lib.hid (P.out.below (by first | exact hbq | exact bofdrew hbq))
                clear hbq
                clear f0 f1 f2 g0 g1 g2 hlf hlg
                obtain ⟨f0, f1, f2, g0, g1, g2, hlf, hlg⟩ := P.out.cells
                by_cases hc : L < 0 ∨ (T : Int) < L
                · have F2 := Lib.hid (CAND.out.1 hc)
                  rcases Int.lt_or_le L 0 with hL | hL
                  · have dL : decide (L < 0) = true := by simpa using hL
                    clear hc hL
                    go_wp2_with fail
                    go_roundg (gk - 1)
                    case measure => omega
                    case rel => exact ⟨r + 1, T, by omega, by rw [← TN.out], rfl, F2.out, by omega, by omega, P.out⟩
                  · have dL : decide (L < 0) = false := by simp; omega
                    have dT : decide ((T : Int) < L) = true := by simp; omega
                    clear hc hL
                    go_wp2_with fail
                    go_roundg (gk - 1)
                    case measure => omega
                    case rel => exact ⟨r + 1, T, by omega, by rw [← TN.out], rfl, F2.out, by omega, by omega, P.out⟩
                · have F2 := Lib.hid (CAND.out.2 hc)
                  have dL : decide (L < 0) = false := by simp; omega
                  have dT : decide ((T : Int) < L) = false := by simp; omega
                  clear hc
                  go_wp2_with fail
                  go_roundg (gk - 1)
                  case measure => omega
                  case rel => exact ⟨r + 1, L, by omega, by rw [← TN.out], rfl, F2.out, by omega, by omega, P.out⟩
              · have hrC : r = C := by omega
                have F2 := Lib.hid (ExR.done FF.out GG.out (by rw [← HC.out, ← hrC]; exact HEX.out) F.out)
                have hge : ¬ (((M + r : Nat) : Int) < (M : Int) + (C : Int)) := by omega
                obtain ⟨t, ht⟩ : ∃ t, M + r = t := ⟨_, rfl⟩
                rw [ht] at hge ⊢
                have bw := P.out.bw
                clear hlt hrC ht
                go_wp2_with fail
                refine bodyPost_ret (v := .tuple #[.int .i64 L, .bool true, .int .i64 0]) (by simp [results, Try.results102, go_sem]) rfl ?_
                exact ⟨L, true, 0, .inl ⟨HF.out, HG.out, rfl, F2.out⟩, rfl, bw⟩
        · rw [show Cv.finB ⟨ys, q, j⟩ = false by simpa using hgg]
          have F2 := Lib.hid (ex2_none HF.out HG.out F.out (.inl (fun h => hgg (finB_iff.2 h.2))))
          have bw := P.out.bw
          clear hgg
          go_wp2_with fail
          refine bodyPost_ret (v := .tuple #[.int .i64 0, .bool false, .int .i64 0]) (by simp [results, Try.results102, go_sem]) rfl ?_
          exact ⟨0, false, 0, .inl ⟨HF.out, HG.out, rfl, F2.out⟩, rfl, bw⟩
      · rw [show Cv.finB ⟨xs, p, i⟩ = false by simpa using hff]
        have F2 := Lib.hid (ex2_none HF.out HG.out F.out (.inl (fun h => hff (finB_iff.2 h.1))))
        have bw := P.out.bw
        clear hff
        go_wp2_with fail
        refine bodyPost_ret (v := .tuple #[.int .i64 0, .bool false, .int .i64 0]) (by simp [results, Try.results102, go_sem]) rfl ?_
        exact ⟨0, false, 0, .inl ⟨HF.out, HG.out, rfl, F2.out⟩, rfl, bw⟩

theorem refExceeds_any (A B : Option Addr) (n m c d : Nat) (p i q j : Int) (xs ys : List Int) (w : World) (hA : Ints w w.heap.size A n xs) (hB : Ints w w.heap.size B m ys) (hn : (n : Int) ≤ 1000000) (hm : (m : Int) ≤ 1000000) :
    Calls Try.prog 102 #[.agg #[.slice A n c, .int .i64 p, .int .i64 i], .agg #[.slice B m d, .int .i64 q, .int .i64 j]] w (RetE (fun t ok => ExS (Up ⟨xs, p, i⟩ ⟨ys, q, j⟩) t ok) ⟨xs, p, i⟩ ⟨ys, q, j⟩ w) := by
  by_cases h : Cv.Ok ⟨xs, p, i⟩ ∧ Cv.Ok ⟨ys, q, j⟩
  · exact refExceeds_ok A B n m c d p i q j xs ys w hA hB h.1 h.2
  · exact refExceeds_bad A B n m c d p i q j xs ys w hA hB hn hm h _

theorem refAtMost_any (A B : Option Addr) (n m c d : Nat) (p i q j : Int) (xs ys : List Int) (w : World) (hA : Ints w w.heap.size A n xs) (hB : Ints w w.heap.size B m ys) (hn : (n : Int) ≤ 1000000) (hm : (m : Int) ≤ 1000000) :
    Calls Try.prog 39 #[.agg #[.slice A n c, .int .i64 p, .int .i64 i], .agg #[.slice B m d, .int .i64 q, .int .i64 j]] w (RetM ⟨xs, p, i⟩ ⟨ys, q, j⟩ w) := by
  have P := Lib.hid (PS.new (c := c) (p := p) (i := i) (d := d) (q := q) (j := j) hA hB)
  clear hA hB
  go_enter Try.func39, Try.ntmps39
  obtain ⟨f0, f1, f2, g0, g1, g2, hlf, hlg⟩ := P.out.cells
  go_wp2_with fail
  refine (refExceeds_any A B n m c d p i q j xs ys _ P.out.ia P.out.ib hn hm).mono ?_
  rintro e w1 ⟨t, ok, er, hS, rfl, hbq⟩
  have P := Lib.hid (P.out.below (by first | exact hbq | exact bofdrew hbq))
  clear hbq
  clear f0 f1 f2 g0 g1 g2 hlf hlg
  obtain ⟨f0, f1, f2, g0, g1, g2, hlf, hlg⟩ := P.out.cells
  have bw := P.out.bw
  have HS := Lib.hid hS
  rcases hS with ⟨hf, hg, rfl, hx⟩ | ⟨hno, rfl, rfl, rfl⟩
  · have F := Lib.hid (show AtM ⟨xs, p, i⟩ ⟨ys, q, j⟩ (!ok) from .inl ⟨hf, hg, by
      rcases hx with ⟨rfl, k, rfl, h1, h2⟩ | ⟨rfl, rfl, h1⟩
      · simp; exact ⟨k, h1⟩
      · simp; exact h1⟩)
    clear hx
    go_wp2_with fail
    go_ret
    exact ⟨_, F.out, rfl, bw⟩
  · go_wp2_with fail
    go_ret
    exact ⟨false, .inr ⟨hno, rfl⟩, rfl, bw⟩
end Go.Proofs.Ythgfmaijoigckaa
