/- The references of Settles and Meets: what they return. -/
import Derived.Test.YteddogbhofhlaaaRefExc
namespace Go.Proofs.Yteddogbhofhlaaa
open Go.RowKit
set_option linter.unusedVariables false

theorem refSettles_bad (A B : Option Addr) (n m c d : Nat) (p i q j : Int) (xs ys : List Int) (w : World) (hA : Ints w w.heap.size A n xs) (hB : Ints w w.heap.size B m ys) (hn : (n : Int) ≤ 1000000) (hm : (m : Int) ≤ 1000000) (hbad : ¬ (Cv.Ok ⟨xs, p, i⟩ ∧ Cv.Ok ⟨ys, q, j⟩)) (S : Int → Bool → Prop) :
    Calls Try.prog 32 #[.agg #[.slice A n c, .int .i64 p, .int .i64 i], .agg #[.slice B m d, .int .i64 q, .int .i64 j]] w (RetE S ⟨xs, p, i⟩ ⟨ys, q, j⟩ w) := by
  have P := Lib.hid (PS.new (c := c) (p := p) (i := i) (d := d) (q := q) (j := j) hA hB)
  have HBAD := Lib.hid hbad
  clear hA hB hbad
  go_enter Try.func32, Try.ntmps32
  obtain ⟨f0, f1, f2, g0, g1, g2, hlf, hlg⟩ := P.out.cells
  go_wp2_with fail
  refine (refValid_any A n c p i xs _ P.out.ia hn).mono ?_
  rintro e w1 ⟨rfl, hbq⟩
  by_cases hof : Cv.Ok ⟨xs, p, i⟩
  · have hog : Cv.okB ⟨ys, q, j⟩ = false := Cv.okB_false (fun h => HBAD.out ⟨hof, h⟩)
    rw [Cv.okB_true hof]
    have OG := Lib.hid hog
    clear hof hog
    have P := Lib.hid (P.out.below (by first | exact hbq | exact bofdrew hbq))
    clear hbq
    clear f0 f1 f2 g0 g1 g2 hlf hlg
    obtain ⟨f0, f1, f2, g0, g1, g2, hlf, hlg⟩ := P.out.cells
    go_wp2_with fail
    refine (refValid_any B m d q j ys _ P.out.ib hm).mono ?_
    rw [OG.out]
    rintro e w1 ⟨rfl, hbq⟩
    have P := Lib.hid (P.out.below (by first | exact hbq | exact bofdrew hbq))
    clear hbq
    clear f0 f1 f2 g0 g1 g2 hlf hlg
    obtain ⟨f0, f1, f2, g0, g1, g2, hlf, hlg⟩ := P.out.cells
    have bw := P.out.bw
    go_wp2_with fail
    refine bodyPost_ret (v := .tuple #[.int .i64 0, .bool false, .int .i64 1]) (by simp [results, Try.results32, go_sem]) rfl ?_
    exact ⟨0, false, 1, .inr ⟨HBAD.out, rfl, rfl, rfl⟩, rfl, bw⟩
  · rw [Cv.okB_false hof]
    have P := Lib.hid (P.out.below (by first | exact hbq | exact bofdrew hbq))
    clear hbq
    clear f0 f1 f2 g0 g1 g2 hlf hlg
    obtain ⟨f0, f1, f2, g0, g1, g2, hlf, hlg⟩ := P.out.cells
    have bw := P.out.bw
    clear hof
    go_wp2_with fail
    refine bodyPost_ret (v := .tuple #[.int .i64 0, .bool false, .int .i64 1]) (by simp [results, Try.results32, go_sem]) rfl ?_
    exact ⟨0, false, 1, .inr ⟨HBAD.out, rfl, rfl, rfl⟩, rfl, bw⟩

set_option maxHeartbeats 4000000 in
set_option maxRecDepth 100000 in
theorem refSettles_ok (A B : Option Addr) (n m c d : Nat) (p i q j : Int) (xs ys : List Int) (w : World) (hA : Ints w w.heap.size A n xs) (hB : Ints w w.heap.size B m ys) (hf : Cv.Ok ⟨xs, p, i⟩) (hg : Cv.Ok ⟨ys, q, j⟩) :
    Calls Try.prog 32 #[.agg #[.slice A n c, .int .i64 p, .int .i64 i], .agg #[.slice B m d, .int .i64 q, .int .i64 j]] w (RetE (fun t ok => SeS (Up ⟨xs, p, i⟩ ⟨ys, q, j⟩) t ok) ⟨xs, p, i⟩ ⟨ys, q, j⟩ w) := by
  have P := Lib.hid (PS.new (c := c) (p := p) (i := i) (d := d) (q := q) (j := j) hA hB)
  have OB := ord_b hf hg
  have hn := hf.n2; have hm := hg.n2
  have hl := hA.1; have hl2 := hB.1
  have hc1 := OB.c1; have hc2 := OB.c2; have hd1 := OB.d1; have hd2 := OB.d2
  simp only [hl, hl2] at hn hm
  obtain ⟨M, hM⟩ : ∃ M, M = ordM ⟨xs, p, i⟩ ⟨ys, q, j⟩ := ⟨_, rfl⟩
  obtain ⟨C, hC⟩ : ∃ C, C = ordC ⟨xs, p, i⟩ ⟨ys, q, j⟩ := ⟨_, rfl⟩
  obtain ⟨D, hD⟩ : ∃ D, D = ordD ⟨xs, p, i⟩ ⟨ys, q, j⟩ := ⟨_, rfl⟩
  have hM4 : M ≤ 400 := by rw [hM]; unfold ordM; simp only [hl, hl2]; omega
  rw [← hC] at hc1 hc2
  rw [← hD] at hd1 hd2
  have HF := Lib.hid hf; have HG := Lib.hid hg; have HM := Lib.hid hM; have HC := Lib.hid hC; have HD := Lib.hid hD
  clear hA hB hf hg OB hl hl2 hM hC hD
  go_enter Try.func32, Try.ntmps32
  obtain ⟨f0, f1, f2, g0, g1, g2, hlf, hlg⟩ := P.out.cells
  go_wp2_with fail
  refine (refValid_any A n c p i xs _ P.out.ia (by omega)).mono ?_
  rw [Cv.okB_true HF.out]
  rintro e w1 ⟨rfl, hbq⟩
  have P := Lib.hid (P.out.below (by first | exact hbq | exact bofdrew hbq))
  clear hbq
  clear f0 f1 f2 g0 g1 g2 hlf hlg
  obtain ⟨f0, f1, f2, g0, g1, g2, hlf, hlg⟩ := P.out.cells
  go_wp2_with fail
  refine (refValid_any B m d q j ys _ P.out.ib (by omega)).mono ?_
  rw [Cv.okB_true HG.out]
  rintro e w2 ⟨rfl, hbq⟩
  have P := Lib.hid (P.out.below (by first | exact hbq | exact bofdrew hbq))
  clear hbq
  clear f0 f1 f2 g0 g1 g2 hlf hlg
  obtain ⟨f0, f1, f2, g0, g1, g2, hlf, hlg⟩ := P.out.cells
  go_wp2_with fail
  refine (refWindow_any A B n m c d p i q j xs ys _ P.out.ia P.out.ib HF.out HG.out).mono ?_
  rw [← HM.out, ← HC.out, ← HD.out]
  rintro e w3 ⟨rfl, hbq⟩
  as_aux_lemma =>
  have P := Lib.hid (P.out.below (by first | exact hbq | exact bofdrew hbq))
  clear hbq
  clear f0 f1 f2 g0 g1 g2 hlf hlg
  obtain ⟨f0, f1, f2, g0, g1, g2, hlf, hlg⟩ := P.out.cells
  go_upto_region 4 with fail
  go_cut [35] (fun s35 wx => ∃ b, s35 = .bool b ∧ Hid (b = false ↔ (Cv.Fin ⟨xs, p, i⟩ ∧ Cv.Fin ⟨ys, q, j⟩)) ∧ PS w wx A n c p i xs B m d q j ys)
  case first =>
    go_wp2_with fail
    refine (refFinite_any A n c p i xs _ P.out.ia (by omega)).mono ?_
    rintro e w4 ⟨rfl, hbq⟩
    have P := Lib.hid (P.out.below (by first | exact hbq | exact bofdrew hbq))
    clear hbq
    clear f0 f1 f2 g0 g1 g2 hlf hlg
    obtain ⟨f0, f1, f2, g0, g1, g2, hlf, hlg⟩ := P.out.cells
    by_cases hff : Cv.finB ⟨xs, p, i⟩ = true
    · rw [hff]
      have FF := Lib.hid (finB_iff.1 hff)
      clear hff
      go_wp2_with fail
      refine (refFinite_any B m d q j ys _ P.out.ib (by omega)).mono ?_
      rintro e w5 ⟨rfl, hbq⟩
      have P := Lib.hid (P.out.below (by first | exact hbq | exact bofdrew hbq))
      clear hbq
      clear f0 f1 f2 g0 g1 g2 hlf hlg
      obtain ⟨f0, f1, f2, g0, g1, g2, hlf, hlg⟩ := P.out.cells
      obtain ⟨bg, hbg⟩ : ∃ bg, bg = Cv.finB ⟨ys, q, j⟩ := ⟨_, rfl⟩
      rw [← hbg]
      have hh := @finB_iff ⟨ys, q, j⟩
      rw [← hbg] at hh
      have HHB := Lib.hid (show ((!bg) = false ↔ (Cv.Fin ⟨xs, p, i⟩ ∧ Cv.Fin ⟨ys, q, j⟩)) from ⟨fun h => ⟨FF.out, hh.1 (by simpa using h)⟩, fun h => by simpa using hh.2 h.2⟩)
      clear hbg hh
      cases bg
      all_goals
        go_wp2_with fail
        go_meet
        exact ⟨_, rfl, HHB, P.out⟩
    · rw [show Cv.finB ⟨xs, p, i⟩ = false by simpa using hff]
      have hh := @finB_iff ⟨xs, p, i⟩
      have HH := Lib.hid (show ¬ Cv.Fin ⟨xs, p, i⟩ from fun h => hff (hh.2 h))
      clear hff hh
      go_wp2_with fail
      go_meet
      exact ⟨true, rfl, (show (true = false ↔ (Cv.Fin ⟨xs, p, i⟩ ∧ Cv.Fin ⟨ys, q, j⟩)) from ⟨fun h => (by cases h), fun h => absurd h.1 HH.out⟩), P.out⟩
  case rest =>
  as_aux_lemma =>
  clear P
  clear f0 f1 f2 g0 g1 g2 hlf hlg
  obtain ⟨b, rfl, hb, hP⟩ := hcut
  have P := Lib.hid hP; have HB := hb
  clear hP hb
  obtain ⟨f0, f1, f2, g0, g1, g2, hlf, hlg⟩ := P.out.cells
  go_upto_if 35 with fail
  go_cut [9] (fun s9 wx => ∃ G, s9 = .int .i64 G ∧ -128849018880 ≤ G ∧ G ≤ 128849018880 ∧ Hid ((Cv.Fin ⟨xs, p, i⟩ ∧ Cv.Fin ⟨ys, q, j⟩ → G = D) ∧ (¬ (Cv.Fin ⟨xs, p, i⟩ ∧ Cv.Fin ⟨ys, q, j⟩) → G = 0)) ∧ PS w wx A n c p i xs B m d q j ys)
  case first =>
    cases b
    · have HH := Lib.hid (HB.out.1 rfl)
      clear HB
      go_wp2_with fail
      go_meet
      exact ⟨D, rfl, by omega, by omega, ⟨fun _ => rfl, fun h => absurd HH.out h⟩, P.out⟩
    · have HH := Lib.hid (show ¬ (Cv.Fin ⟨xs, p, i⟩ ∧ Cv.Fin ⟨ys, q, j⟩) from fun h => by have := HB.out.2 h; cases this)
      clear HB
      go_wp2_with fail
      go_meet
      exact ⟨0, rfl, by omega, by omega, ⟨fun h => absurd h HH.out, fun _ => rfl⟩, P.out⟩
  case rest =>
  as_aux_lemma =>
  clear P HB
  clear f0 f1 f2 g0 g1 g2 hlf hlg
  obtain ⟨G, rfl, hG1, hG2, hG, hP⟩ := hcut
  have P := Lib.hid hP; have HGG := Lib.hid hG.out
  clear hP hG
  go_wp2_with fail
  go_loopg [11, 10] (M + C) (fun gg s11 s10 wx => ∃ (k : Nat) (L : Int), k + gg = M + C ∧ s11 = .int .i64 k ∧ s10 = .int .i64 L ∧ -1 ≤ L ∧ L ≤ 461168601842738790 ∧ Hid ((Cv.Fin ⟨xs, p, i⟩ ∧ Cv.Fin ⟨ys, q, j⟩ → D ≤ 0) → SeR ⟨xs, p, i⟩ ⟨ys, q, j⟩ k L) ∧ PS w wx A n c p i xs B m d q j ys)
  case atStart => exact ⟨0, -1, by omega, rfl, rfl, by omega, by omega, fun _ => SeR.zero _ _, P.out⟩
  case round =>
    as_aux_lemma =>
    clear P
    obtain ⟨k, L, hkg, rfl, rfl, hL0, hL1, hse, hP⟩ := hrel
    have P := Lib.hid hP; have HSE := Lib.hid hse.out
    clear hP hse
    obtain ⟨f0, f1, f2, g0, g1, g2, hlf, hlg⟩ := P.out.cells
    have hkT : k ≤ M + C := by omega
    by_cases hlt : k < M + C
    · have hlti : (k : Int) < (M : Int) + (C : Int) := by omega
      obtain ⟨v, hv⟩ : ∃ v, v = abv ⟨xs, p, i⟩ ⟨ys, q, j⟩ k := ⟨_, rfl⟩
      have hkb : k ≤ 20000 := by omega
      have hvp := abv_pos HF.out HG.out hkb
      have hvb := abv_bd HF.out HG.out hkb
      rw [← hv] at hvp hvb
      have HV := Lib.hid hv; have HVP := Lib.hid hvp
      clear hv hvp
      go_wp2_with fail
      refine (refAbove_any A B n m c d p i q j xs ys _ P.out.ia P.out.ib k HF.out HG.out (by omega) (by omega)).mono ?_
      rw [Int.toNat_natCast, ← HV.out]
      rintro e w4 ⟨rfl, hbq⟩
      as_aux_lemma =>
      have P := Lib.hid (P.out.below (by first | exact hbq | exact bofdrew hbq))
      clear hbq
      clear f0 f1 f2 g0 g1 g2 hlf hlg
      obtain ⟨f0, f1, f2, g0, g1, g2, hlf, hlg⟩ := P.out.cells
      by_cases hv0 : v ≤ 0
      · have dv : decide (v ≤ 0) = true := by simpa using hv0
        have F := Lib.hid (show (Cv.Fin ⟨xs, p, i⟩ ∧ Cv.Fin ⟨ys, q, j⟩ → D ≤ 0) → SeR ⟨xs, p, i⟩ ⟨ys, q, j⟩ (k + 1) L from fun h => (HSE.out h).no HF.out HG.out hkb (fun hu => by have := HVP.out.2 hu; omega) (fun hfin _ => by rw [← HD.out]; exact h hfin))
        clear hv0
        go_wp2_with fail
        go_roundg (gk - 1)
        case measure => omega
        case rel => exact ⟨k + 1, L, by omega, by go_num, rfl, hL0, hL1, F.out, P.out⟩
      · have dv : decide (v ≤ 0) = false := by simpa using hv0
        have hu := HVP.out.1 (by omega)
        have HU := Lib.hid hu
        clear hu
        by_cases hkM : k < M
        · have dkM : decide (k < M) = true := by simpa using hkM
          have hkMi : (k : Int) < (M : Int) := by omega
          obtain ⟨X, hX⟩ : ∃ X, X = max L (k : Int) := ⟨_, rfl⟩
          have hmx : (if L < (k : Int) then (k : Int) else L) = X := by rw [hX]; split <;> omega
          have hX1 : -1 ≤ X := by omega
          have hX2 : X ≤ 461168601842738790 := by omega
          have F := Lib.hid (show (Cv.Fin ⟨xs, p, i⟩ ∧ Cv.Fin ⟨ys, q, j⟩ → D ≤ 0) → SeR ⟨xs, p, i⟩ ⟨ys, q, j⟩ (k + 1) X from fun h => by rw [hX]; exact (HSE.out h).early HF.out HG.out (by rw [← HM.out]; exact hkM) hkb HU.out)
          clear hX hkM hv0
          go_wp2_with fail
          go_roundg (gk - 1)
          case measure => omega
          case rel => exact ⟨k + 1, X, by omega, by go_num, rfl, hX1, hX2, F.out, P.out⟩
        · have dkM : decide (k < M) = false := by simpa using hkM
          have hkMi : ¬ ((k : Int) < (M : Int)) := by omega
          by_cases hG0 : 0 ≤ G
          · have dG : decide (0 ≤ G) = true := by simpa using hG0
            have F := Lib.hid (se2_never HF.out HG.out (by rw [← HM.out]; omega) hkb (.inl ⟨HU.out, fun h => by have := HGG.out.1 h; rw [← HD.out]; omega⟩))
            have bw := P.out.bw
            clear hG0 hv0
            go_wp2_with fail
            refine bodyPost_ret (v := .tuple #[.int .i64 0, .bool false, .int .i64 0]) (by simp [results, Try.results32, go_sem]) rfl ?_
            exact ⟨0, false, 0, .inl ⟨HF.out, HG.out, rfl, F.out⟩, rfl, bw⟩
          · have dG : decide (0 ≤ G) = false := by simpa using hG0
            have hfin : Cv.Fin ⟨xs, p, i⟩ ∧ Cv.Fin ⟨ys, q, j⟩ := by
              rcases Classical.em (Cv.Fin ⟨xs, p, i⟩ ∧ Cv.Fin ⟨ys, q, j⟩) with h | h
              · exact h
              · have := HGG.out.2 h; omega
            have hGD := HGG.out.1 hfin
            have hvd : dif ⟨xs, p, i⟩ ⟨ys, q, j⟩ k = v := by rw [HV.out, abv_fin hfin.1 hfin.2 hkb]
            have hdb := dif_bd hfin.1 hfin.2 (n := k) (by omega)
            rw [hvd] at hdb
            have hq0 : 0 ≤ (v - 1) / -G := Int.ediv_nonneg (by omega) (by omega)
            have hq1 : (v - 1) / -G ≤ v - 1 := Int.ediv_le_self _ (by omega)
            have ed : -((v - 1).tdiv G) = (v - 1) / -G := by rw [← Int.tdiv_neg]; exact Int.tdiv_eq_ediv_of_nonneg (by omega)
            obtain ⟨u, hu⟩ := Int.eq_ofNat_of_zero_le hq0
            rw [hu] at ed hq1
            have hucc : u * C ≤ 30000000000000 * 14400 := Nat.mul_le_mul (by omega) hc2
            obtain ⟨T, hT⟩ : ∃ T, T = k + u * C := ⟨_, rfl⟩
            have huc2 : (u : Int) * (C : Int) = ((u * C : Nat) : Int) := by simp
            have hTI : (k : Int) + (u : Int) * (C : Int) = T := by rw [hT, huc2]; omega
            have hub : (u : Int) ≤ 30000000000000 := by omega
            have hm1 : (u : Int) * (C : Int) ≤ 432000000000000000 := by rw [huc2]; omega
            have hm0 : 0 ≤ (u : Int) * (C : Int) := by rw [huc2]; omega
            have hTb : (T : Int) ≤ 461168601842738790 := by omega
            have hGn : G ≠ 0 := by omega
            have hGn2 : -G ≠ 0 := by omega
            obtain ⟨X, hX⟩ : ∃ X, X = max L (T : Int) := ⟨_, rfl⟩
            have hmx : (if L < (T : Int) then (T : Int) else L) = X := by rw [hX]; split <;> omega
            have hX1 : -1 ≤ X := by omega
            have hX2 : X ≤ 461168601842738790 := by omega
            have F := Lib.hid (show (Cv.Fin ⟨xs, p, i⟩ ∧ Cv.Fin ⟨ys, q, j⟩ → D ≤ 0) → SeR ⟨xs, p, i⟩ ⟨ys, q, j⟩ (k + 1) X from fun h => by
              rw [hX]
              exact (HSE.out h).late hfin.1 hfin.2 (by rw [← HM.out]; omega) hkb HU.out (by rw [← HD.out]; omega) (T := T) (by rw [hvd, ← HD.out, ← hGD, hu, Int.toNat_natCast, ← HC.out, hT]) hTb)
            clear hX hkM hq0 hq1 hu hucc hT huc2 hfin hGD hvd
            go_wp2_with fail
            go_roundg (gk - 1)
            case measure => omega
            case rel => exact ⟨k + 1, X, by omega, by go_num, rfl, hX1, hX2, F.out, P.out⟩
    · have hkT2 : k = M + C := by omega
      have hge : ¬ ((k : Int) < (M : Int) + (C : Int)) := by omega
      have F := Lib.hid HSE.out
      rw [hkT2, HM.out, HC.out] at F
      clear hlt
      go_wp2_with fail
      refine (refFinite_any A n c p i xs _ P.out.ia (by omega)).mono ?_
      rintro e w4 ⟨rfl, hbq⟩
      as_aux_lemma =>
      have P := Lib.hid (P.out.below (by first | exact hbq | exact bofdrew hbq))
      clear hbq
      clear f0 f1 f2 g0 g1 g2 hlf hlg
      obtain ⟨f0, f1, f2, g0, g1, g2, hlf, hlg⟩ := P.out.cells
      clear hge
      have bw := P.out.bw
      by_cases hff : Cv.finB ⟨xs, p, i⟩ = true
      · rw [hff]
        have FF := Lib.hid (finB_iff.1 hff)
        clear hff
        go_wp2_with fail
        refine (refFinite_any B m d q j ys _ P.out.ib (by omega)).mono ?_
        rintro e w5 ⟨rfl, hbq⟩
        have P := Lib.hid (P.out.below (by first | exact hbq | exact bofdrew hbq))
        clear hbq
        clear f0 f1 f2 g0 g1 g2 hlf hlg
        obtain ⟨f0, f1, f2, g0, g1, g2, hlf, hlg⟩ := P.out.cells
        clear bw
        have bw := P.out.bw
        by_cases hgg : Cv.finB ⟨ys, q, j⟩ = true
        · rw [hgg]
          have GF := Lib.hid (finB_iff.1 hgg)
          have hGD := HGG.out.1 ⟨FF.out, GF.out⟩
          clear hgg
          by_cases hG0 : 0 < G
          · have dG : decide (0 < G) = true := by simpa using hG0
            have F2 := Lib.hid (se2_never HF.out HG.out (k := M) (by rw [HM.out]; omega) (by omega) (.inr ⟨FF.out, GF.out, by rw [← HD.out, ← hGD]; exact hG0⟩))
            clear hG0 hGD
            go_wp2_with fail
            refine bodyPost_ret (v := .tuple #[.int .i64 0, .bool false, .int .i64 0]) (by simp [results, Try.results32, go_sem]) rfl ?_
            exact ⟨0, false, 0, .inl ⟨HF.out, HG.out, rfl, F2.out⟩, rfl, bw⟩
          · have dG : decide (0 < G) = false := by simpa using hG0
            have F2 := Lib.hid ((F.out (fun _ => by omega)).done HF.out HG.out (by rw [← HM.out]; exact hM4))
            clear hG0 hGD
            go_wp2_with fail
            refine bodyPost_ret (v := .tuple #[.int .i64 (L + 1), .bool true, .int .i64 0]) (by simp [results, Try.results32, go_sem]) rfl ?_
            exact ⟨L + 1, true, 0, .inl ⟨HF.out, HG.out, rfl, F2.out⟩, rfl, bw⟩
        · rw [show Cv.finB ⟨ys, q, j⟩ = false by simpa using hgg]
          have F2 := Lib.hid ((F.out (fun h => absurd (finB_iff.2 h.2) hgg)).done HF.out HG.out (by rw [← HM.out]; exact hM4))
          clear hgg
          go_wp2_with fail
          refine bodyPost_ret (v := .tuple #[.int .i64 (L + 1), .bool true, .int .i64 0]) (by simp [results, Try.results32, go_sem]) rfl ?_
          exact ⟨L + 1, true, 0, .inl ⟨HF.out, HG.out, rfl, F2.out⟩, rfl, bw⟩
      · rw [show Cv.finB ⟨xs, p, i⟩ = false by simpa using hff]
        have F2 := Lib.hid ((F.out (fun h => absurd (finB_iff.2 h.1) hff)).done HF.out HG.out (by rw [← HM.out]; exact hM4))
        clear hff
        go_wp2_with fail
        refine bodyPost_ret (v := .tuple #[.int .i64 (L + 1), .bool true, .int .i64 0]) (by simp [results, Try.results32, go_sem]) rfl ?_
        exact ⟨L + 1, true, 0, .inl ⟨HF.out, HG.out, rfl, F2.out⟩, rfl, bw⟩

theorem refSettles_any (A B : Option Addr) (n m c d : Nat) (p i q j : Int) (xs ys : List Int) (w : World) (hA : Ints w w.heap.size A n xs) (hB : Ints w w.heap.size B m ys) (hn : (n : Int) ≤ 1000000) (hm : (m : Int) ≤ 1000000) :
    Calls Try.prog 32 #[.agg #[.slice A n c, .int .i64 p, .int .i64 i], .agg #[.slice B m d, .int .i64 q, .int .i64 j]] w (RetE (fun t ok => SeS (Up ⟨xs, p, i⟩ ⟨ys, q, j⟩) t ok) ⟨xs, p, i⟩ ⟨ys, q, j⟩ w) := by
  by_cases h : Cv.Ok ⟨xs, p, i⟩ ∧ Cv.Ok ⟨ys, q, j⟩
  · exact refSettles_ok A B n m c d p i q j xs ys w hA hB h.1 h.2
  · exact refSettles_bad A B n m c d p i q j xs ys w hA hB hn hm h _

/-- what the reference of Meets returns -/
def MeR (f g : Cv) (t : Int) (ok : Bool) : Prop := ∃ a b ok1 ok2, SeS (Up f g) a ok1 ∧ SeS (Up g f) b ok2 ∧ ok = (ok1 && ok2) ∧ t = if (ok1 && ok2) = true then max a b else 0

theorem SeS.bound {U : Nat → Prop} {t : Int} {ok : Bool} (h : SeS U t ok) : 0 ≤ t := by
  rcases h with ⟨_, n, rfl, _⟩ | ⟨_, rfl, _⟩ <;> omega

theorem refMeets_any (A B : Option Addr) (n m c d : Nat) (p i q j : Int) (xs ys : List Int) (w : World) (hA : Ints w w.heap.size A n xs) (hB : Ints w w.heap.size B m ys) (hn : (n : Int) ≤ 1000000) (hm : (m : Int) ≤ 1000000) :
    Calls Try.prog 34 #[.agg #[.slice A n c, .int .i64 p, .int .i64 i], .agg #[.slice B m d, .int .i64 q, .int .i64 j]] w (RetE (MeR ⟨xs, p, i⟩ ⟨ys, q, j⟩) ⟨xs, p, i⟩ ⟨ys, q, j⟩ w) := by
  have P := Lib.hid (PS.new (c := c) (p := p) (i := i) (d := d) (q := q) (j := j) hA hB)
  clear hA hB
  go_enter Try.func34, Try.ntmps34
  obtain ⟨f0, f1, f2, g0, g1, g2, hlf, hlg⟩ := P.out.cells
  go_wp2_with fail
  refine (refSettles_any A B n m c d p i q j xs ys _ P.out.ia P.out.ib hn hm).mono ?_
  rintro e w1 ⟨a, ok1, er1, hS1, rfl, hbq⟩
  have P := Lib.hid (P.out.below (by first | exact hbq | exact bofdrew hbq))
  clear hbq
  clear f0 f1 f2 g0 g1 g2 hlf hlg
  obtain ⟨f0, f1, f2, g0, g1, g2, hlf, hlg⟩ := P.out.cells
  have HS1 := Lib.hid hS1
  clear hS1
  go_wp2_with fail
  refine (refSettles_any B A m n d c q j p i ys xs _ P.out.ib P.out.ia hm hn).mono ?_
  rintro e w2 ⟨b, ok2, er2, hS2, rfl, hbq⟩
  have P := Lib.hid (P.out.below (by first | exact hbq | exact bofdrew hbq))
  clear hbq
  clear f0 f1 f2 g0 g1 g2 hlf hlg
  obtain ⟨f0, f1, f2, g0, g1, g2, hlf, hlg⟩ := P.out.cells
  have bw := P.out.bw
  rcases HS1.out with ⟨hf, hg, rfl, hx⟩ | ⟨hno, rfl, rfl, rfl⟩
  · rcases hS2 with ⟨_, _, rfl, hy⟩ | ⟨hno, _⟩
    · have HX := Lib.hid hx; have HY := Lib.hid hy
      have FF := Lib.hid hf; have GG := Lib.hid hg
      clear hx hy hf hg HS1
      cases ok1
      · go_wp2_with fail
        refine bodyPost_ret (v := .tuple #[.int .i64 0, .bool false, .int .i64 0]) (by simp [results, Try.results34, go_sem]) rfl ?_
        exact ⟨0, false, 0, .inl ⟨FF.out, GG.out, rfl, a, b, false, ok2, HX.out, HY.out, rfl, rfl⟩, rfl, bw⟩
      · cases ok2
        · go_wp2_with fail
          refine bodyPost_ret (v := .tuple #[.int .i64 0, .bool false, .int .i64 0]) (by simp [results, Try.results34, go_sem]) rfl ?_
          exact ⟨0, false, 0, .inl ⟨FF.out, GG.out, rfl, a, b, true, false, HX.out, HY.out, rfl, rfl⟩, rfl, bw⟩
        · obtain ⟨X, hX⟩ : ∃ X, X = max a b := ⟨_, rfl⟩
          have hmx : (if a < b then b else a) = X := by rw [hX]; split <;> omega
          have HXX := Lib.hid hX
          clear hX
          go_wp2_with fail
          refine bodyPost_ret (v := .tuple #[.int .i64 X, .bool true, .int .i64 0]) (by simp [results, Try.results34, go_sem]) rfl ?_
          exact ⟨X, true, 0, .inl ⟨FF.out, GG.out, rfl, a, b, true, true, HX.out, HY.out, rfl, HXX.out⟩, rfl, bw⟩
    · exact absurd ⟨hg, hf⟩ hno
  · rcases hS2 with ⟨h1, h2, _⟩ | ⟨hno2, rfl, rfl, rfl⟩
    · exact absurd ⟨h2, h1⟩ hno
    · have HN := Lib.hid hno
      clear hno hno2 HS1
      go_wp2_with fail
      refine bodyPost_ret (v := .tuple #[.int .i64 0, .bool false, .int .i64 1]) (by simp [results, Try.results34, go_sem]) rfl ?_
      exact ⟨0, false, 1, .inr ⟨HN.out, rfl, rfl, rfl⟩, rfl, bw⟩
end Go.Proofs.Yteddogbhofhlaaa
