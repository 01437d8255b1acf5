/- Package order, the fourth part: Settles. -/
import Derived.Test.YteddogbhofhlaaaOrder3
namespace Go.Proofs.Yteddogbhofhlaaa
open Go.RowKit
set_option linter.unusedVariables false

attribute [local go_sem ↓] load_fold store_fold

/-- one curve is no curve -/
theorem settles_bad (A B : Option Addr) (n m c d : Nat) (p i q j : Int) (xs ys : List Int) (w : World) (hA : Ints w w.heap.size A n xs) (hB : Ints w w.heap.size B m ys) (hn : (n : Int) ≤ 1000000) (hm : (m : Int) ≤ 1000000) (hbad : ¬ (Cv.Ok ⟨xs, p, i⟩ ∧ Cv.Ok ⟨ys, q, j⟩)) (S : Int → Bool → Prop) :
    Calls Try.prog 31 #[.agg #[.slice A n c, .int .i64 p, .int .i64 i], .agg #[.slice B m d, .int .i64 q, .int .i64 j]] w (RetE S ⟨xs, p, i⟩ ⟨ys, q, j⟩ w) := by
  have P0 := Lib.hid (PS.new (c := c) (p := p) (i := i) (d := d) (q := q) (j := j) hA hB)
  have HBAD := Lib.hid hbad
  clear hA hB hbad
  go_enter Try.func31, Try.ntmps31
  go_wp2_with fail
  refine (both_bad A B n m c d p i q j xs ys _ P0.out.ia P0.out.ib hn hm HBAD.out).mono ?_
  unfold pairV
  rintro e w1 ⟨rfl, hb⟩
  have P1 := Lib.hid (P0.out.below hb)
  obtain ⟨w3, hst, sto, pb⟩ := run_storeP (Blk.new w1 68 #[.slice none 0 0, .int .i64 0, .int .i64 0, .slice none 0 0, .int .i64 0, .int .i64 0, .int .i64 0, .int .i64 0, .int .i64 0, .bool false]) (a0 := .slice none 0 0) (a1 := .int .i64 0) (a2 := .int .i64 0) (a3 := .slice none 0 0) (a4 := .int .i64 0) (a5 := .int .i64 0) (a6 := .int .i64 0) (a7 := .int .i64 0) (a8 := .int .i64 0) (a9 := .bool false) (by simp [Value.oneCell'])
  have bw := bsto (oball P1.out.bw _) sto P1.out.bw.size
  clear P0 P1 hb sto pb
  have BW := Lib.hid bw
  clear bw
  go_wp2_with fail
  refine bodyPost_ret (v := .tuple #[.int .i64 0, .bool false, .int .i64 1]) (by simp [results, Try.results31, go_sem]) rfl ?_
  exact ⟨0, false, 1, .inr ⟨HBAD.out, rfl, rfl, rfl⟩, rfl, BW.out⟩

set_option maxHeartbeats 4000000 in
set_option maxRecDepth 100000 in
theorem settles_ok (A B : Option Addr) (n m c d : Nat) (p i q j : Int) (xs ys : List Int) (w : World) (hA : Ints w w.heap.size A n xs) (hB : Ints w w.heap.size B m ys) (hf : Cv.Ok ⟨xs, p, i⟩) (hg : Cv.Ok ⟨ys, q, j⟩) :
    Calls Try.prog 31 #[.agg #[.slice A n c, .int .i64 p, .int .i64 i], .agg #[.slice B m d, .int .i64 q, .int .i64 j]] w (RetE (fun t ok => SeS (Up ⟨xs, p, i⟩ ⟨ys, q, j⟩) t ok) ⟨xs, p, i⟩ ⟨ys, q, j⟩ w) := by
  have P0 := Lib.hid (PS.new (c := c) (p := p) (i := i) (d := d) (q := q) (j := j) hA hB)
  have OB := ord_b hf hg
  have hfr := OB.f0; have hc1 := OB.c1; have hc2 := OB.c2; have hd1 := OB.d1; have hd2 := OB.d2
  have hn := hf.n2; have hm := hg.n2; have hn1 := hf.n1; have hm1 := hg.n1
  have hl := hA.1; have hl2 := hB.1
  have hfin : (nth xs (n - 1) != inf && nth ys (m - 1) != inf) = true ↔ (Cv.Fin ⟨xs, p, i⟩ ∧ Cv.Fin ⟨ys, q, j⟩) := by
    unfold Cv.Fin
    simp only [hl, hl2, Bool.and_eq_true, bne_iff_ne]
    exact ⟨fun h => ⟨⟨hf, h.1⟩, ⟨hg, h.2⟩⟩, fun h => ⟨h.1.2, h.2.2⟩⟩
  simp only [hl, hl2] at hn hm hn1 hm1
  have HBO := fun w hA hB => both_ok A B n m c d p i q j xs ys w hA hB hf hg
  obtain ⟨fn, hfn⟩ : ∃ fn, fn = (nth xs (n - 1) != inf && nth ys (m - 1) != inf) := ⟨_, rfl⟩
  obtain ⟨fr, hfre⟩ : ∃ fr, fr = ordF ⟨xs, p, i⟩ ⟨ys, q, j⟩ := ⟨_, rfl⟩
  obtain ⟨cc, hcce⟩ : ∃ cc, cc = ordC ⟨xs, p, i⟩ ⟨ys, q, j⟩ := ⟨_, rfl⟩
  obtain ⟨dd, hdde⟩ : ∃ dd, dd = ordD ⟨xs, p, i⟩ ⟨ys, q, j⟩ := ⟨_, rfl⟩
  rw [← hfre] at hfr
  rw [← hcce] at hc1 hc2
  rw [← hdde] at hd1 hd2
  simp only [← hfn, ← hfre, ← hcce, ← hdde] at HBO
  rw [← hfn] at hfin
  have HF := Lib.hid hf; have HG := Lib.hid hg; have HFIN := Lib.hid hfin; have HFR := Lib.hid hfre; have HCC := Lib.hid hcce; have HDD := Lib.hid hdde; have HB := Lib.hid HBO
  have HAL := Lib.hid (show ∀ b off s, A = some ⟨b, off, s⟩ → b < w.heap.size from fun b off s e => by obtain ⟨b', off', e', hb, _⟩ := hA.2 (by omega); rw [e] at e'; cases e'; exact hb)
  have HBL := Lib.hid (show ∀ b off s, B = some ⟨b, off, s⟩ → b < w.heap.size from fun b off s e => by obtain ⟨b', off', e', hb, _⟩ := hB.2 (by omega); rw [e] at e'; cases e'; exact hb)
  clear hA hB hf hg hfin hfre hcce hdde hfn HBO hl hl2 OB
  go_enter Try.func31, Try.ntmps31
  go_wp2_with fail
  refine (HB.out _ P0.out.ia P0.out.ib).mono ?_
  unfold pairV
  rintro e w1 ⟨rfl, hb⟩
  as_aux_lemma =>
  have P1 := Lib.hid (P0.out.below hb)
  obtain ⟨w3, hst, sto, pb⟩ := run_storeP (Blk.new w1 68 #[.slice none 0 0, .int .i64 0, .int .i64 0, .slice none 0 0, .int .i64 0, .int .i64 0, .int .i64 0, .int .i64 0, .int .i64 0, .bool false]) (a0 := .slice A n c) (a1 := .int .i64 p) (a2 := .int .i64 i) (a3 := .slice B m d) (a4 := .int .i64 q) (a5 := .int .i64 j) (a6 := .int .i64 fr) (a7 := .int .i64 cc) (a8 := .int .i64 dd) (a9 := .bool fn) (by simp [Value.oneCell'])
  have hP1 : w.heap.size + 1 < w1.heap.size := P1.out.gb.lt
  have P3 := Lib.hid ((P1.out.alloc _).sto sto hP1 (fun b off s e => by have := HAL.out b off s e; omega) (fun b off s e => by have := HBL.out b off s e; omega))
  have PP := Lib.hid pb
  clear P0 P1 hb sto pb
  have p0 := PP.out.cell 0; have p1 := PP.out.cell 1; have p2 := PP.out.cell 2; have p3 := PP.out.cell 3; have p4 := PP.out.cell 4; have p5 := PP.out.cell 5; have p6 := PP.out.cell 6; have p7 := PP.out.cell 7; have p8 := PP.out.cell 8; have p9 := PP.out.cell 9
  simp at p0 p1 p2 p3 p4 p5 p6 p7 p8 p9
  have qz := P3.out.cells
  obtain ⟨f0, f1, f2, g0, g1, g2, hlf, hlg⟩ := qz
  have hlp := PP.out.lt
  go_wp2_with fail
  clear hst p0 p1 p2 p3 p4 p5 p6 p7 p8 p9 f0 f1 f2 g0 g1 g2 hlf hlg hlp
  go_loopg [26, 9] (fr + 1) (fun g t s9 wx => ∃ (k : Nat) (L : Int), k + g = fr + 1 ∧ t = .int .i64 k ∧ s9 = .int .i64 L ∧ Hid (SeL ⟨xs, p, i⟩ ⟨ys, q, j⟩ k L) ∧ Below w3.heap.size w3 wx)
  case atStart => exact ⟨0, -1, by omega, rfl, rfl, SeL.zero _ _, Below.refl _ _⟩
  case round =>
    as_aux_lemma =>
    obtain ⟨k, L, hkg, rfl, rfl, hno, bx⟩ := hrel
    have HNO := Lib.hid hno; clear hno
    have hL0 := HNO.out.out.lo; have hL1 := HNO.out.out.hi
    have PX := Lib.hid (P3.out.below bx); have PPX := Lib.hid (PP.out.below bx PP.out.lt)
    have BX := Lib.hid bx
    clear P3 PP bx
    by_cases hlt : k < fr + 1
    · have hlti : (k : Int) < (fr : Int) + 1 := by omega
      have hst := run_loadP PPX.out
      go_wp2_with fail
      refine (above_any A B n m c d p i q j fr cc dd fn xs ys k _ PX.out.ia PX.out.ib HF.out HG.out (by omega) (by omega)).mono ?_
      rw [Int.toNat_natCast]
      rintro e w4 ⟨rfl, hb⟩
      by_cases hab : Cv.at ⟨ys, q, j⟩ k < Cv.at ⟨xs, p, i⟩ k
      · rw [decide_eq_true hab]
        have F := Lib.hid (HNO.out.out.yes hab)
        clear hab
        go_wp2_with fail
        go_roundg (gk - 1)
        case measure => omega
        case rel => exact ⟨k + 1, k, by omega, by go_num, rfl, F.out, bthen BX.out hb⟩
      · rw [decide_eq_false hab]
        have F := Lib.hid (HNO.out.out.no hab)
        clear hab
        go_wp2_with fail
        go_roundg (gk - 1)
        case measure => omega
        case rel => exact ⟨k + 1, L, by omega, by go_num, rfl, F.out, bthen BX.out hb⟩
    · have hkf : k = fr + 1 := by omega
      clear hlt hkg
      subst hkf
      have qz := PX.out.cells
      obtain ⟨f0, f1, f2, g0, g1, g2, hlf, hlg⟩ := qz
      have p6 := PPX.out.cell 6; have p7 := PPX.out.cell 7; have p8 := PPX.out.cell 8; have p9 := PPX.out.cell 9
      simp at p6 p7 p8 p9
      have hlp := PPX.out.lt
      have bwx := PX.out.bw
      cases fn
      case false =>
        have hsi := se_inf HF.out HG.out (fun h => by have := HFIN.out.2 h; simp at this) (by rw [← HFR.out]; exact HNO.out.out)
        rw [← HFR.out] at hsi
        by_cases hLf : L = fr
        · have F := Lib.hid (hsi.1 hLf)
          have hb1 : (L == (fr : Int)) = true := by simpa using hLf
          clear hsi hLf
          go_wp2_with fail
          refine bodyPost_ret (v := .tuple #[.int .i64 0, .bool false, .int .i64 0]) (by simp [results, Try.results31, go_sem]) rfl ?_
          exact ⟨0, false, 0, .inl ⟨HF.out, HG.out, rfl, F.out⟩, rfl, bwx⟩
        · have F := Lib.hid (hsi.2 hLf)
          have hb1 : (L == (fr : Int)) = false := by simpa using hLf
          clear hsi hLf
          go_wp2_with fail
          refine bodyPost_ret (v := .tuple #[.int .i64 (L + 1), .bool true, .int .i64 0]) (by simp [results, Try.results31, go_sem]) rfl ?_
          exact ⟨L + 1, true, 0, .inl ⟨HF.out, HG.out, rfl, F.out⟩, rfl, bwx⟩
      case true =>
        as_aux_lemma =>
        have FF := Lib.hid (HFIN.out.1 rfl)
        have HP := Lib.hid (ord_per FF.out.1 FF.out.2)
        rw [← HFR.out, ← HCC.out, ← HDD.out] at HP
        have HS0 := Lib.hid (se_start FF.out.1 FF.out.2 (by rw [← HFR.out]; exact HNO.out.out))
        rw [← HFR.out, ← HCC.out] at HS0
        go_wp2_with fail
        clear f0 f1 f2 g0 g1 g2 hlf hlg p6 p7 p8 p9 hlp bwx
        go_loopg [45, 9] cc (fun g s45 s9 wy => ∃ (r : Nat) (L : Int), r + g = cc ∧ s45 = .int .i64 r ∧ s9 = .int .i64 L ∧ L ≤ 2305843009213693952 ∧ Hid (SeI (dif ⟨xs, p, i⟩ ⟨ys, q, j⟩) fr cc r L) ∧ Hid (0 < r → dd ≤ 0) ∧ Below wr.heap.size wr wy)
        case atStart => exact ⟨0, L, by omega, rfl, rfl, by omega, HS0.out, (fun h => by omega), Below.refl _ _⟩
        case round =>
          as_aux_lemma =>
          obtain ⟨r, L, hrg, rfl, rfl, hL1, hse, hdn, by_⟩ := hrel
          have HSE := Lib.hid hse; have HDN := Lib.hid hdn
          have PY := Lib.hid (PX.out.below by_); have PPY := Lib.hid (PPX.out.below by_ PPX.out.lt); have BY := Lib.hid by_
          have hL0 := HSE.out.out.lo
          clear PX PPX hse by_ hdn
          have qz := PY.out.cells
          obtain ⟨f0, f1, f2, g0, g1, g2, hlf, hlg⟩ := qz
          have p6 := PPY.out.cell 6; have p7 := PPY.out.cell 7; have p8 := PPY.out.cell 8
          simp at p6 p7 p8
          have hlp := PPY.out.lt
          by_cases hlt : r < cc
          · have hlti : (r : Int) < (cc : Int) := by omega
            have hdb := dif_bd FF.out.1 FF.out.2 (n := fr + r) (by omega)
            obtain ⟨x, hx⟩ : ∃ x, x = Cv.at ⟨xs, p, i⟩ (fr + r) := ⟨_, rfl⟩
            obtain ⟨y, hy⟩ : ∃ y, y = Cv.at ⟨ys, q, j⟩ (fr + r) := ⟨_, rfl⟩
            have hxb := at_inf_bd HF.out (n := fr + r) (by omega)
            have hyb := at_inf_bd HG.out (n := fr + r) (by omega)
            rw [← hx] at hxb
            rw [← hy] at hyb
            obtain ⟨dv, hdv⟩ : ∃ dv, dv = x - y := ⟨_, rfl⟩
            have hdv2 : dif ⟨xs, p, i⟩ ⟨ys, q, j⟩ (fr + r) = dv := by rw [hdv, hx, hy]; rfl
            rw [hdv2] at hdb
            have e0 : IntKind.i64.wrap (x - y) = dv := by rw [hdv]; exact IntWalk.i64_in _ (by omega)
            have HX := Lib.hid hx; have HY := Lib.hid hy; have DV2 := Lib.hid hdv2; have DV := Lib.hid hdv
            have TN := Lib.hid (show ((fr : Int) + (r : Int)).toNat = fr + r by omega)
            clear hx hy hdv2 hdv
            go_upto_region 19 with fail
            go_cut [13] (fun s13 wz => s13 = .int .i64 dv ∧ Below wr.heap.size wr wz)
            case first =>
              clear p6 p7 p8 hlp
              have PZ := PY; have BZ := Lib.hid (Below.refl wr.heap.size wr)
              have hp1 := HF.out.p1; have hpn := HF.out.pn; have hi1 := HF.out.i1; have hi2 := HF.out.i2
              have hq1 := HG.out.p1; have hqm := HG.out.pn; have hj1 := HG.out.i1; have hj2 := HG.out.i2
              simp only [PY.out.ia.1, PY.out.ib.1] at hp1 hpn hi1 hi2 hq1 hqm hj1 hj2
              have NFx := Lib.hid HF.out.nn; have NGx := Lib.hid HG.out.nn
              go_region_held3 (fun w' => w'.cell? ⟨w.heap.size, 0, none⟩ = some (.slice A n c) ∧ w'.cell? ⟨w.heap.size, 1, none⟩ = some (.int .i64 p) ∧ w'.cell? ⟨w.heap.size, 2, none⟩ = some (.int .i64 i) ∧
      w'.cell? ⟨w.heap.size + 1, 0, none⟩ = some (.slice B m d) ∧ w'.cell? ⟨w.heap.size + 1, 1, none⟩ = some (.int .i64 q) ∧ w'.cell? ⟨w.heap.size + 1, 2, none⟩ = some (.int .i64 j)) (first | go_keep)
                (first
                  | (go_at_call_of 60 (Value.agg #[.slice A n c, .int .i64 p, .int .i64 i])
                     refine (at_any A n c p i _ xs _ (by exact PZ.out.ia) (by omega) (by omega) (by omega) (by omega) (by omega) NFx.out (by omega) (by omega)).mono ?_
                     rw [TN.out, ← HX.out]
                     rintro e wq ⟨rfl, hb⟩
                     have PZ := Lib.hid (PZ.out.below (by first | exact hb | exact bofdrew hb))
                     have BZ := Lib.hid (bthen BZ.out (by first | exact hb | exact bofdrew hb))
                     clear f0 f1 f2 g0 g1 g2 hlf hlg hb
                     have qz := PZ.out.cells
                     obtain ⟨f0, f1, f2, g0, g1, g2, hlf, hlg⟩ := qz)
                  | (go_at_call_of 60 (Value.agg #[.slice B m d, .int .i64 q, .int .i64 j])
                     refine (at_any B m d q j _ ys _ (by exact PZ.out.ib) (by omega) (by omega) (by omega) (by omega) (by omega) NGx.out (by omega) (by omega)).mono ?_
                     rw [TN.out, ← HY.out]
                     rintro e wq ⟨rfl, hb⟩
                     have PZ := Lib.hid (PZ.out.below (by first | exact hb | exact bofdrew hb))
                     have BZ := Lib.hid (bthen BZ.out (by first | exact hb | exact bofdrew hb))
                     clear f0 f1 f2 g0 g1 g2 hlf hlg hb
                     have qz := PZ.out.cells
                     obtain ⟨f0, f1, f2, g0, g1, g2, hlf, hlg⟩ := qz))
              all_goals
                go_wp2_with fail
                go_meet
                exact ⟨by rw [DV.out], BZ.out⟩
            case rest =>
              as_aux_lemma =>
              obtain ⟨rfl, bz⟩ := hcut
              have BZ := Lib.hid bz
              have pz := PPY.out.below bz PPY.out.lt
              have hlz := pz.lt
              have bwz := bthen PY.out.bw bz
              clear f0 f1 f2 g0 g1 g2 hlf hlg p6 p7 p8 hlp e0 bz
              have p6 := pz.cell 6; have p7 := pz.cell 7; have p8 := pz.cell 8
              simp at p6 p7 p8
              have NEV := Lib.hid (fun h => se_never FF.out.1 FF.out.2 (n := fr + r) (by rw [← HFR.out]; omega) h)
              rw [DV2.out, ← HDD.out] at NEV
              by_cases hd0 : 0 < dv
              · by_cases hD0 : 0 ≤ dd
                · have F := Lib.hid (NEV.out (.inl ⟨hd0, hD0⟩))
                  go_wp2_with fail
                  refine bodyPost_ret (v := .tuple #[.int .i64 0, .bool false, .int .i64 0]) (by simp [results, Try.results31, go_sem]) rfl ?_
                  exact ⟨0, false, 0, .inl ⟨HF.out, HG.out, rfl, F.out⟩, rfl, bwz⟩
                · have hc := HSE.out.out.cand HP.out (by omega) (by rw [DV2.out]; exact hd0)
                  rw [DV2.out] at hc
                  have hq0 : 0 ≤ (dv - 1) / -dd := Int.ediv_nonneg (by omega) (by omega)
                  have hq1 : (dv - 1) / -dd ≤ dv - 1 := Int.ediv_le_self _ (by omega)
                  have ed : -((dv - 1).tdiv dd) = (dv - 1) / -dd := by rw [← Int.tdiv_neg]; exact Int.tdiv_eq_ediv_of_nonneg (by omega)
                  obtain ⟨u, hu⟩ := Int.eq_ofNat_of_zero_le hq0
                  rw [hu] at ed hq1 hc
                  rw [Int.toNat_natCast] at hc
                  have hucc : u * cc ≤ 30000000000000 * 14400 := Nat.mul_le_mul (by omega) hc2
                  obtain ⟨T, hT⟩ : ∃ T, T = fr + r + u * cc := ⟨_, rfl⟩
                  rw [← hT] at hc
                  have HC := Lib.hid hc
                  have huc2 : (u : Int) * (cc : Int) = ((u * cc : Nat) : Int) := by simp
                  have hTI : (fr : Int) + (r : Int) + (u : Int) * (cc : Int) = T := by rw [hT, huc2]; omega
                  have hub : (u : Int) ≤ 30000000000000 := by omega
                  have hm1 : (u : Int) * (cc : Int) ≤ 432000000000000000 := by rw [huc2]; omega
                  have hm0 : 0 ≤ (u : Int) * (cc : Int) := by rw [huc2]; omega
                  have hTb : (T : Int) ≤ 2305843009213693952 := by omega
                  have hdn : dd ≠ 0 := by omega
                  have hdn2 : -dd ≠ 0 := by omega
                  have hmx : (if L < (T : Int) then (T : Int) else L) = max L (T : Int) := by split <;> omega
                  clear hc hq0 hq1 hu hucc hT huc2
                  obtain ⟨M, hM⟩ : ∃ M, M = max L (T : Int) := ⟨_, rfl⟩
                  rw [← hM] at hmx HC
                  have hMb : M ≤ 2305843009213693952 := by omega
                  have HM := Lib.hid hM
                  clear hM
                  go_wp2_with fail
                  go_region
                  go_wp2_with fail
                  go_roundg (gk - 1)
                  case measure => omega
                  case rel => exact ⟨r + 1, M, by omega, by go_num, rfl, hMb, HC.out, (fun _ => by omega), bthen BY.out BZ.out.drew⟩
              · by_cases hD0 : 0 < dd
                · have F := Lib.hid (NEV.out (.inr hD0))
                  go_wp2_with fail
                  refine bodyPost_ret (v := .tuple #[.int .i64 0, .bool false, .int .i64 0]) (by simp [results, Try.results31, go_sem]) rfl ?_
                  exact ⟨0, false, 0, .inl ⟨HF.out, HG.out, rfl, F.out⟩, rfl, bwz⟩
                · have F := Lib.hid (HSE.out.out.skip HP.out (by omega) (by rw [DV2.out]; omega))
                  go_wp2_with fail
                  go_roundg (gk - 1)
                  case measure => omega
                  case rel => exact ⟨r + 1, L, by omega, by go_num, rfl, hL1, F.out, (fun _ => by omega), bthen BY.out BZ.out⟩
          · have hrc : r = cc := by omega
            clear hlt hrg
            subst hrc
            have F := Lib.hid (se_late FF.out.1 FF.out.2 (by rw [← HFR.out, ← HCC.out]; exact HSE.out.out))
            have bwz := PY.out.bw
            go_wp2_with fail
            refine bodyPost_ret (v := .tuple #[.int .i64 (L + 1), .bool true, .int .i64 0]) (by simp [results, Try.results31, go_sem]) rfl ?_
            exact ⟨L + 1, true, 0, .inl ⟨HF.out, HG.out, rfl, F.out⟩, rfl, bwz⟩

theorem settles_any (A B : Option Addr) (n m c d : Nat) (p i q j : Int) (xs ys : List Int) (w : World) (hA : Ints w w.heap.size A n xs) (hB : Ints w w.heap.size B m ys) (hn : (n : Int) ≤ 1000000) (hm : (m : Int) ≤ 1000000) :
    Calls Try.prog 31 #[.agg #[.slice A n c, .int .i64 p, .int .i64 i], .agg #[.slice B m d, .int .i64 q, .int .i64 j]] w (RetE (fun t ok => SeS (Up ⟨xs, p, i⟩ ⟨ys, q, j⟩) t ok) ⟨xs, p, i⟩ ⟨ys, q, j⟩ w) := by
  by_cases h : Cv.Ok ⟨xs, p, i⟩ ∧ Cv.Ok ⟨ys, q, j⟩
  · exact settles_ok A B n m c d p i q j xs ys w hA hB h.1 h.2
  · exact settles_bad A B n m c d p i q j xs ys w hA hB hn hm h _
end Go.Proofs.Yteddogbhofhlaaa
