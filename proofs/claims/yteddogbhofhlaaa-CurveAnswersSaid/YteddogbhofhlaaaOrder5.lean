/- Package order, the fifth part: Meets. -/
import Derived.Test.YteddogbhofhlaaaOrder4
namespace Go.Proofs.Yteddogbhofhlaaa
open Go.RowKit
set_option linter.unusedVariables false

attribute [local go_sem ↓] load_fold store_fold

/-- f and g are alike at so many ticks from s on -/
def EqRun (f g : Cv) (s k : Nat) : Prop := ∀ r, r < k → f.at (s + r) = g.at (s + r)
theorem EqRun.zero (f g : Cv) (s : Nat) : EqRun f g s 0 := fun r h => by omega
theorem EqRun.succ {f g : Cv} {s k : Nat} (h : EqRun f g s k) (h1 : f.at (s + k) = g.at (s + k)) : EqRun f g s (k + 1) := fun r hr => by
  by_cases e : r = k
  · rw [e]; exact h1
  · exact h r (by omega)

/-- one curve is no curve -/
theorem meets_bad (A B : Option Addr) (n m c d : Nat) (p i q j : Int) (xs ys : List Int) (w : World) (hA : Ints w w.heap.size A n xs) (hB : Ints w w.heap.size B m ys) (hn : (n : Int) ≤ 1000000) (hm : (m : Int) ≤ 1000000) (hbad : ¬ (Cv.Ok ⟨xs, p, i⟩ ∧ Cv.Ok ⟨ys, q, j⟩)) (S : Int → Bool → Prop) :
    Calls Try.prog 33 #[.agg #[.slice A n c, .int .i64 p, .int .i64 i], .agg #[.slice B m d, .int .i64 q, .int .i64 j]] w (RetE S ⟨xs, p, i⟩ ⟨ys, q, j⟩ w) := by
  have P0 := Lib.hid (PS.new (c := c) (p := p) (i := i) (d := d) (q := q) (j := j) hA hB)
  have HBAD := Lib.hid hbad
  clear hA hB hbad
  go_enter Try.func33, Try.ntmps33
  go_wp2_with fail
  refine (both_bad A B n m c d p i q j xs ys _ P0.out.ia P0.out.ib hn hm HBAD.out).mono ?_
  unfold pairV
  rintro e w1 ⟨rfl, hb⟩
  have P1 := Lib.hid (P0.out.below hb)
  obtain ⟨w3, hst, sto, pb⟩ := run_storeP (Blk.new w1 68 #[.slice none 0 0, .int .i64 0, .int .i64 0, .slice none 0 0, .int .i64 0, .int .i64 0, .int .i64 0, .int .i64 0, .int .i64 0, .bool false]) (a0 := .slice none 0 0) (a1 := .int .i64 0) (a2 := .int .i64 0) (a3 := .slice none 0 0) (a4 := .int .i64 0) (a5 := .int .i64 0) (a6 := .int .i64 0) (a7 := .int .i64 0) (a8 := .int .i64 0) (a9 := .bool false) (by simp [Value.oneCell'])
  have bw := bsto (oball P1.out.bw _) sto P1.out.bw.size
  clear P0 P1 hb sto pb
  have BW := Lib.hid bw
  clear bw
  go_wp2_with fail
  refine bodyPost_ret (v := .tuple #[.int .i64 0, .bool false, .int .i64 1]) (by simp [results, Try.results33, go_sem]) rfl ?_
  exact ⟨0, false, 1, .inr ⟨HBAD.out, rfl, rfl, rfl⟩, rfl, BW.out⟩

set_option maxHeartbeats 4000000 in
set_option maxRecDepth 100000 in
theorem meets_ok (A B : Option Addr) (n m c d : Nat) (p i q j : Int) (xs ys : List Int) (w : World) (hA : Ints w w.heap.size A n xs) (hB : Ints w w.heap.size B m ys) (hf : Cv.Ok ⟨xs, p, i⟩) (hg : Cv.Ok ⟨ys, q, j⟩) :
    Calls Try.prog 33 #[.agg #[.slice A n c, .int .i64 p, .int .i64 i], .agg #[.slice B m d, .int .i64 q, .int .i64 j]] w (RetE (fun t ok => SeS (Ne2 ⟨xs, p, i⟩ ⟨ys, q, j⟩) t ok) ⟨xs, p, i⟩ ⟨ys, q, j⟩ w) := by
  have P0 := Lib.hid (PS.new (c := c) (p := p) (i := i) (d := d) (q := q) (j := j) hA hB)
  have OB := ord_b hf hg
  have hfr := OB.f0; have hc1 := OB.c1; have hc2 := OB.c2; have hd1 := OB.d1; have hd2 := OB.d2
  have hn := hf.n2; have hm := hg.n2; have hn1 := hf.n1; have hm1 := hg.n1
  have hl := hA.1; have hl2 := hB.1
  have hfin : (nth xs (n - 1) != inf && nth ys (m - 1) != inf) = true ↔ (Cv.Fin ⟨xs, p, i⟩ ∧ Cv.Fin ⟨ys, q, j⟩) := by
    unfold Cv.Fin
    simp only [hl, hl2, Bool.and_eq_true, bne_iff_ne]
    exact ⟨fun h => ⟨⟨hf, h.1⟩, ⟨hg, h.2⟩⟩, fun h => ⟨h.1.2, h.2.2⟩⟩
  simp only [hl, hl2] at hn hm hn1 hm1
  have HBO := fun w hA hB => both_ok A B n m c d p i q j xs ys w hA hB hf hg
  obtain ⟨fn, hfn⟩ : ∃ fn, fn = (nth xs (n - 1) != inf && nth ys (m - 1) != inf) := ⟨_, rfl⟩
  obtain ⟨fr, hfre⟩ : ∃ fr, fr = ordF ⟨xs, p, i⟩ ⟨ys, q, j⟩ := ⟨_, rfl⟩
  obtain ⟨cc, hcce⟩ : ∃ cc, cc = ordC ⟨xs, p, i⟩ ⟨ys, q, j⟩ := ⟨_, rfl⟩
  obtain ⟨dd, hdde⟩ : ∃ dd, dd = ordD ⟨xs, p, i⟩ ⟨ys, q, j⟩ := ⟨_, rfl⟩
  rw [← hfre] at hfr
  rw [← hcce] at hc1 hc2
  rw [← hdde] at hd1 hd2
  simp only [← hfn, ← hfre, ← hcce, ← hdde] at HBO
  rw [← hfn] at hfin
  have HF := Lib.hid hf; have HG := Lib.hid hg; have HFIN := Lib.hid hfin; have HFR := Lib.hid hfre; have HCC := Lib.hid hcce; have HDD := Lib.hid hdde; have HB := Lib.hid HBO
  have HAL := Lib.hid (show ∀ b off s, A = some ⟨b, off, s⟩ → b < w.heap.size from fun b off s e => by obtain ⟨b', off', e', hb, _⟩ := hA.2 (by omega); rw [e] at e'; cases e'; exact hb)
  have HBL := Lib.hid (show ∀ b off s, B = some ⟨b, off, s⟩ → b < w.heap.size from fun b off s e => by obtain ⟨b', off', e', hb, _⟩ := hB.2 (by omega); rw [e] at e'; cases e'; exact hb)
  clear hA hB hf hg hfin hfre hcce hdde hfn HBO hl hl2 OB
  go_enter Try.func33, Try.ntmps33
  go_wp2_with fail
  refine (HB.out _ P0.out.ia P0.out.ib).mono ?_
  unfold pairV
  rintro e w1 ⟨rfl, hb⟩
  as_aux_lemma =>
  have P1 := Lib.hid (P0.out.below hb)
  obtain ⟨w3, hst, sto, pb⟩ := run_storeP (Blk.new w1 68 #[.slice none 0 0, .int .i64 0, .int .i64 0, .slice none 0 0, .int .i64 0, .int .i64 0, .int .i64 0, .int .i64 0, .int .i64 0, .bool false]) (a0 := .slice A n c) (a1 := .int .i64 p) (a2 := .int .i64 i) (a3 := .slice B m d) (a4 := .int .i64 q) (a5 := .int .i64 j) (a6 := .int .i64 fr) (a7 := .int .i64 cc) (a8 := .int .i64 dd) (a9 := .bool fn) (by simp [Value.oneCell'])
  have hP1 : w.heap.size + 1 < w1.heap.size := P1.out.gb.lt
  have P3 := Lib.hid ((P1.out.alloc _).sto sto hP1 (fun b off s e => by have := HAL.out b off s e; omega) (fun b off s e => by have := HBL.out b off s e; omega))
  have PP := Lib.hid pb
  clear P0 P1 hb sto pb
  have p0 := PP.out.cell 0; have p1 := PP.out.cell 1; have p2 := PP.out.cell 2; have p3 := PP.out.cell 3; have p4 := PP.out.cell 4; have p5 := PP.out.cell 5; have p6 := PP.out.cell 6; have p7 := PP.out.cell 7; have p8 := PP.out.cell 8; have p9 := PP.out.cell 9
  simp at p0 p1 p2 p3 p4 p5 p6 p7 p8 p9
  have qz := P3.out.cells
  obtain ⟨f0, f1, f2, g0, g1, g2, hlf, hlg⟩ := qz
  have hlp := PP.out.lt
  cases fn
  case false =>
    as_aux_lemma =>
    go_wp2_with fail
    clear hst p0 p1 p2 p3 p4 p5 p6 p7 p8 p9 f0 f1 f2 g0 g1 g2 hlf hlg hlp
    go_loopg [27] (1) (fun g t wx => ∃ r : Nat, r + g = 1 ∧ t = .int .i64 r ∧ EqRun ⟨xs, p, i⟩ ⟨ys, q, j⟩ fr r ∧ Below w3.heap.size w3 wx)
    case atStart => exact ⟨0, by omega, rfl, EqRun.zero _ _ _, Below.refl _ _⟩
    case round =>
      as_aux_lemma =>
      obtain ⟨r, hrg, rfl, heq, bx⟩ := hrel
      have HEQ := Lib.hid heq; have BX := Lib.hid bx
      have PY := Lib.hid (P3.out.below bx); have PPY := Lib.hid (PP.out.below bx PP.out.lt)
      clear P3 PP bx heq
      have qz := PY.out.cells
      obtain ⟨f0, f1, f2, g0, g1, g2, hlf, hlg⟩ := qz
      have p6 := PPY.out.cell 6; have p7 := PPY.out.cell 7; have p8 := PPY.out.cell 8; have p9 := PPY.out.cell 9
      simp at p6 p7 p8 p9
      have hlp := PPY.out.lt
      by_cases hlt : r < 1
      · have hlti : (r : Int) < (1 : Int) := by omega
        obtain ⟨x, hx⟩ : ∃ x, x = Cv.at ⟨xs, p, i⟩ (fr + r) := ⟨_, rfl⟩
        obtain ⟨y, hy⟩ : ∃ y, y = Cv.at ⟨ys, q, j⟩ (fr + r) := ⟨_, rfl⟩
        have HX := Lib.hid hx; have HY := Lib.hid hy
        clear hx hy
        have TN := Lib.hid (show ((fr : Int) + (r : Int)).toNat = fr + r by omega)
        have e0 : IntKind.i64.wrap ((fr : Int) + (r : Int)) = (fr : Int) + (r : Int) := IntWalk.i64_in _ (by omega)
        go_upto_region 10 with fail
        go_cut [42] (fun s42 wz => s42 = .bool (x != y) ∧ Below wr.heap.size wr wz)
        case first =>
          clear p7 p8 p9
          have PZ := PY; have BZ := Lib.hid (Below.refl wr.heap.size wr)
          have PPZ := PPY
          have hp1 := HF.out.p1; have hpn := HF.out.pn; have hi1 := HF.out.i1; have hi2 := HF.out.i2
          have hq1 := HG.out.p1; have hqm := HG.out.pn; have hj1 := HG.out.i1; have hj2 := HG.out.i2
          simp only [PY.out.ia.1, PY.out.ib.1] at hp1 hpn hi1 hi2 hq1 hqm hj1 hj2
          have NFx := Lib.hid HF.out.nn; have NGx := Lib.hid HG.out.nn
          go_region_held3 (fun w' => w'.cell? ⟨w.heap.size, 0, none⟩ = some (.slice A n c) ∧ w'.cell? ⟨w.heap.size, 1, none⟩ = some (.int .i64 p) ∧ w'.cell? ⟨w.heap.size, 2, none⟩ = some (.int .i64 i) ∧
                w'.cell? ⟨w.heap.size + 1, 0, none⟩ = some (.slice B m d) ∧ w'.cell? ⟨w.heap.size + 1, 1, none⟩ = some (.int .i64 q) ∧ w'.cell? ⟨w.heap.size + 1, 2, none⟩ = some (.int .i64 j) ∧ w'.cell? ⟨w1.heap.size, 6, none⟩ = some (.int .i64 fr)) (first | go_keep)
            (first
              | (go_at_call_of 60 (Value.agg #[.slice A n c, .int .i64 p, .int .i64 i])
                 refine (at_any A n c p i _ xs _ (by exact PZ.out.ia) (by omega) (by omega) (by omega) (by omega) (by omega) NFx.out (by omega) (by omega)).mono ?_
                 rw [TN.out, ← HX.out]
                 rintro e wq ⟨rfl, hb⟩
                 have PZ := Lib.hid (PZ.out.below (by first | exact hb | exact bofdrew hb))
                 have BZ := Lib.hid (bthen BZ.out (by first | exact hb | exact bofdrew hb))
                 have PPZ := Lib.hid (PPZ.out.below (by first | exact hb | exact bofdrew hb) PPZ.out.lt)
                 clear p6 hlp
                 have p6 := PPZ.out.cell 6
                 simp at p6
                 have hlp := PPZ.out.lt
                 clear f0 f1 f2 g0 g1 g2 hlf hlg hb
                 have qz := PZ.out.cells
                 obtain ⟨f0, f1, f2, g0, g1, g2, hlf, hlg⟩ := qz)
              | (go_at_call_of 60 (Value.agg #[.slice B m d, .int .i64 q, .int .i64 j])
                 refine (at_any B m d q j _ ys _ (by exact PZ.out.ib) (by omega) (by omega) (by omega) (by omega) (by omega) NGx.out (by omega) (by omega)).mono ?_
                 rw [TN.out, ← HY.out]
                 rintro e wq ⟨rfl, hb⟩
                 have PZ := Lib.hid (PZ.out.below (by first | exact hb | exact bofdrew hb))
                 have BZ := Lib.hid (bthen BZ.out (by first | exact hb | exact bofdrew hb))
                 have PPZ := Lib.hid (PPZ.out.below (by first | exact hb | exact bofdrew hb) PPZ.out.lt)
                 clear p6 hlp
                 have p6 := PPZ.out.cell 6
                 simp at p6
                 have hlp := PPZ.out.lt
                 clear f0 f1 f2 g0 g1 g2 hlf hlg hb
                 have qz := PZ.out.cells
                 obtain ⟨f0, f1, f2, g0, g1, g2, hlf, hlg⟩ := qz))
          all_goals
            go_wp2_with fail
            go_meet
            exact ⟨rfl, BZ.out⟩
        case rest =>
          as_aux_lemma =>
          obtain ⟨rfl, bz⟩ := hcut
          have bwz := bthen PY.out.bw bz
          have BZ := Lib.hid bz
          clear f0 f1 f2 g0 g1 g2 hlf hlg p6 p7 p8 p9 hlp e0 bz
          by_cases hxy : x = y
          · have hb1 : (x != y) = false := by simpa using hxy
            have F := Lib.hid (HEQ.out.succ (by rw [← HX.out, ← HY.out]; exact hxy))
            clear hxy
            go_wp2_with fail
            go_roundg (gk - 1)
            case measure => omega
            case rel => exact ⟨r + 1, by omega, by go_num, F.out, bthen BX.out BZ.out⟩
          · have hb1 : (x != y) = true := by simpa using hxy
            have F := Lib.hid (me_differ HF.out HG.out (b := false) (by simpa using HFIN.out) (r := r) (by simpa using hlt) (by rw [← HFR.out, ← HX.out, ← HY.out]; exact hxy))
            clear hxy
            go_wp2_with fail
            refine bodyPost_ret (v := .tuple #[.int .i64 0, .bool false, .int .i64 0]) (by simp [results, Try.results33, go_sem]) rfl ?_
            exact ⟨0, false, 0, .inl ⟨HF.out, HG.out, rfl, F.out⟩, rfl, bwz⟩
      · have hrc : r = 1 := by omega
        clear hlt hrg
        subst hrc
        have bwy := PY.out.bw
        have F := Lib.hid (me_alike HF.out HG.out (b := false) HFIN.out (fun h => by cases h) (fun r hr => by rw [← HFR.out]; exact HEQ.out r (by simpa using hr)))
        rw [← HFR.out] at F
        have HA := F
        go_wp2_with fail
        clear f0 f1 f2 g0 g1 g2 hlf hlg p6 p7 p8 p9 hlp bwy PPY
        have P4 := PY
        clear PY
        go_loopg [11] fr (fun g t wx => ∃ T : Nat, T = g ∧ t = .int .i64 T ∧ T ≤ fr ∧ AlikeFrom ⟨xs, p, i⟩ ⟨ys, q, j⟩ T ∧ Below wr.heap.size wr wx)
        case atStart => exact ⟨fr, rfl, rfl, Nat.le_refl _, HA.out, Below.refl _ _⟩
        case round =>
          as_aux_lemma =>
          obtain ⟨T, hTg, rfl, hTf, hal, bx⟩ := hrel
          have HAL2 := Lib.hid hal; have BX := Lib.hid bx; have HTG := Lib.hid hTg
          have PY := Lib.hid (P4.out.below bx)
          clear P4 bx hal hTg
          have bwy := PY.out.bw
          by_cases hT0 : T = 0
          · have d0 : decide (0 < (T : Int)) = false := by simp; omega
            have d1 : decide (0 < T) = false := by simp; omega
            have F := Lib.hid (HAL2.out.done HF.out HG.out (by omega) (fun k hk => by omega))
            clear hT0
            go_wp2_with fail
            go_quiet (fail)
            go_wp2_with fail
            refine bodyPost_ret (v := .tuple #[.int .i64 T, .bool true, .int .i64 0]) (by simp [results, Try.results33, go_sem]) rfl ?_
            exact ⟨T, true, 0, .inl ⟨HF.out, HG.out, rfl, F.out⟩, rfl, bdrewN bwy⟩
          · obtain ⟨U, hU⟩ : ∃ U, T = U + 1 := ⟨T - 1, by omega⟩
            have d0 : decide (0 < (T : Int)) = true := by simp; omega
            have d1 : decide (0 < T) = true := by simp; omega
            have e1 : IntKind.i64.wrap ((T : Int) - 1) = (U : Int) := by rw [IntWalk.i64_in _ (by omega)]; omega
            have e2 : (T : Int) - 1 = (U : Int) := by omega
            have e3 : IntKind.i64.wrap (U : Int) = (U : Int) := IntWalk.i64_in _ (by omega)
            have hUf : (U : Int) ≤ 400 := by omega
            have hTi : (0 : Int) < (T : Int) := by omega
            have HU := Lib.hid hU
            clear hU hT0
            obtain ⟨x, hx⟩ : ∃ x, x = Cv.at ⟨xs, p, i⟩ (U) := ⟨_, rfl⟩
            obtain ⟨y, hy⟩ : ∃ y, y = Cv.at ⟨ys, q, j⟩ (U) := ⟨_, rfl⟩
            have HX := Lib.hid hx; have HY := Lib.hid hy
            clear hx hy
            have TN := Lib.hid (show ((U : Int)).toNat = U by omega)
            have qz := PY.out.cells
            obtain ⟨f0, f1, f2, g0, g1, g2, hlf, hlg⟩ := qz
            go_upto_region 16 with fail
            go_cut [65] (fun s65 wz => s65 = .bool (x == y) ∧ Below wr.heap.size wr wz)
            case first =>
              have PZ := PY; have BZ := Lib.hid (Below.refl wr.heap.size wr)
              have hp1 := HF.out.p1; have hpn := HF.out.pn; have hi1 := HF.out.i1; have hi2 := HF.out.i2
              have hq1 := HG.out.p1; have hqm := HG.out.pn; have hj1 := HG.out.i1; have hj2 := HG.out.i2
              simp only [PY.out.ia.1, PY.out.ib.1] at hp1 hpn hi1 hi2 hq1 hqm hj1 hj2
              have NFx := Lib.hid HF.out.nn; have NGx := Lib.hid HG.out.nn
              go_region_held3 (fun w' => w'.cell? ⟨w.heap.size, 0, none⟩ = some (.slice A n c) ∧ w'.cell? ⟨w.heap.size, 1, none⟩ = some (.int .i64 p) ∧ w'.cell? ⟨w.heap.size, 2, none⟩ = some (.int .i64 i) ∧
                    w'.cell? ⟨w.heap.size + 1, 0, none⟩ = some (.slice B m d) ∧ w'.cell? ⟨w.heap.size + 1, 1, none⟩ = some (.int .i64 q) ∧ w'.cell? ⟨w.heap.size + 1, 2, none⟩ = some (.int .i64 j)) (first | go_keep)
                (first
                  | (go_at_call_of 60 (Value.agg #[.slice A n c, .int .i64 p, .int .i64 i])
                     refine (at_any A n c p i _ xs _ (by exact PZ.out.ia) (by omega) (by omega) (by omega) (by omega) (by omega) NFx.out (by omega) (by omega)).mono ?_
                     rw [TN.out, ← HX.out]
                     rintro e wq ⟨rfl, hb⟩
                     have PZ := Lib.hid (PZ.out.below (by first | exact hb | exact bofdrew hb))
                     have BZ := Lib.hid (bthen BZ.out (by first | exact hb | exact bofdrew hb))
                     clear f0 f1 f2 g0 g1 g2 hlf hlg hb
                     have qz := PZ.out.cells
                     obtain ⟨f0, f1, f2, g0, g1, g2, hlf, hlg⟩ := qz)
                  | (go_at_call_of 60 (Value.agg #[.slice B m d, .int .i64 q, .int .i64 j])
                     refine (at_any B m d q j _ ys _ (by exact PZ.out.ib) (by omega) (by omega) (by omega) (by omega) (by omega) NGx.out (by omega) (by omega)).mono ?_
                     rw [TN.out, ← HY.out]
                     rintro e wq ⟨rfl, hb⟩
                     have PZ := Lib.hid (PZ.out.below (by first | exact hb | exact bofdrew hb))
                     have BZ := Lib.hid (bthen BZ.out (by first | exact hb | exact bofdrew hb))
                     clear f0 f1 f2 g0 g1 g2 hlf hlg hb
                     have qz := PZ.out.cells
                     obtain ⟨f0, f1, f2, g0, g1, g2, hlf, hlg⟩ := qz))
              all_goals
                go_wp2_with fail
                go_meet
                exact ⟨rfl, BZ.out⟩
            case rest =>
              as_aux_lemma =>
              obtain ⟨rfl, bz⟩ := hcut
              have bwz := bthen PY.out.bw bz
              have BZ := Lib.hid bz
              clear f0 f1 f2 g0 g1 g2 hlf hlg bz
              by_cases hxy : x = y
              · have hb1 : (x == y) = true := by simpa using hxy
                have F := Lib.hid (AlikeFrom.pred HF.out HG.out (t := U) (by omega) (by rw [← HU.out]; exact HAL2.out) (by rw [← HX.out, ← HY.out]; exact hxy))
                clear hxy
                go_wp2_with fail
                go_roundg U
                case measure => rw [← HTG.out, HU.out]; omega
                case rel => exact ⟨U, rfl, by go_num, by omega, F.out, bthen BX.out BZ.out⟩
              · have hb1 : (x == y) = false := by simpa using hxy
                have F := Lib.hid (HAL2.out.done HF.out HG.out (by omega) (fun k hk => by
                  have hUk : U = k := by have := HU.out; omega
                  rw [← hUk, ← HX.out, ← HY.out]; exact hxy))
                clear hxy
                go_wp2_with fail
                refine bodyPost_ret (v := .tuple #[.int .i64 T, .bool true, .int .i64 0]) (by simp [results, Try.results33, go_sem]) rfl ?_
                exact ⟨T, true, 0, .inl ⟨HF.out, HG.out, rfl, F.out⟩, rfl, bwz⟩
  case true =>
    as_aux_lemma =>
    go_wp2_with fail
    clear hst p0 p1 p2 p3 p4 p5 p6 p7 p8 p9 f0 f1 f2 g0 g1 g2 hlf hlg hlp
    go_loopg [27] (cc) (fun g t wx => ∃ r : Nat, r + g = cc ∧ t = .int .i64 r ∧ EqRun ⟨xs, p, i⟩ ⟨ys, q, j⟩ fr r ∧ Below w3.heap.size w3 wx)
    case atStart => exact ⟨0, by omega, rfl, EqRun.zero _ _ _, Below.refl _ _⟩
    case round =>
      as_aux_lemma =>
      obtain ⟨r, hrg, rfl, heq, bx⟩ := hrel
      have HEQ := Lib.hid heq; have BX := Lib.hid bx
      have PY := Lib.hid (P3.out.below bx); have PPY := Lib.hid (PP.out.below bx PP.out.lt)
      clear P3 PP bx heq
      have qz := PY.out.cells
      obtain ⟨f0, f1, f2, g0, g1, g2, hlf, hlg⟩ := qz
      have p6 := PPY.out.cell 6; have p7 := PPY.out.cell 7; have p8 := PPY.out.cell 8; have p9 := PPY.out.cell 9
      simp at p6 p7 p8 p9
      have hlp := PPY.out.lt
      by_cases hlt : r < cc
      · have hlti : (r : Int) < (cc : Int) := by omega
        obtain ⟨x, hx⟩ : ∃ x, x = Cv.at ⟨xs, p, i⟩ (fr + r) := ⟨_, rfl⟩
        obtain ⟨y, hy⟩ : ∃ y, y = Cv.at ⟨ys, q, j⟩ (fr + r) := ⟨_, rfl⟩
        have HX := Lib.hid hx; have HY := Lib.hid hy
        clear hx hy
        have TN := Lib.hid (show ((fr : Int) + (r : Int)).toNat = fr + r by omega)
        have e0 : IntKind.i64.wrap ((fr : Int) + (r : Int)) = (fr : Int) + (r : Int) := IntWalk.i64_in _ (by omega)
        go_upto_region 10 with fail
        go_cut [42] (fun s42 wz => s42 = .bool (x != y) ∧ Below wr.heap.size wr wz)
        case first =>
          clear p7 p8 p9
          have PZ := PY; have BZ := Lib.hid (Below.refl wr.heap.size wr)
          have PPZ := PPY
          have hp1 := HF.out.p1; have hpn := HF.out.pn; have hi1 := HF.out.i1; have hi2 := HF.out.i2
          have hq1 := HG.out.p1; have hqm := HG.out.pn; have hj1 := HG.out.i1; have hj2 := HG.out.i2
          simp only [PY.out.ia.1, PY.out.ib.1] at hp1 hpn hi1 hi2 hq1 hqm hj1 hj2
          have NFx := Lib.hid HF.out.nn; have NGx := Lib.hid HG.out.nn
          go_region_held3 (fun w' => w'.cell? ⟨w.heap.size, 0, none⟩ = some (.slice A n c) ∧ w'.cell? ⟨w.heap.size, 1, none⟩ = some (.int .i64 p) ∧ w'.cell? ⟨w.heap.size, 2, none⟩ = some (.int .i64 i) ∧
                w'.cell? ⟨w.heap.size + 1, 0, none⟩ = some (.slice B m d) ∧ w'.cell? ⟨w.heap.size + 1, 1, none⟩ = some (.int .i64 q) ∧ w'.cell? ⟨w.heap.size + 1, 2, none⟩ = some (.int .i64 j) ∧ w'.cell? ⟨w1.heap.size, 6, none⟩ = some (.int .i64 fr)) (first | go_keep)
            (first
              | (go_at_call_of 60 (Value.agg #[.slice A n c, .int .i64 p, .int .i64 i])
                 refine (at_any A n c p i _ xs _ (by exact PZ.out.ia) (by omega) (by omega) (by omega) (by omega) (by omega) NFx.out (by omega) (by omega)).mono ?_
                 rw [TN.out, ← HX.out]
                 rintro e wq ⟨rfl, hb⟩
                 have PZ := Lib.hid (PZ.out.below (by first | exact hb | exact bofdrew hb))
                 have BZ := Lib.hid (bthen BZ.out (by first | exact hb | exact bofdrew hb))
                 have PPZ := Lib.hid (PPZ.out.below (by first | exact hb | exact bofdrew hb) PPZ.out.lt)
                 clear p6 hlp
                 have p6 := PPZ.out.cell 6
                 simp at p6
                 have hlp := PPZ.out.lt
                 clear f0 f1 f2 g0 g1 g2 hlf hlg hb
                 have qz := PZ.out.cells
                 obtain ⟨f0, f1, f2, g0, g1, g2, hlf, hlg⟩ := qz)
              | (go_at_call_of 60 (Value.agg #[.slice B m d, .int .i64 q, .int .i64 j])
                 refine (at_any B m d q j _ ys _ (by exact PZ.out.ib) (by omega) (by omega) (by omega) (by omega) (by omega) NGx.out (by omega) (by omega)).mono ?_
                 rw [TN.out, ← HY.out]
                 rintro e wq ⟨rfl, hb⟩
                 have PZ := Lib.hid (PZ.out.below (by first | exact hb | exact bofdrew hb))
                 have BZ := Lib.hid (bthen BZ.out (by first | exact hb | exact bofdrew hb))
                 have PPZ := Lib.hid (PPZ.out.below (by first | exact hb | exact bofdrew hb) PPZ.out.lt)
                 clear p6 hlp
                 have p6 := PPZ.out.cell 6
                 simp at p6
                 have hlp := PPZ.out.lt
                 clear f0 f1 f2 g0 g1 g2 hlf hlg hb
                 have qz := PZ.out.cells
                 obtain ⟨f0, f1, f2, g0, g1, g2, hlf, hlg⟩ := qz))
          all_goals
            go_wp2_with fail
            go_meet
            exact ⟨rfl, BZ.out⟩
        case rest =>
          as_aux_lemma =>
          obtain ⟨rfl, bz⟩ := hcut
          have bwz := bthen PY.out.bw bz
          have BZ := Lib.hid bz
          clear f0 f1 f2 g0 g1 g2 hlf hlg p6 p7 p8 p9 hlp e0 bz
          by_cases hxy : x = y
          · have hb1 : (x != y) = false := by simpa using hxy
            have F := Lib.hid (HEQ.out.succ (by rw [← HX.out, ← HY.out]; exact hxy))
            clear hxy
            go_wp2_with fail
            go_roundg (gk - 1)
            case measure => omega
            case rel => exact ⟨r + 1, by omega, by go_num, F.out, bthen BX.out BZ.out⟩
          · have hb1 : (x != y) = true := by simpa using hxy
            have F := Lib.hid (me_differ HF.out HG.out (b := true) (by simpa using HFIN.out) (r := r) (by rw [← HCC.out]; exact hlt) (by rw [← HFR.out, ← HX.out, ← HY.out]; exact hxy))
            clear hxy
            go_wp2_with fail
            refine bodyPost_ret (v := .tuple #[.int .i64 0, .bool false, .int .i64 0]) (by simp [results, Try.results33, go_sem]) rfl ?_
            exact ⟨0, false, 0, .inl ⟨HF.out, HG.out, rfl, F.out⟩, rfl, bwz⟩
      · have hrc : r = cc := by omega
        clear hlt hrg
        have hc0 : 0 < cc := by omega
        subst hrc
        have bwy := PY.out.bw
        by_cases hd : dd = 0
        · have F := Lib.hid (me_alike HF.out HG.out (b := true) (by simpa using HFIN.out) (fun h => by rw [← HDD.out]; exact hd) (by rw [← HCC.out, ← HFR.out]; exact HEQ.out))
          rw [← HFR.out] at F
          have HA := F
          have hb1 : (dd != 0) = false := by simpa using hd
          clear hd
          go_wp2_with fail
          clear f0 f1 f2 g0 g1 g2 hlf hlg p6 p7 p8 p9 hlp bwy PPY
          have P4 := PY
          clear PY
          go_loopg [11] fr (fun g t wx => ∃ T : Nat, T = g ∧ t = .int .i64 T ∧ T ≤ fr ∧ AlikeFrom ⟨xs, p, i⟩ ⟨ys, q, j⟩ T ∧ Below wr.heap.size wr wx)
          case atStart => exact ⟨fr, rfl, rfl, Nat.le_refl _, HA.out, Below.refl _ _⟩
          case round =>
            as_aux_lemma =>
            obtain ⟨T, hTg, rfl, hTf, hal, bx⟩ := hrel
            have HAL2 := Lib.hid hal; have BX := Lib.hid bx; have HTG := Lib.hid hTg
            have PY := Lib.hid (P4.out.below bx)
            clear P4 bx hal hTg
            have bwy := PY.out.bw
            by_cases hT0 : T = 0
            · have d0 : decide (0 < (T : Int)) = false := by simp; omega
              have d1 : decide (0 < T) = false := by simp; omega
              have F := Lib.hid (HAL2.out.done HF.out HG.out (by omega) (fun k hk => by omega))
              clear hT0
              go_wp2_with fail
              go_quiet (fail)
              go_wp2_with fail
              refine bodyPost_ret (v := .tuple #[.int .i64 T, .bool true, .int .i64 0]) (by simp [results, Try.results33, go_sem]) rfl ?_
              exact ⟨T, true, 0, .inl ⟨HF.out, HG.out, rfl, F.out⟩, rfl, bdrewN bwy⟩
            · obtain ⟨U, hU⟩ : ∃ U, T = U + 1 := ⟨T - 1, by omega⟩
              have d0 : decide (0 < (T : Int)) = true := by simp; omega
              have d1 : decide (0 < T) = true := by simp; omega
              have e1 : IntKind.i64.wrap ((T : Int) - 1) = (U : Int) := by rw [IntWalk.i64_in _ (by omega)]; omega
              have e2 : (T : Int) - 1 = (U : Int) := by omega
              have e3 : IntKind.i64.wrap (U : Int) = (U : Int) := IntWalk.i64_in _ (by omega)
              have hUf : (U : Int) ≤ 400 := by omega
              have hTi : (0 : Int) < (T : Int) := by omega
              have HU := Lib.hid hU
              clear hU hT0
              obtain ⟨x, hx⟩ : ∃ x, x = Cv.at ⟨xs, p, i⟩ (U) := ⟨_, rfl⟩
              obtain ⟨y, hy⟩ : ∃ y, y = Cv.at ⟨ys, q, j⟩ (U) := ⟨_, rfl⟩
              have HX := Lib.hid hx; have HY := Lib.hid hy
              clear hx hy
              have TN := Lib.hid (show ((U : Int)).toNat = U by omega)
              have qz := PY.out.cells
              obtain ⟨f0, f1, f2, g0, g1, g2, hlf, hlg⟩ := qz
              go_upto_region 16 with fail
              go_cut [65] (fun s65 wz => s65 = .bool (x == y) ∧ Below wr.heap.size wr wz)
              case first =>
                have PZ := PY; have BZ := Lib.hid (Below.refl wr.heap.size wr)
                have hp1 := HF.out.p1; have hpn := HF.out.pn; have hi1 := HF.out.i1; have hi2 := HF.out.i2
                have hq1 := HG.out.p1; have hqm := HG.out.pn; have hj1 := HG.out.i1; have hj2 := HG.out.i2
                simp only [PY.out.ia.1, PY.out.ib.1] at hp1 hpn hi1 hi2 hq1 hqm hj1 hj2
                have NFx := Lib.hid HF.out.nn; have NGx := Lib.hid HG.out.nn
                go_region_held3 (fun w' => w'.cell? ⟨w.heap.size, 0, none⟩ = some (.slice A n c) ∧ w'.cell? ⟨w.heap.size, 1, none⟩ = some (.int .i64 p) ∧ w'.cell? ⟨w.heap.size, 2, none⟩ = some (.int .i64 i) ∧
                      w'.cell? ⟨w.heap.size + 1, 0, none⟩ = some (.slice B m d) ∧ w'.cell? ⟨w.heap.size + 1, 1, none⟩ = some (.int .i64 q) ∧ w'.cell? ⟨w.heap.size + 1, 2, none⟩ = some (.int .i64 j)) (first | go_keep)
                  (first
                    | (go_at_call_of 60 (Value.agg #[.slice A n c, .int .i64 p, .int .i64 i])
                       refine (at_any A n c p i _ xs _ (by exact PZ.out.ia) (by omega) (by omega) (by omega) (by omega) (by omega) NFx.out (by omega) (by omega)).mono ?_
                       rw [TN.out, ← HX.out]
                       rintro e wq ⟨rfl, hb⟩
                       have PZ := Lib.hid (PZ.out.below (by first | exact hb | exact bofdrew hb))
                       have BZ := Lib.hid (bthen BZ.out (by first | exact hb | exact bofdrew hb))
                       clear f0 f1 f2 g0 g1 g2 hlf hlg hb
                       have qz := PZ.out.cells
                       obtain ⟨f0, f1, f2, g0, g1, g2, hlf, hlg⟩ := qz)
                    | (go_at_call_of 60 (Value.agg #[.slice B m d, .int .i64 q, .int .i64 j])
                       refine (at_any B m d q j _ ys _ (by exact PZ.out.ib) (by omega) (by omega) (by omega) (by omega) (by omega) NGx.out (by omega) (by omega)).mono ?_
                       rw [TN.out, ← HY.out]
                       rintro e wq ⟨rfl, hb⟩
                       have PZ := Lib.hid (PZ.out.below (by first | exact hb | exact bofdrew hb))
                       have BZ := Lib.hid (bthen BZ.out (by first | exact hb | exact bofdrew hb))
                       clear f0 f1 f2 g0 g1 g2 hlf hlg hb
                       have qz := PZ.out.cells
                       obtain ⟨f0, f1, f2, g0, g1, g2, hlf, hlg⟩ := qz))
                all_goals
                  go_wp2_with fail
                  go_meet
                  exact ⟨rfl, BZ.out⟩
              case rest =>
                as_aux_lemma =>
                obtain ⟨rfl, bz⟩ := hcut
                have bwz := bthen PY.out.bw bz
                have BZ := Lib.hid bz
                clear f0 f1 f2 g0 g1 g2 hlf hlg bz
                by_cases hxy : x = y
                · have hb1 : (x == y) = true := by simpa using hxy
                  have F := Lib.hid (AlikeFrom.pred HF.out HG.out (t := U) (by omega) (by rw [← HU.out]; exact HAL2.out) (by rw [← HX.out, ← HY.out]; exact hxy))
                  clear hxy
                  go_wp2_with fail
                  go_roundg U
                  case measure => rw [← HTG.out, HU.out]; omega
                  case rel => exact ⟨U, rfl, by go_num, by omega, F.out, bthen BX.out BZ.out⟩
                · have hb1 : (x == y) = false := by simpa using hxy
                  have F := Lib.hid (HAL2.out.done HF.out HG.out (by omega) (fun k hk => by
                    have hUk : U = k := by have := HU.out; omega
                    rw [← hUk, ← HX.out, ← HY.out]; exact hxy))
                  clear hxy
                  go_wp2_with fail
                  refine bodyPost_ret (v := .tuple #[.int .i64 T, .bool true, .int .i64 0]) (by simp [results, Try.results33, go_sem]) rfl ?_
                  exact ⟨T, true, 0, .inl ⟨HF.out, HG.out, rfl, F.out⟩, rfl, bwz⟩
        · have FF := HFIN.out.1 (by trivial)
          have F := Lib.hid (me_drift FF.1 FF.2 (by rw [← HDD.out]; exact hd) (by rw [← HFR.out]; exact HEQ.out 0 (by omega)))
          have hb1 : (dd != 0) = true := by simpa using hd
          clear hd FF
          go_wp2_with fail
          refine bodyPost_ret (v := .tuple #[.int .i64 0, .bool false, .int .i64 0]) (by simp [results, Try.results33, go_sem]) rfl ?_
          exact ⟨0, false, 0, .inl ⟨HF.out, HG.out, rfl, F.out⟩, rfl, bwy⟩

theorem meets_any (A B : Option Addr) (n m c d : Nat) (p i q j : Int) (xs ys : List Int) (w : World) (hA : Ints w w.heap.size A n xs) (hB : Ints w w.heap.size B m ys) (hn : (n : Int) ≤ 1000000) (hm : (m : Int) ≤ 1000000) :
    Calls Try.prog 33 #[.agg #[.slice A n c, .int .i64 p, .int .i64 i], .agg #[.slice B m d, .int .i64 q, .int .i64 j]] w (RetE (fun t ok => SeS (Ne2 ⟨xs, p, i⟩ ⟨ys, q, j⟩) t ok) ⟨xs, p, i⟩ ⟨ys, q, j⟩ w) := by
  by_cases h : Cv.Ok ⟨xs, p, i⟩ ∧ Cv.Ok ⟨ys, q, j⟩
  · exact meets_ok A B n m c d p i q j xs ys w hA hB h.1 h.2
  · exact meets_bad A B n m c d p i q j xs ys w hA hB hn hm h _
end Go.Proofs.Yteddogbhofhlaaa
