/- Package order, the third part: Exceeds and AtMost. -/
import Derived.Test.YthdibkmjoiipgaaOrder2
import Derived.Test.YthdibkmjoiipgaaBy
namespace Go.Proofs.Ythdibkmjoiipgaa
open Go.RowKit
set_option linter.unusedVariables false

section
variable {w wx wy : World} {A B : Option Addr} {n c m d : Nat} {p i q j : Int} {xs ys : List Int}
theorem PS.sto {g : Nat} (h : PS w wx A n c p i xs B m d q j ys) (s : Sto g wx wy) (hg : w.heap.size + 1 < g) (hA : ∀ b off o, A = some ⟨b, off, o⟩ → b ≠ g) (hB : ∀ b off o, B = some ⟨b, off, o⟩ → b ≠ g) : PS w wy A n c p i xs B m d q j ys :=
  ⟨h.fb.sto s (by omega), h.gb.sto s (by omega), h.ia.sto s hA, h.ib.sto s hB, bsto h.bw s (by omega)⟩
end

/-- a pair's value, read whole -/
def loadP (a : Addr) : Sem Value := loadVar 146 a
theorem load_fold (a : Addr) : loadVar 146 a = loadP a := rfl
theorem run_loadP {w : World} {g : Nat} {z0 z1 z2 z3 z4 z5 z6 z7 z8 z9 : Value} (h : Blk w g 146 #[z0, z1, z2, z3, z4, z5, z6, z7, z8, z9]) : Sem.run Try.prog (loadP ⟨g, 0, none⟩) w = .ok (.agg #[z0, z1, z2, z3, z4, z5, z6, z7, z8, z9]) w :=
  run_loadVar_row w g 146 146 _ (0, 0) _ h Try.underlying146 rfl (by kernel_rfl)
def storeP (a : Addr) (v : Value) : Sem Unit := storeVar 146 a v
theorem store_fold (a : Addr) (v : Value) : storeVar 146 a v = storeP a v := rfl

theorem run_storeP {w : World} {g : Nat} {t : TypeId} {z0 z1 z2 z3 z4 z5 z6 z7 z8 z9 a0 a1 a2 a3 a4 a5 a6 a7 a8 a9 : Value} (hB : Blk w g t #[z0, z1, z2, z3, z4, z5, z6, z7, z8, z9]) (h1 : (#[a0, a1, a2, a3, a4, a5, a6, a7, a8, a9] : Array Value).all (·.oneCell') = true) :
    ∃ w', Sem.run Try.prog (storeP ⟨g, 0, none⟩ (.agg #[a0, a1, a2, a3, a4, a5, a6, a7, a8, a9])) w = .ok () w' ∧ Sto g w w' ∧ Blk w' g t #[a0, a1, a2, a3, a4, a5, a6, a7, a8, a9] := by
  refine ⟨_, run_storeVar_mid w g 0 146 #[a0, a1, a2, a3, a4, a5, a6, a7, a8, a9] ?_ (by kernel_rfl) h1, ?_, hB.store10 _ _ _ _ _ _ _ _ _ _⟩
  · intro j hj
    have hj' : j < 10 := hj
    rw [Nat.zero_add]
    refine ⟨?_, hB.frozen j⟩
    rw [hB.cell j]
    simp [hj']
  · exact (((((((((((Sto.refl g w).set 0 a0).set 1 a1).set 2 a2).set 3 a3).set 4 a4).set 5 a5).set 6 a6).set 7 a7).set 8 a8).set 9 a9)

/-- f is at most g at the ticks before k -/
def NoUp (f g : Cv) (k : Nat) : Prop := ∀ n, n < k → ¬ g.at n < f.at n
theorem NoUp.zero (f g : Cv) : NoUp f g 0 := fun n h => by omega
theorem NoUp.succ {f g : Cv} {k : Nat} (h : NoUp f g k) (h1 : ¬ g.at k < f.at k) : NoUp f g (k + 1) := fun n hn => by
  by_cases e : n = k
  · rw [e]; exact h1
  · exact h n (by omega)

attribute [local go_sem ↓] load_fold store_fold

/-- one curve is no curve -/
theorem exceeds_bad (A B : Option Addr) (n m c d : Nat) (p i q j : Int) (xs ys : List Int) (w : World) (hA : Ints w w.heap.size A n xs) (hB : Ints w w.heap.size B m ys) (hn : (n : Int) ≤ 1000000) (hm : (m : Int) ≤ 1000000) (hbad : ¬ (Cv.Ok ⟨xs, p, i⟩ ∧ Cv.Ok ⟨ys, q, j⟩)) (S : Int → Bool → Prop) :
    Calls Try.prog 143 #[.agg #[.slice A n c, .int .i64 p, .int .i64 i], .agg #[.slice B m d, .int .i64 q, .int .i64 j]] w (RetE S ⟨xs, p, i⟩ ⟨ys, q, j⟩ w) := by
  have P0 := Lib.hid (PS.new (c := c) (p := p) (i := i) (d := d) (q := q) (j := j) hA hB)
  have HBAD := Lib.hid hbad
  clear hA hB hbad
  go_enter Try.func143, Try.ntmps143
  go_wp2_with fail
  refine (both_bad A B n m c d p i q j xs ys _ P0.out.ia P0.out.ib hn hm HBAD.out).mono ?_
  unfold pairV
  rintro e w1 ⟨rfl, hb⟩
  have P1 := Lib.hid (P0.out.below hb)
  obtain ⟨w3, hst, sto, pb⟩ := run_storeP (Blk.new w1 146 #[.slice none 0 0, .int .i64 0, .int .i64 0, .slice none 0 0, .int .i64 0, .int .i64 0, .int .i64 0, .int .i64 0, .int .i64 0, .bool false]) (a0 := .slice none 0 0) (a1 := .int .i64 0) (a2 := .int .i64 0) (a3 := .slice none 0 0) (a4 := .int .i64 0) (a5 := .int .i64 0) (a6 := .int .i64 0) (a7 := .int .i64 0) (a8 := .int .i64 0) (a9 := .bool false) (by simp [Value.oneCell'])
  have bw := bsto (oball P1.out.bw _) sto P1.out.bw.size
  clear P0 P1 hb sto pb
  have BW := Lib.hid bw
  clear bw
  go_wp2_with fail
  refine bodyPost_ret (v := .tuple #[.int .i64 0, .bool false, .int .i64 1]) (by simp [results, Try.results143, go_sem]) rfl ?_
  exact ⟨0, false, 1, .inr ⟨HBAD.out, rfl, rfl, rfl⟩, rfl, BW.out⟩

set_option maxHeartbeats 4000000 in
set_option maxRecDepth 100000 in
theorem exceeds_ok (A B : Option Addr) (n m c d : Nat) (p i q j : Int) (xs ys : List Int) (w : World) (hA : Ints w w.heap.size A n xs) (hB : Ints w w.heap.size B m ys) (hf : Cv.Ok ⟨xs, p, i⟩) (hg : Cv.Ok ⟨ys, q, j⟩) :
    Calls Try.prog 143 #[.agg #[.slice A n c, .int .i64 p, .int .i64 i], .agg #[.slice B m d, .int .i64 q, .int .i64 j]] w (RetE (fun t ok => ExS (Up ⟨xs, p, i⟩ ⟨ys, q, j⟩) t ok) ⟨xs, p, i⟩ ⟨ys, q, j⟩ w) := by
  have P0 := Lib.hid (PS.new (c := c) (p := p) (i := i) (d := d) (q := q) (j := j) hA hB)
  have OB := ord_b hf hg
  have hfr := OB.f0; have hc1 := OB.c1; have hc2 := OB.c2; have hd1 := OB.d1; have hd2 := OB.d2
  have hn := hf.n2; have hm := hg.n2; have hn1 := hf.n1; have hm1 := hg.n1
  have hl := hA.1; have hl2 := hB.1
  have hfin : (nth xs (n - 1) != inf && nth ys (m - 1) != inf) = true ↔ (Cv.Fin ⟨xs, p, i⟩ ∧ Cv.Fin ⟨ys, q, j⟩) := by
    unfold Cv.Fin
    simp only [hl, hl2, Bool.and_eq_true, bne_iff_ne]
    exact ⟨fun h => ⟨⟨hf, h.1⟩, ⟨hg, h.2⟩⟩, fun h => ⟨h.1.2, h.2.2⟩⟩
  simp only [hl, hl2] at hn hm hn1 hm1
  have HBO := fun w hA hB => both_ok A B n m c d p i q j xs ys w hA hB hf hg
  obtain ⟨fn, hfn⟩ : ∃ fn, fn = (nth xs (n - 1) != inf && nth ys (m - 1) != inf) := ⟨_, rfl⟩
  obtain ⟨fr, hfre⟩ : ∃ fr, fr = ordF ⟨xs, p, i⟩ ⟨ys, q, j⟩ := ⟨_, rfl⟩
  obtain ⟨cc, hcce⟩ : ∃ cc, cc = ordC ⟨xs, p, i⟩ ⟨ys, q, j⟩ := ⟨_, rfl⟩
  obtain ⟨dd, hdde⟩ : ∃ dd, dd = ordD ⟨xs, p, i⟩ ⟨ys, q, j⟩ := ⟨_, rfl⟩
  rw [← hfre] at hfr
  rw [← hcce] at hc1 hc2
  rw [← hdde] at hd1 hd2
  simp only [← hfn, ← hfre, ← hcce, ← hdde] at HBO
  rw [← hfn] at hfin
  have HF := Lib.hid hf; have HG := Lib.hid hg; have HFIN := Lib.hid hfin; have HFR := Lib.hid hfre; have HCC := Lib.hid hcce; have HDD := Lib.hid hdde; have HB := Lib.hid HBO
  have HAL := Lib.hid (show ∀ b off s, A = some ⟨b, off, s⟩ → b < w.heap.size from fun b off s e => by obtain ⟨b', off', e', hb, _⟩ := hA.2 (by omega); rw [e] at e'; cases e'; exact hb)
  have HBL := Lib.hid (show ∀ b off s, B = some ⟨b, off, s⟩ → b < w.heap.size from fun b off s e => by obtain ⟨b', off', e', hb, _⟩ := hB.2 (by omega); rw [e] at e'; cases e'; exact hb)
  clear hA hB hf hg hfin hfre hcce hdde hfn HBO hl hl2 OB
  go_enter Try.func143, Try.ntmps143
  go_wp2_with fail
  refine (HB.out _ P0.out.ia P0.out.ib).mono ?_
  unfold pairV
  rintro e w1 ⟨rfl, hb⟩
  as_aux_lemma =>
  have P1 := Lib.hid (P0.out.below hb)
  obtain ⟨w3, hst, sto, pb⟩ := run_storeP (Blk.new w1 146 #[.slice none 0 0, .int .i64 0, .int .i64 0, .slice none 0 0, .int .i64 0, .int .i64 0, .int .i64 0, .int .i64 0, .int .i64 0, .bool false]) (a0 := .slice A n c) (a1 := .int .i64 p) (a2 := .int .i64 i) (a3 := .slice B m d) (a4 := .int .i64 q) (a5 := .int .i64 j) (a6 := .int .i64 fr) (a7 := .int .i64 cc) (a8 := .int .i64 dd) (a9 := .bool fn) (by simp [Value.oneCell'])
  have hP1 : w.heap.size + 1 < w1.heap.size := P1.out.gb.lt
  have P3 := Lib.hid ((P1.out.alloc _).sto sto hP1 (fun b off s e => by have := HAL.out b off s e; omega) (fun b off s e => by have := HBL.out b off s e; omega))
  have PP := Lib.hid pb
  clear P0 P1 hb sto pb
  have p0 := PP.out.cell 0; have p1 := PP.out.cell 1; have p2 := PP.out.cell 2; have p3 := PP.out.cell 3; have p4 := PP.out.cell 4; have p5 := PP.out.cell 5; have p6 := PP.out.cell 6; have p7 := PP.out.cell 7; have p8 := PP.out.cell 8; have p9 := PP.out.cell 9
  simp at p0 p1 p2 p3 p4 p5 p6 p7 p8 p9
  have qz := P3.out.cells
  obtain ⟨f0, f1, f2, g0, g1, g2, hlf, hlg⟩ := qz
  have hlp := PP.out.lt
  go_wp2_with fail
  clear hst p0 p1 p2 p3 p4 p5 p6 p7 p8 p9 f0 f1 f2 g0 g1 g2 hlf hlg hlp
  go_loopg [27] (fr + 1) (fun g t wx => ∃ k : Nat, k + g = fr + 1 ∧ t = .int .i64 k ∧ NoUp ⟨xs, p, i⟩ ⟨ys, q, j⟩ k ∧ Below w3.heap.size w3 wx)
  case atStart => exact ⟨0, by omega, rfl, NoUp.zero _ _, Below.refl _ _⟩
  case round =>
    as_aux_lemma =>
    obtain ⟨k, hkg, rfl, hno, bx⟩ := hrel
    have HNO := Lib.hid hno; clear hno
    have PX := Lib.hid (P3.out.below bx); have PPX := Lib.hid (PP.out.below bx PP.out.lt)
    have BX := Lib.hid bx
    clear P3 PP bx
    by_cases hlt : k < fr + 1
    · have hlti : (k : Int) < (fr : Int) + 1 := by omega
      have hst := run_loadP PPX.out
      go_wp2_with fail
      refine (above_any A B n m c d p i q j fr cc dd fn xs ys k _ PX.out.ia PX.out.ib HF.out HG.out (by omega) (by omega)).mono ?_
      rw [Int.toNat_natCast]
      rintro e w4 ⟨rfl, hb⟩
      have bw4 := bthen PX.out.bw hb
      by_cases hab : Cv.at ⟨ys, q, j⟩ k < Cv.at ⟨xs, p, i⟩ k
      · rw [decide_eq_true hab]
        have F := Lib.hid (ex_early HF.out HG.out (by omega) HNO.out hab)
        clear hab
        go_wp2_with fail
        refine bodyPost_ret (v := .tuple #[.int .i64 k, .bool true, .int .i64 0]) (by simp [results, Try.results143, go_sem]) rfl ?_
        exact ⟨k, true, 0, .inl ⟨HF.out, HG.out, rfl, F.out⟩, rfl, bw4⟩
      · rw [decide_eq_false hab]
        have F := Lib.hid (HNO.out.succ hab)
        clear hab
        go_wp2_with fail
        go_roundg (gk - 1)
        case measure => omega
        case rel => exact ⟨k + 1, by omega, by go_num, F.out, bthen BX.out hb⟩
    · have hkf : k = fr + 1 := by omega
      clear hlt hkg
      subst hkf
      have qz := PX.out.cells
      obtain ⟨f0, f1, f2, g0, g1, g2, hlf, hlg⟩ := qz
      have p6 := PPX.out.cell 6; have p7 := PPX.out.cell 7; have p8 := PPX.out.cell 8; have p9 := PPX.out.cell 9
      simp at p6 p7 p8 p9
      have hlp := PPX.out.lt
      cases fn
      case false =>
        have F := Lib.hid (ex_inf HF.out HG.out (fun h => by have := HFIN.out.2 h; simp at this) (by rw [← HFR.out]; exact HNO.out))
        have bwx := PX.out.bw
        go_wp2_with fail
        refine bodyPost_ret (v := .tuple #[.int .i64 0, .bool false, .int .i64 0]) (by simp [results, Try.results143, go_sem]) rfl ?_
        exact ⟨0, false, 0, .inl ⟨HF.out, HG.out, rfl, F.out⟩, rfl, bwx⟩
      case true =>
        as_aux_lemma =>
        have FF := Lib.hid (HFIN.out.1 rfl)
        have HP := Lib.hid (ord_per FF.out.1 FF.out.2)
        rw [← HFR.out, ← HCC.out, ← HDD.out] at HP
        go_wp2_with fail
        clear f0 f1 f2 g0 g1 g2 hlf hlg p6 p7 p8 p9 hlp
        go_loopg [40, 10, 11] cc (fun g s40 s10 s11 wy => ∃ (r : Nat) (L : Int) (b : Bool), r + g = cc ∧ s40 = .int .i64 r ∧ s10 = .int .i64 L ∧ s11 = .bool b ∧ 0 ≤ L ∧ L ≤ 2305843009213693952 ∧ Hid (ExI (dif ⟨xs, p, i⟩ ⟨ys, q, j⟩) fr cc r b L) ∧ Below wr.heap.size wr wy)
        case atStart => exact ⟨0, 0, false, by omega, rfl, rfl, rfl, by omega, by omega, .inl ⟨rfl, rfl, fun r hr => by omega⟩, Below.refl _ _⟩
        case round =>
          as_aux_lemma =>
          obtain ⟨r, L, b, hrg, rfl, rfl, rfl, hL0, hL1, hex, by_⟩ := hrel
          have HEX := Lib.hid hex
          have PY := Lib.hid (PX.out.below by_); have PPY := Lib.hid (PPX.out.below by_ PPX.out.lt); have BY := Lib.hid by_
          clear PX PPX hex by_
          have qz := PY.out.cells
          obtain ⟨f0, f1, f2, g0, g1, g2, hlf, hlg⟩ := qz
          have p6 := PPY.out.cell 6; have p7 := PPY.out.cell 7; have p8 := PPY.out.cell 8
          simp at p6 p7 p8
          have hlp := PPY.out.lt
          by_cases hlt : r < cc
          · have hlti : (r : Int) < (cc : Int) := by omega
            have hdb := dif_bd FF.out.1 FF.out.2 (n := fr + r) (by omega)
            obtain ⟨x, hx⟩ : ∃ x, x = Cv.at ⟨xs, p, i⟩ (fr + r) := ⟨_, rfl⟩
            obtain ⟨y, hy⟩ : ∃ y, y = Cv.at ⟨ys, q, j⟩ (fr + r) := ⟨_, rfl⟩
            have hxb := at_inf_bd HF.out (n := fr + r) (by omega)
            have hyb := at_inf_bd HG.out (n := fr + r) (by omega)
            rw [← hx] at hxb
            rw [← hy] at hyb
            obtain ⟨dv, hdv⟩ : ∃ dv, dv = x - y := ⟨_, rfl⟩
            have hdv2 : dif ⟨xs, p, i⟩ ⟨ys, q, j⟩ (fr + r) = dv := by rw [hdv, hx, hy]; rfl
            rw [hdv2] at hdb
            have e0 : IntKind.i64.wrap (x - y) = dv := by rw [hdv]; exact IntWalk.i64_in _ (by omega)
            have HX := Lib.hid hx; have HY := Lib.hid hy; have DV2 := Lib.hid hdv2; have DV := Lib.hid hdv
            have TN := Lib.hid (show ((fr : Int) + (r : Int)).toNat = fr + r by omega)
            clear hx hy hdv2 hdv
            go_upto_region 17 with fail
            go_cut [14] (fun s14 wz => s14 = .int .i64 dv ∧ Below wr.heap.size wr wz)
            case first =>
              clear p6 p7 p8 hlp
              have PZ := PY; have BZ := Lib.hid (Below.refl wr.heap.size wr)
              have hp1 := HF.out.p1; have hpn := HF.out.pn; have hi1 := HF.out.i1; have hi2 := HF.out.i2
              have hq1 := HG.out.p1; have hqm := HG.out.pn; have hj1 := HG.out.i1; have hj2 := HG.out.i2
              simp only [PY.out.ia.1, PY.out.ib.1] at hp1 hpn hi1 hi2 hq1 hqm hj1 hj2
              have NFx := Lib.hid HF.out.nn; have NGx := Lib.hid HG.out.nn
              go_region_held3 (fun w' => w'.cell? ⟨w.heap.size, 0, none⟩ = some (.slice A n c) ∧ w'.cell? ⟨w.heap.size, 1, none⟩ = some (.int .i64 p) ∧ w'.cell? ⟨w.heap.size, 2, none⟩ = some (.int .i64 i) ∧
      w'.cell? ⟨w.heap.size + 1, 0, none⟩ = some (.slice B m d) ∧ w'.cell? ⟨w.heap.size + 1, 1, none⟩ = some (.int .i64 q) ∧ w'.cell? ⟨w.heap.size + 1, 2, none⟩ = some (.int .i64 j)) (first | go_keep)
                (first
                  | (go_at_call_of 108 (Value.agg #[.slice A n c, .int .i64 p, .int .i64 i])
                     refine (at_any A n c p i _ xs _ (by exact PZ.out.ia) (by omega) (by omega) (by omega) (by omega) (by omega) NFx.out (by omega) (by omega)).mono ?_
                     rw [TN.out, ← HX.out]
                     rintro e wq ⟨rfl, hb⟩
                     have PZ := Lib.hid (PZ.out.below (by first | exact hb | exact bofdrew hb))
                     have BZ := Lib.hid (bthen BZ.out (by first | exact hb | exact bofdrew hb))
                     clear f0 f1 f2 g0 g1 g2 hlf hlg hb
                     have qz := PZ.out.cells
                     obtain ⟨f0, f1, f2, g0, g1, g2, hlf, hlg⟩ := qz)
                  | (go_at_call_of 108 (Value.agg #[.slice B m d, .int .i64 q, .int .i64 j])
                     refine (at_any B m d q j _ ys _ (by exact PZ.out.ib) (by omega) (by omega) (by omega) (by omega) (by omega) NGx.out (by omega) (by omega)).mono ?_
                     rw [TN.out, ← HY.out]
                     rintro e wq ⟨rfl, hb⟩
                     have PZ := Lib.hid (PZ.out.below (by first | exact hb | exact bofdrew hb))
                     have BZ := Lib.hid (bthen BZ.out (by first | exact hb | exact bofdrew hb))
                     clear f0 f1 f2 g0 g1 g2 hlf hlg hb
                     have qz := PZ.out.cells
                     obtain ⟨f0, f1, f2, g0, g1, g2, hlf, hlg⟩ := qz))
              all_goals
                go_wp2_with fail
                go_meet
                exact ⟨by rw [DV.out], BZ.out⟩
            case rest =>
              as_aux_lemma =>
              obtain ⟨rfl, bz⟩ := hcut
              have BZ := Lib.hid bz
              have pz := PPY.out.below bz PPY.out.lt
              have hlz := pz.lt
              clear f0 f1 f2 g0 g1 g2 hlf hlg p6 p7 p8 hlp e0 bz
              have p6 := pz.cell 6; have p7 := pz.cell 7; have p8 := pz.cell 8
              simp at p6 p7 p8
              by_cases hd0 : dv ≤ 0
              · by_cases hD0 : dd ≤ 0
                · have F := Lib.hid (HEX.out.skip HP.out (by rw [DV2.out]; exact hd0) hD0)
                  go_wp2_with fail
                  go_roundg (gk - 1)
                  case measure => omega
                  case rel => exact ⟨r + 1, L, b, by omega, by go_num, rfl, rfl, hL0, hL1, F.out, bthen BY.out BZ.out⟩
                · have hg := grow_first HP.out (k := r) (by omega) (by rw [DV2.out]; exact hd0)
                  rw [DV2.out] at hg
                  have hq0 : 0 ≤ -dv / dd := Int.ediv_nonneg (by omega) (by omega)
                  have hq1 : -dv / dd ≤ -dv := Int.ediv_le_self _ (by omega)
                  have ed : -(dv.tdiv dd) = -dv / dd := by rw [← Int.neg_tdiv]; exact Int.tdiv_eq_ediv_of_nonneg (by omega)
                  obtain ⟨u, hu⟩ := Int.eq_ofNat_of_zero_le hq0
                  rw [hu] at ed hq1 hg
                  rw [Int.toNat_natCast] at hg
                  have hucc : (u + 1) * cc ≤ 30000000000001 * 14400 := Nat.mul_le_mul (by omega) hc2
                  obtain ⟨T, hT⟩ : ∃ T, T = fr + r + (u + 1) * cc := ⟨_, rfl⟩
                  have CAND := Lib.hid (HEX.out.cand hg.1 hg.2 hc1)
                  rw [← hT] at CAND
                  have huc2 : ((u : Int) + 1) * (cc : Int) = (((u + 1) * cc : Nat) : Int) := by simp
                  have hTI : (fr : Int) + (r : Int) + ((u : Int) + 1) * (cc : Int) = T := by rw [hT, huc2]; omega
                  have hub : (u : Int) ≤ 30000000000000 := by omega
                  have hm1 : ((u : Int) + 1) * (cc : Int) ≤ 432000000000014400 := by rw [huc2]; omega
                  have hm0 : 0 ≤ ((u : Int) + 1) * (cc : Int) := by rw [huc2]; omega
                  have hTb : (T : Int) ≤ 2305843009213693952 := by omega
                  have hdn : dd ≠ 0 := by omega
                  clear hg hq0 hq1 hu hucc hT huc2
                  go_wp2_with fail
                  go_quiet (fail)
                  have BZ := Lib.hid (show Below wr.heap.size wr (wc.drewN nq) from bdrewN BZ.out)
                  cases b
                  case false =>
                    have F := Lib.hid (CAND.out.1 (.inl rfl))
                    go_wp2_with fail
                    go_roundg (gk - 1)
                    case measure => omega
                    case rel => exact ⟨r + 1, T, true, by omega, by go_num, rfl, rfl, by omega, by omega, F.out, bthen BY.out BZ.out⟩
                  case true =>
                    by_cases hTL : (T : Int) < L
                    · have F := Lib.hid (CAND.out.1 (.inr hTL))
                      go_wp2_with fail
                      go_roundg (gk - 1)
                      case measure => omega
                      case rel => exact ⟨r + 1, T, true, by omega, by go_num, rfl, rfl, by omega, by omega, F.out, bthen BY.out BZ.out⟩
                    · have F := Lib.hid (CAND.out.2 (fun h => h.elim (fun h => by cases h) hTL))
                      go_wp2_with fail
                      go_roundg (gk - 1)
                      case measure => omega
                      case rel => exact ⟨r + 1, L, true, by omega, by go_num, rfl, rfl, hL0, hL1, F.out, bthen BY.out BZ.out⟩
              · have CAND := Lib.hid (HEX.out.cand (M := 0) (by rw [Nat.zero_mul, Nat.add_zero, DV2.out]; omega) (fun m hm => by omega) hc1)
                rw [Nat.zero_mul, Nat.add_zero] at CAND
                obtain ⟨T, hT⟩ : ∃ T, T = fr + r := ⟨_, rfl⟩
                have hTI : (fr : Int) + (r : Int) = T := by omega
                rw [← hT] at CAND
                rw [hTI]
                clear hT
                cases b
                case false =>
                  have F := Lib.hid (CAND.out.1 (.inl rfl))
                  go_wp2_with fail
                  go_roundg (gk - 1)
                  case measure => omega
                  case rel => exact ⟨r + 1, T, true, by omega, by go_num, rfl, rfl, by omega, by omega, F.out, bthen BY.out BZ.out⟩
                case true =>
                  by_cases hTL : (T : Int) < L
                  · have F := Lib.hid (CAND.out.1 (.inr hTL))
                    go_wp2_with fail
                    go_roundg (gk - 1)
                    case measure => omega
                    case rel => exact ⟨r + 1, T, true, by omega, by go_num, rfl, rfl, by omega, by omega, F.out, bthen BY.out BZ.out⟩
                  · have F := Lib.hid (CAND.out.2 (fun h => h.elim (fun h => by cases h) hTL))
                    go_wp2_with fail
                    go_roundg (gk - 1)
                    case measure => omega
                    case rel => exact ⟨r + 1, L, true, by omega, by go_num, rfl, rfl, hL0, hL1, F.out, bthen BY.out BZ.out⟩
          · have hrc : r = cc := by omega
            clear hlt hrg
            subst hrc
            have F := Lib.hid (HEX.out)
            go_wp2_with fail
            refine bodyPost_ret (v := .tuple #[.int .i64 L, .bool b, .int .i64 0]) (by simp [results, Try.results143, go_sem]) rfl ?_
            exact ⟨L, b, 0, .inl ⟨HF.out, HG.out, rfl, ex_late FF.out.1 FF.out.2 (by rw [← HFR.out, ← HCC.out]; exact F.out) (by rw [← HFR.out]; exact HNO.out)⟩, rfl, PY.out.bw⟩

theorem exceeds_any (A B : Option Addr) (n m c d : Nat) (p i q j : Int) (xs ys : List Int) (w : World) (hA : Ints w w.heap.size A n xs) (hB : Ints w w.heap.size B m ys) (hn : (n : Int) ≤ 1000000) (hm : (m : Int) ≤ 1000000) :
    Calls Try.prog 143 #[.agg #[.slice A n c, .int .i64 p, .int .i64 i], .agg #[.slice B m d, .int .i64 q, .int .i64 j]] w (RetE (fun t ok => ExS (Up ⟨xs, p, i⟩ ⟨ys, q, j⟩) t ok) ⟨xs, p, i⟩ ⟨ys, q, j⟩ w) := by
  by_cases h : Cv.Ok ⟨xs, p, i⟩ ∧ Cv.Ok ⟨ys, q, j⟩
  · exact exceeds_ok A B n m c d p i q j xs ys w hA hB h.1 h.2
  · exact exceeds_bad A B n m c d p i q j xs ys w hA hB hn hm h _

theorem atMost_any (A B : Option Addr) (n m c d : Nat) (p i q j : Int) (xs ys : List Int) (w : World) (hA : Ints w w.heap.size A n xs) (hB : Ints w w.heap.size B m ys) (hn : (n : Int) ≤ 1000000) (hm : (m : Int) ≤ 1000000) :
    Calls Try.prog 104 #[.agg #[.slice A n c, .int .i64 p, .int .i64 i], .agg #[.slice B m d, .int .i64 q, .int .i64 j]] w (RetM ⟨xs, p, i⟩ ⟨ys, q, j⟩ w) := by
  have P0 := Lib.hid (PS.new (c := c) (p := p) (i := i) (d := d) (q := q) (j := j) hA hB)
  clear hA hB
  go_enter Try.func104, Try.ntmps104
  go_wp2_with fail
  refine (exceeds_any A B n m c d p i q j xs ys _ P0.out.ia P0.out.ib hn hm).mono ?_
  rintro e w1 ⟨t, ok, er, hS, rfl, hb⟩
  have bw := bthen P0.out.bw hb
  rcases hS with ⟨h1, h2, rfl, hS⟩ | ⟨h1, rfl, rfl, rfl⟩
  · rcases hS with ⟨rfl, x, rfl, hu, hl⟩ | ⟨rfl, rfl, hu⟩
    · have F := Lib.hid (show AtM ⟨xs, p, i⟩ ⟨ys, q, j⟩ false from .inl ⟨h1, h2, by simp; exact ⟨x, hu⟩⟩)
      clear hu hl h1 h2 P0 hb
      go_wp2_with fail
      go_ret
      exact ⟨false, F.out, rfl, bw⟩
    · have F := Lib.hid (show AtM ⟨xs, p, i⟩ ⟨ys, q, j⟩ true from .inl ⟨h1, h2, by simpa using hu⟩)
      clear hu h1 h2 P0 hb
      go_wp2_with fail
      go_ret
      exact ⟨true, F.out, rfl, bw⟩
  · have F := Lib.hid (show AtM ⟨xs, p, i⟩ ⟨ys, q, j⟩ false from .inr ⟨h1, rfl⟩)
    clear h1 P0 hb
    go_wp2_with fail
    go_ret
    exact ⟨false, F.out, rfl, bw⟩
end Go.Proofs.Ythdibkmjoiipgaa
