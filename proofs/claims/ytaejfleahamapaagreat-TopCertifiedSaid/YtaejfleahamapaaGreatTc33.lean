/- The statement TopCertified: the walk. -/
import Derived.Test.YtaejfleahamapaaGreatTc28
import Derived.Test.YtaejfleahamapaaGreatTc29
import Derived.Test.YtaejfleahamapaaGreatTc32
import Derived.Test.YtaejfleahamapaaGreatTc16
import Derived.Test.YtaejfleahamapaaGreatTc20
import Derived.Test.YtaejfleahamapaaGreatTc23
import Derived.Test.YtaejfleahamapaaGreatTc2
namespace Go.Proofs.YtaejfleahamapaaGreat
open Go.RowKit
set_option linter.unusedVariables false
set_option linter.unusedSimpArgs false
set_option maxHeartbeats 1000000 in
theorem ints13_any (A B : Option Addr) (n m c d : Nat) (xs ys : List Int) (w : World) (hA : Ints w w.heap.size A n xs) (hB : Ints w w.heap.size B m ys) (hn : (n : Int) ≤ 1000000) (hm : (m : Int) ≤ 1000000) :
    Calls Tryz.prog 47 #[.slice A n c, .slice B m d] w fun e w' => e = .returned (.bool (eqL xs ys)) ∧ Below w.heap.size w w' := by
  have hl := hA.1
  have hl2 := hB.1
  by_cases hnm : n = m
  · subst hnm
    have b1 : ((n : Int) != n) = false := by simp
    have HL := Lib.hid hl; clear hl
    have HL2 := Lib.hid hl2; clear hl2
    go_enter Tryz.func47, Tryz.ntmps47
    go_wp2
    clear b1
    go_loopg [5] n (fun g t wx => ∃ k : Nat, k + g = n ∧ t = .int .i64 k ∧ Hid (∀ j, j < k → nth xs j = nth ys j) ∧ Below w.heap.size w wx)
    case atStart => exact ⟨0, by omega, rfl, (fun j hj => by omega), Below.refl _ _⟩
    case round =>
      obtain ⟨k, hkg, rfl, hok, bw⟩ := hrel
      have HOK := Lib.hid hok; clear hok
      by_cases hlt : k < n
      · obtain ⟨b, off, rfl, hb, hc⟩ := (hA.ext bw).2 (by omega)
        obtain ⟨b2, off2, rfl, hb2, hc2⟩ := (hB.ext bw).2 (by omega)
        have hck := hc k hlt
        have hck2 := hc2 k hlt
        obtain ⟨x, hx⟩ : ∃ x, x = nth xs k := ⟨_, rfl⟩
        obtain ⟨y, hy⟩ : ∃ y, y = nth ys k := ⟨_, rfl⟩
        rw [← hx] at hck
        rw [← hy] at hck2
        have HA := Lib.hid hA; clear hA
        have HB := Lib.hid hB; clear hB
        have HX := Lib.hid hx; clear hx
        have HY := Lib.hid hy; clear hy
        clear hc hc2
        have hk0 : 0 ≤ (k : Int) := by omega
        have hk1 : (k : Int) < n := by omega
        by_cases hxy : x = y
        · have b1 : (x != y) = false := by simp [hxy]
          have HXY := Lib.hid hxy; clear hxy
          go_wp2_with fail
          go_quiet (fail)
          go_wp2
          go_roundg (gk - 1)
          case measure => omega
          case rel =>
            refine ⟨k + 1, by omega, by go_num, fun j hj => ?_, bdrewN bw⟩
            by_cases e : j = k
            · rw [e, ← HX.out, ← HY.out]; exact HXY.out
            · exact HOK.out.out j (by omega)
        · have b1 : (x != y) = true := by simpa using hxy
          have F : Hid (eqL xs ys = false) := eqL_false (fun e => hxy (by rw [HX.out, HY.out, e]))
          clear hxy
          go_wp2_with fail
          go_quiet (fail)
          go_wp2
          go_ret
          exact ⟨ret_bool F.out.symm, bdrewN bw⟩
      · have F : Hid (eqL xs ys = true) := eqL_true (list_ext (by rw [HL.out, HL2.out]) (fun j hj => HOK.out.out j (by rw [HL.out] at hj; omega)))
        have hkk : ¬ (k : Int) < n := by omega
        go_wp2
        go_ret
        exact ⟨ret_bool F.out.symm, bw⟩
  · have b1 : ((n : Int) != m) = true := by simp; omega
    have F : Hid (eqL xs ys = false) := eqL_false (fun e => hnm (by rw [← hl, ← hl2, e]))
    clear hl hl2 hnm
    go_enter Tryz.func47, Tryz.ntmps47
    go_wp2
    go_ret
    exact ⟨ret_bool F.out.symm, Below.refl _ _⟩
theorem lst15 {w : World} {g : Nat} (h : Blk w g 71 #[.int .i64 0, .int .i64 0, .int .i64 15, .int .i64 0, .int .i64 0, .int .i64 15]) : LsT w (some ⟨g, 0, none⟩) 2 2 ps15 := by
  refine ⟨rfl, by omega, fun _ => ⟨g, 0, rfl, h.lt, fun k j x hx hj => ?_⟩⟩
  rcases k with _ | _ | k
  · cases hx
    rcases (show j = 0 ∨ j = 1 ∨ j = 2 by omega) with rfl | rfl | rfl <;> exact h.cell _
  · cases hx
    rcases (show j = 0 ∨ j = 1 ∨ j = 2 by omega) with rfl | rfl | rfl <;> exact h.cell _
  · cases hx
set_option maxHeartbeats 4000000 in
set_option maxRecDepth 100000 in
theorem sound_any (w : World) : Calls Tryz.prog 10 #[] w fun e w' => e = .returned (.bool true) ∧ Below w.heap.size w w' := by
  have L1 := Lib.hid ((Blk.new w 44 #[.int .i64 2, .int .i64 10, .int .i64 1, .slice none 0 0, .slice none 0 0]).alloc (.cells #[.int .i64 0, .int .i64 0, .int .i64 15, .int .i64 0, .int .i64 0, .int .i64 15] 71))
  have pb := Blk.new (w.alloc (.cells #[.int .i64 2, .int .i64 10, .int .i64 1, .slice none 0 0, .slice none 0 0] 44)) 71 #[.int .i64 0, .int .i64 0, .int .i64 15, .int .i64 0, .int .i64 0, .int .i64 15]
  simp only [World.size_alloc] at pb
  have PT := Lib.hid (lst15 pb)
  have BW := Lib.hid (bthen (balloc w (.cells #[.int .i64 2, .int .i64 10, .int .i64 1, .slice none 0 0, .slice none 0 0] 44)) (balloc _ (.cells #[.int .i64 0, .int .i64 0, .int .i64 15, .int .i64 0, .int .i64 0, .int .i64 15] 71)))
  clear pb
  go_enter Tryz.func10, Tryz.ntmps10
  go_upto_region 3 with fail
  generalize hwe : (w.alloc (.cells #[.int .i64 2, .int .i64 10, .int .i64 1, .slice none 0 0, .slice none 0 0] 44)).alloc (.cells #[.int .i64 0, .int .i64 0, .int .i64 15, .int .i64 0, .int .i64 0, .int .i64 15] 71) = w1 at *
  clear hwe
  go_wp2_with fail
  refine (cleast_any (some ⟨w.heap.size + 1, 0, none⟩) 2 2 0 ps15 w1 PT.out valid15 (by omega)).mono ?_
  rintro e w2 ⟨f, er, hS, A5, m5, d5, rfl, hI5, hA5, hb⟩
  obtain ⟨rfl, ff, fv⟩ := curve15 hS
  have HFF := Lib.hid ff; have HFV := Lib.hid fv
  have hm5 : m5 ≤ 400 := by have h1 := ff.1.n2; have h2 : f.vals.length = m5 := hI5.1; omega
  replace L1 := Lib.hid ((L1.out.below hb L1.out.lt).alloc (.cells #[.slice A5 m5 d5, .int .i64 f.per, .int .i64 f.inc] 26)); replace BW := Lib.hid (bthen (bthen BW.out hb) (balloc w2 (.cells #[.slice A5 m5 d5, .int .i64 f.per, .int .i64 f.inc] 26)))
  replace PT := Lib.hid ((PT.out.below hb).below (balloc w2 (.cells #[.slice A5 m5 d5, .int .i64 f.per, .int .i64 f.inc] 26)))
  have HI5 := Lib.hid (hI5.alloc' (.cells #[.slice A5 m5 d5, .int .i64 f.per, .int .i64 f.inc] 26))
  have BF := Lib.hid (Blk.new w2 26 #[.slice A5 m5 d5, .int .i64 f.per, .int .i64 f.inc])
  clear hS hI5 hA5 hb ff fv
  go_upto_region 4 with fail
  generalize hwe : w2.alloc (.cells #[.slice A5 m5 d5, .int .i64 f.per, .int .i64 f.inc] 26) = w3 at *
  clear hwe
  generalize w2.heap.size = Zf at *
  obtain ⟨f0, f1, f2, f3, f4⟩ : _ ∧ _ ∧ _ ∧ _ ∧ _ := ⟨L1.out.cell 0, L1.out.cell 1, L1.out.cell 2, L1.out.cell 3, L1.out.cell 4⟩
  simp at f0 f1 f2 f3 f4
  have hlf := L1.out.lt
  obtain ⟨⟨l0, l1, l2⟩, -, hll⟩ := BF.out.c3
  go_wp2_with fail
  have b4 := bthen (balloc w3 (.cells #[.slice A5 m5 d5, .int .i64 f.per, .int .i64 f.inc] 26)) (balloc _ (.cells #[.int .i64 15, .int .i64 15] 67))
  have hrow : RowO ((w3.alloc (.cells #[.slice A5 m5 d5, .int .i64 f.per, .int .i64 f.inc] 26)).alloc (.cells #[.int .i64 15, .int .i64 15] 67)) w3.heap.size 0 [⟨A5, m5, d5, f⟩] := by
    have h := (Blk.new w3 26 #[.slice A5 m5 d5, .int .i64 f.per, .int .i64 f.inc]).alloc (.cells #[.int .i64 15, .int .i64 15] 67)
    refine ⟨h.lt, fun k j x hx hj => ?_, fun x hx => ?_⟩
    · rcases k with _ | k
      · cases hx
        rcases (show j = 0 ∨ j = 1 ∨ j = 2 by omega) with rfl | rfl | rfl <;> exact h.cell _
      · cases hx
    · simp at hx
      subst hx
      exact HI5.out.ext b4
  have hrz : RowZ ((w3.alloc (.cells #[.slice A5 m5 d5, .int .i64 f.per, .int .i64 f.inc] 26)).alloc (.cells #[.int .i64 15, .int .i64 15] 67)) (w3.heap.size + 1) 0 [⟨15, 15⟩] := by
    have h := Blk.new (w3.alloc (.cells #[.slice A5 m5 d5, .int .i64 f.per, .int .i64 f.inc] 26)) 67 #[.int .i64 15, .int .i64 15]
    rw [World.size_alloc] at h
    refine ⟨h.lt, fun k j x hx hj => ?_⟩
    rcases k with _ | k
    · cases hx
      rcases (show j = 0 ∨ j = 1 by omega) with rfl | rfl <;> exact h.cell _
    · cases hx
  replace L1 := Lib.hid (L1.out.below b4 L1.out.lt); replace BW := Lib.hid (bthen BW.out b4); replace PT := Lib.hid (PT.out.below b4)
  have hck : ∀ W : World, ChkOk W #[.int .i64 2, .int .i64 10, .int .i64 1, .slice none 0 0, .slice none 0 0] := fun W w' h => check2_any 10 1 none none 0 0 w' (by omega) (by omega) (by omega) (by omega)
  have HCK := Lib.hid hck
  clear f0 f1 f2 f3 f4 hlf l0 l1 l2 hll b4 BF hck HI5
  refine (sdelay2_any 10 0 w3.heap.size 0 1 1 (w3.heap.size + 1) 0 1 0 0 0 0 none none [⟨A5, m5, d5, f⟩] [⟨15, 15⟩] ⟨A5, m5, d5, f⟩ ((w3.alloc (.cells #[.slice A5 m5 d5, .int .i64 f.per, .int .i64 f.inc] 26)).alloc (.cells #[.int .i64 15, .int .i64 15] 67)) (by omega) (by omega) (by omega) (by omega) (by omega) (by omega) rfl hrow (fun x hx => by simp at hx; subst hx; exact HFF.out) (fun x hx => by simp at hx; subst hx; show m5 ≤ 1000; omega) rfl hrz (fun x hx => by simp at hx; subst hx; unfold SZ.Good; decide) (HCK.out _) rfl).mono ?_
  rintro e w5 ⟨i, v, A, er, hM, rfl, hb⟩
  obtain ⟨rfl, rfl⟩ := delay15 HFF.out HFV.out hM
  replace L1 := Lib.hid ((L1.out.below hb L1.out.lt).alloc (.cells #[.bool i, .int .i64 2, .int .i64 A] 35)); replace BW := Lib.hid (bthen (bthen BW.out hb) (balloc w5 (.cells #[.bool i, .int .i64 2, .int .i64 A] 35))); replace PT := Lib.hid ((PT.out.below hb).below (balloc w5 (.cells #[.bool i, .int .i64 2, .int .i64 A] 35)))
  have DB := Lib.hid (Blk.new w5 35 #[.bool i, .int .i64 2, .int .i64 A])
  clear hM hb hrow hrz
  go_upto_region 5 with fail
  generalize hwe : w5.alloc (.cells #[.bool i, .int .i64 2, .int .i64 A] 35) = w6 at *
  clear hwe
  generalize w5.heap.size = Zd at *
  obtain ⟨f0, f1, f2, f3, f4⟩ : _ ∧ _ ∧ _ ∧ _ ∧ _ := ⟨L1.out.cell 0, L1.out.cell 1, L1.out.cell 2, L1.out.cell 3, L1.out.cell 4⟩
  simp at f0 f1 f2 f3 f4
  have hlf := L1.out.lt
  go_wp2_with fail
  refine (srun2_any 2 10 1 none none 0 0 0 0 (some ⟨w.heap.size + 1, 0, none⟩) 2 2 ps15 5 w6 PT.out valid15 (fun x hx => by simp [ps15] at hx; subst hx; decide) (by omega) (by omega) (by omega) (by omega) (by omega) rfl (HCK.out _)).mono ?_
  rintro e w7 ⟨done, sent, gD, gS, gcs, hP, rfl, hd, hs, hh, hb⟩
  obtain rfl := done15 hP
  replace BW := Lib.hid (bthen (bthen BW.out hb) (balloc w7 (.cells #[.slice (some ⟨gD, 0, none⟩) 2 2, .slice (some ⟨gS, 0, none⟩) 1 1] 62))); replace DB := Lib.hid ((DB.out.below hb DB.out.lt).alloc (.cells #[.slice (some ⟨gD, 0, none⟩) 2 2, .slice (some ⟨gS, 0, none⟩) 1 1] 62))
  have DD := Lib.hid (Blk.alloc hd (.cells #[.slice (some ⟨gD, 0, none⟩) 2 2, .slice (some ⟨gS, 0, none⟩) 1 1] 62)); have RB := Lib.hid (Blk.new w7 62 #[.slice (some ⟨gD, 0, none⟩) 2 2, .slice (some ⟨gS, 0, none⟩) 1 1])
  clear hP hd hs hh hb f0 f1 f2 f3 f4 hlf L1 PT HCK HFF HFV
  go_upto_region 6 with fail
  generalize hwe : w7.alloc (.cells #[.slice (some ⟨gD, 0, none⟩) 2 2, .slice (some ⟨gS, 0, none⟩) 1 1] 62) = w8 at *
  clear hwe
  generalize w7.heap.size = Zr at *
  go_wp2_with fail
  refine (serve_any 10 w8 (by omega) (by omega)).mono ?_
  rintro e w9 ⟨A6, n6, c6, rfl, hI6, hA6, hb⟩
  have hn6 : n6 ≤ 1 := by have h2 : (lineCv 10).vals.length = n6 := hI6.1; have : (lineCv 10).vals.length = 1 := rfl; omega
  replace BW := Lib.hid (bthen (bthen BW.out hb) (balloc w9 (.cells #[.slice A6 n6 c6, .int .i64 (lineCv 10).per, .int .i64 (lineCv 10).inc] 26))); replace DB := Lib.hid ((DB.out.below hb DB.out.lt).alloc (.cells #[.slice A6 n6 c6, .int .i64 (lineCv 10).per, .int .i64 (lineCv 10).inc] 26)); replace DD := Lib.hid ((Blk.below DD.out hb (Blk.lt DD.out)).alloc (.cells #[.slice A6 n6 c6, .int .i64 (lineCv 10).per, .int .i64 (lineCv 10).inc] 26)); replace RB := Lib.hid ((RB.out.below hb RB.out.lt).alloc (.cells #[.slice A6 n6 c6, .int .i64 (lineCv 10).per, .int .i64 (lineCv 10).inc] 26))
  have HI6 := Lib.hid (hI6.alloc' (.cells #[.slice A6 n6 c6, .int .i64 (lineCv 10).per, .int .i64 (lineCv 10).inc] 26)); have CB := Lib.hid (Blk.new w9 26 #[.slice A6 n6 c6, .int .i64 (lineCv 10).per, .int .i64 (lineCv 10).inc])
  clear hI6 hA6 hb
  go_upto_region 7 with fail
  generalize hwe : w9.alloc (.cells #[.slice A6 n6 c6, .int .i64 (lineCv 10).per, .int .i64 (lineCv 10).inc] 26) = wa at *
  clear hwe
  generalize w9.heap.size = Zc at *
  obtain ⟨⟨c0, c1, c2⟩, -, hlc⟩ := CB.out.c3
  go_wp2_with fail
  refine (cpprv_any A6 A6 n6 n6 c6 c6 (lineCv 10).per (lineCv 10).inc (lineCv 10).per (lineCv 10).inc (lineCv 10).vals (lineCv 10).vals wa HI6.out HI6.out (by omega) (by omega)).mono ?_
  rintro e wb ⟨r, fr, cs, er, hPv, A7, n7, c7, B7, m7, d7, -, -, rfl, hI7, hJ7, hA7, hB7, hb⟩
  obtain ⟨rfl, hCk⟩ := pv10 (show PvS (lineCv 10) (lineCv 10) r fr cs er from hPv)
  have hn7 : n7 ≤ 400 ∧ m7 ≤ 2000 := by
    obtain ⟨_, _, a, b, ha, hb, hc, hh, _, hC⟩ := id hCk
    obtain ⟨hao, _⟩ := nf_small (ln_ok (by omega) (by omega)) ha
    obtain ⟨hbo, _⟩ := nf_small (ln_ok (by omega) (by omega)) hb
    have h1 := hC.2.1.2.1
    have h2 : cs.length = m7 := hJ7.1
    have h3 : r.vals.length = n7 := hI7.1
    have s1 := cst_le hao; have s2 := cst_le hbo; have s3 := cst_le hh; have s4 := hh.n2
    have hc' : ordC a b ≤ 120 := hc
    unfold cvH at h1
    omega
  obtain ⟨hn7, hm7⟩ := hn7
  have CK := Lib.hid hCk
  replace BW := Lib.hid (bthen (bthen BW.out hb) (balloc wb (.cells #[.slice A7 n7 c7, .int .i64 r.per, .int .i64 r.inc, .int .i64 fr, .slice B7 m7 d7] 29))); replace DB := Lib.hid ((DB.out.below hb DB.out.lt).alloc (.cells #[.slice A7 n7 c7, .int .i64 r.per, .int .i64 r.inc, .int .i64 fr, .slice B7 m7 d7] 29)); replace DD := Lib.hid ((Blk.below DD.out hb (Blk.lt DD.out)).alloc (.cells #[.slice A7 n7 c7, .int .i64 r.per, .int .i64 r.inc, .int .i64 fr, .slice B7 m7 d7] 29)); replace RB := Lib.hid ((RB.out.below hb RB.out.lt).alloc (.cells #[.slice A7 n7 c7, .int .i64 r.per, .int .i64 r.inc, .int .i64 fr, .slice B7 m7 d7] 29))
  replace HI6 := Lib.hid ((HI6.out.ext hb).alloc' (.cells #[.slice A7 n7 c7, .int .i64 r.per, .int .i64 r.inc, .int .i64 fr, .slice B7 m7 d7] 29)); replace CB := Lib.hid ((CB.out.below hb CB.out.lt).alloc (.cells #[.slice A7 n7 c7, .int .i64 r.per, .int .i64 r.inc, .int .i64 fr, .slice B7 m7 d7] 29))
  have HI7 := Lib.hid (hI7.alloc' (.cells #[.slice A7 n7 c7, .int .i64 r.per, .int .i64 r.inc, .int .i64 fr, .slice B7 m7 d7] 29)); have HJ7 := Lib.hid (hJ7.alloc' (.cells #[.slice A7 n7 c7, .int .i64 r.per, .int .i64 r.inc, .int .i64 fr, .slice B7 m7 d7] 29)); have SB := Lib.hid (Blk.new wb 29 #[.slice A7 n7 c7, .int .i64 r.per, .int .i64 r.inc, .int .i64 fr, .slice B7 m7 d7])
  clear hPv hI7 hJ7 hA7 hB7 hb c0 c1 c2 hlc hCk
  go_upto_region 8 with fail
  generalize hwe : wb.alloc (.cells #[.slice A7 n7 c7, .int .i64 r.per, .int .i64 r.inc, .int .i64 fr, .slice B7 m7 d7] 29) = wc at *
  clear hwe
  generalize wb.heap.size = Zs at *
  have d1 := DB.out.cell 1
  simp at d1
  have hld := DB.out.lt
  have r0 := RB.out.cell 0
  simp at r0
  have hlr := RB.out.lt
  go_wp2_with fail
  have hlit : Ints (wc.alloc (.cells #[.int .i64 1, .int .i64 2] 3)) (wc.alloc (.cells #[.int .i64 1, .int .i64 2] 3)).heap.size (some ⟨wc.heap.size, 0, none⟩) 2 [1, 2] := by
    have h := Blk.new wc 3 #[.int .i64 1, .int .i64 2]
    refine ⟨rfl, fun _ => ⟨_, _, rfl, h.lt, fun j hj => ?_⟩⟩
    rcases (show j = 0 ∨ j = 1 by omega) with rfl | rfl <;> exact h.cell _
  have hdn : Ints (wc.alloc (.cells #[.int .i64 1, .int .i64 2] 3)) (wc.alloc (.cells #[.int .i64 1, .int .i64 2] 3)).heap.size (some ⟨gD, 0, none⟩) 2 [1, 2] := by
    have h := Blk.alloc DD.out (.cells #[.int .i64 1, .int .i64 2] 3)
    refine ⟨rfl, fun _ => ⟨_, _, rfl, h.lt, fun j hj => ?_⟩⟩
    rcases (show j = 0 ∨ j = 1 by omega) with rfl | rfl <;> exact h.cell _
  have b9 := balloc wc (.cells #[.int .i64 1, .int .i64 2] 3)
  refine (ints13_any (some ⟨gD, 0, none⟩) (some ⟨wc.heap.size, 0, none⟩) 2 2 2 2 [1, 2] [1, 2] _ hdn hlit (by omega) (by omega)).mono ?_
  rintro e wd ⟨rfl, hb⟩
  rw [eqL_true rfl]
  have b10 := bthen b9 hb
  replace CB := Lib.hid (CB.out.below b10 CB.out.lt); replace SB := Lib.hid (SB.out.below b10 SB.out.lt); replace HI6 := Lib.hid (HI6.out.ext b10); replace HI7 := Lib.hid (HI7.out.ext b10); replace HJ7 := Lib.hid (HJ7.out.ext b10); replace BW := Lib.hid (bthen BW.out b10)
  clear hlit hdn b9 hb b10 d1 hld r0 hlr DB DD RB
  obtain ⟨⟨c0, c1, c2⟩, -, hlc⟩ := CB.out.c3
  obtain ⟨⟨q0, q1, q2, q3, q4⟩, -, hls⟩ := SB.out.d5
  go_wp2_with fail
  refine (cpchk_any A6 A6 A7 B7 n6 n6 n7 m7 c6 c6 c7 d7 (lineCv 10).per (lineCv 10).inc (lineCv 10).per (lineCv 10).inc fr (lineCv 10).vals (lineCv 10).vals r cs wd HI6.out HI6.out HI7.out HJ7.out (by omega) (by omega) (by omega) (by omega)).mono ?_
  rintro e we ⟨⟨b, hbc, rfl⟩, hb⟩
  obtain rfl : b = true := hbc.2 CK.out
  have bw := bthen BW.out hb
  go_wp2_with fail
  go_ret
  exact ⟨rfl, bw⟩
end Go.Proofs.YtaejfleahamapaaGreat

namespace Go.Proofs.YtaejfleahamapaaGreat
open Go.RowKit
set_option linter.unusedVariables false
set_option linter.unusedSimpArgs false

theorem cert_er {f g r : Cv} {er : Int} (hf : f.Ok) (hg : g.Ok) (H : CvS f g r er) : er = 0 ∨ er = 3 := by
  rcases H with ⟨h, _⟩ | ⟨hf, hg, a, b, ha, hb, H⟩
  · exact absurd ⟨hf, hg⟩ h
  · rcases H with ⟨_, _, h⟩ | ⟨hc, h, h1, h2⟩
    · exact .inr h
    · obtain ⟨hao, _⟩ := nf_small hf ha
      obtain ⟨hbo, _⟩ := nf_small hg hb
      rcases h2.get (cv_up hao hbo h1) with h3 | h3
      · exact .inl h3.1
      · exact .inr h3.1
theorem at02_any (A : Option Addr) (n c : Nat) (f : Cv) (t : Nat) (w : World) (hA : Ints w w.heap.size A n f.vals) (ok : f.Ok) (ht : t ≤ 2097152) :
    Calls Tryz.prog 14 #[.agg #[.slice A n c, .int .i64 f.per, .int .i64 f.inc], .int .i64 t] w fun e w' => e = .returned (.int .i64 (f.at t)) ∧ Below w.heap.size w w' := by
  have hl := hA.1
  have h1 := ok.n2; have h2 := ok.p1; have h3 := ok.pn; have h4 := ok.i1; have h5 := ok.i2
  refine (refAt_any A n c f.per f.inc (t : Int) f.vals w hA (by omega) h2 (by omega) h4 (by omega) ok.nn (by omega) (by omega)).mono ?_
  intro e w' h
  exact h
theorem cert_le {f g r h : Cv} {v t u : Nat} (hf : f.Fin) (hg : g.Fin) (hh : h.Fin) (hc : CvF f g r.at) (hd : DB h r v) (hu : u ≤ t + v) (ht : t ≤ 40) : h.at t ≤ f.at u + g.at (t + v - u) := by
  have h1 : r.at (t + v) ≤ f.at u + g.at (t + v - u) := by
    rcases (hc (t + v)).cases with ⟨h1, _⟩ | ⟨_, h1⟩
    · exact absurd ⟨by omega, hf.not_infAt _, hg.not_infAt _⟩ (h1 u)
    · exact h1 u ⟨by omega, hf.not_infAt _, hg.not_infAt _⟩
  have h2 : h.at t ≤ r.at (t + v) := by
    rcases hd t with h3 | h3
    · have h4 : r.at (t + v) = inf := h3.2
      rw [h4]
      have h5 := hh.at_bd t
      have : (t : Int) * 1073741824 ≤ 40 * 1073741824 := Int.mul_le_mul_of_nonneg_right (by omega) (by omega)
      unfold inf
      omega
    · exact h3.2
  omega
set_option maxHeartbeats 4000000 in
set_option maxRecDepth 100000 in
theorem cert_any (A0 : Option Addr) (n0 c0 : Nat) (L : List Int) (w : World) (hL : Ints w w.heap.size A0 n0 L) (hc0 : n0 ≤ c0) (hn0 : (n0 : Int) ≤ 9223372036854775807) :
    Calls Tryz.prog 3 #[.slice A0 n0 c0] w fun e w' => e = .returned (.bool true) ∧ Below w.heap.size w w' := by
  go_enter Tryz.func3, Tryz.ntmps3
  go_wp2_with fail
  refine (new_any A0 n0 c0 L w hL hc0 hn0).mono ?_
  rintro e w1 ⟨rfl, hS1, hb1⟩
  have E := Lib.hid (EnvL.start hS1 hb1)
  clear hL hS1 hb1
  go_wp2_with fail
  refine (srcZero2_any w.heap.size 5 _ (by exact E.out.s) (by omega) (by omega)).mono ?_
  rintro e w2 ⟨f, A, n, c, hD, hcf, rfl, hI, hA, hS, hk⟩
  have hps := E.out.s.lt
  have E := Lib.hid (E.out.kept hS hk)
  have Vf := Lib.hid (show (CR.mk A n c f).In w.heap.size w2 from CR.In.new hI hA hps)
  have Hf := Lib.hid (show DrawC 5 f ∧ f.Fin from hD)
  have HCf := Lib.hid hcf
  have hlenf := hI.1
  try simp only at hlenf
  have hnl : n ≤ 20 := by have h1 := Hf.out.1.len; omega
  clear hlenf
  clear hD hI hA hS hk hps hcf
  go_wp2_with fail
  refine (srcZero2_any w.heap.size 5 _ (by exact E.out.s) (by omega) (by omega)).mono ?_
  rintro e w3 ⟨g, B, m, d, hD, hcf, rfl, hI, hA, hS, hk⟩
  have hps := E.out.s.lt
  have E := Lib.hid (E.out.kept hS hk)
  have Vg := Lib.hid (show (CR.mk B m d g).In w.heap.size w3 from CR.In.new hI hA hps)
  have Hg := Lib.hid (show DrawC 5 g ∧ g.Fin from hD)
  have HCg := Lib.hid hcf
  have hleng := hI.1
  try simp only at hleng
  have hml : m ≤ 20 := by have h1 := Hg.out.1.len; omega
  clear hleng
  have Vf := Lib.hid (Vf.out.kept hk)
  clear hD hI hA hS hk hps hcf
  go_wp2_with fail
  refine (srcZero2_any w.heap.size 5 _ (by exact E.out.s) (by omega) (by omega)).mono ?_
  rintro e w4 ⟨h, C, l, k, hD, hcf, rfl, hI, hA, hS, hk⟩
  have hps := E.out.s.lt
  have E := Lib.hid (E.out.kept hS hk)
  have Vh := Lib.hid (show (CR.mk C l k h).In w.heap.size w4 from CR.In.new hI hA hps)
  have Hh := Lib.hid (show DrawC 5 h ∧ h.Fin from hD)
  have HCh := Lib.hid hcf
  have hlenh := hI.1
  try simp only at hlenh
  have hll : l ≤ 20 := by have h1 := Hh.out.1.len; omega
  clear hlenh
  have Vf := Lib.hid (Vf.out.kept hk)
  have Vg := Lib.hid (Vg.out.kept hk)
  clear hD hI hA hS hk hps hcf
  have E := Lib.hid (show EnvL w.heap.size w _ _ from E.out.push (X := ⟨A, n, c, f⟩) Vf.out)
  dsimp only [List.cons_append, List.nil_append] at E
  have Vg := Lib.hid (Vg.out.alloc (.cells #[.slice A n c, .int .i64 f.per, .int .i64 f.inc] 26))
  have Vh := Lib.hid (Vh.out.alloc (.cells #[.slice A n c, .int .i64 f.per, .int .i64 f.inc] 26))
  have E := Lib.hid (show EnvL w.heap.size w _ _ from E.out.push (X := ⟨B, m, d, g⟩) Vg.out)
  dsimp only [List.cons_append, List.nil_append] at E
  have Vh := Lib.hid (Vh.out.alloc (.cells #[.slice B m d, .int .i64 g.per, .int .i64 g.inc] 26))
  have E := Lib.hid (show EnvL w.heap.size w _ _ from E.out.push (X := ⟨C, l, k, h⟩) Vh.out)
  dsimp only [List.cons_append, List.nil_append] at E
  clear Vf Vg Vh HCf HCg HCh
  go_upto_region 3 with fail
  simp only [World.size_alloc] at E
  generalize hwe : ((w4.alloc (.cells #[.slice A n c, .int .i64 f.per, .int .i64 f.inc] 26)).alloc (.cells #[.slice B m d, .int .i64 g.per, .int .i64 g.inc] 26)).alloc (.cells #[.slice C l k, .int .i64 h.per, .int .i64 h.inc] 26) = we at *
  clear hwe
  generalize w4.heap.size + 1 + 1 = ZH at *
  generalize w4.heap.size + 1 = ZG at *
  generalize w4.heap.size = ZF at *
  obtain ⟨x0, x1, x2, hlx⟩ := (E.out.get 0 rfl).cells
  obtain ⟨y0, y1, y2, hly⟩ := (E.out.get 1 rfl).cells
  go_wp2_with fail
  refine (cpprv_any A B n m c d f.per f.inc g.per g.inc f.vals g.vals _ (by exact (E.out.get 0 rfl).inn.ints) (by exact (E.out.get 1 rfl).inn.ints) (by omega) (by omega)).mono ?_
  rintro e w5 ⟨r, fr, cs, er, hS, A5, n5, c5, B6, m6, d6, hc6, hd6, rfl, hI6, hJ6, hA6, hB6, hb⟩
  have SP := Lib.hid (show PvS f g r fr cs er from hS)
  have CB := Lib.hid (Blk.new w5 29 #[.slice A5 n5 c5, .int .i64 r.per, .int .i64 r.inc, .int .i64 fr, .slice B6 m6 d6])
  have CI := Lib.hid (hI6.alloc' (.cells #[.slice A5 n5 c5, .int .i64 r.per, .int .i64 r.inc, .int .i64 fr, .slice B6 m6 d6] 29)); have CJ := Lib.hid (hJ6.alloc' (.cells #[.slice A5 n5 c5, .int .i64 r.per, .int .i64 r.inc, .int .i64 fr, .slice B6 m6 d6] 29))
  have E := Lib.hid ((E.out.below hb).alloc (.cells #[.slice A5 n5 c5, .int .i64 r.per, .int .i64 r.inc, .int .i64 fr, .slice B6 m6 d6] 29))
  clear hS hc6 hd6 hI6 hJ6 hA6 hB6 hb x0 x1 x2 hlx y0 y1 y2 hly
  go_upto_region 4 with fail
  generalize hwe : w5.alloc (.cells #[.slice A5 n5 c5, .int .i64 r.per, .int .i64 r.inc, .int .i64 fr, .slice B6 m6 d6] 29) = wf at *
  clear hwe
  generalize w5.heap.size = Q at *
  rcases cert_er Hf.out.1.ok Hg.out.1.ok SP.out.1 with rfl | rfl
  case inr =>
    go_wp2_with fail
    refine (sound_any _).mono ?_
    rintro e wq ⟨rfl, hb⟩
    have bw := (E.out.below hb).fin
    go_wp2_with fail
    go_ret
    exact ⟨rfl, bw⟩
  case inl =>
  have CK := Lib.hid (pv_check SP.out)
  have NFS := Lib.hid (cvS_nf SP.out.1)
  have HVO := Lib.hid (show r.Ok from by obtain ⟨_, _, _, _, _, _, _, _, _, h, _⟩ := NFS.out; exact h)
  have HCV := Lib.hid (show CvF f g r.at from by obtain ⟨_, _, _, _, _, _, _, _, _, _, _, _, h⟩ := NFS.out; exact h)
  have hn5 : n5 ≤ 400 := by have h1 := HVO.out.n2; have h2 : r.vals.length = n5 := CI.out.1; omega
  have hm6 : m6 ≤ 2000 := by
    obtain ⟨_, _, a, b, ha, hb, hc, hh, _, hC⟩ := CK.out
    obtain ⟨hao, _⟩ := nf_small Hf.out.1.ok ha
    obtain ⟨hbo, _⟩ := nf_small Hg.out.1.ok hb
    have h1 := hC.2.1.2.1
    have h2 : cs.length = m6 := CJ.out.1
    have s1 := cst_le hao; have s2 := cst_le hbo; have s3 := cst_le hh
    have hc' : ordC a b ≤ 120 := hc
    unfold cvH at h1
    omega
  clear NFS
  obtain ⟨x0, x1, x2, hlx⟩ := (E.out.get 2 rfl).cells
  obtain ⟨⟨c0', c1, c2, c3, c4⟩, _, hlc⟩ := CB.out.d5
  go_wp2_with fail
  refine (delay_any C A5 l n5 k c5 h.per h.inc r.per r.inc h.vals r.vals _ (by exact (E.out.get 2 rfl).inn.ints) CI.out (by omega) (by omega)).mono ?_
  rintro e w6 ⟨i, D, A9, er, hD, rfl, hb⟩
  have HD := Lib.hid (show DevE (DelayS h r) h r i D A9 er from hD)
  have her : er = 0 ∨ er = 3 := by
    rcases HD.out with ⟨⟨h1, _⟩ | ⟨_, _, h1, _⟩, _⟩ | ⟨_, _, _, h1, _⟩
    · exact absurd ⟨Hh.out.1.ok, HVO.out⟩ h1
    · exact .inr h1
    · exact .inl h1
  clear hD x0 x1 x2 hlx c0' c1 c2 c3 c4 hlc
  have b2 := bthen hb (balloc w6 (.cells #[.bool i, .int .i64 D, .int .i64 A9] 35))
  have DVB := Lib.hid (Blk.new w6 35 #[.bool i, .int .i64 D, .int .i64 A9])
  clear hb
  have hb := b2
  have E := Lib.hid (E.out.below hb)
  have CB := Lib.hid (CB.out.below hb CB.out.lt)
  have CI := Lib.hid (CI.out.ext hb); have CJ := Lib.hid (CJ.out.ext hb)
  clear hb b2
  go_upto_region 7 with fail
  generalize hwe : w6.alloc (.cells #[.bool i, .int .i64 D, .int .i64 A9] 35) = wg at *
  clear hwe
  generalize w6.heap.size = ZD at *
  obtain ⟨x0, x1, x2, hlx⟩ := (E.out.get 0 rfl).cells
  obtain ⟨y0, y1, y2, hly⟩ := (E.out.get 1 rfl).cells
  obtain ⟨⟨c0', c1, c2, c3, c4⟩, _, hlc⟩ := CB.out.d5
  go_wp2_with fail
  refine (cpchk_any A B A5 B6 n m n5 m6 c d c5 d6 f.per f.inc g.per g.inc fr f.vals g.vals r cs _ (by exact (E.out.get 0 rfl).inn.ints) (by exact (E.out.get 1 rfl).inn.ints) CI.out CJ.out (by omega) (by omega) (by omega) (by omega)).mono ?_
  rintro e w7 ⟨⟨z, hz, rfl⟩, hb⟩
  obtain rfl : z = true := hz.2 CK.out
  clear hz x0 x1 x2 hlx y0 y1 y2 hly c0' c1 c2 c3 c4 hlc CB CI CJ CK SP
  replace E := Lib.hid (E.out.below hb); replace DVB := Lib.hid (DVB.out.below hb DVB.out.lt)
  clear hb
  obtain ⟨⟨d0, d1, d2⟩, -, hld⟩ := DVB.out.c3
  rcases her with rfl | rfl
  case inr =>
    go_wp2_with fail
    refine (sound_any _).mono ?_
    rintro e wq ⟨rfl, hb⟩
    have bw := (E.out.below hb).fin
    go_wp2_with fail
    go_ret
    exact ⟨rfl, bw⟩
  case inl =>
  obtain ⟨V, hV, hDS⟩ : ∃ V : Nat, D = V ∧ (i = false → DB h r V) := by
    rcases HD.out with ⟨⟨h1, h2⟩ | ⟨_, _, h1, _⟩, _⟩ | ⟨_, _, _, _, v', A', rfl, rfl, hS⟩
    · omega
    · omega
    · refine ⟨v', rfl, fun hi => ?_⟩
      rcases hS with ⟨h1, _⟩ | ⟨_, h1, _⟩
      · rw [hi] at h1; cases h1
      · exact h1
  have HDS := Lib.hid hDS
  clear hDS HD
  subst hV
  cases i with
  | true =>
    go_wp2_with fail
    refine (sound_any _).mono ?_
    rintro e wq ⟨rfl, hb⟩
    have bw := (E.out.below hb).fin
    go_wp2_with fail
    go_ret
    exact ⟨rfl, bw⟩
  | false =>
  by_cases hV : V ≤ 200
  case neg =>
    have dv : decide ((200 : Int) < V) = true := decide_eq_true (by omega)
    go_wp2_with fail
    refine (sound_any _).mono ?_
    rintro e wq ⟨rfl, hb⟩
    have bw := (E.out.below hb).fin
    go_wp2_with fail
    go_ret
    exact ⟨rfl, bw⟩
  case pos =>
  have dv : decide ((200 : Int) < V) = false := decide_eq_false (by omega)
  have HDB := Lib.hid (HDS.out rfl)
  clear HDS
  go_wp2_with fail
  clear dv d0 d1 d2 hld
  go_loopg [11] 40 (fun gg s11 wr => ∃ t : Nat, t + gg = 40 ∧ s11 = .int .i64 t ∧ Hid (EnvL w.heap.size w wr _) ∧ Hid (Blk wr ZD 35 #[.bool false, .int .i64 V, .int .i64 A9]))
  case atStart => exact ⟨0, by omega, rfl, E, DVB⟩
  case round =>
    clear E DVB
    obtain ⟨t, htg, rfl, E, DVB⟩ := hrel
    rename World => wo
    obtain ⟨go1, hgo1⟩ : ∃ go1 : Nat, go1 = gk := ⟨_, rfl⟩
    rw [← hgo1] at htg
    rcases Nat.lt_or_ge t 40 with ht | ht
    · have hti : (t : Int) < 40 := by omega
      obtain ⟨v, hv⟩ : ∃ v, v = h.at t := ⟨_, rfl⟩
      have HVT := Lib.hid hv
      obtain ⟨x0, x1, x2, hlx⟩ := (E.out.get 2 rfl).cells
      go_wp2_with fail
      refine (cval_any C l k h.per h.inc (t : Int) h.vals _ (by exact (E.out.get 2 rfl).inn.ints) Hh.out.1.ok (by omega) (by omega)).mono ?_
      rw [Int.toNat_natCast, ← HVT.out]
      rintro e w8 ⟨rfl, hb⟩
      replace E := Lib.hid (E.out.below hb); replace DVB := Lib.hid (DVB.out.below hb DVB.out.lt)
      clear hb hv x0 x1 x2 hlx
      obtain ⟨⟨d0, d1, d2⟩, -, hld⟩ := DVB.out.c3
      obtain ⟨T, hT⟩ : ∃ T, T = t + V := ⟨_, rfl⟩
      have ewT : IntKind.i64.wrap ((t : Int) + V) = (T : Int) := by rw [hT]; exact IntWalk.i64_in _ (by omega)
      have HT := Lib.hid hT
      have hT2 : T ≤ 240 := by omega
      clear hT
      go_wp2_with fail
      clear d0 d1 d2 hld
      go_loopg [14] (T + 1) (fun g2 s14 wq => ∃ u : Nat, u + g2 = T + 1 ∧ s14 = .int .i64 u ∧ Hid (EnvL w.heap.size w wq [(ZF, { A := A, n := n, c := c, f := f }), (ZG, { A := B, n := m, c := d, f := g }), (ZH, { A := C, n := l, c := k, f := h })]) ∧ Hid (Blk wq ZD 35 #[.bool false, .int .i64 V, .int .i64 A9]))
      case atStart => exact ⟨0, by omega, rfl, E, DVB⟩
      case round =>
        clear E DVB
        obtain ⟨u, hug, rfl, E, DVB⟩ := hrel
        obtain ⟨⟨d0, d1, d2⟩, -, hld⟩ := DVB.out.c3
        rcases Nat.lt_or_ge T u with hu | hu
        · obtain rfl : u = T + 1 := by omega
          have hui : ¬ ((T : Int) + 1 ≤ T) := by omega
          have hui2 : ¬ (((T + 1 : Nat) : Int) ≤ T) := by omega
          go_wp2_with fail
          go_roundg (go1 - 1)
          case measure => omega
          case rel => exact ⟨t + 1, by omega, by go_num, E, DVB⟩
        · have hui : (u : Int) ≤ T := by omega
          obtain ⟨X, hX⟩ : ∃ X, X = T - u := ⟨_, rfl⟩
          have ewX : IntKind.i64.wrap ((T : Int) - u) = (X : Int) := by rw [hX, Int.ofNat_sub hu]; exact IntWalk.i64_in _ (by omega)
          have hX2 : X ≤ 240 := by omega
          obtain ⟨a, ha⟩ : ∃ a, a = f.at u := ⟨_, rfl⟩
          obtain ⟨b, hb⟩ : ∃ b, b = g.at X := ⟨_, rfl⟩
          have hbd : ∀ (q : Cv) (j : Nat), q.Fin → j ≤ 240 → 0 ≤ q.at j ∧ q.at j ≤ 300000000000 := fun q j hq hj => by
            have h1 := hq.at_bd j
            have : (j : Int) * 1073741824 ≤ 240 * 1073741824 := Int.mul_le_mul_of_nonneg_right (by omega) (by omega)
            omega
          have hab := hbd f u Hf.out.2 (by omega)
          have hbb := hbd g X Hg.out.2 hX2
          rw [← ha] at hab
          rw [← hb] at hbb
          have hle := cert_le (t := t) (u := u) Hf.out.2 Hg.out.2 Hh.out.2 HCV.out HDB.out (by have := HT.out; omega) (by omega)
          rw [← HT.out, ← hX, ← ha, ← hb, ← HVT.out] at hle
          obtain ⟨s, hs⟩ : ∃ s, s = a + b := ⟨_, rfl⟩
          have ews : IntKind.i64.wrap (a + b) = s := by rw [hs]; exact IntWalk.i64_in _ (by omega)
          have hsv : ¬ s < v := by omega
          have HA := Lib.hid ha; have HB := Lib.hid hb
          clear ha hb hX hab hbb hbd hle hs
          obtain ⟨x0, x1, x2, hlx⟩ := (E.out.get 0 rfl).cells
          obtain ⟨y0, y1, y2, hly⟩ := (E.out.get 1 rfl).cells
          have HX := Lib.hid (show Ints wr wr.heap.size A n f.vals from (E.out.get 0 rfl).inn.ints); have HY := Lib.hid (show Ints wr wr.heap.size B m g.vals from (E.out.get 1 rfl).inn.ints)
          have W0 := Lib.hid (Below.refl wr.heap.size wr)
          go_wp2_with fail
          refine wp_region_held_drew (S := fun w' => (w'.cell? ⟨ZF, 0, none⟩ = some (.slice A n c) ∧ w'.cell? ⟨ZF, 1, none⟩ = some (.int .i64 f.per) ∧ w'.cell? ⟨ZF, 2, none⟩ = some (.int .i64 f.inc)) ∧ (w'.cell? ⟨ZG, 0, none⟩ = some (.slice B m d) ∧ w'.cell? ⟨ZG, 1, none⟩ = some (.int .i64 g.per) ∧ w'.cell? ⟨ZG, 2, none⟩ = some (.int .i64 g.inc)) ∧ w'.cell? ⟨ZD, 1, none⟩ = some (.int .i64 V)) (by kernel_rfl) (by exact ⟨⟨x0, x1, x2⟩, ⟨y0, y1, y2⟩, d1⟩) (fun hHeld => ?_)
          refine tkS (i := 0) (v := ?_) ?_ ?_
          rotate_left 1
          · (intro w hSw; (try dsimp only at hSw); go_simp; try with_reducible rfl)
          all_goals ((try simp only [Act.put]); try simp only [g8b, g8c, g8d])
          refine tkS (i := 1) (v := ?_) ?_ ?_
          rotate_left 1
          · (intro w hSw; (try dsimp only at hSw); go_simp; try with_reducible rfl)
          all_goals ((try simp only [Act.put]); try simp only [g8b, g8c, g8d])
          refine tkS (i := 3) (v := ?_) ?_ ?_
          rotate_left 1
          · (intro w hSw; (try dsimp only at hSw); go_simp; try with_reducible rfl)
          all_goals ((try simp only [Act.put]); try simp only [g8b, g8c, g8d])
          refine tkS (i := 4) (v := ?_) ?_ ?_
          rotate_left 1
          · (intro w hSw; (try dsimp only at hSw); go_simp; try with_reducible rfl)
          all_goals ((try simp only [Act.put]); try simp only [g8b, g8c, g8d])
          refine tkS (i := 5) (v := ?_) ?_ ?_
          rotate_left 1
          · (intro w hSw; (try dsimp only at hSw); go_simp; try with_reducible rfl)
          all_goals ((try simp only [Act.put]); try simp only [g8b, g8c, g8d])
          refine tkS (i := 6) (v := ?_) ?_ ?_
          rotate_left 1
          · (intro w hSw; (try dsimp only at hSw); go_simp; try with_reducible rfl)
          all_goals ((try simp only [Act.put]); try simp only [g8b, g8c, g8d])
          refine tkS (i := 7) (v := ?_) ?_ ?_
          rotate_left 1
          · (intro w hSw; (try dsimp only at hSw); go_simp; try with_reducible rfl)
          all_goals ((try simp only [Act.put]); try simp only [g8b, g8c, g8d])
          refine tkS (i := 8) (v := ?_) ?_ ?_
          rotate_left 1
          · (intro w hSw; (try dsimp only at hSw); go_simp; try with_reducible rfl)
          all_goals ((try simp only [Act.put]); try simp only [g8b, g8c, g8d])
          refine tkS (i := 9) (v := ?_) ?_ ?_
          rotate_left 1
          · (intro w hSw; (try dsimp only at hSw); go_simp; try with_reducible rfl)
          all_goals ((try simp only [Act.put]); try simp only [g8b, g8c, g8d])
          refine tkS (i := 12) (v := ?_) ?_ ?_
          rotate_left 1
          · (intro w hSw; (try dsimp only at hSw); go_simp; try with_reducible rfl)
          all_goals ((try simp only [Act.put]); try simp only [g8b, g8c, g8d])
          refine wpAnyH_ready (rs := [2]) (by kernel_rfl) (by simp) ?_
          refine (AllReadyH.cons (by simp only [g8a, g8s, g8z]; rfl) (fun K hK => ?_) AllReadyH.nil)
          rw [if_pos (by rfl)]
          go_simp
          refine (at02_any A n c f u _ (by exact HX.out) Hf.out.1.ok (by omega)).mono ?_
          rw [← HA.out]
          rintro e w9 ⟨rfl, hb⟩
          have S2 : (w9.cell? ⟨ZF, 0, none⟩ = some (.slice A n c) ∧ w9.cell? ⟨ZF, 1, none⟩ = some (.int .i64 f.per) ∧ w9.cell? ⟨ZF, 2, none⟩ = some (.int .i64 f.inc)) ∧ (w9.cell? ⟨ZG, 0, none⟩ = some (.slice B m d) ∧ w9.cell? ⟨ZG, 1, none⟩ = some (.int .i64 g.per) ∧ w9.cell? ⟨ZG, 2, none⟩ = some (.int .i64 g.inc)) ∧ w9.cell? ⟨ZD, 1, none⟩ = some (.int .i64 V) :=
            ⟨⟨(hb.cell (p := ⟨ZF, 0, none⟩) hlx).trans x0, (hb.cell (p := ⟨ZF, 1, none⟩) hlx).trans x1, (hb.cell (p := ⟨ZF, 2, none⟩) hlx).trans x2⟩, ⟨(hb.cell (p := ⟨ZG, 0, none⟩) hly).trans y0, (hb.cell (p := ⟨ZG, 1, none⟩) hly).trans y1, (hb.cell (p := ⟨ZG, 2, none⟩) hly).trans y2⟩, (hb.cell (p := ⟨ZD, 1, none⟩) hld).trans d1⟩
          replace W0 := Lib.hid (show Below wr.heap.size wr w9 from bthen (bdrewN (k := 1) W0.out) hb)
          replace HY := Lib.hid (HY.out.ext W0.out)
          clear hb hHeld
          refine hK.out _ _ (by exact S2) (fun hHeld => ?_)
          clear hK K
          (try simp only [Act.put]); try simp only [g8b, g8c, g8d]
          refine wpAnyH_ready (rs := [10]) (by kernel_rfl) (by simp) ?_
          refine (AllReadyH.cons (by simp only [g8a, g8s, g8z]; rfl) (fun K hK => ?_) AllReadyH.nil)
          rw [if_pos (by rfl)]
          go_simp
          refine (at02_any B m d g X _ (by exact HY.out) Hg.out.1.ok (by omega)).mono ?_
          rw [← HB.out]
          rintro e w10 ⟨rfl, hb⟩
          have W1 := Lib.hid (show Below wr.heap.size wr w10 from bthen W0.out hb)
          have S3 : (w10.cell? ⟨ZF, 0, none⟩ = some (.slice A n c) ∧ w10.cell? ⟨ZF, 1, none⟩ = some (.int .i64 f.per) ∧ w10.cell? ⟨ZF, 2, none⟩ = some (.int .i64 f.inc)) ∧ (w10.cell? ⟨ZG, 0, none⟩ = some (.slice B m d) ∧ w10.cell? ⟨ZG, 1, none⟩ = some (.int .i64 g.per) ∧ w10.cell? ⟨ZG, 2, none⟩ = some (.int .i64 g.inc)) ∧ w10.cell? ⟨ZD, 1, none⟩ = some (.int .i64 V) :=
            ⟨⟨(W1.out.cell (p := ⟨ZF, 0, none⟩) hlx).trans x0, (W1.out.cell (p := ⟨ZF, 1, none⟩) hlx).trans x1, (W1.out.cell (p := ⟨ZF, 2, none⟩) hlx).trans x2⟩, ⟨(W1.out.cell (p := ⟨ZG, 0, none⟩) hly).trans y0, (W1.out.cell (p := ⟨ZG, 1, none⟩) hly).trans y1, (W1.out.cell (p := ⟨ZG, 2, none⟩) hly).trans y2⟩, (W1.out.cell (p := ⟨ZD, 1, none⟩) hld).trans d1⟩
          replace E := Lib.hid (E.out.below W1.out); replace DVB := Lib.hid (DVB.out.below W1.out DVB.out.lt)
          clear hb S2 W1 W0 x0 x1 x2 hlx y0 y1 y2 hly d0 d1 d2 hld HX HY
          refine hK.out _ _ (by exact S3) (fun hHeld => ?_)
          clear hK K
          (try simp only [Act.put]); try simp only [g8b, g8c, g8d]
          clear S3
          refine tkS (i := 11) (v := ?_) ?_ ?_
          rotate_left 1
          · (intro w hSw; (try dsimp only at hSw); go_simp; try with_reducible rfl)
          all_goals ((try simp only [Act.put]); try simp only [g8b, g8c, g8d])
          refine tkS (i := 13) (v := ?_) ?_ ?_
          rotate_left 1
          · (intro w hSw; (try dsimp only at hSw); go_simp; try with_reducible rfl)
          all_goals ((try simp only [Act.put]); try simp only [g8b, g8c, g8d])
          refine wpAnyH_done (by kernel_rfl) ?_ _
          go_wp2_with fail
          go_roundg (gk - 1)
          case measure => omega
          case rel => exact ⟨u + 1, by omega, by go_num, E, DVB⟩
    · have hti : ¬ (t : Int) < 40 := by omega
      go_wp2_with fail
      refine (sound_any _).mono ?_
      rintro e wq ⟨rfl, hb⟩
      have bw := (E.out.below hb).fin
      go_wp2_with fail
      go_ret
      exact ⟨rfl, bw⟩
end Go.Proofs.YtaejfleahamapaaGreat

