/- Package order, the second part: the pair of two valid curves. -/
import Derived.Test.YthdibkmjoiipgaaOrder
namespace Go.Proofs.Ythdibkmjoiipgaa
open Go.RowKit
set_option linter.unusedVariables false

set_option maxHeartbeats 8000000 in
set_option maxRecDepth 100000 in
theorem both_ok (A B : Option Addr) (n m c d : Nat) (p i q j : Int) (xs ys : List Int) (w : World) (hA : Ints w w.heap.size A n xs) (hB : Ints w w.heap.size B m ys)
    (hf : Cv.Ok ⟨xs, p, i⟩) (hg : Cv.Ok ⟨ys, q, j⟩) :
    Calls Try.prog 160 #[.agg #[.slice A n c, .int .i64 p, .int .i64 i], .agg #[.slice B m d, .int .i64 q, .int .i64 j]] w fun e w' =>
      e = .returned (.tuple #[pairV A n c p i B m d q j (ordF ⟨xs, p, i⟩ ⟨ys, q, j⟩) (ordC ⟨xs, p, i⟩ ⟨ys, q, j⟩) (ordD ⟨xs, p, i⟩ ⟨ys, q, j⟩) (nth xs (n - 1) != inf && nth ys (m - 1) != inf), .int .i64 0]) ∧ Below w.heap.size w w' := by
  have h1 := Cv.okB_true hf; have h2 := Cv.okB_true hg
  have OB := ord_b hf hg
  have hn := hf.n2; have hm := hg.n2; have hn1 := hf.n1; have hm1 := hg.n1
  have hp1 := hf.p1; have hp2 := hf.p2; have hpn := hf.pn; have hi1 := hf.i1; have hi2 := hf.i2
  have hq1 := hg.p1; have hq2 := hg.p2; have hqm := hg.pn; have hj1 := hg.i1; have hj2 := hg.i2
  have hl := hA.1; have hl2 := hB.1
  have hF : ((ordF ⟨xs, p, i⟩ ⟨ys, q, j⟩ : Nat) : Int) = max ((n : Int) - p) ((m : Int) - q) := by
    unfold ordF
    simp only [hl, hl2] at hp1 hpn hq1 hqm ⊢
    omega
  rw [hF]
  obtain ⟨sv, hsv⟩ : ∃ sv, sv = max ((n : Int) - p) ((m : Int) - q) := ⟨_, rfl⟩
  rw [← hsv]
  obtain ⟨bb, hbb⟩ : ∃ bb, bb = ordC ⟨xs, p, i⟩ ⟨ys, q, j⟩ := ⟨_, rfl⟩
  obtain ⟨u, hu⟩ : ∃ u, u = bb / p.toNat := ⟨_, rfl⟩
  obtain ⟨v, hv⟩ : ∃ v, v = bb / q.toNat := ⟨_, rfl⟩
  have hD : ordD ⟨xs, p, i⟩ ⟨ys, q, j⟩ = (u : Int) * i - (v : Int) * j := by unfold ordD; rw [hu, hv, hbb]
  have hb1 := OB.b1; have hb2 := OB.b2; have ha1 := OB.a1; have ha2 := OB.a2; have hc1 := OB.c1; have hc2 := OB.c2; have hd1 := OB.d1; have hd2 := OB.d2
  rw [hD] at hd1 hd2 ⊢
  rw [← hbb] at hb1 hb2 ha1 ha2 hc1 hc2 ⊢
  simp only [← hu, ← hv] at hb1 hb2 ha1 ha2
  simp only [hl, hl2] at hn hm hn1 hm1 hp1 hp2 hpn hi1 hi2 hq1 hq2 hqm hj1 hj2
  obtain ⟨x1, hx1⟩ : ∃ x1, x1 = (nth xs (n - 1) != inf) := ⟨_, rfl⟩
  obtain ⟨y1, hy1⟩ : ∃ y1, y1 = (nth ys (m - 1) != inf) := ⟨_, rfl⟩
  rw [← hx1, ← hy1]
  obtain ⟨p, rfl⟩ := Int.eq_ofNat_of_zero_le (show 0 ≤ p by omega)
  obtain ⟨q, rfl⟩ := Int.eq_ofNat_of_zero_le (show 0 ≤ q by omega)
  have hbc : bb = comm p q := hbb
  simp only [Int.toNat_natCast] at hu hv
  have HC := Lib.hid hbc; have HU := Lib.hid hu; have HV := Lib.hid hv; have HX := Lib.hid hx1; have HY := Lib.hid hy1
  clear hF hD hbb hbc hu hv hx1 hy1 hf hg hl hl2 OB
  unfold pairV
  have IA := Lib.hid (((hA.alloc' (.cells #[.slice A n c, .int .i64 p, .int .i64 i] 46)).alloc' (.cells #[.slice B m d, .int .i64 q, .int .i64 j] 46)).alloc' (.cells #[.slice none 0 0, .int .i64 0, .int .i64 0, .slice none 0 0, .int .i64 0, .int .i64 0, .int .i64 0, .int .i64 0, .int .i64 0, .bool false] 146))
  have IB := Lib.hid (((hB.alloc' (.cells #[.slice A n c, .int .i64 p, .int .i64 i] 46)).alloc' (.cells #[.slice B m d, .int .i64 q, .int .i64 j] 46)).alloc' (.cells #[.slice none 0 0, .int .i64 0, .int .i64 0, .slice none 0 0, .int .i64 0, .int .i64 0, .int .i64 0, .int .i64 0, .int .i64 0, .bool false] 146))
  have FB := Lib.hid (((Blk.new w 46 #[.slice A n c, .int .i64 p, .int .i64 i]).alloc (.cells #[.slice B m d, .int .i64 q, .int .i64 j] 46)).alloc (.cells #[.slice none 0 0, .int .i64 0, .int .i64 0, .slice none 0 0, .int .i64 0, .int .i64 0, .int .i64 0, .int .i64 0, .int .i64 0, .bool false] 146))
  have gb := (Blk.new (w.alloc (.cells #[.slice A n c, .int .i64 p, .int .i64 i] 46)) 46 #[.slice B m d, .int .i64 q, .int .i64 j]).alloc (.cells #[.slice none 0 0, .int .i64 0, .int .i64 0, .slice none 0 0, .int .i64 0, .int .i64 0, .int .i64 0, .int .i64 0, .int .i64 0, .bool false] 146)
  rw [World.size_alloc] at gb
  have rb := Blk.new ((w.alloc (.cells #[.slice A n c, .int .i64 p, .int .i64 i] 46)).alloc (.cells #[.slice B m d, .int .i64 q, .int .i64 j] 46)) 146 #[.slice none 0 0, .int .i64 0, .int .i64 0, .slice none 0 0, .int .i64 0, .int .i64 0, .int .i64 0, .int .i64 0, .int .i64 0, .bool false]
  rw [World.size_alloc, World.size_alloc] at rb
  have GB := Lib.hid gb; have RB := Lib.hid rb
  have BW := Lib.hid (bthen (bthen (balloc w (.cells #[.slice A n c, .int .i64 p, .int .i64 i] 46)) (balloc _ (.cells #[.slice B m d, .int .i64 q, .int .i64 j] 46))) (balloc _ (.cells #[.slice none 0 0, .int .i64 0, .int .i64 0, .slice none 0 0, .int .i64 0, .int .i64 0, .int .i64 0, .int .i64 0, .int .i64 0, .bool false] 146)))
  clear gb rb
  have hAl : ∀ b off s, A = some ⟨b, off, s⟩ → b < w.heap.size := by
    intro b off s e
    obtain ⟨b', off', e', hb, _⟩ := hA.2 (by omega)
    rw [e] at e'; cases e'; exact hb
  have hBl : ∀ b off s, B = some ⟨b, off, s⟩ → b < w.heap.size := by
    intro b off s e
    obtain ⟨b', off', e', hb, _⟩ := hB.2 (by omega)
    rw [e] at e'; cases e'; exact hb
  have HAL := Lib.hid hAl; have HBL := Lib.hid hBl
  clear hA hB hAl hBl
  go_enter Try.func160, Try.ntmps160
  go_wp2_with fail
  refine (valid_any A n c p i xs _ IA.out (by omega)).mono ?_
  rw [h1]
  rintro e w1 ⟨rfl, hb⟩
  have IA := Lib.hid (IA.out.ext hb); have IB := Lib.hid (IB.out.ext hb); have BW := Lib.hid (bthen BW.out hb)
  have FB := Lib.hid (FB.out.below hb FB.out.lt); have GB := Lib.hid (GB.out.below hb GB.out.lt); have RB := Lib.hid (RB.out.below hb RB.out.lt)
  have f0 := FB.out.cell 0; have f1 := FB.out.cell 1; have f2 := FB.out.cell 2; have g0 := GB.out.cell 0; have g1 := GB.out.cell 1; have g2 := GB.out.cell 2
  simp at f0 f1 f2 g0 g1 g2
  have hlf := FB.out.lt; have hlg := GB.out.lt; have hlr := RB.out.lt
  clear hb
  go_wp2_with fail
  refine (valid_any B m d q j ys _ IB.out (by omega)).mono ?_
  rw [h2]
  rintro e w2 ⟨rfl, hb⟩
  have IA := Lib.hid (IA.out.ext hb); have IB := Lib.hid (IB.out.ext hb); have BW := Lib.hid (bthen BW.out hb)
  have FB := Lib.hid (FB.out.below hb FB.out.lt); have GB := Lib.hid (GB.out.below hb GB.out.lt); have RB := Lib.hid (RB.out.below hb RB.out.lt)
  clear f0 f1 f2 g0 g1 g2 hlf hlg hlr
  have f0 := FB.out.cell 0; have f1 := FB.out.cell 1; have f2 := FB.out.cell 2; have g0 := GB.out.cell 0; have g1 := GB.out.cell 1; have g2 := GB.out.cell 2
  simp at f0 f1 f2 g0 g1 g2
  have hlf := FB.out.lt; have hlg := GB.out.lt; have hlr := RB.out.lt
  clear hb h1 h2
  go_upto_region 3 with fail
  go_cut [6] (fun s6 wx => ∃ P : Nat, s6 = .pointer (some ⟨P, 0, none⟩) ∧ w.heap.size + 1 + 1 < P ∧ Blk wx P 146 #[.slice A n c, .int .i64 p, .int .i64 i, .slice B m d, .int .i64 q, .int .i64 j, .int .i64 sv, .int .i64 bb, .int .i64 0, .bool false] ∧ Blk wx w.heap.size 46 #[.slice A n c, .int .i64 p, .int .i64 i] ∧ Blk wx (w.heap.size + 1) 46 #[.slice B m d, .int .i64 q, .int .i64 j] ∧ Blk wx (w.heap.size + 1 + 1) 146 #[.slice none 0 0, .int .i64 0, .int .i64 0, .slice none 0 0, .int .i64 0, .int .i64 0, .int .i64 0, .int .i64 0, .int .i64 0, .bool false] ∧
    Ints wx wx.heap.size A n xs ∧ Ints wx wx.heap.size B m ys ∧ Below w.heap.size w wx)
  case first =>
    have hR2 := RB.out.lt
    have hmx : (if (n : Int) - p < (m : Int) - q then (m : Int) - q else (n : Int) - p) = sv := by
      rw [hsv]; split <;> omega
    have HSV := Lib.hid hsv
    clear hsv
    go_region_held3 (fun w' => w'.cell? ⟨w.heap.size, 0, none⟩ = some (.slice A n c) ∧ w'.cell? ⟨w.heap.size, 1, none⟩ = some (.int .i64 p) ∧ w'.cell? ⟨w.heap.size, 2, none⟩ = some (.int .i64 i) ∧
      w'.cell? ⟨w.heap.size + 1, 0, none⟩ = some (.slice B m d) ∧ w'.cell? ⟨w.heap.size + 1, 1, none⟩ = some (.int .i64 q) ∧ w'.cell? ⟨w.heap.size + 1, 2, none⟩ = some (.int .i64 j)) (first | go_keep | exact ⟨(cell_set10 (by omega)).trans f0, (cell_set10 (by omega)).trans f1, (cell_set10 (by omega)).trans f2, (cell_set10 (by omega)).trans g0, (cell_set10 (by omega)).trans g1, (cell_set10 (by omega)).trans g2⟩)
      (first
        | (go_at_call_of 94 (Value.agg #[.slice A n c, .int .i64 p, .int .i64 i])
           refine (start_any A n c p i _ (by omega) (by omega) (by omega)).mono ?_
           rintro e w3 ⟨rfl, hb⟩
           have hh : Below w2.heap.size w2 w3 := oblater (by repeat (first | exact Below.refl _ _ | refine Below.drew ?_ | refine oball ?_ _)) hb
           have IA := Lib.hid (IA.out.ext hh); have IB := Lib.hid (IB.out.ext hh); have BW := Lib.hid (bthen BW.out hh)
           have FB := Lib.hid (FB.out.below hh FB.out.lt); have GB := Lib.hid (GB.out.below hh GB.out.lt); have RB := Lib.hid (RB.out.below hh RB.out.lt)
           have szw3 := hh.size
           try (have zb := ZB.out.below hb (by first | exact ZB.out.lt | (have := ZB.out.lt; simp; omega)); have ZB := Lib.hid zb; clear zb)
           try (have zb := (Blk.new w2 146 #[.slice none 0 0, .int .i64 0, .int .i64 0, .slice none 0 0, .int .i64 0, .int .i64 0, .int .i64 0, .int .i64 0, .int .i64 0, .bool false]).below hb (by simp); have ZB := Lib.hid zb; clear zb)
           try (have zb := (Blk.drew (Blk.new w2 146 #[.slice none 0 0, .int .i64 0, .int .i64 0, .slice none 0 0, .int .i64 0, .int .i64 0, .int .i64 0, .int .i64 0, .int .i64 0, .bool false])).below hb (by simp); have ZB := Lib.hid zb; clear zb)
           clear hb hh
           clear f0 f1 f2 g0 g1 g2 hlf hlg hlr
           have f0 := FB.out.cell 0; have f1 := FB.out.cell 1; have f2 := FB.out.cell 2; have g0 := GB.out.cell 0; have g1 := GB.out.cell 1; have g2 := GB.out.cell 2
           simp at f0 f1 f2 g0 g1 g2
           have hlf := FB.out.lt; have hlg := GB.out.lt; have hlr := RB.out.lt)
        | (go_at_call_of 94 (Value.agg #[.slice B m d, .int .i64 q, .int .i64 j])
           refine (start_any B m d q j _ (by omega) (by omega) (by omega)).mono ?_
           rintro e w4 ⟨rfl, hb⟩
           have hh : Below w3.heap.size w3 w4 := oblater (by repeat (first | exact Below.refl _ _ | refine Below.drew ?_ | refine oball ?_ _)) hb
           have IA := Lib.hid (IA.out.ext hh); have IB := Lib.hid (IB.out.ext hh); have BW := Lib.hid (bthen BW.out hh)
           have FB := Lib.hid (FB.out.below hh FB.out.lt); have GB := Lib.hid (GB.out.below hh GB.out.lt); have RB := Lib.hid (RB.out.below hh RB.out.lt)
           have szw4 := hh.size
           try (have zb := ZB.out.below hb (by first | exact ZB.out.lt | (have := ZB.out.lt; simp; omega)); have ZB := Lib.hid zb; clear zb)
           try (have zb := (Blk.new w3 146 #[.slice none 0 0, .int .i64 0, .int .i64 0, .slice none 0 0, .int .i64 0, .int .i64 0, .int .i64 0, .int .i64 0, .int .i64 0, .bool false]).below hb (by simp); have ZB := Lib.hid zb; clear zb)
           clear hb hh
           clear f0 f1 f2 g0 g1 g2 hlf hlg hlr
           have f0 := FB.out.cell 0; have f1 := FB.out.cell 1; have f2 := FB.out.cell 2; have g0 := GB.out.cell 0; have g1 := GB.out.cell 1; have g2 := GB.out.cell 2
           simp at f0 f1 f2 g0 g1 g2
           have hlf := FB.out.lt; have hlg := GB.out.lt; have hlr := RB.out.lt)
        | (go_at_call_of 135 (Value.int IntKind.i64 p)
           refine (common_any p q _ (by omega) (by omega) (by omega)).mono ?_
           rw [← HC.out]
           rintro e w5 ⟨rfl, hb⟩
           have hh : Below w4.heap.size w4 w5 := oblater (by repeat (first | exact Below.refl _ _ | refine Below.drew ?_ | refine oball ?_ _)) hb
           have IA := Lib.hid (IA.out.ext hh); have IB := Lib.hid (IB.out.ext hh); have BW := Lib.hid (bthen BW.out hh)
           have FB := Lib.hid (FB.out.below hh FB.out.lt); have GB := Lib.hid (GB.out.below hh GB.out.lt); have RB := Lib.hid (RB.out.below hh RB.out.lt)
           have szw5 := hh.size
           try (have zb := ZB.out.below hb (by first | exact ZB.out.lt | (have := ZB.out.lt; simp; omega)); have ZB := Lib.hid zb; clear zb)
           try (have zb := (Blk.new w4 146 #[.slice none 0 0, .int .i64 0, .int .i64 0, .slice none 0 0, .int .i64 0, .int .i64 0, .int .i64 0, .int .i64 0, .int .i64 0, .bool false]).below hb (by simp); have ZB := Lib.hid zb; clear zb)
           clear hb hh
           clear f0 f1 f2 g0 g1 g2 hlf hlg hlr
           have f0 := FB.out.cell 0; have f1 := FB.out.cell 1; have f2 := FB.out.cell 2; have g0 := GB.out.cell 0; have g1 := GB.out.cell 1; have g2 := GB.out.cell 2
           simp at f0 f1 f2 g0 g1 g2
           have hlf := FB.out.lt; have hlg := GB.out.lt; have hlr := RB.out.lt
           try (have z0 := ZB.out.cell 0; have v0 := ZB.out.frozen 0; have z1 := ZB.out.cell 1; have v1 := ZB.out.frozen 1; have z2 := ZB.out.cell 2; have v2 := ZB.out.frozen 2; have z3 := ZB.out.cell 3; have v3 := ZB.out.frozen 3; have z4 := ZB.out.cell 4; have v4 := ZB.out.frozen 4; have z5 := ZB.out.cell 5; have v5 := ZB.out.frozen 5; have z6 := ZB.out.cell 6; have v6 := ZB.out.frozen 6; have z7 := ZB.out.cell 7; have v7 := ZB.out.frozen 7; have z8 := ZB.out.cell 8; have v8 := ZB.out.frozen 8; have z9 := ZB.out.cell 9; have v9 := ZB.out.frozen 9; simp at z0 z1 z2 z3 z4 z5 z6 z7 z8 z9; have hlz := ZB.out.lt)))
    all_goals
      go_wp2_with fail
      go_meet
      first
        | exact ⟨_, rfl, by omega, ZB.out.store10 _ _ _ _ _ _ _ _ _ _, FB.out.far10 (by omega), GB.out.far10 (by omega), RB.out.far10 (by omega), IA.out.far10 (fun b off s e => by have := HAL.out b off s e; omega), IB.out.far10 (fun b off s e => by have := HBL.out b off s e; omega), bstore10 BW.out (by omega) _ _ _ _ _ _ _ _ _ _⟩
        | exact ⟨_, rfl, by omega, Blk.new _ _ _, FB.out.alloc _, GB.out.alloc _, RB.out.alloc _, IA.out.alloc' _, IB.out.alloc' _, oball BW.out _⟩
  case rest =>
    as_aux_lemma =>
    clear FB GB RB IA IB BW f0 f1 f2 g0 g1 g2 hlf hlg hlr
    obtain ⟨P, rfl, hPR, pB, fB, gB, rB, iA, iB, bW⟩ := hcut
    have FB := Lib.hid fB; have GB := Lib.hid gB; have RB := Lib.hid rB; have PB := Lib.hid pB; have IA := Lib.hid iA; have IB := Lib.hid iB; have BW := Lib.hid bW
    clear fB gB rB pB iA iB bW
    have f0 := FB.out.cell 0; have f1 := FB.out.cell 1; have f2 := FB.out.cell 2; have g0 := GB.out.cell 0; have g1 := GB.out.cell 1; have g2 := GB.out.cell 2
    have p3 := PB.out.cell 7; have p4 := PB.out.cell 8; have v4 := PB.out.frozen 8
    simp at f0 f1 f2 g0 g1 g2 p3 p4
    have hlf := FB.out.lt; have hlg := GB.out.lt; have hlr := RB.out.lt; have hlp := PB.out.lt
    have e1 : ((bb : Int).tdiv (p : Int)) = (u : Int) := by rw [HU.out]; rfl
    have e2 : ((bb : Int).tdiv (q : Int)) = (v : Int) := by rw [HV.out]; rfl
    have e3 : IntKind.i64.wrap ((u : Int) * i) = (u : Int) * i := IntWalk.i64_in _ (by omega)
    have e4 : IntKind.i64.wrap ((v : Int) * j) = (v : Int) * j := IntWalk.i64_in _ (by omega)
    have e5 : IntKind.i64.wrap ((u : Int) * i - (v : Int) * j) = (u : Int) * i - (v : Int) * j := IntWalk.i64_in _ (by omega)
    have hpn0 : (p : Int) ≠ 0 := by omega
    have hqn0 : (q : Int) ≠ 0 := by omega
    have hp00 : p ≠ 0 := by omega
    have hq00 : q ≠ 0 := by omega
    go_wp2_with fail
    go_region
    have hsz := World.size_setCell wc ⟨P, 8, none⟩ (.int .i64 ((u : Int) * i - (v : Int) * j))
    have pB := Blk.drew (PB.out.set_ 8 (.int .i64 ((u : Int) * i - (v : Int) * j)))
    have fB := Blk.drew (FB.out.far (p := ⟨P, 8, none⟩) (by simp; omega) (.int .i64 ((u : Int) * i - (v : Int) * j)))
    have gB := Blk.drew (GB.out.far (p := ⟨P, 8, none⟩) (by simp; omega) (.int .i64 ((u : Int) * i - (v : Int) * j)))
    have rB := Blk.drew (RB.out.far (p := ⟨P, 8, none⟩) (by simp; omega) (.int .i64 ((u : Int) * i - (v : Int) * j)))
    have iA : Ints (wc.setCell ⟨P, 8, none⟩ (.int .i64 ((u : Int) * i - (v : Int) * j))).drew (wc.setCell ⟨P, 8, none⟩ (.int .i64 ((u : Int) * i - (v : Int) * j))).drew.heap.size A n xs := Ints.drew (IA.out.set1 (p := ⟨P, 8, none⟩) (u := .int .i64 ((u : Int) * i - (v : Int) * j)) (fun b off s e => by have := HAL.out b off s e; simp; omega))
    have iB : Ints (wc.setCell ⟨P, 8, none⟩ (.int .i64 ((u : Int) * i - (v : Int) * j))).drew (wc.setCell ⟨P, 8, none⟩ (.int .i64 ((u : Int) * i - (v : Int) * j))).drew.heap.size B m ys := Ints.drew (IB.out.set1 (p := ⟨P, 8, none⟩) (u := .int .i64 ((u : Int) * i - (v : Int) * j)) (fun b off s e => by have := HBL.out b off s e; simp; omega))
    have bW := (BW.out.setCell (p := ⟨P, 8, none⟩) (by simp; omega) (.int .i64 ((u : Int) * i - (v : Int) * j))).drew
    clear f0 f1 f2 g0 g1 g2 p3 p4 v4 e1 e2 e3 e4 e5 hlf hlg hlr hlp FB GB RB PB IA IB BW hb1 hb2 ha1 ha2 hc1 hc2 hd1 hd2 hp1 hp2 hpn hi1 hi2 hq1 hq2 hqm hj1 hj2 hpn0 hqn0 hp00 hq00 HU HV HC hsv
    generalize hwd : (wc.setCell ⟨P, 8, none⟩ (.int .i64 ((u : Int) * i - (v : Int) * j))).drew = wd at *
    have FB := Lib.hid fB; have GB := Lib.hid gB; have RB := Lib.hid rB; have PB := Lib.hid pB; have IA := Lib.hid iA; have IB := Lib.hid iB; have BW := Lib.hid bW
    clear fB gB rB pB iA iB bW hwd hsz
    have f0 := FB.out.cell 0; have f1 := FB.out.cell 1; have f2 := FB.out.cell 2; have g0 := GB.out.cell 0; have g1 := GB.out.cell 1; have g2 := GB.out.cell 2
    simp at f0 f1 f2 g0 g1 g2
    go_wp2_with fail
    refine (finite_any A n c p i xs _ IA.out (by omega) (by omega)).mono ?_
    rw [← HX.out]
    rintro e we ⟨rfl, hb⟩
    as_aux_lemma =>
    have IA := Lib.hid (IA.out.ext hb); have IB := Lib.hid (IB.out.ext hb); have BW := Lib.hid (bthen BW.out hb)
    have FB := Lib.hid (FB.out.below hb FB.out.lt); have GB := Lib.hid (GB.out.below hb GB.out.lt); have RB := Lib.hid (RB.out.below hb RB.out.lt); have PB := Lib.hid (PB.out.below hb PB.out.lt)
    clear f0 f1 f2 g0 g1 g2 hb
    have f0 := FB.out.cell 0; have f1 := FB.out.cell 1; have f2 := FB.out.cell 2; have g0 := GB.out.cell 0; have g1 := GB.out.cell 1; have g2 := GB.out.cell 2
    simp at f0 f1 f2 g0 g1 g2
    cases x1
    case false =>
      as_aux_lemma =>
      have p9 := PB.out.cell 9; have s9 := PB.out.frozen 9
      simp at p9
      have hlp := PB.out.lt
      go_upto_region 6 with fail
      have pB : Blk (we.setCell ⟨P, 9, none⟩ (.bool false)) P 146 #[.slice A n c, .int .i64 p, .int .i64 i, .slice B m d, .int .i64 q, .int .i64 j, .int .i64 sv, .int .i64 bb, .int .i64 ((u : Int) * i - (v : Int) * j), .bool false] := PB.out.set_ 9 (.bool false)
      have rB := RB.out.far (p := ⟨P, 9, none⟩) (by simp; omega) (.bool false)
      have bW := BW.out.setCell (p := ⟨P, 9, none⟩) (by simp; omega) (.bool false)
      clear PB RB BW FB GB IA IB p9 s9 hlp hn hm hn1 hm1 HAL HBL
      try clear f0 f1 f2 g0 g1 g2
      refine wp_region_lit ?_
      refine wpList_load_row rfl 146 _ rfl P rfl 146 #[.slice A n c, .int .i64 p, .int .i64 i, .slice B m d, .int .i64 q, .int .i64 j, .int .i64 sv, .int .i64 bb, .int .i64 ((u : Int) * i - (v : Int) * j), .bool false] (0, 0) _ pB Try.underlying146 rfl (by kernel_rfl) ?_
      refine wpList_storeP rfl _ _ rfl rfl rB rfl (by simp [Value.oneCell']) ?_
      intro wz hsto rz
      have bz := bsto bW hsto (by omega)
      clear hsto pB rB bW
      simp only [Act.put, List.setIfInBounds_toArray, List.set_cons_zero, List.set_cons_succ]
      go_wp2_with fail
      exact bodyPost_ret (v := .tuple #[.agg #[.slice A n c, .int .i64 p, .int .i64 i, .slice B m d, .int .i64 q, .int .i64 j, .int .i64 sv, .int .i64 bb, .int .i64 ((u : Int) * i - (v : Int) * j), .bool false], .int .i64 0]) (by simp [results, Try.results160, go_sem, rz.cell]) rfl ⟨rfl, bz⟩
    case true =>
      as_aux_lemma =>
      go_wp2_with fail
      refine (finite_any B m d q j ys _ IB.out (by omega) (by omega)).mono ?_
      rw [← HY.out]
      rintro e wf ⟨rfl, hb⟩
      as_aux_lemma =>
      have IA := Lib.hid (IA.out.ext hb); have IB := Lib.hid (IB.out.ext hb); have BW := Lib.hid (bthen BW.out hb)
      have FB := Lib.hid (FB.out.below hb FB.out.lt); have GB := Lib.hid (GB.out.below hb GB.out.lt); have RB := Lib.hid (RB.out.below hb RB.out.lt); have PB := Lib.hid (PB.out.below hb PB.out.lt)
      clear f0 f1 f2 g0 g1 g2 hb
      have p9 := PB.out.cell 9; have s9 := PB.out.frozen 9
      simp at p9
      have hlp := PB.out.lt
      go_upto_region 6 with fail
      have pB : Blk (wf.setCell ⟨P, 9, none⟩ (.bool y1)) P 146 #[.slice A n c, .int .i64 p, .int .i64 i, .slice B m d, .int .i64 q, .int .i64 j, .int .i64 sv, .int .i64 bb, .int .i64 ((u : Int) * i - (v : Int) * j), .bool y1] := PB.out.set_ 9 (.bool y1)
      have rB := RB.out.far (p := ⟨P, 9, none⟩) (by simp; omega) (.bool y1)
      have bW := BW.out.setCell (p := ⟨P, 9, none⟩) (by simp; omega) (.bool y1)
      clear PB RB BW FB GB IA IB p9 s9 hlp hn hm hn1 hm1 HAL HBL
      try clear f0 f1 f2 g0 g1 g2
      refine wp_region_lit ?_
      refine wpList_load_row rfl 146 _ rfl P rfl 146 #[.slice A n c, .int .i64 p, .int .i64 i, .slice B m d, .int .i64 q, .int .i64 j, .int .i64 sv, .int .i64 bb, .int .i64 ((u : Int) * i - (v : Int) * j), .bool y1] (0, 0) _ pB Try.underlying146 rfl (by kernel_rfl) ?_
      refine wpList_storeP rfl _ _ rfl rfl rB rfl (by simp [Value.oneCell']) ?_
      intro wz hsto rz
      have bz := bsto bW hsto (by omega)
      clear hsto pB rB bW
      simp only [Act.put, List.setIfInBounds_toArray, List.set_cons_zero, List.set_cons_succ]
      go_wp2_with fail
      exact bodyPost_ret (v := .tuple #[.agg #[.slice A n c, .int .i64 p, .int .i64 i, .slice B m d, .int .i64 q, .int .i64 j, .int .i64 sv, .int .i64 bb, .int .i64 ((u : Int) * i - (v : Int) * j), .bool y1], .int .i64 0]) (by simp [results, Try.results160, go_sem, rz.cell]) rfl ⟨rfl, bz⟩
end Go.Proofs.Ythdibkmjoiipgaa
