/- The functions of netcalculusref01, for any numbers: abs, Valid, New. -/
import Derived.Test.YthdibkmjoiipgaaRefAt
import Derived.Test.YthdibkmjoiipgaaFr
import Derived.BigRegion
import Derived.Deep.DeepCutAuto
namespace Go.Proofs.Ythdibkmjoiipgaa
open Go.RowKit
set_option linter.unusedVariables false

theorem rabs_any (n : Int) (w : World) (h1 : -4611686018427387904 ≤ n) (h2 : n ≤ 4611686018427387904) :
    Calls Try.prog 112 #[.int .i64 n] w fun e w' => e = .returned (.int .i64 (n.natAbs : Nat)) ∧ w' = w := by
  obtain ⟨a, ha⟩ : ∃ a : Int, a = (n.natAbs : Nat) := ⟨_, rfl⟩
  have e1 : IntKind.i64.wrap (-n) = -n := IntWalk.i64_in _ (by omega)
  have e2 : (if n < -n then -n else n) = a := by split <;> omega
  rw [← ha]
  clear ha
  go_enter Try.func112, Try.ntmps112
  go_wp2_with fail
  go_ret
  exact ⟨rfl, rfl⟩
theorem rgcdI_any (a b : Int) (w : World) (ha0 : 0 ≤ a) (ha : a ≤ 4611686018427387904) (hb0 : 0 ≤ b) (hb : b ≤ 4611686018427387904) :
    Calls Try.prog 111 #[.int .i64 a, .int .i64 b] w fun e w' => e = .returned (.int .i64 (Nat.gcd a.toNat b.toNat : Nat)) ∧ Below w.heap.size w w' := by
  obtain ⟨a, rfl⟩ := Int.eq_ofNat_of_zero_le ha0
  obtain ⟨b, rfl⟩ := Int.eq_ofNat_of_zero_le hb0
  simp only [Int.toNat_natCast]
  exact refGcd_any a b w ha hb

theorem tdiv_parts {n a g x d : Int} (ha : a = (n.natAbs : Nat)) (hg : g = (Nat.gcd a.toNat d.toNat : Nat)) (hgn : g ≠ 0) (hx : x = a / g) : n.tdiv g = if n < 0 then -x else x := by
  have ha0 : 0 ≤ a := by omega
  by_cases h : n < 0
  · rw [if_pos h, show n = -a by omega, Int.neg_tdiv, Int.tdiv_eq_ediv_of_nonneg ha0, hx]
  · rw [if_neg h, show n = a by omega, Int.tdiv_eq_ediv_of_nonneg ha0, hx]
set_option maxHeartbeats 1000000 in
theorem rvalid_any (n d : Int) (w : World) :
    Calls Try.prog 113 #[.agg #[.int .i64 n, .int .i64 d]] w fun e w' => e = .returned (.bool (fokB n d)) ∧ Below w.heap.size w w' := by
  have FB := Lib.hid (Blk.new w 23 #[.int .i64 n, .int .i64 d])
  have BW := Lib.hid (balloc w (.cells #[.int .i64 n, .int .i64 d] 23))
  obtain ⟨f0, f1⟩ : _ ∧ _ := ⟨FB.out.cell 0, FB.out.cell 1⟩
  simp at f0 f1
  have hlf := FB.out.lt
  by_cases h1 : 1 ≤ d
  · have c1 : decide (1 ≤ d) = true := by simpa using h1
    by_cases h2 : d ≤ 1073741824
    · have c2 : decide (d ≤ 1073741824) = true := by simpa using h2
      by_cases h3 : -1073741824 ≤ n
      · have c3 : decide (-1073741824 ≤ n) = true := by simpa using h3
        by_cases h4 : n ≤ 1073741824
        · have c4 : decide (n ≤ 1073741824) = true := by simpa using h4
          obtain ⟨a, ha⟩ : ∃ a : Int, a = (n.natAbs : Nat) := ⟨_, rfl⟩
          have ha0 : 0 ≤ a := by omega
          have ha1 : a ≤ 1073741824 := by omega
          obtain ⟨g, hg⟩ : ∃ g : Int, g = (Nat.gcd a.toNat d.toNat : Nat) := ⟨_, rfl⟩
          have hgg : Nat.gcd a.toNat d.toNat = Nat.gcd n.natAbs d.natAbs := by rw [ha, Int.toNat_natCast, show d.toNat = d.natAbs by omega]
          have HA := Lib.hid ha; have HG := Lib.hid hg
          by_cases h5 : g = 1
          all_goals
            first
              | (rw [fokB_t (show FOk n d from ⟨h1, h2, h3, h4, by rw [← hgg]; omega⟩)]; have c5 : (g == 1) = true := by simpa using h5)
              | (rw [fokB_f (show ¬ FOk n d from fun h => h5 (by have h6 := h.2.2.2.2; rw [← hgg] at h6; omega))]; have c5 : (g == 1) = false := by simpa using h5)
            clear ha hg hgg h5 h1 h2 h3 h4
            go_enter Try.func113, Try.ntmps113
            go_wp2_with fail
            go_region_held3 (fun w' => w'.cell? ⟨w.heap.size, 0, none⟩ = some (.int .i64 n) ∧ w'.cell? ⟨w.heap.size, 1, none⟩ = some (.int .i64 d)) (first | go_keep)
              (first
                | (go_at_call 112
                   refine (rabs_any n _ (by simp at c3; omega) (by simp at c4; omega)).mono ?_
                   rw [← HA.out]
                   rintro q wq ⟨rfl, rfl⟩
                   dsimp only)
                | (go_at_call 111
                   refine (rgcdI_any a d _ (by omega) (by omega) (by simp at c1; omega) (by simp at c2; omega)).mono ?_
                   rw [← HG.out]
                   rintro q wq ⟨rfl, hbq⟩
                   have FB := Lib.hid (FB.out.below (by first | exact hbq | exact bofdrew hbq) FB.out.lt)
                   have BW := Lib.hid (bthen BW.out (by first | exact hbq | exact bofdrew hbq))
                   clear hbq
                   clear f0 f1 hlf
                   obtain ⟨f0, f1⟩ : _ ∧ _ := ⟨FB.out.cell 0, FB.out.cell 1⟩
                   simp at f0 f1
                   have hlf := FB.out.lt
                   dsimp only
                   skip))
            all_goals
              have bw := BW.out
              go_wp2_with fail
              go_ret
              exact ⟨rfl, bw⟩
        · have c4 : decide (n ≤ 1073741824) = false := by simpa using h4
          -- a test fails ahead of the calls
          rw [fokB_f (by unfold FOk; omega)]
          go_enter Try.func113, Try.ntmps113
          go_wp2_with fail
          go_quiet (fail)
          go_wp2_with fail
          go_ret
          exact ⟨rfl, bdrewN BW.out⟩
      · have c3 : decide (-1073741824 ≤ n) = false := by simpa using h3
        -- a test fails ahead of the calls
        rw [fokB_f (by unfold FOk; omega)]
        go_enter Try.func113, Try.ntmps113
        go_wp2_with fail
        go_quiet (fail)
        go_wp2_with fail
        go_ret
        exact ⟨rfl, bdrewN BW.out⟩
    · have c2 : decide (d ≤ 1073741824) = false := by simpa using h2
      -- a test fails ahead of the calls
      rw [fokB_f (by unfold FOk; omega)]
      go_enter Try.func113, Try.ntmps113
      go_wp2_with fail
      go_quiet (fail)
      go_wp2_with fail
      go_ret
      exact ⟨rfl, bdrewN BW.out⟩
  · have c1 : decide (1 ≤ d) = false := by simpa using h1
    -- a test fails ahead of the calls
    rw [fokB_f (by unfold FOk; omega)]
    go_enter Try.func113, Try.ntmps113
    go_wp2_with fail
    go_quiet (fail)
    go_wp2_with fail
    go_ret
    exact ⟨rfl, bdrewN BW.out⟩
set_option maxHeartbeats 1000000 in
theorem rnewI_any (n d : Int) (w : World) (hn1 : -4611686018427387904 ≤ n) (hn2 : n ≤ 4611686018427387904) (hd1 : 1 ≤ d) (hd2 : d ≤ 4611686018427387904) :
    Calls Try.prog 55 #[.int .i64 n, .int .i64 d] w (RetF (fnew n d).1 (fnew n d).2.1 (fnew n d).2.2 w) := by
  have HFO := Lib.hid (fnew_ok (n := n) hd1)
  obtain ⟨a, ha⟩ : ∃ a : Int, a = (n.natAbs : Nat) := ⟨_, rfl⟩
  have ha0 : 0 ≤ a := by omega
  have ha1 : a ≤ 4611686018427387904 := by omega
  obtain ⟨g, hg⟩ : ∃ g : Int, g = (Nat.gcd a.toNat d.toNat : Nat) := ⟨_, rfl⟩
  have hg1 : 1 ≤ g := by
    have : 0 < Nat.gcd a.toNat d.toNat := Nat.gcd_pos_of_pos_right _ (by omega)
    omega
  obtain ⟨x, hx⟩ : ∃ x : Int, x = a / g := ⟨_, rfl⟩
  obtain ⟨y, hy⟩ : ∃ y : Int, y = d / g := ⟨_, rfl⟩
  have hF := fnew_eq hd1 ha hg hx hy
  have hx0 : 0 ≤ x := by rw [hx]; exact Int.ediv_nonneg ha0 (by omega)
  have hxa : x ≤ a := by rw [hx]; exact Int.ediv_le_self _ ha0
  have hy0 : 0 ≤ y := by rw [hy]; exact Int.ediv_nonneg (by omega) (by omega)
  have hyd : y ≤ d := by rw [hy]; exact Int.ediv_le_self _ (by omega)
  rw [hF]
  have HA := Lib.hid ha; have HG := Lib.hid hg; have HX := Lib.hid hx; have HY := Lib.hid hy
  clear ha hg hx hy hF
  have HFF := Lib.hid (fnew_eq hd1 HA.out HG.out HX.out HY.out)
  have d0 : decide (d < 0) = false := by simp; omega
  have b0 : (d == 0) = false := by simp; omega
  have b1 : (n == -9223372036854775808) = false := by simp; omega
  have b2 : (d == -9223372036854775808) = false := by simp; omega
  obtain ⟨m, hm⟩ : ∃ m : Int, m = if n < 0 then -x else x := ⟨_, rfl⟩
  rw [← hm]
  have hm0 : -4611686018427387904 ≤ m ∧ m ≤ 4611686018427387904 := by rw [hm]; split <;> omega
  have hmx : ¬ x ≤ 1073741824 → m < -1073741824 ∨ 1073741824 < m := by rw [hm]; split <;> omega
  have HM := Lib.hid hm
  clear hm
  by_cases h1 : x ≤ 1073741824
  · by_cases h2 : y ≤ 1073741824
    · have FO := Lib.hid (show FOk m y from by
        have := HFO.out (by rw [HFF.out, if_pos ⟨h1, h2⟩])
        rw [HFF.out, if_pos ⟨h1, h2⟩] at this
        rw [HM.out]; exact this)
      rw [if_pos ⟨h1, h2⟩]
      clear hmx
      have ZB := Lib.hid (Blk.new w 23 #[.int .i64 0, .int .i64 0])
      have BW := Lib.hid (balloc w (.cells #[.int .i64 0, .int .i64 0] 23))
      go_enter Try.func55, Try.ntmps55
      go_wp2_with fail
      go_loopg [0, 1] 0 (fun gg s0 s1 wx => s0 = .int .i64 n ∧ s1 = .int .i64 d ∧ wx = w.alloc (.cells #[.int .i64 0, .int .i64 0] 23))
      case atStart => exact ⟨rfl, rfl, rfl⟩
      case round =>
        obtain ⟨rfl, rfl, rfl⟩ := hrel
        go_wp2_with fail
        refine (rabs_any n _ hn1 hn2).mono ?_
        rw [← HA.out]
        rintro e w1 ⟨rfl, rfl⟩
        go_wp2_with fail
        refine (rgcdI_any a d _ ha0 ha1 (by omega) hd2).mono ?_
        rw [← HG.out]
        rintro e w1 ⟨rfl, hb⟩
        have ZB := Lib.hid (ZB.out.below hb ZB.out.lt); have BW := Lib.hid (bthen BW.out hb)
        clear hb
        have hgn : g ≠ 0 := by omega
        have ed1 : n.tdiv g = m := by rw [HM.out]; exact tdiv_parts HA.out HG.out hgn HX.out
        have ed2 : d.tdiv g = y := by rw [Int.tdiv_eq_ediv_of_nonneg (by omega)]; exact HY.out.symm
        have ed4 : d / g = y := HY.out.symm
        have eu1 : IntKind.i64.wrap m = m := IntWalk.i64_in _ (by omega)
        have eu2 : IntKind.i64.wrap y = y := IntWalk.i64_in _ (by omega)
        have hz1 := ZB.out.lt
        go_upto_region 10 with fail
        go_region
        -- the test of the result: fokB_t FO.out the fact
        have F := Lib.hid (fokB_t FO.out)
        clear ed1 ed2 ed4 eu1 eu2 hgn hz1
        have OB := Lib.hid (Blk.drew (Blk.new w1 23 #[.int .i64 m, .int .i64 y]))
        have ZB := Lib.hid (Blk.drew (ZB.out.alloc (.cells #[.int .i64 m, .int .i64 y] 23)))
        have BW := Lib.hid (Below.drew (bthen BW.out (balloc _ (.cells #[.int .i64 m, .int .i64 y] 23))))
        generalize hwe : (w1.alloc (.cells #[.int .i64 m, .int .i64 y] 23)).drew = w2 at OB ZB BW ⊢
        clear hwe
        generalize w1.heap.size = P at OB ⊢
        obtain ⟨o0, o1⟩ : _ ∧ _ := ⟨OB.out.cell 0, OB.out.cell 1⟩
        simp at o0 o1
        have hlo := OB.out.lt
        go_wp2_with fail
        refine (rvalid_any m y _).mono ?_
        rw [F.out]
        rintro e w3 ⟨rfl, hb⟩
        have ZB := Lib.hid (ZB.out.below hb ZB.out.lt); have OB := Lib.hid (OB.out.below hb OB.out.lt); have BW := Lib.hid (bthen BW.out hb)
        clear hb o0 o1 hlo
        obtain ⟨o0, o1⟩ : _ ∧ _ := ⟨OB.out.cell 0, OB.out.cell 1⟩
        obtain ⟨z0, z1⟩ : _ ∧ _ := ⟨ZB.out.cell 0, ZB.out.cell 1⟩
        simp at o0 o1 z0 z1
        have v0 := ZB.out.frozen 0; have v1 := ZB.out.frozen 1
        have hlo := OB.out.lt; have hlz := ZB.out.lt
        go_wp2_with fail
        have rb := ((ZB.out.set_ 0 (.int .i64 m)).set_ 1 (.int .i64 y))
        exact bodyPost_ret (v := .tuple #[.agg #[.int .i64 m, .int .i64 y], .int .i64 0]) (by simp [results, Try.results55, go_sem, rb.cell]) rfl ⟨rfl, ((BW.out.setCell (by simp) _).setCell (by simp) _)⟩
    · rw [if_neg (fun h => h2 h.2)]
      clear hmx
      have ZB := Lib.hid (Blk.new w 23 #[.int .i64 0, .int .i64 0])
      have BW := Lib.hid (balloc w (.cells #[.int .i64 0, .int .i64 0] 23))
      go_enter Try.func55, Try.ntmps55
      go_wp2_with fail
      go_loopg [0, 1] 0 (fun gg s0 s1 wx => s0 = .int .i64 n ∧ s1 = .int .i64 d ∧ wx = w.alloc (.cells #[.int .i64 0, .int .i64 0] 23))
      case atStart => exact ⟨rfl, rfl, rfl⟩
      case round =>
        obtain ⟨rfl, rfl, rfl⟩ := hrel
        go_wp2_with fail
        refine (rabs_any n _ hn1 hn2).mono ?_
        rw [← HA.out]
        rintro e w1 ⟨rfl, rfl⟩
        go_wp2_with fail
        refine (rgcdI_any a d _ ha0 ha1 (by omega) hd2).mono ?_
        rw [← HG.out]
        rintro e w1 ⟨rfl, hb⟩
        have ZB := Lib.hid (ZB.out.below hb ZB.out.lt); have BW := Lib.hid (bthen BW.out hb)
        clear hb
        have hgn : g ≠ 0 := by omega
        have ed1 : n.tdiv g = m := by rw [HM.out]; exact tdiv_parts HA.out HG.out hgn HX.out
        have ed2 : d.tdiv g = y := by rw [Int.tdiv_eq_ediv_of_nonneg (by omega)]; exact HY.out.symm
        have ed4 : d / g = y := HY.out.symm
        have eu1 : IntKind.i64.wrap m = m := IntWalk.i64_in _ (by omega)
        have eu2 : IntKind.i64.wrap y = y := IntWalk.i64_in _ (by omega)
        have hz1 := ZB.out.lt
        go_upto_region 10 with fail
        go_region
        -- the test of the result: (fokB_f (show ¬ FOk m y from fun h => by have h3 := h.2.1; omega)) the fact
        have F := Lib.hid ((fokB_f (show ¬ FOk m y from fun h => by have h3 := h.2.1; omega)))
        clear ed1 ed2 ed4 eu1 eu2 hgn hz1
        have OB := Lib.hid (Blk.drew (Blk.new w1 23 #[.int .i64 m, .int .i64 y]))
        have ZB := Lib.hid (Blk.drew (ZB.out.alloc (.cells #[.int .i64 m, .int .i64 y] 23)))
        have BW := Lib.hid (Below.drew (bthen BW.out (balloc _ (.cells #[.int .i64 m, .int .i64 y] 23))))
        generalize hwe : (w1.alloc (.cells #[.int .i64 m, .int .i64 y] 23)).drew = w2 at OB ZB BW ⊢
        clear hwe
        generalize w1.heap.size = P at OB ⊢
        obtain ⟨o0, o1⟩ : _ ∧ _ := ⟨OB.out.cell 0, OB.out.cell 1⟩
        simp at o0 o1
        have hlo := OB.out.lt
        go_wp2_with fail
        refine (rvalid_any m y _).mono ?_
        rw [F.out]
        rintro e w3 ⟨rfl, hb⟩
        have ZB := Lib.hid (ZB.out.below hb ZB.out.lt); have OB := Lib.hid (OB.out.below hb OB.out.lt); have BW := Lib.hid (bthen BW.out hb)
        clear hb o0 o1 hlo
        obtain ⟨o0, o1⟩ : _ ∧ _ := ⟨OB.out.cell 0, OB.out.cell 1⟩
        obtain ⟨z0, z1⟩ : _ ∧ _ := ⟨ZB.out.cell 0, ZB.out.cell 1⟩
        simp at o0 o1 z0 z1
        have v0 := ZB.out.frozen 0; have v1 := ZB.out.frozen 1
        have hlo := OB.out.lt; have hlz := ZB.out.lt
        go_wp2_with fail
        have rb := ((ZB.out.set_ 0 (.int .i64 0)).set_ 1 (.int .i64 0))
        exact bodyPost_ret (v := .tuple #[.agg #[.int .i64 0, .int .i64 0], .int .i64 3]) (by simp [results, Try.results55, go_sem, rb.cell]) rfl ⟨rfl, ((BW.out.setCell (by simp) _).setCell (by simp) _)⟩
  · rw [if_neg (fun h => h1 h.1)]
    have hmx := hmx h1
    have ZB := Lib.hid (Blk.new w 23 #[.int .i64 0, .int .i64 0])
    have BW := Lib.hid (balloc w (.cells #[.int .i64 0, .int .i64 0] 23))
    go_enter Try.func55, Try.ntmps55
    go_wp2_with fail
    go_loopg [0, 1] 0 (fun gg s0 s1 wx => s0 = .int .i64 n ∧ s1 = .int .i64 d ∧ wx = w.alloc (.cells #[.int .i64 0, .int .i64 0] 23))
    case atStart => exact ⟨rfl, rfl, rfl⟩
    case round =>
      obtain ⟨rfl, rfl, rfl⟩ := hrel
      go_wp2_with fail
      refine (rabs_any n _ hn1 hn2).mono ?_
      rw [← HA.out]
      rintro e w1 ⟨rfl, rfl⟩
      go_wp2_with fail
      refine (rgcdI_any a d _ ha0 ha1 (by omega) hd2).mono ?_
      rw [← HG.out]
      rintro e w1 ⟨rfl, hb⟩
      have ZB := Lib.hid (ZB.out.below hb ZB.out.lt); have BW := Lib.hid (bthen BW.out hb)
      clear hb
      have hgn : g ≠ 0 := by omega
      have ed1 : n.tdiv g = m := by rw [HM.out]; exact tdiv_parts HA.out HG.out hgn HX.out
      have ed2 : d.tdiv g = y := by rw [Int.tdiv_eq_ediv_of_nonneg (by omega)]; exact HY.out.symm
      have ed4 : d / g = y := HY.out.symm
      have eu1 : IntKind.i64.wrap m = m := IntWalk.i64_in _ (by omega)
      have eu2 : IntKind.i64.wrap y = y := IntWalk.i64_in _ (by omega)
      have hz1 := ZB.out.lt
      go_upto_region 10 with fail
      go_region
      -- the test of the result: (fokB_f (show ¬ FOk m y from fun h => by have h3 := h.2.2; omega)) the fact
      have F := Lib.hid ((fokB_f (show ¬ FOk m y from fun h => by have h3 := h.2.2; omega)))
      clear ed1 ed2 ed4 eu1 eu2 hgn hz1
      have OB := Lib.hid (Blk.drew (Blk.new w1 23 #[.int .i64 m, .int .i64 y]))
      have ZB := Lib.hid (Blk.drew (ZB.out.alloc (.cells #[.int .i64 m, .int .i64 y] 23)))
      have BW := Lib.hid (Below.drew (bthen BW.out (balloc _ (.cells #[.int .i64 m, .int .i64 y] 23))))
      generalize hwe : (w1.alloc (.cells #[.int .i64 m, .int .i64 y] 23)).drew = w2 at OB ZB BW ⊢
      clear hwe
      generalize w1.heap.size = P at OB ⊢
      obtain ⟨o0, o1⟩ : _ ∧ _ := ⟨OB.out.cell 0, OB.out.cell 1⟩
      simp at o0 o1
      have hlo := OB.out.lt
      go_wp2_with fail
      refine (rvalid_any m y _).mono ?_
      rw [F.out]
      rintro e w3 ⟨rfl, hb⟩
      have ZB := Lib.hid (ZB.out.below hb ZB.out.lt); have OB := Lib.hid (OB.out.below hb OB.out.lt); have BW := Lib.hid (bthen BW.out hb)
      clear hb o0 o1 hlo
      obtain ⟨o0, o1⟩ : _ ∧ _ := ⟨OB.out.cell 0, OB.out.cell 1⟩
      obtain ⟨z0, z1⟩ : _ ∧ _ := ⟨ZB.out.cell 0, ZB.out.cell 1⟩
      simp at o0 o1 z0 z1
      have v0 := ZB.out.frozen 0; have v1 := ZB.out.frozen 1
      have hlo := OB.out.lt; have hlz := ZB.out.lt
      go_wp2_with fail
      have rb := ((ZB.out.set_ 0 (.int .i64 0)).set_ 1 (.int .i64 0))
      exact bodyPost_ret (v := .tuple #[.agg #[.int .i64 0, .int .i64 0], .int .i64 3]) (by simp [results, Try.results55, go_sem, rb.cell]) rfl ⟨rfl, ((BW.out.setCell (by simp) _).setCell (by simp) _)⟩
end Go.Proofs.Ythdibkmjoiipgaa
