/- The functions of package fraction, for any numbers: size, divisor, Valid, New. -/
import Derived.Test.YthdibkmjoiipgaaFrac
import Derived.Test.YthdibkmjoiipgaaFrLaw
import Derived.Deep.RegionHeld3
namespace Go.Proofs.Ythdibkmjoiipgaa
open Go.RowKit
set_option linter.unusedVariables false

theorem divisorI_any (a b : Int) (w : World) (ha0 : 0 ≤ a) (ha : a ≤ 4611686018427387904) (hb0 : 0 ≤ b) (hb : b ≤ 4611686018427387904) :
    Calls Try.prog 155 #[.int .u64 a, .int .u64 b] w fun e w' => e = .returned (.int .u64 (Nat.gcd a.toNat b.toNat : Nat)) ∧ Below w.heap.size w w' := by
  obtain ⟨a, rfl⟩ := Int.eq_ofNat_of_zero_le ha0
  obtain ⟨b, rfl⟩ := Int.eq_ofNat_of_zero_le hb0
  simp only [Int.toNat_natCast]
  exact divisor_any a b w ha hb
theorem sizeI_any (n : Int) (w : World) (h1 : -4611686018427387904 ≤ n) (h2 : n ≤ 4611686018427387904) :
    Calls Try.prog 156 #[.int .i64 n] w fun e w' => e = .returned (.int .u64 (n.natAbs : Nat)) ∧ w' = w := by
  by_cases h0 : 0 ≤ n
  · obtain ⟨a, rfl⟩ := Int.eq_ofNat_of_zero_le h0
    simp only [Int.natAbs_natCast]
    exact size_any a w h2
  · have F := Lib.hid (show (n.natAbs : Int) = -(n + 1) + 1 by omega)
    have d1 : decide (n < 0) = true := by simpa using h0
    go_enter Try.func156, Try.ntmps156
    go_wp2
    go_ret
    exact ⟨ret_int (by rw [F.out]), rfl⟩

set_option maxHeartbeats 1000000 in
theorem fvalid_any (n d : Int) (w : World) :
    Calls Try.prog 123 #[.agg #[.int .i64 n, .int .i64 d]] w fun e w' => e = .returned (.bool (fokB n d)) ∧ Below w.heap.size w w' := by
  have FB := Lib.hid (Blk.new w 23 #[.int .i64 n, .int .i64 d])
  have BW := Lib.hid (balloc w (.cells #[.int .i64 n, .int .i64 d] 23))
  obtain ⟨f0, f1⟩ : _ ∧ _ := ⟨FB.out.cell 0, FB.out.cell 1⟩
  simp at f0 f1
  have hlf := FB.out.lt
  by_cases h1 : 1 ≤ d
  · have c1 : decide (1 ≤ d) = true := by simpa using h1
    by_cases h2 : d ≤ 1073741824
    · have c2 : decide (d ≤ 1073741824) = true := by simpa using h2
      by_cases h3 : -1073741824 ≤ n
      · have c3 : decide (-1073741824 ≤ n) = true := by simpa using h3
        by_cases h4 : n ≤ 1073741824
        · have c4 : decide (n ≤ 1073741824) = true := by simpa using h4
          obtain ⟨a, ha⟩ : ∃ a : Int, a = (n.natAbs : Nat) := ⟨_, rfl⟩
          have ha0 : 0 ≤ a := by omega
          have ha1 : a ≤ 1073741824 := by omega
          obtain ⟨g, hg⟩ : ∃ g : Int, g = (Nat.gcd a.toNat d.toNat : Nat) := ⟨_, rfl⟩
          have hgg : Nat.gcd a.toNat d.toNat = Nat.gcd n.natAbs d.natAbs := by rw [ha, Int.toNat_natCast, show d.toNat = d.natAbs by omega]
          have HA := Lib.hid ha; have HG := Lib.hid hg
          have e1 : IntKind.u64.wrap d = d := IntWalk.u64_in _ (by omega)
          by_cases h5 : g = 1
          all_goals
            first
              | (rw [fokB_t (show FOk n d from ⟨h1, h2, h3, h4, by rw [← hgg]; omega⟩)]; have c5 : (g == 1) = true := by simpa using h5)
              | (rw [fokB_f (show ¬ FOk n d from fun h => h5 (by have h6 := h.2.2.2.2; rw [← hgg] at h6; omega))]; have c5 : (g == 1) = false := by simpa using h5)
            clear ha hg hgg h5 h1 h2 h3 h4
            go_enter Try.func123, Try.ntmps123
            go_wp2_with fail
            go_region_held3 (fun w' => w'.cell? ⟨w.heap.size, 0, none⟩ = some (.int .i64 n) ∧ w'.cell? ⟨w.heap.size, 1, none⟩ = some (.int .i64 d)) (first | go_keep)
              (first
                | (go_at_call 156
                   refine (sizeI_any n _ (by simp at c3; omega) (by simp at c4; omega)).mono ?_
                   rw [← HA.out]
                   rintro q wq ⟨rfl, rfl⟩
                   dsimp only)
                | (go_at_call 155
                   refine (divisorI_any a d _ (by omega) (by omega) (by simp at c1; omega) (by simp at c2; omega)).mono ?_
                   rw [← HG.out]
                   rintro q wq ⟨rfl, hbq⟩
                   have FB := Lib.hid (FB.out.below (by first | exact hbq | exact bofdrew hbq) FB.out.lt)
                   have BW := Lib.hid (bthen BW.out (by first | exact hbq | exact bofdrew hbq))
                   clear hbq
                   clear f0 f1 hlf
                   obtain ⟨f0, f1⟩ : _ ∧ _ := ⟨FB.out.cell 0, FB.out.cell 1⟩
                   simp at f0 f1
                   have hlf := FB.out.lt
                   dsimp only
                   skip))
            all_goals
              have bw := BW.out
              go_wp2_with fail
              go_ret
              exact ⟨rfl, bw⟩
        · have c4 : decide (n ≤ 1073741824) = false := by simpa using h4
          -- a test fails ahead of the calls
          rw [fokB_f (by unfold FOk; omega)]
          go_enter Try.func123, Try.ntmps123
          go_wp2_with fail
          go_quiet (fail)
          go_wp2_with fail
          go_ret
          exact ⟨rfl, bdrewN BW.out⟩
      · have c3 : decide (-1073741824 ≤ n) = false := by simpa using h3
        -- a test fails ahead of the calls
        rw [fokB_f (by unfold FOk; omega)]
        go_enter Try.func123, Try.ntmps123
        go_wp2_with fail
        go_quiet (fail)
        go_wp2_with fail
        go_ret
        exact ⟨rfl, bdrewN BW.out⟩
    · have c2 : decide (d ≤ 1073741824) = false := by simpa using h2
      -- a test fails ahead of the calls
      rw [fokB_f (by unfold FOk; omega)]
      go_enter Try.func123, Try.ntmps123
      go_wp2_with fail
      go_quiet (fail)
      go_wp2_with fail
      go_ret
      exact ⟨rfl, bdrewN BW.out⟩
  · have c1 : decide (1 ≤ d) = false := by simpa using h1
    -- a test fails ahead of the calls
    rw [fokB_f (by unfold FOk; omega)]
    go_enter Try.func123, Try.ntmps123
    go_wp2_with fail
    go_quiet (fail)
    go_wp2_with fail
    go_ret
    exact ⟨rfl, bdrewN BW.out⟩
/-- the parts as integers -/
theorem fnew_eq {n d a g x y : Int} (hd : 1 ≤ d) (ha : a = (n.natAbs : Nat)) (hg : g = (Nat.gcd a.toNat d.toNat : Nat)) (hx : x = a / g) (hy : y = d / g) :
    fnew n d = if x ≤ 1073741824 ∧ y ≤ 1073741824 then (if n < 0 then -x else x, y, 0) else (0, 0, 3) := by
  have h1 : d.toNat = d.natAbs := by omega
  have hx' : x = ((n.natAbs / Nat.gcd n.natAbs d.natAbs : Nat) : Int) := by rw [hx, hg, ha, Int.toNat_natCast, h1]; rfl
  have hy' : y = ((d.natAbs / Nat.gcd n.natAbs d.natAbs : Nat) : Int) := by
    rw [hy, hg, ha, Int.toNat_natCast, h1, show d = (d.natAbs : Nat) by omega]; rfl
  unfold fnew
  by_cases hc : x ≤ 1073741824 ∧ y ≤ 1073741824
  · rw [if_pos hc, if_pos (by rw [hx', hy'] at hc; omega), hx', hy']
  · rw [if_neg hc, if_neg (by rw [hx', hy'] at hc; omega)]
set_option maxHeartbeats 1000000 in
theorem fnewI_any (n d : Int) (w : World) (hn1 : -4611686018427387904 ≤ n) (hn2 : n ≤ 4611686018427387904) (hd1 : 1 ≤ d) (hd2 : d ≤ 4611686018427387904) :
    Calls Try.prog 124 #[.int .i64 n, .int .i64 d] w (RetF (fnew n d).1 (fnew n d).2.1 (fnew n d).2.2 w) := by
  obtain ⟨a, ha⟩ : ∃ a : Int, a = (n.natAbs : Nat) := ⟨_, rfl⟩
  have ha0 : 0 ≤ a := by omega
  have ha1 : a ≤ 4611686018427387904 := by omega
  obtain ⟨g, hg⟩ : ∃ g : Int, g = (Nat.gcd a.toNat d.toNat : Nat) := ⟨_, rfl⟩
  have hg1 : 1 ≤ g := by
    have : 0 < Nat.gcd a.toNat d.toNat := Nat.gcd_pos_of_pos_right _ (by omega)
    omega
  obtain ⟨x, hx⟩ : ∃ x : Int, x = a / g := ⟨_, rfl⟩
  obtain ⟨y, hy⟩ : ∃ y : Int, y = d / g := ⟨_, rfl⟩
  have hF := fnew_eq hd1 ha hg hx hy
  have hx0 : 0 ≤ x := by rw [hx]; exact Int.ediv_nonneg ha0 (by omega)
  have hxa : x ≤ a := by rw [hx]; exact Int.ediv_le_self _ ha0
  have hy0 : 0 ≤ y := by rw [hy]; exact Int.ediv_nonneg (by omega) (by omega)
  have hyd : y ≤ d := by rw [hy]; exact Int.ediv_le_self _ (by omega)
  rw [hF]
  have HA := Lib.hid ha; have HG := Lib.hid hg; have HX := Lib.hid hx; have HY := Lib.hid hy
  clear ha hg hx hy hF
  have d0 : decide (d < 0) = false := by simp; omega
  have b0 : (d == 0) = false := by simp; omega
  by_cases h1 : x ≤ 1073741824
  · have dx : decide (1073741824 < x) = false := by simp; omega
    by_cases h2 : y ≤ 1073741824
    · rw [if_pos ⟨h1, h2⟩]
      have dy : decide (1073741824 < y) = false := by simp; omega
      by_cases h3 : n < 0
      · rw [if_pos h3]
        have dn : decide (n < 0) = true := by simpa using h3
        go_enter Try.func124, Try.ntmps124
        go_wp2_with fail
        refine (sizeI_any n _ hn1 hn2).mono ?_
        rw [← HA.out]
        rintro e w1 ⟨rfl, rfl⟩
        go_wp2_with fail
        refine (sizeI_any d _ (by omega) hd2).mono ?_
        rw [show ((d.natAbs : Nat) : Int) = d by omega]
        rintro e w1 ⟨rfl, rfl⟩
        go_wp2_with fail
        refine (divisorI_any a d _ ha0 ha1 (by omega) hd2).mono ?_
        rw [← HG.out]
        rintro e w1 ⟨rfl, hb⟩
        have zb := (Blk.new w 23 #[.int .i64 0, .int .i64 0]).below hb (by simp)
        have BW := Lib.hid (bthen (balloc w _) hb)
        have ZB := Lib.hid zb
        clear zb hb
        have z0 := ZB.out.cell 0; have z1 := ZB.out.cell 1; have v0 := ZB.out.frozen 0; have v1 := ZB.out.frozen 1
        simp at z0 z1
        have hlz := ZB.out.lt
        have hgn : g ≠ 0 := by omega
        have ed1 : a.tdiv g = x := by rw [Int.tdiv_eq_ediv_of_nonneg ha0]; exact HX.out.symm
        have ed2 : d.tdiv g = y := by rw [Int.tdiv_eq_ediv_of_nonneg (by omega)]; exact HY.out.symm
        have ed3 : a / g = x := HX.out.symm
        have ed4 : d / g = y := HY.out.symm
        have eu1 : IntKind.u64.wrap x = x := IntWalk.u64_in _ (by omega)
        have eu2 : IntKind.u64.wrap y = y := IntWalk.u64_in _ (by omega)
        go_wp2_with fail
        go_quiet (fail)
        clear ed1 ed2 ed3 ed4 eu1 eu2
        go_wp2_with fail
        have rb := (((ZB.out.drewN nq).set_ 0 (.int .i64 (-x))).set_ 1 (.int .i64 y))
        exact bodyPost_ret (v := .tuple #[.agg #[.int .i64 (-x), .int .i64 y], .int .i64 0]) (by simp [results, Try.results124, go_sem, rb.cell]) rfl ⟨rfl, (((bdrewN BW.out).setCell (by simp) _).setCell (by simp) _)⟩
      · rw [if_neg h3]
        have dn : decide (n < 0) = false := by simpa using h3
        go_enter Try.func124, Try.ntmps124
        go_wp2_with fail
        refine (sizeI_any n _ hn1 hn2).mono ?_
        rw [← HA.out]
        rintro e w1 ⟨rfl, rfl⟩
        go_wp2_with fail
        refine (sizeI_any d _ (by omega) hd2).mono ?_
        rw [show ((d.natAbs : Nat) : Int) = d by omega]
        rintro e w1 ⟨rfl, rfl⟩
        go_wp2_with fail
        refine (divisorI_any a d _ ha0 ha1 (by omega) hd2).mono ?_
        rw [← HG.out]
        rintro e w1 ⟨rfl, hb⟩
        have zb := (Blk.new w 23 #[.int .i64 0, .int .i64 0]).below hb (by simp)
        have BW := Lib.hid (bthen (balloc w _) hb)
        have ZB := Lib.hid zb
        clear zb hb
        have z0 := ZB.out.cell 0; have z1 := ZB.out.cell 1; have v0 := ZB.out.frozen 0; have v1 := ZB.out.frozen 1
        simp at z0 z1
        have hlz := ZB.out.lt
        have hgn : g ≠ 0 := by omega
        have ed1 : a.tdiv g = x := by rw [Int.tdiv_eq_ediv_of_nonneg ha0]; exact HX.out.symm
        have ed2 : d.tdiv g = y := by rw [Int.tdiv_eq_ediv_of_nonneg (by omega)]; exact HY.out.symm
        have ed3 : a / g = x := HX.out.symm
        have ed4 : d / g = y := HY.out.symm
        have eu1 : IntKind.u64.wrap x = x := IntWalk.u64_in _ (by omega)
        have eu2 : IntKind.u64.wrap y = y := IntWalk.u64_in _ (by omega)
        go_wp2_with fail
        go_quiet (fail)
        clear ed1 ed2 ed3 ed4 eu1 eu2
        go_wp2_with fail
        have rb := (((ZB.out.drewN nq).set_ 0 (.int .i64 x)).set_ 1 (.int .i64 y))
        exact bodyPost_ret (v := .tuple #[.agg #[.int .i64 x, .int .i64 y], .int .i64 0]) (by simp [results, Try.results124, go_sem, rb.cell]) rfl ⟨rfl, (((bdrewN BW.out).setCell (by simp) _).setCell (by simp) _)⟩
    · rw [if_neg (fun h => h2 h.2)]
      have dy : decide (1073741824 < y) = true := by simp; omega
      go_enter Try.func124, Try.ntmps124
      go_wp2_with fail
      refine (sizeI_any n _ hn1 hn2).mono ?_
      rw [← HA.out]
      rintro e w1 ⟨rfl, rfl⟩
      go_wp2_with fail
      refine (sizeI_any d _ (by omega) hd2).mono ?_
      rw [show ((d.natAbs : Nat) : Int) = d by omega]
      rintro e w1 ⟨rfl, rfl⟩
      go_wp2_with fail
      refine (divisorI_any a d _ ha0 ha1 (by omega) hd2).mono ?_
      rw [← HG.out]
      rintro e w1 ⟨rfl, hb⟩
      have zb := (Blk.new w 23 #[.int .i64 0, .int .i64 0]).below hb (by simp)
      have BW := Lib.hid (bthen (balloc w _) hb)
      have ZB := Lib.hid zb
      clear zb hb
      have z0 := ZB.out.cell 0; have z1 := ZB.out.cell 1; have v0 := ZB.out.frozen 0; have v1 := ZB.out.frozen 1
      simp at z0 z1
      have hlz := ZB.out.lt
      have hgn : g ≠ 0 := by omega
      have ed1 : a.tdiv g = x := by rw [Int.tdiv_eq_ediv_of_nonneg ha0]; exact HX.out.symm
      have ed2 : d.tdiv g = y := by rw [Int.tdiv_eq_ediv_of_nonneg (by omega)]; exact HY.out.symm
      have ed3 : a / g = x := HX.out.symm
      have ed4 : d / g = y := HY.out.symm
      have eu1 : IntKind.u64.wrap x = x := IntWalk.u64_in _ (by omega)
      have eu2 : IntKind.u64.wrap y = y := IntWalk.u64_in _ (by omega)
      go_wp2_with fail
      go_quiet (fail)
      clear ed1 ed2 ed3 ed4 eu1 eu2
      go_wp2_with fail
      have rb := (((ZB.out.drewN nq).set_ 0 (.int .i64 0)).set_ 1 (.int .i64 0))
      exact bodyPost_ret (v := .tuple #[.agg #[.int .i64 0, .int .i64 0], .int .i64 3]) (by simp [results, Try.results124, go_sem, rb.cell]) rfl ⟨rfl, (((bdrewN BW.out).setCell (by simp) _).setCell (by simp) _)⟩
  · rw [if_neg (fun h => h1 h.1)]
    have dx : decide (1073741824 < x) = true := by simp; omega
    go_enter Try.func124, Try.ntmps124
    go_wp2_with fail
    refine (sizeI_any n _ hn1 hn2).mono ?_
    rw [← HA.out]
    rintro e w1 ⟨rfl, rfl⟩
    go_wp2_with fail
    refine (sizeI_any d _ (by omega) hd2).mono ?_
    rw [show ((d.natAbs : Nat) : Int) = d by omega]
    rintro e w1 ⟨rfl, rfl⟩
    go_wp2_with fail
    refine (divisorI_any a d _ ha0 ha1 (by omega) hd2).mono ?_
    rw [← HG.out]
    rintro e w1 ⟨rfl, hb⟩
    have zb := (Blk.new w 23 #[.int .i64 0, .int .i64 0]).below hb (by simp)
    have BW := Lib.hid (bthen (balloc w _) hb)
    have ZB := Lib.hid zb
    clear zb hb
    have z0 := ZB.out.cell 0; have z1 := ZB.out.cell 1; have v0 := ZB.out.frozen 0; have v1 := ZB.out.frozen 1
    simp at z0 z1
    have hlz := ZB.out.lt
    have hgn : g ≠ 0 := by omega
    have ed1 : a.tdiv g = x := by rw [Int.tdiv_eq_ediv_of_nonneg ha0]; exact HX.out.symm
    have ed2 : d.tdiv g = y := by rw [Int.tdiv_eq_ediv_of_nonneg (by omega)]; exact HY.out.symm
    have ed3 : a / g = x := HX.out.symm
    have ed4 : d / g = y := HY.out.symm
    have eu1 : IntKind.u64.wrap x = x := IntWalk.u64_in _ (by omega)
    have eu2 : IntKind.u64.wrap y = y := IntWalk.u64_in _ (by omega)
    go_wp2_with fail
    go_quiet (fail)
    clear ed1 ed2 ed3 ed4 eu1 eu2
    go_wp2_with fail
    have rb := (((ZB.out.drewN nq).set_ 0 (.int .i64 0)).set_ 1 (.int .i64 0))
    exact bodyPost_ret (v := .tuple #[.agg #[.int .i64 0, .int .i64 0], .int .i64 3]) (by simp [results, Try.results124, go_sem, rb.cell]) rfl ⟨rfl, (((bdrewN BW.out).setCell (by simp) _).setCell (by simp) _)⟩
end Go.Proofs.Ythdibkmjoiipgaa
