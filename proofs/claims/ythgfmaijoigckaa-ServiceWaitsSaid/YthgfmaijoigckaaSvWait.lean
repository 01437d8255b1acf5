/- The statement ServiceWaits: the walk. -/
import Derived.Test.YthgfmaijoigckaaAwake12
import Derived.Test.YthgfmaijoigckaaSgLaw
import Derived.Test.YthgfmaijoigckaaSrcFr
import Derived.Test.YthgfmaijoigckaaEnvL
import Derived.Deep.RegionHeld3
namespace Go.Proofs.Ythgfmaijoigckaa
open Go.RowKit
set_option linter.unusedVariables false

theorem rfloor_any (n d : Int) (w : World) (hg : FOk n d) :
    Calls Try.prog 129 #[.agg #[.int .i64 n, .int .i64 d]] w fun e w' => e = .returned (.int .i64 (n / d)) ∧ Below w.heap.size w w' := by
  have FB := Lib.hid (Blk.new w 23 #[.int .i64 n, .int .i64 d])
  have BW := Lib.hid (balloc w (.cells #[.int .i64 n, .int .i64 d] 23))
  obtain ⟨f0, f1⟩ : _ ∧ _ := ⟨FB.out.cell 0, FB.out.cell 1⟩
  simp at f0 f1
  have hlf := FB.out.lt
  have F := Lib.hid (fokB_t hg)
  have hn0 := hg.2.2.1; have hn1 := hg.2.2.2.1; have hd0 := hg.1; have hd1 := hg.2.1
  rw [← floor_eq hd0]
  obtain ⟨q, hq⟩ : ∃ q, q = n.tdiv d := ⟨_, rfl⟩
  have h1 := Int.mul_tdiv_add_tmod n d
  have h2 := Int.tmod_lt_of_pos n (show 0 < d by omega)
  have h3 := Int.lt_tmod_of_pos n (show 0 < d by omega)
  rw [Int.mul_comm, ← hq] at h1
  rw [← hq]
  have hqd0 : -2147483648 ≤ q * d := by omega
  have hqd1 : q * d ≤ 2147483648 := by omega
  have hq1 : q.natAbs ≤ n.natAbs := by rw [hq, Int.natAbs_tdiv]; exact Nat.div_le_self _ _
  have hq2 : -1073741824 ≤ q := by omega
  have hq3 : q ≤ 1073741824 := by omega
  have e1 : n.tdiv d = q := hq.symm
  have hdn : d ≠ 0 := by omega
  clear hq hg h1 h2 h3 hq1
  by_cases hc : n < q * d
  · rw [if_pos hc]
    go_enter Try.func129, Try.ntmps129
    go_wp2_with fail
    refine (rvalid_any n d _).mono ?_
    rw [F.out]
    rintro e w1 ⟨rfl, hb⟩
    replace FB := Lib.hid (FB.out.below hb FB.out.lt); replace BW := Lib.hid (bthen BW.out hb)
    clear hb f0 f1 hlf
    obtain ⟨f0, f1⟩ : _ ∧ _ := ⟨FB.out.cell 0, FB.out.cell 1⟩
    simp at f0 f1
    have hlf := FB.out.lt
    go_wp2_with fail
    go_ret
    exact ⟨rfl, BW.out⟩
  · rw [if_neg hc]
    go_enter Try.func129, Try.ntmps129
    go_wp2_with fail
    refine (rvalid_any n d _).mono ?_
    rw [F.out]
    rintro e w1 ⟨rfl, hb⟩
    replace FB := Lib.hid (FB.out.below hb FB.out.lt); replace BW := Lib.hid (bthen BW.out hb)
    clear hb f0 f1 hlf
    obtain ⟨f0, f1⟩ : _ ∧ _ := ⟨FB.out.cell 0, FB.out.cell 1⟩
    simp at f0 f1
    have hlf := FB.out.lt
    go_wp2_with fail
    go_ret
    exact ⟨rfl, BW.out⟩
theorem fok_neg {n d : Int} (h : FOk n d) : FOk (-n) d := ⟨h.1, h.2.1, by have := h.2.2.2.1; omega, by have := h.2.2.1; omega, by rw [Int.natAbs_neg]; exact h.2.2.2.2⟩
theorem rceil_any (n d : Int) (w : World) (hg : GOk n d) :
    Calls Try.prog 66 #[.agg #[.int .i64 n, .int .i64 d]] w fun e w' => e = .returned (.int .i64 (cdiv n d)) ∧ Below w.heap.size w w' := by
  have FB := Lib.hid (Blk.new w 23 #[.int .i64 n, .int .i64 d])
  have BW := Lib.hid (balloc w (.cells #[.int .i64 n, .int .i64 d] 23))
  obtain ⟨f0, f1⟩ : _ ∧ _ := ⟨FB.out.cell 0, FB.out.cell 1⟩
  simp at f0 f1
  have hlf := FB.out.lt
  have F := Lib.hid (fokB_t hg.1)
  have hn0 := hg.2; have hn1 := hg.1.2.2.2.1; have hd0 := hg.1.1; have hd1 := hg.1.2.1
  have HN := Lib.hid (fok_neg hg.1)
  have hcd : cdiv n d = -((-n) / d) := rfl
  rw [hcd]
  obtain ⟨q, hq⟩ : ∃ q, q = (-n) / d := ⟨_, rfl⟩
  have hq1 : -n ≤ q := by
    rw [hq]
    refine (Int.le_ediv_iff_mul_le (show 0 < d by omega)).2 ?_
    have : n * 1 ≤ n * d := Int.mul_le_mul_of_nonneg_left hd0 hn0
    rw [Int.neg_mul]; omega
  have hq2 : q ≤ 0 := by
    have := (Int.ediv_lt_iff_lt_mul (show 0 < d by omega) (a := -n) (b := 1)).2 (by omega)
    omega
  rw [← hq]
  have HQ := Lib.hid hq
  clear hq hcd hg
  go_enter Try.func66, Try.ntmps66
  go_wp2_with fail
  refine (rvalid_any n d _).mono ?_
  rw [F.out]
  rintro e w1 ⟨rfl, hb⟩
  replace FB := Lib.hid (FB.out.below hb FB.out.lt); replace BW := Lib.hid (bthen BW.out hb)
  clear hb f0 f1 hlf
  obtain ⟨f0, f1⟩ : _ ∧ _ := ⟨FB.out.cell 0, FB.out.cell 1⟩
  simp at f0 f1
  have hlf := FB.out.lt
  go_wp2_with fail
  refine (rfloor_any (-n) d _ HN.out).mono ?_
  rw [← HQ.out]
  rintro e w1 ⟨rfl, hb⟩
  replace FB := Lib.hid (FB.out.below hb FB.out.lt); replace BW := Lib.hid (bthen BW.out hb)
  clear hb f0 f1 hlf
  obtain ⟨f0, f1⟩ : _ ∧ _ := ⟨FB.out.cell 0, FB.out.cell 1⟩
  simp at f0 f1
  have hlf := FB.out.lt
  go_wp2_with fail
  go_ret
  exact ⟨rfl, BW.out⟩
theorem tok_cur3 {B b R r : Int} (hB : GOk B b) (hR : GOk R r) (hB1 : B ≤ 1000) (hr : r ≤ 120) (hR1 : R ≤ 1000) : ∃ g, NF (tokV B b R r) g ∧ Lim g ∧ g.Ok := by
  have hb0 := hB.1.1; have hB0 := hB.2; have hr0 := hR.1.1; have hR0 := hR.2
  refine lim_of (tok_up hB0 hb0 hR0 hr0) (p := r.toNat) (i := R) (by omega) (by omega) (tok_per hb0 hr0) (fun t ht => ?_) (by omega)
  by_cases h0 : t = 0
  · rw [h0, tok_zero]; omega
  · have h1 := tok_le hB0 hb0 hR0 hr0 (t := t) (by omega)
    have h2 : R * ((t : Int) - 1) ≤ 1000 * 120 := Int.mul_le_mul hR1 (by omega) (by omega) (by omega)
    omega
theorem tok_made3 {B b R r : Int} (hB : GOk B b) (hR : GOk R r) (hr : r ≤ 120) {f g : Cv} {er : Int} (h : TokS B b R r f er) (hg : NF (tokV B b R r) g) (hl : Lim g) : f = g ∧ er = 0 := by
  rcases h with ⟨h, _⟩ | ⟨_, _, h, _⟩ | ⟨_, _, _, h⟩
  · exact absurd ⟨hB, hR⟩ h
  · omega
  · exact h.eq hg hl
set_option maxHeartbeats 4000000 in
set_option maxRecDepth 100000 in
theorem svWait_any (A0 : Option Addr) (n0 c0 : Nat) (L0 : List Int) (w : World) (hL : Ints w w.heap.size A0 n0 L0) (hc0 : n0 ≤ c0) (hn0 : (n0 : Int) ≤ 9223372036854775807) :
    Calls Try.prog 13 #[.slice A0 n0 c0] w fun e w' => e = .returned (.bool true) ∧ Below w.heap.size w w' := by
  go_enter Try.func13, Try.ntmps13
  go_wp2_with fail
  refine (new_any A0 n0 c0 L0 w hL hc0 hn0).mono ?_
  rintro e w1 ⟨rfl, hS1, hb1⟩
  have E := Lib.hid (EnvL.start hS1 hb1)
  clear hL hS1 hb1
  -- 40 top, 3 most, _ the world before, w2 the world behind, B b the fraction, hF1 its facts
  go_wp2_with fail
  refine (srcFr_any w.heap.size 40 3 _ (by exact E.out.s) (by omega) (by omega) (by omega) (by omega)).mono ?_
  rintro e w2 ⟨B, b, hF1, rfl, hS, hk⟩
  have E := Lib.hid (E.out.kept hS hk)
  try (replace BB := Lib.hid (BB.out.kept (by omega) hk))
  clear hS hk
  -- 4 top, 4 most, _ the world before, w3 the world behind, R r the fraction, hF2 its facts
  go_wp2_with fail
  refine (srcFr_any w.heap.size 4 4 _ (by exact E.out.s) (by omega) (by omega) (by omega) (by omega)).mono ?_
  rintro e w3 ⟨R, r, hF2, rfl, hS, hk⟩
  have E := Lib.hid (E.out.kept hS hk)
  try (replace BB := Lib.hid (BB.out.kept (by omega) hk))
  clear hS hk
  have hp1 := E.out.s.lt
  replace E := Lib.hid (E.out.alloc (.cells #[.int .i64 B, .int .i64 b, .int .i64 R, .int .i64 r] 27))
  have BB := Lib.hid (Blk.new w3 27 #[.int .i64 B, .int .i64 b, .int .i64 R, .int .i64 r])
  go_upto_region 3 with fail
  generalize hwe : w3.alloc (.cells #[.int .i64 B, .int .i64 b, .int .i64 R, .int .i64 r] 27) = w4 at *
  clear hwe
  generalize w3.heap.size = PB1 at *
  -- 9 top, 3 most, _ the world before, w5 the world behind, P p the fraction, hF3 its facts
  go_wp2_with fail
  refine (srcFr_any w.heap.size 9 3 _ (by exact E.out.s) (by omega) (by omega) (by omega) (by omega)).mono ?_
  rintro e w5 ⟨P, p, hF3, rfl, hS, hk⟩
  have E := Lib.hid (E.out.kept hS hk)
  try (replace BB := Lib.hid (BB.out.kept (by omega) hk))
  clear hS hk
  -- 9 top, 4 most, _ the world before, w6 the world behind, L l the fraction, hF4 its facts
  go_wp2_with fail
  refine (srcFr_any w.heap.size 9 4 _ (by exact E.out.s) (by omega) (by omega) (by omega) (by omega)).mono ?_
  rintro e w6 ⟨L, l, hF4, rfl, hS, hk⟩
  have E := Lib.hid (E.out.kept hS hk)
  try (replace BB := Lib.hid (BB.out.kept (by omega) hk))
  clear hS hk
  replace E := Lib.hid (E.out.alloc (.cells #[.int .i64 P, .int .i64 p, .int .i64 L, .int .i64 l] 25))
  replace BB := Lib.hid (BB.out.alloc (.cells #[.int .i64 P, .int .i64 p, .int .i64 L, .int .i64 l] 25))
  have PB := Lib.hid (Blk.new w6 25 #[.int .i64 P, .int .i64 p, .int .i64 L, .int .i64 l])
  go_upto_region 4 with fail
  generalize hwe : w6.alloc (.cells #[.int .i64 P, .int .i64 p, .int .i64 L, .int .i64 l] 25) = w7 at *
  clear hwe
  generalize w6.heap.size = PP1 at *
  have BW := Lib.hid E.out.fin
  clear E
  obtain ⟨hB, hb3, hB1⟩ := hF1
  obtain ⟨hR, hr4, hR1⟩ := hF2
  obtain ⟨hP, hp3, hP1⟩ := hF3
  obtain ⟨hL, hl4, hL1⟩ := hF4
  have HWC := Lib.hid (wt_cases (R := R) (r := r) hB hP hL (by omega) (by omega) (by omega) (by omega) (by omega) (by omega))
  have HB := Lib.hid hB; have HR := Lib.hid hR; have HP := Lib.hid hP; have HL := Lib.hid hL
  clear hB hR hP hL
  obtain ⟨x0, x1, x2, x3⟩ : _ ∧ _ ∧ _ ∧ _ := ⟨BB.out.cell 0, BB.out.cell 1, BB.out.cell 2, BB.out.cell 3⟩
  obtain ⟨p0, p1, p2, p3⟩ : _ ∧ _ ∧ _ ∧ _ := ⟨PB.out.cell 0, PB.out.cell 1, PB.out.cell 2, PB.out.cell 3⟩
  simp at x0 x1 x2 x3 p0 p1 p2 p3
  have hlx := BB.out.lt; have hlp := PB.out.lt
  go_wp2_with fail
  refine (wait_any B b R r P p L l _ HB.out HR.out HP.out HL.out).mono ?_
  rcases HWC.out with ⟨hw, hk⟩ | ⟨hPp, hcm, x, y, hw, hxy, hle⟩
  · rw [hw]
    clear hw HWC
    rintro e w8 ⟨rfl, hb⟩
    replace BB := Lib.hid (BB.out.below hb BB.out.lt); replace PB := Lib.hid (PB.out.below hb PB.out.lt); replace BW := Lib.hid (bthen BW.out hb)
    try (replace XB := Lib.hid (XB.out.below hb XB.out.lt))
    try (replace FA := Lib.hid (FA.out.below hb))
    try (replace GA := Lib.hid (GA.out.below hb))
    clear hb
    clear x0 x1 x2 x3 p0 p1 p2 p3 hlx hlp
    -- an object (.cells #[.int .i64 0, .int .i64 0] 23) is laid into the world {1}, which is then named {2}; its block {3}
    replace BB := Lib.hid (BB.out.alloc (.cells #[.int .i64 0, .int .i64 0] 23)); replace PB := Lib.hid (PB.out.alloc (.cells #[.int .i64 0, .int .i64 0] 23)); replace BW := Lib.hid (bthen BW.out (balloc _ (.cells #[.int .i64 0, .int .i64 0] 23)))
    go_upto_region 5 with fail
    generalize hwe : w8.alloc (.cells #[.int .i64 0, .int .i64 0] 23) = w9 at *
    clear hwe
    generalize w8.heap.size = PX at *
    obtain ⟨x0, x1, x2, x3⟩ : _ ∧ _ ∧ _ ∧ _ := ⟨BB.out.cell 0, BB.out.cell 1, BB.out.cell 2, BB.out.cell 3⟩
    obtain ⟨p0, p1, p2, p3⟩ : _ ∧ _ ∧ _ ∧ _ := ⟨PB.out.cell 0, PB.out.cell 1, PB.out.cell 2, PB.out.cell 3⟩
    simp at x0 x1 x2 x3 p0 p1 p2 p3
    have hlx := BB.out.lt; have hlp := PB.out.lt
    by_cases h0 : P = 0
    · have d0 : (P == 0) = true := by simpa using h0
      clear hk h0
      go_wp2_with fail
      refine (awake12_any _).mono ?_
      rintro e wq ⟨rfl, hb⟩
      replace BB := Lib.hid (BB.out.below hb BB.out.lt); replace PB := Lib.hid (PB.out.below hb PB.out.lt); replace BW := Lib.hid (bthen BW.out hb)
      try (replace XB := Lib.hid (XB.out.below hb XB.out.lt))
      try (replace FA := Lib.hid (FA.out.below hb))
      try (replace GA := Lib.hid (GA.out.below hb))
      clear hb
      clear x0 x1 x2 x3 p0 p1 p2 p3 hlx hlp
      go_wp2_with fail
      go_ret
      exact ⟨rfl, BW.out⟩
    · have d0 : (P == 0) = false := by simpa using h0
      have hcm := hk.resolve_left h0
      obtain ⟨cm, hcm'⟩ : ∃ cm, cm = fcmp R r P p := ⟨_, rfl⟩
      rw [← hcm'] at hcm
      have HCM := Lib.hid hcm'
      clear hk h0 hcm'
      go_wp2_with fail
      refine (rcmp_any R r P p _ HR.out.1 HP.out.1).mono ?_
      rw [← HCM.out]
      rintro e wq ⟨rfl, hb⟩
      replace BB := Lib.hid (BB.out.below hb BB.out.lt); replace PB := Lib.hid (PB.out.below hb PB.out.lt); replace BW := Lib.hid (bthen BW.out hb)
      try (replace XB := Lib.hid (XB.out.below hb XB.out.lt))
      try (replace FA := Lib.hid (FA.out.below hb))
      try (replace GA := Lib.hid (GA.out.below hb))
      clear hb
      clear x0 x1 x2 x3 p0 p1 p2 p3 hlx hlp
      go_wp2_with fail
      refine (awake12_any _).mono ?_
      rintro e wq2 ⟨rfl, hb⟩
      replace BW := Lib.hid (bthen BW.out hb)
      clear hb
      go_wp2_with fail
      go_ret
      exact ⟨rfl, BW.out⟩
  · rw [hw]
    clear hw HWC
    have HXY := Lib.hid hxy; have HLE := Lib.hid hle
    have hrp := fcmp_le HR.out.1 HP.out.1 (by omega)
    have HRP := Lib.hid hrp
    clear hxy hle hcm hrp
    rintro e w8 ⟨rfl, hb⟩
    replace BB := Lib.hid (BB.out.below hb BB.out.lt); replace PB := Lib.hid (PB.out.below hb PB.out.lt); replace BW := Lib.hid (bthen BW.out hb)
    try (replace XB := Lib.hid (XB.out.below hb XB.out.lt))
    try (replace FA := Lib.hid (FA.out.below hb))
    try (replace GA := Lib.hid (GA.out.below hb))
    clear hb
    clear x0 x1 x2 x3 p0 p1 p2 p3 hlx hlp
    -- an object (.cells #[.int .i64 x, .int .i64 y] 23) is laid into the world {1}, which is then named {2}; its block {3}
    replace BB := Lib.hid (BB.out.alloc (.cells #[.int .i64 x, .int .i64 y] 23)); replace PB := Lib.hid (PB.out.alloc (.cells #[.int .i64 x, .int .i64 y] 23)); replace BW := Lib.hid (bthen BW.out (balloc _ (.cells #[.int .i64 x, .int .i64 y] 23)))
    have XB := Lib.hid (Blk.new w8 23 #[.int .i64 x, .int .i64 y])
    go_upto_region 7 with fail
    generalize hwe : w8.alloc (.cells #[.int .i64 x, .int .i64 y] 23) = w9 at *
    clear hwe
    generalize w8.heap.size = PX at *
    obtain ⟨g, hg1, hg2, hg3⟩ := tok_cur3 HB.out HR.out (by omega) (by omega) (by omega)
    obtain ⟨⟨k, hk1, hk2, hk3⟩, hck⟩ := pace_cur HP.out (by omega) (by omega) HL.out (by omega)
    have HG := Lib.hid hg1; have HG2 := Lib.hid hg2; have HG3 := Lib.hid hg3; have HK := Lib.hid hk1; have HK2 := Lib.hid hk2; have HK3 := Lib.hid hk3
    have g2 := hg3.n2; have k2 := hk3.n2
    clear hg1 hg2 hg3 hk1 hk2 hk3
    obtain ⟨x0, x1, x2, x3⟩ : _ ∧ _ ∧ _ ∧ _ := ⟨BB.out.cell 0, BB.out.cell 1, BB.out.cell 2, BB.out.cell 3⟩
    obtain ⟨p0, p1, p2, p3⟩ : _ ∧ _ ∧ _ ∧ _ := ⟨PB.out.cell 0, PB.out.cell 1, PB.out.cell 2, PB.out.cell 3⟩
    simp at x0 x1 x2 x3 p0 p1 p2 p3
    have hlx := BB.out.lt; have hlp := PB.out.lt
    go_wp2_with fail
    refine (token_any B b R r _).mono ?_
    rintro e wa ⟨f, er, hS, A, n, c, rfl, hI, hA, hb⟩
    obtain ⟨rfl, rfl⟩ : f = g ∧ er = 0 := tok_made3 HB.out HR.out (by omega) hS HG.out HG2.out
    have hn : f.vals.length = n := hI.1
    rw [hn] at g2
    replace BB := Lib.hid (BB.out.below hb BB.out.lt); replace PB := Lib.hid (PB.out.below hb PB.out.lt); replace BW := Lib.hid (bthen BW.out hb)
    try (replace XB := Lib.hid (XB.out.below hb XB.out.lt))
    try (replace FA := Lib.hid (FA.out.below hb))
    try (replace GA := Lib.hid (GA.out.below hb))
    clear hb
    clear x0 x1 x2 x3 p0 p1 p2 p3 hlx hlp
    have FA := Lib.hid (By.new (L := 0) (B := 0) (c := c) hI (fun b off s e => Nat.zero_le _) (Nat.le_refl _) (Nat.zero_le _))
    -- an object (.cells #[.slice A n c, .int .i64 f.per, .int .i64 f.inc] 44) is laid into the world {1}, which is then named {2}; its block {3}
    replace BB := Lib.hid (BB.out.alloc (.cells #[.slice A n c, .int .i64 f.per, .int .i64 f.inc] 44)); replace PB := Lib.hid (PB.out.alloc (.cells #[.slice A n c, .int .i64 f.per, .int .i64 f.inc] 44)); replace BW := Lib.hid (bthen BW.out (balloc _ (.cells #[.slice A n c, .int .i64 f.per, .int .i64 f.inc] 44)))
    replace XB := Lib.hid (XB.out.alloc (.cells #[.slice A n c, .int .i64 f.per, .int .i64 f.inc] 44))
    clear hS hI hA
    go_upto_region 8 with fail
    generalize hwe : wa.alloc (.cells #[.slice A n c, .int .i64 f.per, .int .i64 f.inc] 44) = wb at *
    clear hwe
    generalize wa.heap.size = PF at *
    obtain ⟨x0, x1, x2, x3⟩ : _ ∧ _ ∧ _ ∧ _ := ⟨BB.out.cell 0, BB.out.cell 1, BB.out.cell 2, BB.out.cell 3⟩
    obtain ⟨p0, p1, p2, p3⟩ : _ ∧ _ ∧ _ ∧ _ := ⟨PB.out.cell 0, PB.out.cell 1, PB.out.cell 2, PB.out.cell 3⟩
    simp at x0 x1 x2 x3 p0 p1 p2 p3
    have hlx := BB.out.lt; have hlp := PB.out.lt
    go_wp2_with fail
    refine (pace_any P p L l _).mono ?_
    rintro e wc ⟨q, er, hS, A2, m, d, rfl, hI, hA, hb⟩
    obtain ⟨rfl, rfl⟩ : q = k ∧ er = 0 := pace_made HP.out (by omega) HL.out hck hS HK.out HK2.out
    have hm : q.vals.length = m := hI.1
    rw [hm] at k2
    replace BB := Lib.hid (BB.out.below hb BB.out.lt); replace PB := Lib.hid (PB.out.below hb PB.out.lt); replace BW := Lib.hid (bthen BW.out hb)
    try (replace XB := Lib.hid (XB.out.below hb XB.out.lt))
    try (replace FA := Lib.hid (FA.out.below hb))
    try (replace GA := Lib.hid (GA.out.below hb))
    clear hb
    clear x0 x1 x2 x3 p0 p1 p2 p3 hlx hlp
    have GA := Lib.hid (By.new (L := 0) (B := 0) (c := d) hI (fun b off s e => Nat.zero_le _) (Nat.le_refl _) (Nat.zero_le _))
    -- an object (.cells #[.slice A2 m d, .int .i64 q.per, .int .i64 q.inc] 44) is laid into the world {1}, which is then named {2}; its block {3}
    replace BB := Lib.hid (BB.out.alloc (.cells #[.slice A2 m d, .int .i64 q.per, .int .i64 q.inc] 44)); replace PB := Lib.hid (PB.out.alloc (.cells #[.slice A2 m d, .int .i64 q.per, .int .i64 q.inc] 44)); replace BW := Lib.hid (bthen BW.out (balloc _ (.cells #[.slice A2 m d, .int .i64 q.per, .int .i64 q.inc] 44)))
    replace XB := Lib.hid (XB.out.alloc (.cells #[.slice A2 m d, .int .i64 q.per, .int .i64 q.inc] 44)); replace FA := Lib.hid (FA.out.alloc (.cells #[.slice A2 m d, .int .i64 q.per, .int .i64 q.inc] 44))
    clear hS hI hA hck
    go_upto_region 9 with fail
    generalize hwe : wc.alloc (.cells #[.slice A2 m d, .int .i64 q.per, .int .i64 q.inc] 44) = wd at *
    clear hwe
    generalize wc.heap.size = PG at *
    obtain ⟨a0, a1, a2, hla⟩ := FA.out.cells
    obtain ⟨c0', c1', c2', hlc⟩ := GA.out.cells
    go_wp2_with fail
    refine (delay_any A A2 n m c d f.per f.inc q.per q.inc f.vals q.vals _ (by exact FA.out.ints) (by exact GA.out.ints) (by omega) (by omega)).mono ?_
    rintro e we ⟨i, v, V, er, hD, rfl, hb⟩
    obtain ⟨W, hW⟩ : ∃ W : Nat, cdiv x y = W := Int.eq_ofNat_of_zero_le (by
      have : ¬ cdiv x y ≤ -1 := by rw [cdiv_le HXY.out.1.1]; have := HXY.out.2; have := HXY.out.1.1; omega
      omega)
    have hxW : x ≤ (W : Int) * y := (cdiv_le HXY.out.1.1).1 (by omega)
    have hle2 := HLE.out (W : Int) (by omega) hxW
    obtain ⟨rfl, rfl, hvW⟩ := sw_delay HB.out HR.out HP.out HL.out (by omega) (by omega) (by omega) HG.out HG3.out HK.out HK3.out
      (fun t => wait_at HB.out.1.1 HR.out.1.1 hPp HP.out.1.1 HL.out.1.1 HRP.out hle2 t) hD
    replace XB := Lib.hid ((XB.out.below hb XB.out.lt).alloc (.cells #[.bool false, .int .i64 v, .int .i64 V] 72))
    replace BW := Lib.hid (bthen (bthen BW.out hb) (balloc _ (.cells #[.bool false, .int .i64 v, .int .i64 V] 72)))
    have DB := Lib.hid (Blk.new we 72 #[.bool false, .int .i64 v, .int .i64 V])
    have HW := Lib.hid hW
    clear hD hb hW hxW hle2 a0 a1 a2 hla c0' c1' c2' hlc FA GA BB PB
    go_upto_region 10 with fail
    generalize hwe : we.alloc (.cells #[.bool false, .int .i64 v, .int .i64 V] 72) = wf at *
    clear hwe
    generalize we.heap.size = PD at *
    obtain ⟨x0, x1⟩ : _ ∧ _ := ⟨XB.out.cell 0, XB.out.cell 1⟩
    obtain ⟨d0, d1, d2⟩ : _ ∧ _ ∧ _ := ⟨DB.out.cell 0, DB.out.cell 1, DB.out.cell 2⟩
    simp at x0 x1 d0 d1 d2
    have hlx := XB.out.lt; have hld := DB.out.lt
    go_region_held3 (fun w' => w'.cell? ⟨PX, 0, none⟩ = some (.int .i64 x) ∧ w'.cell? ⟨PX, 1, none⟩ = some (.int .i64 y) ∧ w'.cell? ⟨PD, 0, none⟩ = some (.bool false) ∧ w'.cell? ⟨PD, 1, none⟩ = some (.int .i64 v)) (first | go_keep)
      (first
        | (go_at_call 66
           refine (rceil_any x y _ HXY.out).mono ?_
           rw [HW.out]
           rintro e wg ⟨rfl, hb⟩
           have hb := bofdrew hb
           replace XB := Lib.hid (XB.out.below hb XB.out.lt); replace DB := Lib.hid (DB.out.below hb DB.out.lt); replace BW := Lib.hid (bthen BW.out hb)
           clear hb x0 x1 d0 d1 d2 hlx hld
           obtain ⟨x0, x1⟩ : _ ∧ _ := ⟨XB.out.cell 0, XB.out.cell 1⟩
           obtain ⟨d0, d1, d2⟩ : _ ∧ _ ∧ _ := ⟨DB.out.cell 0, DB.out.cell 1, DB.out.cell 2⟩
           simp at x0 x1 d0 d1 d2
           have hlx := XB.out.lt; have hld := DB.out.lt
           skip)
        | (go_at_call 14
           refine (awake12_any _).mono ?_
           rintro e wq ⟨rfl, hb⟩
           replace XB := Lib.hid (XB.out.below hb XB.out.lt); replace DB := Lib.hid (DB.out.below hb DB.out.lt); replace BW := Lib.hid (bthen BW.out hb)
           clear hb x0 x1 d0 d1 d2 hlx hld
           obtain ⟨x0, x1⟩ : _ ∧ _ := ⟨XB.out.cell 0, XB.out.cell 1⟩
           obtain ⟨d0, d1, d2⟩ : _ ∧ _ ∧ _ := ⟨DB.out.cell 0, DB.out.cell 1, DB.out.cell 2⟩
           simp at x0 x1 d0 d1 d2
           have hlx := XB.out.lt; have hld := DB.out.lt
           skip))
    all_goals
      go_wp2_with fail
      go_ret
      exact ⟨rfl, BW.out⟩
end Go.Proofs.Ythgfmaijoigckaa
