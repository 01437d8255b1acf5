/- The statement CurveGrows: the walk. -/
import Derived.Test.YteddogbhofhlaaaSlope
import Derived.Test.YteddogbhofhlaaaEnv2
import Derived.Test.YteddogbhofhlaaaTail
namespace Go.Proofs.Yteddogbhofhlaaa
open Go.RowKit
set_option linter.unusedVariables false

/-- two periods of one function have one slope -/
theorem per_slope {h : Nat → Int} {s s' p q : Nat} {a b : Int} (k : Per h s p a) (k' : Per h s' q b) : (q : Int) * a = (p : Int) * b := by
  have e1 := (k.mono (Nat.le_max_left s s')).mul q (max s s') (Nat.le_refl _)
  have e2 := (k'.mono (Nat.le_max_right s s')).mul p (max s s') (Nat.le_refl _)
  rw [Nat.mul_comm q p] at e1
  rw [e1] at e2
  omega

theorem slope_plain {f g : Cv} (hf : f.Fin) (hN : NFin f.at g) :
    ((f.inc.toNat / Nat.gcd f.inc.toNat f.per.toNat : Nat) : Int) * g.per = ((f.per.toNat / Nat.gcd f.inc.toNat f.per.toNat : Nat) : Int) * g.inc := by
  have h1 := per_slope hf.toL.step hN.per
  have hp1 := hf.1.p1; have hi1 := hf.1.i1; have hg1 := hN.p1
  obtain ⟨k, hk⟩ : ∃ k, k = Nat.gcd f.inc.toNat f.per.toNat := ⟨_, rfl⟩
  have hk0 : 0 < k := by rw [hk]; exact Nat.gcd_pos_of_pos_right _ (by omega)
  have e1 : k * (f.inc.toNat / k) = f.inc.toNat := Nat.mul_div_cancel' (by rw [hk]; exact Nat.gcd_dvd_left _ _)
  have e2 : k * (f.per.toNat / k) = f.per.toNat := Nat.mul_div_cancel' (by rw [hk]; exact Nat.gcd_dvd_right _ _)
  rw [← hk]
  obtain ⟨x, hx⟩ : ∃ x, x = f.inc.toNat / k := ⟨_, rfl⟩
  obtain ⟨y, hy⟩ : ∃ y, y = f.per.toNat / k := ⟨_, rfl⟩
  rw [← hx] at e1 ⊢
  rw [← hy] at e2 ⊢
  have hi : f.inc = (k : Int) * x := by rw [← Int.natCast_mul, e1]; omega
  have hp : ((f.per.toNat : Nat) : Int) = (k : Int) * y := by rw [← Int.natCast_mul, e2]
  have hg : ((g.per.toNat : Nat) : Int) = g.per := by omega
  rw [hi, hp, hg] at h1
  have h2 : (k : Int) * ((x : Int) * g.per) = (k : Int) * ((y : Int) * g.inc) := by
    rw [← Int.mul_assoc, ← Int.mul_assoc, ← h1, Int.mul_comm g.per]
  exact Int.eq_of_mul_eq_mul_left (by omega) h2

set_option maxHeartbeats 4000000 in
set_option maxRecDepth 100000 in
theorem growsLaw_any (A0 : Option Addr) (n0 c0 : Nat) (L : List Int) (t : Int) (w : World) (hL : Ints w w.heap.size A0 n0 L) (hc0 : n0 ≤ c0) (hn0 : (n0 : Int) ≤ 9223372036854775807) :
    Calls Try.prog 10 #[.slice A0 n0 c0, .int .i64 t] w fun e w' => e = .returned (.bool true) ∧ Below w.heap.size w w' := by
  go_enter Try.func10, Try.ntmps10
  go_wp2_with fail
  refine (new_any A0 n0 c0 L w hL hc0 hn0).mono ?_
  rintro e w1 ⟨rfl, hS1, hb1⟩
  have hpl := hS1.lt
  clear hL
  go_wp2_with fail
  refine (srcCurve_any w.heap.size 9 w1 hS1 (by omega) (by omega)).mono ?_
  rintro e w2 ⟨f, A, n, c, hD, rfl, hI, hA, hS2, hk2⟩
  have hl2 := hS2.lt
  have lf := Lib.hid (Loc.new (c := c) hI hA hpl hl2)
  have S2 := Lib.hid (hS2.alloc (.cells #[.slice A n c, .int .i64 f.per, .int .i64 f.inc] 26))
  have K2 := Lib.hid (kall (kstep (Kept.of (p := w.heap.size) hb1) hk2) (.cells #[.slice A n c, .int .i64 f.per, .int .i64 f.inc] 26))
  have hnb := hD.len
  rw [lf.out.len] at hnb
  have hnb : n ≤ 17 := hnb
  have HD := Lib.hid hD
  clear hD hI hA hS1 hS2 hk2 hb1
  as_aux_lemma =>
  obtain ⟨f0, f1, f2, hlf⟩ := lf.out.cells
  go_wp2_with fail
  refine (normal_any A n c f.per f.inc f.vals _ lf.out.ints (by omega)).mono ?_
  rintro e w4 ⟨g, er, hN, A1, n1, c1, rfl, hI1, hA1, hb4⟩
  obtain ⟨rfl, hnf, okg, hgl, hgp⟩ := normal_ok HD.out.ok hN
  as_aux_lemma =>
  have p4 : w.heap.size < (w2.alloc (.cells #[.slice A n c, .int .i64 f.per, .int .i64 f.inc] 26)).heap.size := S2.out.lt
  have E := Lib.hid (show Env2 w.heap.size w (w4.alloc (.cells #[.slice A1 n1 c1, .int .i64 g.per, .int .i64 g.inc] 26)) w2.heap.size A n c f w4.heap.size A1 n1 c1 g from
    ⟨(S2.out.ext hb4).alloc _, kall (kbel K2.out hb4) _, (lf.out.below hb4).alloc _, Loc.new hI1 hA1 p4 (Nat.lt_of_lt_of_le p4 hb4.size)⟩)
  have HLL := Lib.hid (show f.vals.length = n ∧ g.vals.length = n1 from ⟨lf.out.len, hI1.1⟩)
  have hn1 : n1 ≤ 17 := by rw [lf.out.len] at hgl; have := hI1.1; omega
  have hgpl : g.per ≤ 8 := by have := HD.out.per; omega
  have hg1 := okg.p1
  have NFG := Lib.hid hnf; have OKG := Lib.hid okg
  have hgn : g.per ≤ (n1 : Int) := by have h1 := okg.pn; have h2 : g.vals.length = n1 := hI1.1; omega
  clear hnf okg hgl hgp hN hI1 hA1 hb4 lf S2 K2 p4 f0 f1 f2 hlf
  obtain ⟨f0, f1, f2, g0, g1, g2, hlf, hlg, hlp⟩ := E.out.cells
  go_wp2_with fail
  refine (mod_any t 1000 _ (by omega) (by omega)).mono ?_
  rintro e w5 ⟨⟨y, hy0, hy1, rfl⟩, rfl⟩
  obtain ⟨y, rfl⟩ := Int.eq_ofNat_of_zero_le hy0
  have hv1 := value_ok HD.out.ok (t := (y : Int)) (by omega) (by omega)
  have hv2 := value_ok HD.out.ok (t := (y : Int) + 1) (by omega) (by omega)
  rw [Int.toNat_natCast] at hv1
  rw [show ((y : Int) + 1).toNat = y + 1 by omega] at hv2
  have hmono := HD.out.ok.at_mono y
  have hab := at_inf_bd HD.out.ok (n := y) (by omega)
  have hbb := at_inf_bd HD.out.ok (n := y + 1) (by omega)
  obtain ⟨a, ha⟩ : ∃ a, a = f.at y := ⟨_, rfl⟩
  obtain ⟨b, hb⟩ : ∃ b, b = f.at (y + 1) := ⟨_, rfl⟩
  rw [← ha] at hv1 hmono hab
  rw [← hb] at hv2 hmono hbb
  have HV1 := Lib.hid hv1; have HV2 := Lib.hid hv2
  clear ha hb hv1 hv2
  go_wp2_with fail
  refine (value_any A n c f.per f.inc y f.vals _ E.out.lf.ints (by omega)).mono ?_
  rw [HV1.out]
  rintro e w6 ⟨rfl, hb6⟩
  as_aux_lemma =>
  have E := Lib.hid (E.out.below hb6)
  clear hb6 f0 f1 f2 g0 g1 g2 hlf hlg hlp
  obtain ⟨f0, f1, f2, g0, g1, g2, hlf, hlg, hlp⟩ := E.out.cells
  go_wp2_with fail
  refine (value_any A n c f.per f.inc ((y : Int) + 1) f.vals _ E.out.lf.ints (by omega)).mono ?_
  rw [HV2.out]
  rintro e w7 ⟨rfl, hb7⟩
  as_aux_lemma =>
  have E := Lib.hid (E.out.below hb7)
  clear hb7 f0 f1 f2 g0 g1 g2 hlf hlg hlp
  obtain ⟨f0, f1, f2, g0, g1, g2, hlf, hlg, hlp⟩ := E.out.cells
  have dab : decide (b < a) = false := by simp; omega
  have e1 : IntKind.i64.wrap ((n1 : Int) - g.per) = (n1 : Int) - g.per := IntWalk.i64_in _ (by omega)
  have hge : 0 ≤ (n1 : Int) - g.per := by omega
  go_wp2_with fail
  go_region_held3 (fun w' => w'.cell? ⟨w2.heap.size, 0, none⟩ = some (.slice A n c) ∧ w'.cell? ⟨w2.heap.size, 1, none⟩ = some (.int .i64 f.per) ∧ w'.cell? ⟨w2.heap.size, 2, none⟩ = some (.int .i64 f.inc) ∧
      w'.cell? ⟨w4.heap.size, 0, none⟩ = some (.slice A1 n1 c1) ∧ w'.cell? ⟨w4.heap.size, 1, none⟩ = some (.int .i64 g.per)) (first | go_keep)
    (first
      | (go_at_call 39
         refine (start2_any A n c f.per f.inc f.vals _ (by exact E.out.lf.ints) HD.out.ok).mono ?_
         rintro e w8 ⟨⟨g', hN', okg', hgl', rfl⟩, hb8⟩
         obtain rfl : g = g' := NFG.out.unique hN'
         rw [HLL.out.2]
         have E := Lib.hid (E.out.below (bofdrew hb8))
         clear hb8 f0 f1 f2 g0 g1 g2 hlf hlg hlp hN' okg' hgl'
         obtain ⟨f0, f1, f2, g0, g1, g2, hlf, hlg, hlp⟩ := E.out.cells))
  go_wp2_with fail
  refine (slope_any A n c f.per f.inc f.vals _ E.out.lf.ints (by omega)).mono ?_
  rintro e w9 ⟨rfl, hb9⟩
  as_aux_lemma =>
  clear dab e1 hmono hab hbb HV1 HV2
  have E := Lib.hid (E.out.below hb9)
  clear hb9 f0 f1 f2 g0 g1 g2 hlf hlg hlp
  by_cases hfb : Cv.finB ⟨f.vals, f.per, f.inc⟩ = true
  · have hfin : f.Fin := by
      refine ⟨HD.out.ok, ?_⟩
      unfold Cv.finB at hfb
      simp only [Bool.and_eq_true, bne_iff_ne] at hfb
      exact hfb.2
    obtain ⟨x, y', hs, hsl, hx, hy⟩ : ∃ x y' : Int, Cv.slope ⟨f.vals, f.per, f.inc⟩ = (x, y', true) ∧ ((x = ((f.inc.toNat / Nat.gcd f.inc.toNat f.per.toNat : Nat) : Int)) ∧ (y' = ((f.per.toNat / Nat.gcd f.inc.toNat f.per.toNat : Nat) : Int))) ∧ (0 ≤ x ∧ x ≤ 1000) ∧ (0 ≤ y' ∧ y' ≤ 8) := by
      refine ⟨_, _, by unfold Cv.slope; rw [if_pos hfb], ⟨rfl, rfl⟩, ?_, ?_⟩
      · have h1 := Nat.div_le_self f.inc.toNat (Nat.gcd f.inc.toNat f.per.toNat)
        have h2 := HD.out.inc; have h3 := HD.out.ok.i1
        show 0 ≤ ((f.inc.toNat / Nat.gcd f.inc.toNat f.per.toNat : Nat) : Int) ∧ ((f.inc.toNat / Nat.gcd f.inc.toNat f.per.toNat : Nat) : Int) ≤ 1000
        generalize f.inc.toNat / Nat.gcd f.inc.toNat f.per.toNat = qq at h1 ⊢
        omega
      · have h1 := Nat.div_le_self f.per.toNat (Nat.gcd f.inc.toNat f.per.toNat)
        have h2 := HD.out.per; have h3 := HD.out.ok.p1
        show 0 ≤ ((f.per.toNat / Nat.gcd f.inc.toNat f.per.toNat : Nat) : Int) ∧ ((f.per.toNat / Nat.gcd f.inc.toNat f.per.toNat : Nat) : Int) ≤ 8
        generalize f.per.toNat / Nat.gcd f.inc.toNat f.per.toNat = qq at h1 ⊢
        omega
    have hNF : NFin f.at g := by
      rcases NFG.out with h | h
      · exact h
      · exfalso
        have h1 := h.from_ (g.vals.length - 1) (by omega)
        exact hfin.toL.at_ne (fun k hk => (hfin.ne k hk).2) HD.out.ok.i2 HD.out.ok.i1 (g.vals.length - 1) (by have := OKG.out.n2; omega) h1
    have hpr := slope_plain hfin hNF
    rw [← hsl.1, ← hsl.2] at hpr
    obtain ⟨pr, hpre⟩ : ∃ pr, pr = x * g.per := ⟨_, rfl⟩
    have e4 : x * g.per = pr := hpre.symm
    have e5 : y' * g.inc = pr := by rw [hpre, hpr]
    have hpb : 0 ≤ pr ∧ pr ≤ 1000 * 8 := by
      rw [hpre]
      exact ⟨Int.mul_nonneg hx.1 (by omega), Int.mul_le_mul hx.2 hgpl (by omega) (by omega)⟩
    obtain ⟨m, hm⟩ : ∃ m : Nat, m = n1 - g.per.toNat + y := ⟨_, rfl⟩
    have hmI : (n1 : Int) - g.per + (y : Int) = (m : Int) := by omega
    have hmb : m ≤ 1020 := by omega
    have hper := hNF.per m (by rw [HLL.out.2, hm]; omega)
    have hv1 := value_ok HD.out.ok (t := (m : Int)) (by omega) (by omega)
    have hv2 := value_ok HD.out.ok (t := (m : Int) + g.per) (by omega) (by omega)
    rw [Int.toNat_natCast] at hv1
    rw [show ((m : Int) + g.per).toNat = m + g.per.toNat by omega, hper] at hv2
    have hab := hfin.at_bd m
    have hgi1 := OKG.out.i1; have hgi2 := OKG.out.i2
    obtain ⟨a2, ha⟩ : ∃ a2, a2 = f.at m := ⟨_, rfl⟩
    rw [← ha] at hv1 hv2 hab
    obtain ⟨b2, hb⟩ : ∃ b2, b2 = a2 + g.inc := ⟨_, rfl⟩
    rw [← hb] at hv2
    have e6 : b2 - a2 = g.inc := by omega
    have hb2b : 0 ≤ b2 ∧ b2 ≤ 4000000000000 := by omega
    have hbeq : (b2 - a2 == g.inc) = true := by simpa using e6
    have HV1 := Lib.hid hv1; have HV2 := Lib.hid hv2
    have XB := Lib.hid (Blk.new w9 49 #[.int .i64 x, .int .i64 y'])
    have E := Lib.hid (E.out.alloc (.cells #[.int .i64 x, .int .i64 y'] 49))
    clear hv1 hv2 ha hb hper hpre hpr hsl hNF hm
    rw [hs]
    clear hs hbeq
    obtain ⟨f0, f1, f2, g0, g1, g2, hlf, hlg, hlp⟩ := E.out.cells
    go_wp2_with fail
    refine (finite2_any A n c f.per f.inc f.vals _ E.out.lf.ints (by omega)).mono ?_
    rw [hfb]
    rintro e w10 ⟨rfl, hb⟩
    as_aux_lemma =>
    have E := Lib.hid (E.out.below hb); have XB := Lib.hid (XB.out.below hb XB.out.lt)
    clear hb f0 f1 f2 g0 g1 g2 hlf hlg hlp hfb
    obtain ⟨f0, f1, f2, g0, g1, g2, hlf, hlg, hlp⟩ := E.out.cells
    go_wp2_with fail
    refine (start2_any A n c f.per f.inc f.vals _ E.out.lf.ints HD.out.ok).mono ?_
    rintro e w11 ⟨⟨g', hN', okg', hgl', rfl⟩, hb⟩
    obtain rfl : g = g' := NFG.out.unique hN'
    rw [HLL.out.2]
    as_aux_lemma =>
    have E := Lib.hid (E.out.below hb); have XB := Lib.hid (XB.out.below hb XB.out.lt)
    clear hb f0 f1 f2 g0 g1 g2 hlf hlg hlp hN' okg' hgl'
    obtain ⟨f0, f1, f2, g0, g1, g2, hlf, hlg, hlp⟩ := E.out.cells
    go_wp2_with fail
    refine (value_any A n c f.per f.inc m f.vals _ E.out.lf.ints (by omega)).mono ?_
    rw [HV1.out]
    rintro e w12 ⟨rfl, hb⟩
    as_aux_lemma =>
    have E := Lib.hid (E.out.below hb); have XB := Lib.hid (XB.out.below hb XB.out.lt)
    clear hb f0 f1 f2 g0 g1 g2 hlf hlg hlp
    obtain ⟨f0, f1, f2, g0, g1, g2, hlf, hlg, hlp⟩ := E.out.cells
    go_wp2_with fail
    refine (value_any A n c f.per f.inc ((m : Int) + g.per) f.vals _ E.out.lf.ints (by omega)).mono ?_
    rw [HV2.out]
    rintro e w13 ⟨rfl, hb⟩
    as_aux_lemma =>
    have E := Lib.hid (E.out.below hb); have XB := Lib.hid (XB.out.below hb XB.out.lt)
    clear hb f0 f1 f2 g0 g1 g2 hlf hlg hlp
    obtain ⟨f0, f1, f2, g0, g1, g2, hlf, hlg, hlp⟩ := E.out.cells
    have x0 := XB.out.cell 0; have x1 := XB.out.cell 1
    simp at x0 x1
    have hlx := XB.out.lt
    go_wp2_with fail
    refine (awake2_any _).mono ?_
    rintro e w14 ⟨rfl, hb⟩
    have bw := (E.out.below hb).fin
    go_wp2_with fail
    go_ret
    exact ⟨rfl, bw⟩
  · have hs : Cv.slope ⟨f.vals, f.per, f.inc⟩ = (0, 0, false) := by unfold Cv.slope; rw [if_neg hfb]
    have hf : Cv.finB ⟨f.vals, f.per, f.inc⟩ = false := by simpa using hfb
    have hinf : nth f.vals (f.vals.length - 1) = inf := by
      by_cases e : nth f.vals (f.vals.length - 1) = inf
      · exact e
      · exfalso; apply hfb
        unfold Cv.finB
        simp only [Bool.and_eq_true, bne_iff_ne]
        exact ⟨Cv.okB_true HD.out.ok, e⟩
    have hgi := ((nf_small HD.out.ok NFG.out).2.2.2.2).2 hinf
    rw [HLL.out.2] at hgi
    have hn1p : 0 < n1 := by have := OKG.out.n1; rw [HLL.out.2] at this; exact this
    rw [hs]
    clear hs hfb hinf
    have E := Lib.hid (E.out.alloc (.cells #[.int .i64 0, .int .i64 0] 49))
    obtain ⟨f0, f1, f2, g0, g1, g2, hlf, hlg, hlp⟩ := E.out.cells
    go_wp2_with fail
    refine (finite2_any A n c f.per f.inc f.vals _ E.out.lf.ints (by omega)).mono ?_
    rw [hf]
    rintro e w10 ⟨rfl, hb⟩
    as_aux_lemma =>
    have E := Lib.hid (E.out.below hb)
    clear hb f0 f1 f2 g0 g1 g2 hlf hlg hlp hf
    obtain ⟨f0, f1, f2, g0, g1, g2, hlf, hlg, hlp⟩ := E.out.cells
    obtain ⟨b1, off1, hA1e, hb1l, hcell⟩ := E.out.lg.ints.2 hn1p
    have hlast := hcell (n1 - 1) (by omega)
    rw [hgi] at hlast
    unfold inf at hlast
    subst hA1e
    obtain ⟨k1, hk1⟩ : ∃ k1, n1 = k1 + 1 := ⟨n1 - 1, by omega⟩
    subst hk1
    rw [Nat.add_sub_cancel] at hlast
    clear hcell hgi
    go_wp2_with fail
    refine (awake2_any _).mono ?_
    rintro e w14 ⟨rfl, hb⟩
    have bw := (E.out.below hb).fin
    go_wp2_with fail
    go_ret
    exact ⟨rfl, bw⟩
end Go.Proofs.Yteddogbhofhlaaa
