/- The statement CurveEqual: the walk. -/
import Derived.Test.YteddogbhofhlaaaEnv2
import Derived.Test.YteddogbhofhlaaaEqual
import Derived.Test.YteddogbhofhlaaaRefAt
import Derived.Test.YteddogbhofhlaaaBent
import Derived.Test.YteddogbhofhlaaaNormalLaw
import Derived.Test.YteddogbhofhlaaaEqLaw
namespace Go.Proofs.Yteddogbhofhlaaa
open Go.RowKit
set_option linter.unusedVariables false

/-- the second curve's variable is written anew -/
theorem Env2.store2 {p F G n c m d m' d' : Nat} {w0 w : World} {A B B' : Option Addr} {f g g' : Cv} (E : Env2 p w0 w F A n c f G B m d g) (hI : Ints w w.heap.size B' m' g'.vals) (hB : ∀ b off s, B' = some ⟨b, off, s⟩ → b ≠ G ∧ b ≠ p) (hFG : F ≠ G)
    (hA : ∀ b off s, A = some ⟨b, off, s⟩ → b ≠ G) (hp : p < G) (h0 : w0.heap.size ≤ G) :
    Env2 p w0 (((w.setCell ⟨G, 0, none⟩ (.slice B' m' d')).setCell ⟨G, 1, none⟩ (.int .i64 g'.per)).setCell ⟨G, 2, none⟩ (.int .i64 g'.inc)) F A n c f G B' m' d' g' :=
  ⟨E.s.far3 hp, E.k.set3 h0, E.lf.far3 hFG hA, ⟨E.lg.blk.store3 _ _ _, by
    simpa using ((hI.setCell (p := ⟨G, 0, none⟩) (fun b off s e => (hB b off s e).1) (.slice B' m' d')).setCell (p := ⟨G, 1, none⟩) (fun b off s e => (hB b off s e).1) (.int .i64 g'.per)).setCell (p := ⟨G, 2, none⟩) (fun b off s e => (hB b off s e).1) (.int .i64 g'.inc),
    by omega, fun b off s e => (hB b off s e).2⟩⟩

theorem refLcm2_any (p q : Int) (w : World) (hp1 : 1 ≤ p) (hp : p ≤ 1000000) (hq1 : 1 ≤ q) (hq : q ≤ 1000000) :
    Calls Try.prog 36 #[.int .i64 p, .int .i64 q] w fun e w' => e = .returned (.int .i64 (comm p.toNat q.toNat : Nat)) ∧ Below w.heap.size w w' := by
  obtain ⟨p, rfl⟩ := Int.eq_ofNat_of_zero_le (show 0 ≤ p by omega)
  obtain ⟨q, rfl⟩ := Int.eq_ofNat_of_zero_le (show 0 ≤ q by omega)
  rw [Int.toNat_natCast, Int.toNat_natCast]
  exact refLcm_any p q w hp hq (by omega)

set_option maxHeartbeats 8000000 in
set_option maxRecDepth 100000 in
theorem curveEqLaw_any (A0 : Option Addr) (n0 c0 : Nat) (L : List Int) (w : World) (hL : Ints w w.heap.size A0 n0 L) (hc0 : n0 ≤ c0) (hn0 : (n0 : Int) ≤ 9223372036854775807) :
    Calls Try.prog 7 #[.slice A0 n0 c0] w fun e w' => e = .returned (.bool true) ∧ Below w.heap.size w w' := by
  go_enter Try.func7, Try.ntmps7
  go_wp2_with fail
  refine (new_any A0 n0 c0 L w hL hc0 hn0).mono ?_
  rintro e w1 ⟨rfl, hS1, hb1⟩
  have hpl := hS1.lt
  clear hL
  go_wp2_with fail
  refine (srcCurve_any w.heap.size 6 w1 hS1 (by omega) (by omega)).mono ?_
  rintro e w2 ⟨f, A, n, c, hD, rfl, hI, hA, hS2, hk2⟩
  go_wp2_with fail
  refine (srcCurve_any w.heap.size 6 w2 hS2 (by omega) (by omega)).mono ?_
  rintro e w3 ⟨g, B, m, d, hD2, rfl, hI2, hB, hS3, hk3⟩
  have E := Lib.hid (Env2.drawn (c := c) (d := d) (kstep (Kept.of hb1) hk2) hI hA hpl hI2 hB hS2.lt hS3 hk3)
  have hn : n ≤ 20 := by have h1 := hD.len; have h2 : f.vals.length = n := hI.1; have : (6 : Int).toNat = 6 := rfl; omega
  have hm : m ≤ 20 := by have h1 := hD2.len; have h2 : g.vals.length = m := hI2.1; have : (6 : Int).toNat = 6 := rfl; omega
  have HD := Lib.hid (show DrawC 6 f from hD); have HD2 := Lib.hid (show DrawC 6 g from hD2)
  have HDL := Lib.hid (show DrawC 9 f from ⟨hD.ok, by have := hD.len; omega, hD.per, hD.inc, hD.small, hD.slope⟩)
  have HG := Lib.hid hD2.ok
  have hp3 : w.heap.size < w3.heap.size := hS3.lt
  have HAL := Lib.hid (show ∀ b off s, A = some ⟨b, off, s⟩ → b < w3.heap.size from fun b off s e => by
    obtain ⟨b', off', e', hb, _⟩ := hI.2 (by have h1 := hD.ok.n1; rw [hI.1] at h1; exact h1)
    rw [e] at e'; cases e'
    have := hk3.size; omega)
  have HAP := Lib.hid (show ∀ b off s, A = some ⟨b, off, s⟩ → b ≠ w.heap.size from fun b off s e => by have := hA b off s e; omega)
  clear hD hI hA hS1 hS2 hk2 hb1 hpl hD2 hI2 hB hS3 hk3 HD2
  as_aux_lemma =>
  obtain ⟨f0, f1, f2, g0, g1, g2, hlf, hlg, hlp⟩ := E.out.cells
  go_wp2_with fail
  refine (n_any w.heap.size 2 _ E.out.s (by omega) (by omega)).mono ?_
  rintro q w5 ⟨x, hx0, hx1, rfl, hS, hkk⟩
  have E := Lib.hid (E.out.kept hS hkk)
  clear hS hkk
  clear f0 f1 f2 g0 g1 g2 hlf hlg hlp
  obtain ⟨f0, f1, f2, g0, g1, g2, hlf, hlg, hlp⟩ := E.out.cells
  have sz5 : w3.heap.size + 1 < w5.heap.size := hlg
  go_upto_if 20 with fail
  go_cut [] (fun wx => ∃ (B : Option Addr) (m d : Nat) (g : Cv), m ≤ 400 ∧ w3.heap.size + 1 < wx.heap.size ∧ Env2 w.heap.size w wx w3.heap.size A n c f (w3.heap.size + 1) B m d g)
  case first =>
    by_cases hx : x = 0
    · subst hx
      have hpk := HDL.out.per; have hik := HDL.out.inc; have hi0 := HDL.out.ok.i1; have hp0 := HDL.out.ok.p1
      have gz := E.out.lg.blk
      have z0 := gz.frozen 0; have z1 := gz.frozen 1; have z2 := gz.frozen 2
      clear gz
      go_wp2_with fail
      go_region_held3 (fun w' => w'.cell? ⟨w3.heap.size, 0, none⟩ = some (.slice A n c) ∧ w'.cell? ⟨w3.heap.size, 1, none⟩ = some (.int .i64 f.per) ∧ w'.cell? ⟨w3.heap.size, 2, none⟩ = some (.int .i64 f.inc)) (first | go_keep | exact ⟨(cell_set3 (by omega)).trans f0, (cell_set3 (by omega)).trans f1, (cell_set3 (by omega)).trans f2⟩)
        (first
          | (go_at_call_of 19 (Value.int IntKind.i64 4)
             refine (n_any w.heap.size 4 _ (by exact E.out.s) (by omega) (by omega)).mono ?_
             rintro q w6 ⟨x8, hx80, hx81, rfl, hS, hkk⟩
             have E := Lib.hid (E.out.kept hS (kofdrew hkk))
             have sz6 := hkk.size
             simp only [World.size_drew] at sz6
             clear hS hkk
             clear f0 f1 f2 g0 g1 g2 hlf hlg hlp
             obtain ⟨f0, f1, f2, g0, g1, g2, hlf, hlg, hlp⟩ := E.out.cells
             skip)
          | (go_at_call_of 19 (Value.int IntKind.i64 3)
             refine (n_any w.heap.size 3 _ (by exact E.out.s) (by omega) (by omega)).mono ?_
             rintro q w7 ⟨x9, hx90, hx91, rfl, hS, hkk⟩
             have E := Lib.hid (E.out.kept hS hkk)
             have sz7 := hkk.size
             have e9 : IntKind.i64.wrap (1 + x9) = 1 + x9 := IntWalk.i64_in _ (by omega)
             clear hS hkk
             clear f0 f1 f2 g0 g1 g2 hlf hlg hlp
             obtain ⟨f0, f1, f2, g0, g1, g2, hlf, hlg, hlp⟩ := E.out.cells
             skip)
          | (go_at_call 18
             refine (longer_any A n c f.per f.inc x8 (1 + x9) f.vals _ (by exact E.out.lf.ints) HDL.out.ok (by omega) (by omega) (by omega) (by omega)).mono ?_
             rintro q w10 ⟨g', hk', A5, n5, c5, rfl, hI5, hA5, hk10⟩
             have E := Lib.hid (E.out.below hk10)
             have sz10 := hk10.size
             have hlk := longer_facts HDL.out (by omega) (by omega) (by omega) (by omega) hk'
             have hn5 : n5 ≤ 400 := by have h1 := hlk.1.n2; have h2 : g'.vals.length = n5 := hI5.1; omega
             have HI5 := Lib.hid hI5
             have HA5 := Lib.hid (show ∀ b off s, A5 = some ⟨b, off, s⟩ → b ≠ w3.heap.size + 1 ∧ b ≠ w.heap.size from fun b off s e => by
               rcases hA5 with h1 | h1
               · have h2 := HAL.out b off s (by rw [← h1]; exact e)
                 have h3 := HAP.out b off s (by rw [← h1]; exact e)
                 omega
               · have h2 := h1 b off s e
                 omega)
             clear hI5 hk' hk10 hlk hA5
             clear f0 f1 f2 g0 g1 g2 hlf hlg hlp
             obtain ⟨f0, f1, f2, g0, g1, g2, hlf, hlg, hlp⟩ := E.out.cells
             have gz := E.out.lg.blk
             clear z0 z1 z2
             have z0 := gz.frozen 0; have z1 := gz.frozen 1; have z2 := gz.frozen 2
             clear gz))
      all_goals
        go_wp2_with fail
        go_meet
        exact ⟨A5, n5, c5, g', hn5, by simp; omega, E.out.store2 HI5.out HA5.out (by omega) (fun b off s e => by have := HAL.out b off s e; omega) (by omega) (by omega)⟩
    · have hxb : (x == 0) = false := by simpa using hx
      go_wp2_with fail
      go_meet
      exact ⟨B, m, d, g, by omega, sz5, E.out⟩
  case rest =>
  as_aux_lemma =>
  clear E HG hm sz5
  clear f0 f1 f2 g0 g1 g2 hlf hlg hlp
  obtain ⟨B, m, d, g, hm, sz5, hE⟩ := hcut
  have E := Lib.hid hE
  clear hE
  obtain ⟨f0, f1, f2, g0, g1, g2, hlf, hlg, hlp⟩ := E.out.cells
  go_upto_region 5 with fail
  go_cut [42] (fun s42 wx => ∃ b, s42 = .bool b ∧ w3.heap.size + 1 < wx.heap.size ∧ Env2 w.heap.size w wx w3.heap.size A n c f (w3.heap.size + 1) B m d g)
  case first =>
    go_wp2_with fail
    refine (n_any w.heap.size 3 _ E.out.s (by omega) (by omega)).mono ?_
    rintro q w6 ⟨x, hx0, hx1, rfl, hS, hkk⟩
    have E := Lib.hid (E.out.kept hS hkk)
    clear hS hkk
    clear f0 f1 f2 g0 g1 g2 hlf hlg hlp
    obtain ⟨f0, f1, f2, g0, g1, g2, hlf, hlg, hlp⟩ := E.out.cells
    have sz6 : w3.heap.size + 1 < w6.heap.size := hlg
    by_cases hx : x = 0 ∧ 1 < m
    · obtain ⟨rfl, hm1⟩ := hx
      have dm : decide ((1 : Int) < (m : Int)) = true := by simp; omega
      go_wp2_with fail
      refine (srcBent_any w.heap.size B m d g.per g.inc g.vals _ E.out.s E.out.lg.ints (by omega)).mono ?_
      rintro q w7 ⟨gB, B2, m2, d2, hl2, rfl, hI2, hB2, hS2, hk2⟩
      have hm2 : m2 ≤ 1000 := by have h2 : gB.vals.length = m2 := hI2.1; omega
      have E := Lib.hid (E.out.kept hS2 hk2)
      clear hS2 hk2
      go_wp2_with fail
      refine (refValid_any B2 m2 d2 gB.per gB.inc gB.vals _ hI2 (by omega)).mono ?_
      rintro q w8 ⟨rfl, hb8⟩
      have E := Lib.hid (E.out.below hb8)
      have sz8 : w3.heap.size + 1 < w8.heap.size := E.out.lg.lt
      go_wp2_with fail
      go_meet
      exact ⟨_, rfl, sz8, E.out⟩
    · have hxm : x ≠ 0 ∨ (x = 0 ∧ m ≤ 1) := by omega
      rcases hxm with hx | ⟨rfl, hm1⟩
      · have hxb : (x == 0) = false := by simpa using hx
        go_wp2_with fail
        go_meet
        exact ⟨_, rfl, sz6, E.out⟩
      · have dm : decide ((1 : Int) < (m : Int)) = false := by simp; omega
        go_wp2_with fail
        go_meet
        exact ⟨_, rfl, sz6, E.out⟩
  case rest =>
  as_aux_lemma =>
  clear E sz5
  clear f0 f1 f2 g0 g1 g2 hlf hlg hlp
  obtain ⟨b, rfl, sz6, hE⟩ := hcut
  have E := Lib.hid hE
  clear hE
  obtain ⟨f0, f1, f2, g0, g1, g2, hlf, hlg, hlp⟩ := E.out.cells
  go_upto_if 42 with fail
  go_cut [] (fun wx => ∃ (B : Option Addr) (m d : Nat) (g : Cv), m ≤ 1000 ∧ Env2 w.heap.size w wx w3.heap.size A n c f (w3.heap.size + 1) B m d g)
  case first =>
    cases b
    case false =>
      go_wp2_with fail
      go_meet
      exact ⟨B, m, d, g, by omega, E.out⟩
    case true =>
      go_wp2_with fail
      refine (srcBent_any w.heap.size B m d g.per g.inc g.vals _ E.out.s E.out.lg.ints (by omega)).mono ?_
      rintro q w7 ⟨gB, B2, m2, d2, hl2, rfl, hI2, hB2, hS2, hk2⟩
      have hm2 : m2 ≤ 1000 := by have h2 : gB.vals.length = m2 := hI2.1; omega
      have E := Lib.hid (E.out.kept hS2 hk2)
      have HI2 := Lib.hid hI2; have HB2 := Lib.hid hB2
      clear hS2 hk2 hI2 hB2 hl2
      clear f0 f1 f2 g0 g1 g2 hlf hlg hlp
      obtain ⟨f0, f1, f2, g0, g1, g2, hlf, hlg, hlp⟩ := E.out.cells
      have gz := E.out.lg.blk
      have z0 := gz.frozen 0; have z1 := gz.frozen 1; have z2 := gz.frozen 2
      clear gz
      go_wp2_with fail
      go_meet
      exact ⟨B2, m2, d2, gB, hm2, E.out.store2 HI2.out (fun b off s e => by have := HB2.out b off s e; omega) (by omega) (fun b off s e => by have := HAL.out b off s e; omega) (by omega) (by omega)⟩
  case rest =>
  as_aux_lemma =>
  clear E hm sz6
  clear f0 f1 f2 g0 g1 g2 hlf hlg hlp
  obtain ⟨B, m, d, g, hm, hE⟩ := hcut
  have E := Lib.hid hE
  clear hE
  obtain ⟨f0, f1, f2, g0, g1, g2, hlf, hlg, hlp⟩ := E.out.cells
  go_wp2_with fail
  refine (refValid_any B m d g.per g.inc g.vals _ E.out.lg.ints (by omega)).mono ?_
  rintro q w8 ⟨rfl, hb8⟩
  have E := Lib.hid (E.out.below hb8)
  clear hb8
  clear f0 f1 f2 g0 g1 g2 hlf hlg hlp
  obtain ⟨f0, f1, f2, g0, g1, g2, hlf, hlg, hlp⟩ := E.out.cells
  as_aux_lemma =>
  by_cases hok : g.Ok
  · have HG := Lib.hid hok
    have HF := Lib.hid HDL.out.ok
    rw [Cv.okB_true hok]
    have hm4 : m ≤ 400 := by have h1 := hok.n2; have h2 : g.vals.length = m := E.out.lg.ints.1; omega
    have hfp := HDL.out.per; have hfp1 := HDL.out.ok.p1; have hgp := hok.p1; have hgp2 := hok.p2
    have OB := ord_b HF.out HG.out
    have hlf' : f.vals.length = n := E.out.lf.ints.1
    have hlg' : g.vals.length = m := E.out.lg.ints.1
    obtain ⟨C, hC⟩ : ∃ C, C = comm f.per.toNat g.per.toNat := ⟨_, rfl⟩
    have hC1 : C ≤ 14400 := by have := OB.c2; unfold ordC at this; omega
    obtain ⟨T, hT⟩ : ∃ T, T = max n m + 2 * C := ⟨_, rfl⟩
    obtain ⟨mx, hmxe⟩ : ∃ mx : Nat, mx = max n m := ⟨_, rfl⟩
    have HT := Lib.hid (show T = max f.vals.length g.vals.length + 2 * ordC f g by rw [hlf', hlg']; unfold ordC; rw [← hC]; exact hT)
    have hmxb : mx ≤ 400 := by omega
    have hTb : T = mx + 2 * C := by omega
    have HTB := Lib.hid hTb; have HMX := Lib.hid hmxe; have HC := Lib.hid hC
    clear OB hC hT hmxe hTb hok hlf' hlg'
    go_wp2_with fail
    clear f0 f1 f2 g0 g1 g2 hlf hlg hlp
    go_loopg [7, 6] T (fun gg s7 s6 wx => ∃ (k : Nat) (b : Bool), k + gg = T ∧ s7 = .int .i64 k ∧ s6 = .bool b ∧ Hid (EqTo f g k b) ∧ Env2 w.heap.size w wx w3.heap.size A n c f (w3.heap.size + 1) B m d g)
    case atStart => exact ⟨0, true, by omega, rfl, rfl, EqTo.zero f g, E.out⟩
    case round =>
      clear E
      as_aux_lemma =>
      obtain ⟨k, b, hkg, rfl, rfl, hb, hE⟩ := hrel
      have E := Lib.hid hE; have HEQ := Lib.hid hb.out
      clear hE hb
      obtain ⟨f0, f1, f2, g0, g1, g2, hlf, hlg, hlp⟩ := E.out.cells
      have hkT : k ≤ T := by omega
      have HTB2 := HTB.out
      have hkb : (k : Int) ≤ 100000 := by omega
      go_upto_region 11 with fail
      go_cut [65] (fun s65 wx => s65 = .bool (decide (k < T)) ∧ Env2 w.heap.size w wx w3.heap.size A n c f (w3.heap.size + 1) B m d g)
      case first =>
        have hmx : (if (n : Int) < (m : Int) then (m : Int) else (n : Int)) = (mx : Int) := by have := HMX.out; split <;> omega
        have hmx2 : (if n < m then (m : Int) else (n : Int)) = (mx : Int) := by have := HMX.out; split <;> omega
        have e1 : IntKind.i64.wrap (2 * (C : Int)) = 2 * (C : Int) := IntWalk.i64_in _ (by omega)
        have e2 : IntKind.i64.wrap ((mx : Int) + 2 * (C : Int)) = (T : Int) := by rw [IntWalk.i64_in _ (by omega)]; omega
        clear HTB2 hkg
        go_region_held3 (fun w' => w'.cell? ⟨w3.heap.size, 0, none⟩ = some (.slice A n c) ∧ w'.cell? ⟨w3.heap.size, 1, none⟩ = some (.int .i64 f.per) ∧ w'.cell? ⟨w3.heap.size, 2, none⟩ = some (.int .i64 f.inc) ∧ w'.cell? ⟨w3.heap.size + 1, 0, none⟩ = some (.slice B m d) ∧ w'.cell? ⟨w3.heap.size + 1, 1, none⟩ = some (.int .i64 g.per) ∧ w'.cell? ⟨w3.heap.size + 1, 2, none⟩ = some (.int .i64 g.inc)) (first | go_keep)
          (first
            | (go_at_call 36
               refine (refLcm2_any f.per g.per _ (by omega) (by omega) (by omega) (by omega)).mono ?_
               rw [← HC.out]
               rintro q wq ⟨rfl, hbq⟩
               have E := Lib.hid (E.out.below (by first | exact hbq | exact bofdrew hbq))
               clear hbq
               clear f0 f1 f2 g0 g1 g2 hlf hlg hlp
               obtain ⟨f0, f1, f2, g0, g1, g2, hlf, hlg, hlp⟩ := E.out.cells
               dsimp only))
        all_goals
          go_wp2_with fail
          go_meet
          exact ⟨by simp, E.out⟩
      case rest =>
        clear E
        as_aux_lemma =>
        clear f0 f1 f2 g0 g1 g2 hlf hlg hlp
        obtain ⟨rfl, hE⟩ := hcut
        have E := Lib.hid hE
        clear hE
        obtain ⟨f0, f1, f2, g0, g1, g2, hlf, hlg, hlp⟩ := E.out.cells
        by_cases hk : k < T
        · rw [decide_eq_true hk]
          have hv1 : Cv.value ⟨f.vals, f.per, f.inc⟩ (k : Int) = (f.at k, 0) := by unfold Cv.value; rw [if_pos (Cv.okB_true HF.out), if_neg (by omega)]; rfl
          have hv2 : Cv.value ⟨g.vals, g.per, g.inc⟩ (k : Int) = (g.at k, 0) := by unfold Cv.value; rw [if_pos (Cv.okB_true HG.out), if_neg (by omega)]; rfl
          have HV1 := Lib.hid hv1; have HV2 := Lib.hid hv2
          clear hv1 hv2 HTB2
          obtain ⟨x, hx⟩ : ∃ x, x = f.at (k) := ⟨_, rfl⟩
          obtain ⟨y, hy⟩ : ∃ y, y = g.at (k) := ⟨_, rfl⟩
          have HX := Lib.hid hx; have HY := Lib.hid hy
          clear hx hy
          go_wp2_with fail
          refine (value_any A n c f.per f.inc k f.vals _ E.out.lf.ints (by omega)).mono ?_
          rw [HV1.out]
          rintro q wq ⟨rfl, hbq⟩
          rw [← HX.out]
          have E := Lib.hid (E.out.below (by first | exact hbq | exact bofdrew hbq))
          clear hbq
          clear f0 f1 f2 g0 g1 g2 hlf hlg hlp
          obtain ⟨f0, f1, f2, g0, g1, g2, hlf, hlg, hlp⟩ := E.out.cells
          go_wp2_with fail
          refine (value_any B m d g.per g.inc k g.vals _ E.out.lg.ints (by omega)).mono ?_
          rw [HV2.out]
          rintro q wq ⟨rfl, hbq⟩
          rw [← HY.out]
          have E := Lib.hid (E.out.below (by first | exact hbq | exact bofdrew hbq))
          clear hbq
          clear f0 f1 f2 g0 g1 g2 hlf hlg hlp
          obtain ⟨f0, f1, f2, g0, g1, g2, hlf, hlg, hlp⟩ := E.out.cells
          have HEQ := Lib.hid (HEQ.out.succ)
          rw [← HX.out, ← HY.out] at HEQ
          cases b
          all_goals
            go_wp2_with fail
            go_roundg (gk - 1)
            case measure => omega
            case rel => exact ⟨k + 1, _, by omega, by go_num, rfl, (show EqTo f g (k + 1) _ by simpa using HEQ.out), E.out⟩
        · rw [decide_eq_false hk]
          have hkT2 : k = T := by omega
          have HE := Lib.hid (HEQ.out)
          rw [hkT2] at HE
          have HE2 := Lib.hid (HE.out.done HF.out HG.out HT.out)
          clear HTB2
          go_wp2_with fail
          refine (equal_any A B n m c d f.per f.inc g.per g.inc f.vals g.vals _ E.out.lf.ints E.out.lg.ints (by omega) (by omega)).mono ?_
          rintro q w21 ⟨same, h6, rfl, hbq⟩
          obtain rfl : same = b := EqS.unique h6 (.inl ⟨HF.out, HG.out, HE2.out⟩)
          have E := Lib.hid (E.out.below (by first | exact hbq | exact bofdrew hbq))
          clear hbq
          clear f0 f1 f2 g0 g1 g2 hlf hlg hlp
          obtain ⟨f0, f1, f2, g0, g1, g2, hlf, hlg, hlp⟩ := E.out.cells
          have hbb : (same == same) = true := by simp
          go_wp2_with fail
          refine (awake2_any _).mono ?_
          rintro q wq ⟨rfl, hbq⟩
          have bw := (E.out.below hbq).fin
          go_wp2_with fail
          go_ret
          exact ⟨rfl, bw⟩
  · rw [Cv.okB_false hok]
    go_wp2_with fail
    refine (awake2_any _).mono ?_
    rintro q wq ⟨rfl, hbq⟩
    have bw := (E.out.below hbq).fin
    go_wp2_with fail
    go_ret
    exact ⟨rfl, bw⟩
end Go.Proofs.Yteddogbhofhlaaa
