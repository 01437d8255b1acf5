/- The statement CurveNormal: the walk. -/
import Derived.Test.YteddogbhofhlaaaLoc
import Derived.Test.YteddogbhofhlaaaAwake2
import Derived.Test.YteddogbhofhlaaaTail
import Derived.Deep.RegionHeld3
import Derived.Deep.DeepCutAuto
namespace Go.Proofs.Yteddogbhofhlaaa
open Go.RowKit
set_option linter.unusedVariables false

theorem longer_facts {f k : Cv} {x y : Int} (hD : DrawC 9 f) (h1 : 0 ≤ x) (h2 : x ≤ 40) (h3 : 1 ≤ y) (h4 : y ≤ 5) (hL : LongerS ⟨f.vals, f.per, f.inc⟩ x.toNat y.toNat k) : k.Ok ∧ ∀ t, k.at t = f.at t := by
  have hp1 := hD.ok.p1; have hper := hD.per; have hinc := hD.inc; have hi1 := hD.ok.i1
  have hlen := hD.len
  have a1 : f.per * (y.toNat : Int) ≤ 8 * 5 := Int.mul_le_mul hper (by omega) (by omega) (by omega)
  have a2 : f.inc * (y.toNat : Int) ≤ 1000 * 5 := Int.mul_le_mul hinc (by omega) (by omega) (by omega)
  have a3 : (y.toNat - 1) * f.per.toNat ≤ 4 * 8 := Nat.mul_le_mul (by omega) (by omega)
  obtain ⟨a, b, _⟩ := ok_longer (f := f) hD.ok hL (by omega) (by omega) (by omega) (by omega) (fun k hk => by have := hD.small k hk; omega) hinc
  exact ⟨a, b⟩

set_option maxHeartbeats 4000000 in
set_option maxRecDepth 100000 in
theorem normalLaw_any (A0 : Option Addr) (n0 c0 : Nat) (L : List Int) (t : Int) (w : World) (hL : Ints w w.heap.size A0 n0 L) (hc0 : n0 ≤ c0) (hn0 : (n0 : Int) ≤ 9223372036854775807) :
    Calls Try.prog 3 #[.slice A0 n0 c0, .int .i64 t] w fun e w' => e = .returned (.bool true) ∧ Below w.heap.size w w' := by
  go_enter Try.func3, Try.ntmps3
  go_wp2_with fail
  refine (new_any A0 n0 c0 L w hL hc0 hn0).mono ?_
  rintro e w1 ⟨rfl, hS1, hb1⟩
  have hpl := hS1.lt
  clear hL
  go_wp2_with fail
  refine (srcCurve_any w.heap.size 9 w1 hS1 (by omega) (by omega)).mono ?_
  rintro e w2 ⟨f, A, n, c, hD, rfl, hI, hA, hS2, hk2⟩
  have hl2 := hS2.lt
  have lf := Lib.hid (Loc.new (c := c) hI hA hpl hl2)
  have S2 := Lib.hid (hS2.alloc (.cells #[.slice A n c, .int .i64 f.per, .int .i64 f.inc] 26))
  have K2 := Lib.hid (kall (kstep (Kept.of (p := w.heap.size) hb1) hk2) (.cells #[.slice A n c, .int .i64 f.per, .int .i64 f.inc] 26))
  have hnb := hD.len
  rw [lf.out.len] at hnb
  have hnb : n ≤ 17 := hnb
  have HD := Lib.hid hD
  clear hD hI hA hS1 hS2 hk2 hb1
  go_wp2_with fail
  generalize hw3 : w2.alloc (.cells #[.slice A n c, .int .i64 f.per, .int .i64 f.inc] 26) = w3 at *
  clear hw3
  refine (normal_any A n c f.per f.inc f.vals _ lf.out.ints (by omega)).mono ?_
  rintro e w4 ⟨g, er, hN, A1, n1, c1, rfl, hI1, hA1, hb4⟩
  obtain ⟨rfl, hnf, okg, hgl, hgp⟩ := normal_ok HD.out.ok hN
  have p4 : w.heap.size < w3.heap.size := S2.out.lt
  have p4' := Nat.lt_of_lt_of_le p4 hb4.size
  obtain ⟨f0, f1, f2, hlf⟩ := (lf.out.below hb4).cells
  have hlg : g.vals.length = n1 := hI1.1
  have lg := Lib.hid (Loc.new (c := c1) hI1 hA1 p4 p4')
  have lf4 := Lib.hid ((lf.out.below hb4).alloc (.cells #[.slice A1 n1 c1, .int .i64 g.per, .int .i64 g.inc] 26))
  have S4 := Lib.hid ((S2.out.ext hb4).alloc (.cells #[.slice A1 n1 c1, .int .i64 g.per, .int .i64 g.inc] 26))
  have K4 := Lib.hid (kall (kbel K2.out hb4) (.cells #[.slice A1 n1 c1, .int .i64 g.per, .int .i64 g.inc] 26))
  have hlf4 := lf4.out.len
  have NFg := Lib.hid hnf; have OKg := Lib.hid okg
  have HLEN := Lib.hid (And.intro hgl hgp)
  have HLL := Lib.hid (And.intro hlf4 hlg)
  clear hb4 hI1 hA1 hnf okg hN lf S2 K2 f0 f1 f2 hgl hgp hlf4 hlg
  go_wp2_with fail
  generalize hw5 : w4.alloc (.cells #[.slice A1 n1 c1, .int .i64 g.per, .int .i64 g.inc] 26) = w5 at *
  clear hw5
  obtain ⟨f0, f1, f2, hlf5⟩ := lf4.out.cells
  obtain ⟨g0, g1, g2, hlg5⟩ := lg.out.cells
  have hn1b : n1 ≤ 17 := by have h1 := HLEN.out.1; rw [HLL.out.1, HLL.out.2] at h1; omega
  go_wp2_with fail
  refine (normal_any A1 n1 c1 g.per g.inc g.vals _ lg.out.ints (by omega)).mono ?_
  rintro e w6 ⟨h, er, hN, A3, n3, c3, rfl, hI3, hA3, hb6⟩
  obtain ⟨rfl, hnh, _⟩ := normal_ok OKg.out hN
  have hgg : h = g := by
    have h1 : NF (Cv.at f) h := by
      have e1 : Cv.at g = Cv.at f := funext fun t => NFg.out.at t
      rw [← e1]; exact hnh
    exact h1.unique NFg.out
  subst hgg
  have p6 := Nat.lt_of_lt_of_le S4.out.lt hb6.size
  obtain ⟨f0, f1, f2, hlf6⟩ := (lf4.out.below hb6).cells
  obtain ⟨g0, g1, g2, hlg6⟩ := (lg.out.below hb6).cells
  have lh := Lib.hid (Loc.new (c := c3) hI3 hA3 S4.out.lt p6)
  have lf6 := Lib.hid ((lf4.out.below hb6).alloc (.cells #[.slice A3 n3 c3, .int .i64 h.per, .int .i64 h.inc] 26))
  have lg6 := Lib.hid ((lg.out.below hb6).alloc (.cells #[.slice A3 n3 c3, .int .i64 h.per, .int .i64 h.inc] 26))
  have S6 := Lib.hid ((S4.out.ext hb6).alloc (.cells #[.slice A3 n3 c3, .int .i64 h.per, .int .i64 h.inc] 26))
  have K6 := Lib.hid (kall (kbel K4.out hb6) (.cells #[.slice A3 n3 c3, .int .i64 h.per, .int .i64 h.inc] 26))
  clear hb6 hI3 hA3 hN hnh lf4 lg S4 K4 f0 f1 f2 g0 g1 g2 hlf6 hlg6 p6
  go_wp2_with fail
  generalize hw7 : w6.alloc (.cells #[.slice A3 n3 c3, .int .i64 h.per, .int .i64 h.inc] 26) = w7 at *
  clear hw7
  obtain ⟨f0, f1, f2, hlf7⟩ := lf6.out.cells
  have hpl7 := S6.out.lt
  have hpk := HD.out.per; have hik := HD.out.inc; have hi0 := HD.out.ok.i1; have hp0 := HD.out.ok.p1
  obtain ⟨g0, g1, g2, hlg7⟩ := lg6.out.cells
  obtain ⟨h0, h1, h2, hlh7⟩ := lh.out.cells
  clear g0 g1 g2 h0 h1 h2
  have LFA := Lib.hid (lf6.out.addr (by have h1 := HD.out.ok.n1; rw [lf6.out.len] at h1; exact h1))
  have LGA := Lib.hid (lg6.out.addr (by have h1 := OKg.out.n1; rw [lg6.out.len] at h1; exact h1))
  have LHA := Lib.hid (lh.out.addr (by have h1 := OKg.out.n1; rw [lh.out.len] at h1; exact h1))
  go_upto_region 5 with fail
  go_cut [11, 12] (fun s11 s12 wx => ∃ (F : Nat) (A4 : Option Addr) (n4 c4 : Nat), s11 = .pointer (some ⟨F, 0, none⟩) ∧ s12 = .int .i64 0 ∧ Loc w.heap.size wx F A4 n4 c4 h ∧
    Loc w.heap.size wx w2.heap.size A n c f ∧ Loc w.heap.size wx w4.heap.size A1 n1 c1 h ∧ Loc w.heap.size wx w6.heap.size A3 n3 c3 h ∧ SrcAt wx w.heap.size ∧ Kept w.heap.size w.heap.size w wx)
  case first =>
    have zb7 := Blk.new w7 26 #[.slice none 0 0, .int .i64 0, .int .i64 0]
    have ZB7 := Lib.hid zb7; clear zb7
    go_region_held3 (fun w' => w'.cell? ⟨w2.heap.size, 0, none⟩ = some (.slice A n c) ∧ w'.cell? ⟨w2.heap.size, 1, none⟩ = some (.int .i64 f.per) ∧ w'.cell? ⟨w2.heap.size, 2, none⟩ = some (.int .i64 f.inc)) (first | go_keep | (refine ⟨?_, ?_, ?_⟩ <;> (rw [cell_set3 (by omega)]; assumption)))
      (first
        | (go_at_call_of 19 (Value.int IntKind.i64 20)
           refine (n_any w.heap.size 20 _ (by repeat (first | exact S6.out | refine SrcAt.drew ?_ | refine SrcAt.alloc ?_ _)) (by omega) (by omega)).mono ?_
           rintro e w8 ⟨x8, hx80, hx81, rfl, hS8, hk8⟩
           have hk78 : Kept w7.heap.size w.heap.size w7 w8 := klater (by repeat (first | exact Below.refl _ _ | refine Below.drew ?_ | refine ball ?_ _)) hk8
           have LF8 := Lib.hid (lf6.out.kept hk78)
           have LG8 := Lib.hid (lg6.out.kept hk78)
           have LH8 := Lib.hid (lh.out.kept hk78)
           have KK8 := Lib.hid (kstep K6.out hk78)
           have SS8 := Lib.hid hS8
           obtain ⟨f80, f81, f82, hlf8⟩ := LF8.out.cells
           have sz8 := hk78.size
           try (have zb := (Blk.drew ZB7.out).kept (by omega) hk8; have ZB := Lib.hid zb; clear zb)
           clear hS8 hk8 hk78)
        | (go_at_call_of 19 (Value.int IntKind.i64 5)
           refine (n_any w.heap.size 5 _ (by repeat (first | exact SS8.out | refine SrcAt.drew ?_ | refine SrcAt.alloc ?_ _)) (by omega) (by omega)).mono ?_
           rintro e w9 ⟨x9, hx90, hx91, rfl, hS9, hk9⟩
           have hk89 : Kept w8.heap.size w.heap.size w8 w9 := klater (by repeat (first | exact Below.refl _ _ | refine Below.drew ?_ | refine ball ?_ _)) hk9
           have LF9 := Lib.hid (LF8.out.kept hk89)
           have LG9 := Lib.hid (LG8.out.kept hk89)
           have LH9 := Lib.hid (LH8.out.kept hk89)
           have KK9 := Lib.hid (kstep KK8.out hk89)
           have SS9 := Lib.hid hS9
           obtain ⟨f90, f91, f92, hlf9⟩ := LF9.out.cells
           have sz9 := hk89.size
           have e9 : IntKind.i64.wrap (1 + x9) = 1 + x9 := IntWalk.i64_in _ (by omega)
           try (have zb := ZB.out.kept (by omega) hk9; have ZB := Lib.hid zb; clear zb)
           try (have zb := (Blk.new w8 26 #[.slice none 0 0, .int .i64 0, .int .i64 0]).kept (by omega) hk9; have ZB := Lib.hid zb; clear zb)
           clear hS9 hk9 hk89)
        | (go_at_call 18
           refine (longer_any A n c f.per f.inc x8 (1 + x9) f.vals _ (by repeat (first | exact LF9.out.ints | refine Ints.drew ?_ | refine Ints.alloc' ?_ _)) HD.out.ok (by omega) (by omega) (by omega) (by omega)).mono ?_
           rintro e w10 ⟨k, hk, A5, n5, c5, rfl, hI5, hA5, hk10⟩
           have hk910 : Below w9.heap.size w9 w10 := blater (by repeat (first | exact Below.refl _ _ | refine Below.drew ?_ | refine ball ?_ _)) hk10
           have LF10 := Lib.hid (LF9.out.below hk910)
           have LG10 := Lib.hid (LG9.out.below hk910)
           have LH10 := Lib.hid (LH9.out.below hk910)
           have KK10 := Lib.hid (kbel KK9.out hk910)
           have SS10 := Lib.hid (SS9.out.ext hk910)
           obtain ⟨f100, f101, f102, hlf10⟩ := LF10.out.cells
           have sz10 := hk910.size
           try (have zb := ZB.out.below hk10 (by first | exact ZB.out.lt | (have := ZB.out.lt; simp; omega)); have ZB := Lib.hid zb; clear zb)
           try (have zb := (Blk.new w9 26 #[.slice none 0 0, .int .i64 0, .int .i64 0]).below hk10 (by simp); have ZB := Lib.hid zb; clear zb)
           have HI10 := Lib.hid hI5
           have hlk := longer_facts HD.out (by omega) (by omega) (by omega) (by omega) hk
           have hn5 : (n5 : Int) ≤ 1000000 := by have h1 := hlk.1.n2; have h2 : k.vals.length = n5 := hI5.1; omega
           have HLK := Lib.hid hlk
           have hA10 : ∀ b off s, A5 = some ⟨b, off, s⟩ → b ≠ w.heap.size := by
             intro b off s e
             rcases hA5 with h1 | h1
             · exact LF9.out.ap b off s (by rw [← h1]; exact e)
             · have h2 := h1 b off s e
               have h3 := SS9.out.lt
               try simp at h2
               omega
           clear hI5 hk hk10 hk910 hlk hA5)
        | (go_at_call 17
           refine (normal_any A5 n5 c5 k.per k.inc k.vals _ (by repeat (first | exact HI10.out | refine Ints.drew ?_ | refine Ints.alloc' ?_ _)) hn5).mono ?_
           rintro e w11 ⟨k', er', hN', A6, n6, c6, rfl, hI6, hA6, hk11⟩
           have hk1011 : Below w10.heap.size w10 w11 := blater (by repeat (first | exact Below.refl _ _ | refine Below.drew ?_ | refine ball ?_ _)) hk11
           have LF11 := Lib.hid (LF10.out.below hk1011)
           have LG11 := Lib.hid (LG10.out.below hk1011)
           have LH11 := Lib.hid (LH10.out.below hk1011)
           have KK11 := Lib.hid (kbel KK10.out hk1011)
           have SS11 := Lib.hid (SS10.out.ext hk1011)
           obtain ⟨f110, f111, f112, hlf11⟩ := LF11.out.cells
           have sz11 := hk1011.size
           try (have hzl := ZB.out.lt)
           obtain ⟨rfl, hnk, _⟩ := normal_ok HLK.out.1 hN'
           have hkh : k' = h := by
             have e1 : Cv.at k = Cv.at f := funext fun t => HLK.out.2 t
             rw [e1] at hnk
             exact hnk.unique NFg.out
           subst hkh
           try (have zb := ZB.out.below hk11 (by first | exact ZB.out.lt | (have := ZB.out.lt; simp; omega)); have ZB := Lib.hid zb; clear zb)
           try (have zb := (Blk.new w10 26 #[.slice none 0 0, .int .i64 0, .int .i64 0]).below hk11 (by simp); have ZB := Lib.hid zb; clear zb)
           try (have z0 := ZB.out.cell 0; have z1 := ZB.out.cell 1; have z2 := ZB.out.cell 2; have v0 := ZB.out.frozen 0; have v1 := ZB.out.frozen 1; have v2 := ZB.out.frozen 2; simp at z0 z1 z2; have hlz := ZB.out.lt)
           have HI11 := Lib.hid hI6; have HA11 := Lib.hid hA6
           clear hI6 hA6 hk11 hk1011 hnk hN'))
    all_goals
      go_wp2_with fail
      go_meet
      first
        | exact ⟨_, A6, n6, c6, rfl, rfl, Loc.new HI11.out HA11.out SS10.out.lt SS11.out.lt, LF11.out.alloc _, LG11.out.alloc _, LH11.out.alloc _, SS11.out.alloc _, kall KK11.out _⟩
        | (exact ⟨_, A6, n6, c6, rfl, rfl, Loc.stored ZB.out HI11.out HA11.out (by first | omega | (simp; done) | (simp; omega)) (by omega), LF11.out.far3 (by omega) (fun b off s e => by have := LFA.out b off s e; omega), LG11.out.far3 (by omega) (fun b off s e => by have := LGA.out b off s e; omega), LH11.out.far3 (by omega) (fun b off s e => by have := LHA.out b off s e; omega), SS11.out.far3 (by omega), KK11.out.set3 (by omega)⟩)
  case rest =>
    clear lf6 lg6 lh S6 K6 f0 f1 f2 LFA LGA LHA hpl7 hlf7 hlg7 hlh7
    obtain ⟨F, A4, n4, c4, rfl, rfl, lk, lf, lg, lh, hS, hK⟩ := hcut
    have hgl : n1 ≤ n := by have h1 := HLEN.out.1; rw [HLL.out.1, HLL.out.2] at h1; exact h1
    have hgp := HLEN.out.2
    obtain rfl : n1 = n3 := by rw [← lh.len, lg.len]
    obtain rfl : n1 = n4 := by rw [← lk.len, lg.len]
    have hsm : Cv.same ⟨h.vals, h.per, h.inc⟩ ⟨h.vals, h.per, h.inc⟩ = true := (Cv.same_iff _ _).2 rfl
    have HSM := Lib.hid hsm
    obtain ⟨f0, f1, f2, hlf⟩ := lf.cells
    obtain ⟨g0, g1, g2, hlg⟩ := lg.cells
    obtain ⟨h0, h1, h2, hlh⟩ := lh.cells
    have LFa := Lib.hid lf; have LGa := Lib.hid lg; have LHa := Lib.hid lh; have LKa := Lib.hid lk; have Sa := Lib.hid hS; have Ka := Lib.hid hK
    clear lf lg lh lk hS hK hsm
    go_wp2_with fail
    refine (refSame_any A1 A3 _ _ c1 c3 h.per h.per h.inc h.inc h.vals h.vals _ LGa.out.ints LHa.out.ints (by omega) (by omega)).mono ?_
    rw [HSM.out]
    rintro e wb ⟨rfl, hb⟩
    have LFb := Lib.hid (LFa.out.below hb); have LGb := Lib.hid (LGa.out.below hb); have LKb := Lib.hid (LKa.out.below hb); have Sb := Lib.hid (Sa.out.ext hb); have Kb := Lib.hid (kbel Ka.out hb)
    clear f0 f1 f2 g0 g1 g2 h0 h1 h2 hlf hlg hlh hb
    obtain ⟨f0, f1, f2, hlf⟩ := LFb.out.cells
    obtain ⟨g0, g1, g2, hlg⟩ := LGb.out.cells
    obtain ⟨h0, h1, h2, hlh⟩ := LKb.out.cells
    go_wp2_with fail
    refine (refSame_any A1 A4 _ _ c1 c4 h.per h.per h.inc h.inc h.vals h.vals _ LGb.out.ints LKb.out.ints (by omega) (by omega)).mono ?_
    rw [HSM.out]
    rintro e wd ⟨rfl, hb⟩
    have LFd := Lib.hid (LFb.out.below hb); have LGd := Lib.hid (LGb.out.below hb); have Sd := Lib.hid (Sb.out.ext hb); have Kd := Lib.hid (kbel Kb.out hb)
    clear f0 f1 f2 g0 g1 g2 h0 h1 h2 hlf hlg hlh hb
    obtain ⟨f0, f1, f2, hlf⟩ := LFd.out.cells
    obtain ⟨g0, g1, g2, hlg⟩ := LGd.out.cells
    have d1 : decide (n < n1) = false := by simp; omega
    have d2 : decide (f.per < h.per) = false := by simp; omega
    go_wp2_with fail
    refine (mod_any t 1048577 _ (by omega) (by omega)).mono ?_
    rintro e we ⟨⟨y, hy0, hy1, rfl⟩, rfl⟩
    go_wp2_with fail
    refine (n_any w.heap.size 60 _ Sd.out (by omega) (by omega)).mono ?_
    rintro e wf ⟨x, hx0, hx1, rfl, hSf, hkf⟩
    have LFf := Lib.hid (LFd.out.kept hkf); have LGf := Lib.hid (LGd.out.kept hkf); have Kf := Lib.hid (kstep Kd.out hkf)
    clear f0 f1 f2 g0 g1 g2 hlf hlg hkf hSf d1 d2
    go_wp2_with fail
    go_loopg [88] 2 (fun g s wr => ∃ k : Nat, k + g = 2 ∧ s = .int .i64 k ∧ Blk wr wf.heap.size 3 #[.int .i64 y, .int .i64 x] ∧ Loc w.heap.size wr w2.heap.size A n c f ∧ Loc w.heap.size wr w4.heap.size A1 n1 c1 h ∧ Kept w.heap.size w.heap.size w wr)
    case atStart => exact ⟨0, by omega, rfl, Blk.new _ _ _, LFf.out.alloc _, LGf.out.alloc _, kall Kf.out _⟩
    case round =>
      obtain ⟨k, hkg, rfl, hB, lf, lg, hK⟩ := hrel
      obtain ⟨f0, f1, f2, hlf⟩ := lf.cells
      by_cases hk : k < 2
      · obtain ⟨u, hu0, hu1, hcu⟩ : ∃ u : Int, 0 ≤ u ∧ u ≤ 1048576 ∧ wr.cell? ⟨wf.heap.size, k, none⟩ = some (.int .i64 u) := by
          have h1 := hB.cell k
          have : k = 0 ∨ k = 1 := by omega
          rcases this with rfl | rfl
          · exact ⟨y, hy0, by omega, by simpa using h1⟩
          · exact ⟨x, hx0, by omega, by simpa using h1⟩
        have hv1 := value_ok HD.out.ok hu0 hu1
        have hv2 := value_ok OKg.out hu0 hu1
        rw [NFg.out.at] at hv2
        have hlB := hB.lt
        have HB := Lib.hid hB; have LF := Lib.hid lf; have LG := Lib.hid lg; have KK := Lib.hid hK; have HV1 := Lib.hid hv1; have HV2 := Lib.hid hv2
        clear hB lf lg hK hv1 hv2
        go_wp2_with fail
        refine (value_any A n c f.per f.inc u f.vals _ LF.out.ints (by omega)).mono ?_
        rw [show Cv.value ⟨f.vals, f.per, f.inc⟩ u = _ from HV1.out]
        rintro e wx ⟨rfl, hbx⟩
        have HBx := Lib.hid (HB.out.below hbx HB.out.lt); have LFx := Lib.hid (LF.out.below hbx); have LGx := Lib.hid (LG.out.below hbx); have KKx := Lib.hid (kbel KK.out hbx)
        clear hbx f0 f1 f2 hlf hcu hlB
        obtain ⟨g0, g1, g2, hlg⟩ := LGx.out.cells
        go_wp2_with fail
        refine (value_any A1 _ c1 h.per h.inc u h.vals _ LGx.out.ints (by omega)).mono ?_
        rw [show Cv.value ⟨h.vals, h.per, h.inc⟩ u = _ from HV2.out]
        rintro e wy ⟨rfl, hby⟩
        have HBy := Lib.hid (HBx.out.below hby HBx.out.lt); have LFy := Lib.hid (LFx.out.below hby); have LGy := Lib.hid (LGx.out.below hby); have KKy := Lib.hid (kbel KKx.out hby)
        clear hby g0 g1 g2 hlg
        have hbb : (Cv.at f u.toNat != Cv.at f u.toNat) = false := by simp
        go_wp2_with fail
        go_roundg (gk - 1)
        case measure => omega
        case rel => exact ⟨k + 1, by omega, by go_num, HBy.out, LFy.out, LGy.out, KKy.out⟩
      · have KK := Lib.hid hK
        clear hK hB lf lg
        go_wp2_with fail
        refine (awake2_any _).mono ?_
        rintro e wz ⟨rfl, hbz⟩
        go_wp2_with fail
        go_ret
        exact ⟨rfl, (kbel KK.out hbz).below (Nat.le_refl _)⟩
end Go.Proofs.Yteddogbhofhlaaa
