/- The examples of the chapter on convolution: netcalculuslaw07.awake returns true. -/
import Derived.Test.YtbkimphcmmmaiaaCpCk
import Derived.Test.YtbkimphcmmmaiaaCpPrv
import Derived.Test.YtbkimphcmmmaiaaLnLaw
import Derived.Test.YtbkimphcmmmaiaaSto
import Derived.Test.YtbkimphcmmmaiaaRefSame
namespace Go.Proofs.Ytbkimphcmmmaiaa
open Go.RowKit
set_option linter.unusedVariables false

set_option maxHeartbeats 2000000 in
set_option maxRecDepth 100000 in
theorem awake7_any (w : World) : Calls Try.prog 34 #[] w fun e w' => e = .returned (.bool true) ∧ Below w.heap.size w w' := by
  have L := Lib.hid (show LS w ((((w.alloc (.cells ([0].map (Value.int .i64)).toArray 3)).alloc (.cells ([0].map (Value.int .i64)).toArray 3)).alloc (.cells #[.slice (some ⟨w.heap.size, 0, none⟩) 1 1, .int .i64 1, .int .i64 3] 31)).alloc (.cells #[.slice (some ⟨w.heap.size + 1, 0, none⟩) 1 1, .int .i64 1, .int .i64 5] 31)) (w.heap.size + 1 + 1) (some ⟨w.heap.size, 0, none⟩) 1 1 (lnC 3) (w.heap.size + 1 + 1 + 1) (some ⟨w.heap.size + 1, 0, none⟩) 1 1 (lnC 5) from by
    have i1 := (((ints_litC w [0]).alloc' (.cells ([0].map (Value.int .i64)).toArray 3)).alloc' (.cells #[.slice (some ⟨w.heap.size, 0, none⟩) 1 1, .int .i64 1, .int .i64 3] 31)).alloc' (.cells #[.slice (some ⟨w.heap.size + 1, 0, none⟩) 1 1, .int .i64 1, .int .i64 5] 31)
    have i2 := ((ints_litC (w.alloc (.cells ([0].map (Value.int .i64)).toArray 3)) [0]).alloc' (.cells #[.slice (some ⟨w.heap.size, 0, none⟩) 1 1, .int .i64 1, .int .i64 3] 31)).alloc' (.cells #[.slice (some ⟨w.heap.size + 1, 0, none⟩) 1 1, .int .i64 1, .int .i64 5] 31)
    have b1 := (Blk.new ((w.alloc (.cells ([0].map (Value.int .i64)).toArray 3)).alloc (.cells ([0].map (Value.int .i64)).toArray 3)) 31 #[.slice (some ⟨w.heap.size, 0, none⟩) 1 1, .int .i64 1, .int .i64 3]).alloc (.cells #[.slice (some ⟨w.heap.size + 1, 0, none⟩) 1 1, .int .i64 1, .int .i64 5] 31)
    have b2 := Blk.new (((w.alloc (.cells ([0].map (Value.int .i64)).toArray 3)).alloc (.cells ([0].map (Value.int .i64)).toArray 3)).alloc (.cells #[.slice (some ⟨w.heap.size, 0, none⟩) 1 1, .int .i64 1, .int .i64 3] 31)) 31 #[.slice (some ⟨w.heap.size + 1, 0, none⟩) 1 1, .int .i64 1, .int .i64 5]
    simp only [World.size_alloc] at i2 b1 b2
    exact ⟨b1, b2, i1, by (simp only [World.size_alloc]; exact i2), bthen (bthen (bthen (balloc _ _) (balloc _ _)) (balloc _ _)) (balloc _ _)⟩)
  go_enter Try.func34, Try.ntmps34
  go_wp2_with fail
  obtain ⟨f0, f1, f2, g0, g1, g2, hlf, hlg⟩ := L.out.cells
  refine (cvfn_any (some ⟨w.heap.size, 0, none⟩) (some ⟨w.heap.size + 1, 0, none⟩) 1 1 1 1 1 3 1 5 [0] [0] _ L.out.ia L.out.ib (by omega) (by omega)).mono ?_
  rintro e w2 ⟨f, er, hS, A5, n5, c5, hc5, rfl, hI5, hA5, hb⟩
  obtain ⟨rfl, rfl⟩ := CvS.unique hS (ln_cvs (r := 3) (q := 5) (by omega) (by omega) (by omega))
  have hn5 : n5 = 1 := hI5.1.symm
  subst hn5
  have hb := bthen hb (balloc _ (.cells #[.slice A5 1 c5, .int .i64 (lnC 3).per, .int .i64 (lnC 3).inc] 31))
  have HB0 := Lib.hid (Blk.new w2 31 #[.slice A5 1 c5, .int .i64 (lnC 3).per, .int .i64 (lnC 3).inc])
  have HI0 := Lib.hid (hI5.alloc' (.cells #[.slice A5 1 c5, .int .i64 (lnC 3).per, .int .i64 (lnC 3).inc] 31))
  have L := Lib.hid (L.out.below hb)
  try (have HB := Lib.hid (HB.out.below hb HB.out.lt); have HI := Lib.hid (HI.out.ext hb))
  try (have CB := Lib.hid (CB.out.below hb CB.out.lt); have CI := Lib.hid (CI.out.ext hb); have CJ := Lib.hid (CJ.out.ext hb))
  clear hb
  have HB := HB0; have HI := HI0
  clear HB0 HI0 hc5 hI5 hA5 hS
  clear f0 f1 f2 g0 g1 g2 hlf hlg
  go_upto_region 3 with fail
  generalize hwe : w2.alloc (.cells #[.slice A5 1 c5, .int .i64 (lnC 3).per, .int .i64 (lnC 3).inc] 31) = w3 at *
  clear hwe
  generalize w2.heap.size = Hb at *
  obtain ⟨f0, f1, f2, g0, g1, g2, hlf, hlg⟩ := L.out.cells
  try (obtain ⟨⟨h0, h1, h2⟩, _, hlh⟩ := HB.out.c3)
  try (obtain ⟨⟨c0, c1, c2, c3, c4⟩, _, hlc⟩ := CB.out.d5)
  go_wp2_with fail
  refine (cpprv_any (some ⟨w.heap.size, 0, none⟩) (some ⟨w.heap.size + 1, 0, none⟩) 1 1 1 1 1 3 1 5 [0] [0] _ L.out.ia L.out.ib (by omega) (by omega)).mono ?_
  rintro e w4 ⟨r, fr, cs, er, hS, A6, n6, c6, B6, m6, d6, hc6, hd6, rfl, hI6, hJ6, hA6, hB6, hb⟩
  obtain ⟨rfl, rfl⟩ := CvS.unique hS.1 (ln_cvs (r := 3) (q := 5) (by omega) (by omega) (by omega))
  have CK := Lib.hid (pv_check hS)
  have hn6 : n6 = 1 := hI6.1.symm
  subst hn6
  have hm6 : m6 ≤ 1000 := by
    obtain ⟨_, _, a, b, ha, hb, _, _, _, hC⟩ := CK.out
    obtain rfl := NF.unique ha (ln_nf (r := 3) (by omega) (by omega))
    obtain rfl := NF.unique hb (ln_nf (r := 5) (by omega) (by omega))
    rw [← hJ6.1, hC.2.1.2.1]; decide
  have hb := bthen hb (balloc _ (.cells #[.slice A6 1 c6, .int .i64 (lnC 3).per, .int .i64 (lnC 3).inc, .int .i64 fr, .slice B6 m6 d6] 56))
  have CB0 := Lib.hid (Blk.new w4 56 #[.slice A6 1 c6, .int .i64 (lnC 3).per, .int .i64 (lnC 3).inc, .int .i64 fr, .slice B6 m6 d6])
  have CI0 := Lib.hid (hI6.alloc' (.cells #[.slice A6 1 c6, .int .i64 (lnC 3).per, .int .i64 (lnC 3).inc, .int .i64 fr, .slice B6 m6 d6] 56))
  have CJ0 := Lib.hid (hJ6.alloc' (.cells #[.slice A6 1 c6, .int .i64 (lnC 3).per, .int .i64 (lnC 3).inc, .int .i64 fr, .slice B6 m6 d6] 56))
  have L := Lib.hid (L.out.below hb)
  try (have HB := Lib.hid (HB.out.below hb HB.out.lt); have HI := Lib.hid (HI.out.ext hb))
  try (have CB := Lib.hid (CB.out.below hb CB.out.lt); have CI := Lib.hid (CI.out.ext hb); have CJ := Lib.hid (CJ.out.ext hb))
  clear hb
  have CB := CB0; have CI := CI0; have CJ := CJ0
  clear CB0 CI0 CJ0 hc6 hd6 hI6 hJ6 hA6 hB6 hS
  clear f0 f1 f2 g0 g1 g2 hlf hlg
  try clear h0 h1 h2 hlh
  try clear c0 c1 c2 c3 c4 hlc
  go_upto_region 4 with fail
  generalize hwe : w4.alloc (.cells #[.slice A6 1 c6, .int .i64 (lnC 3).per, .int .i64 (lnC 3).inc, .int .i64 fr, .slice B6 m6 d6] 56) = w5 at *
  clear hwe
  generalize w4.heap.size = Cb at *
  obtain ⟨f0, f1, f2, g0, g1, g2, hlf, hlg⟩ := L.out.cells
  try (obtain ⟨⟨h0, h1, h2⟩, _, hlh⟩ := HB.out.c3)
  try (obtain ⟨⟨c0, c1, c2, c3, c4⟩, _, hlc⟩ := CB.out.d5)
  go_wp2_with fail
  refine (refSame_any A5 (some ⟨w.heap.size, 0, none⟩) 1 1 c5 1 (lnC 3).per 1 (lnC 3).inc 3 (lnC 3).vals [0] _ (by exact HI.out) L.out.ia (by omega) (by omega)).mono ?_
  rw [show Cv.same ⟨(lnC 3).vals, (lnC 3).per, (lnC 3).inc⟩ ⟨[0], 1, 3⟩ = true from (Cv.same_iff _ _).2 rfl]
  rintro e w8 ⟨rfl, hb⟩
  clear f0 f1 f2 g0 g1 g2 hlf hlg
  try clear h0 h1 h2 hlh
  try clear c0 c1 c2 c3 c4 hlc
  have L := Lib.hid (L.out.below hb)
  try (have HB := Lib.hid (HB.out.below hb HB.out.lt); have HI := Lib.hid (HI.out.ext hb))
  try (have CB := Lib.hid (CB.out.below hb CB.out.lt); have CI := Lib.hid (CI.out.ext hb); have CJ := Lib.hid (CJ.out.ext hb))
  clear hb
  obtain ⟨f0, f1, f2, g0, g1, g2, hlf, hlg⟩ := L.out.cells
  try (obtain ⟨⟨h0, h1, h2⟩, _, hlh⟩ := HB.out.c3)
  try (obtain ⟨⟨c0, c1, c2, c3, c4⟩, _, hlc⟩ := CB.out.d5)
  go_wp2_with fail
  refine (cpchk_any (some ⟨w.heap.size, 0, none⟩) (some ⟨w.heap.size + 1, 0, none⟩) A6 B6 1 1 1 m6 1 1 c6 d6 1 3 1 5 fr [0] [0] (lnC 3) cs _ L.out.ia L.out.ib CI.out CJ.out (by omega) (by omega) (by omega) (by omega)).mono ?_
  rintro e w9 ⟨⟨z, hz, rfl⟩, hb⟩
  obtain rfl : z = true := hz.2 CK.out
  clear hz
  clear f0 f1 f2 g0 g1 g2 hlf hlg
  try clear h0 h1 h2 hlh
  try clear c0 c1 c2 c3 c4 hlc
  have L := Lib.hid (L.out.below hb)
  try (have HB := Lib.hid (HB.out.below hb HB.out.lt); have HI := Lib.hid (HI.out.ext hb))
  try (have CB := Lib.hid (CB.out.below hb CB.out.lt); have CI := Lib.hid (CI.out.ext hb); have CJ := Lib.hid (CJ.out.ext hb))
  clear hb
  obtain ⟨f0, f1, f2, g0, g1, g2, hlf, hlg⟩ := L.out.cells
  try (obtain ⟨⟨h0, h1, h2⟩, _, hlh⟩ := HB.out.c3)
  try (obtain ⟨⟨c0, c1, c2, c3, c4⟩, _, hlc⟩ := CB.out.d5)
  go_wp2_with fail
  refine (cpchk_any (some ⟨w.heap.size, 0, none⟩) (some ⟨w.heap.size + 1, 0, none⟩) none none 1 1 0 0 1 1 0 0 1 3 1 5 0 [0] [0] Cv.none [] _ L.out.ia L.out.ib Ints.none_ Ints.none_ (by omega) (by omega) (by omega) (by omega)).mono ?_
  rintro e w10 ⟨⟨z, hz, rfl⟩, hb⟩
  obtain rfl : z = false := by
    cases z
    · rfl
    · obtain ⟨_, _, _, _, _, _, _, h, _⟩ := hz.1 rfl
      have := h.n1
      exact absurd this (by decide)
  clear hz
  clear f0 f1 f2 g0 g1 g2 hlf hlg
  try clear h0 h1 h2 hlh
  try clear c0 c1 c2 c3 c4 hlc
  have L := Lib.hid (L.out.below hb)
  try (have HB := Lib.hid (HB.out.below hb HB.out.lt); have HI := Lib.hid (HI.out.ext hb))
  try (have CB := Lib.hid (CB.out.below hb CB.out.lt); have CI := Lib.hid (CI.out.ext hb); have CJ := Lib.hid (CJ.out.ext hb))
  clear hb
  have bw := L.out.bw
  go_wp2_with fail
  go_ret
  exact ⟨rfl, bw⟩
end Go.Proofs.Ytbkimphcmmmaiaa
