/- The examples of the chapter on deconvolution: netcalculuslaw08.awake returns true. -/
import Derived.Test.YthgfmaijoigckaaDcChk
import Derived.Test.YthgfmaijoigckaaDcEx
import Derived.Test.YthgfmaijoigckaaSto
import Derived.Test.YthgfmaijoigckaaRefSame
namespace Go.Proofs.Ythgfmaijoigckaa
open Go.RowKit
set_option linter.unusedVariables false

set_option maxHeartbeats 2000000 in
set_option maxRecDepth 100000 in
theorem awake8_any (w : World) : Calls Try.prog 23 #[] w fun e w' => e = .returned (.bool true) ∧ Below w.heap.size w w' := by
  have L := Lib.hid (show LS w ((((w.alloc (.cells ([0, 10, 12].map (Value.int .i64)).toArray 3)).alloc (.cells #[.slice (some ⟨w.heap.size, 0, none⟩) 3 3, .int .i64 1, .int .i64 2] 44)).alloc (.cells ([0, 0, 0, 0].map (Value.int .i64)).toArray 3)).alloc (.cells #[.slice (some ⟨w.heap.size + 1 + 1, 0, none⟩) 4 4, .int .i64 1, .int .i64 4] 44)) (w.heap.size + 1) (some ⟨w.heap.size, 0, none⟩) 3 3 dxF (w.heap.size + 1 + 1 + 1) (some ⟨w.heap.size + 1 + 1, 0, none⟩) 4 4 dxG from by
    have i1 := (((ints_litC w [0, 10, 12]).alloc' (.cells #[.slice (some ⟨w.heap.size, 0, none⟩) 3 3, .int .i64 1, .int .i64 2] 44)).alloc' (.cells ([0, 0, 0, 0].map (Value.int .i64)).toArray 3)).alloc' (.cells #[.slice (some ⟨w.heap.size + 1 + 1, 0, none⟩) 4 4, .int .i64 1, .int .i64 4] 44)
    have i2 := (ints_litC ((w.alloc (.cells ([0, 10, 12].map (Value.int .i64)).toArray 3)).alloc (.cells #[.slice (some ⟨w.heap.size, 0, none⟩) 3 3, .int .i64 1, .int .i64 2] 44)) [0, 0, 0, 0]).alloc' (.cells #[.slice (some ⟨w.heap.size + 1 + 1, 0, none⟩) 4 4, .int .i64 1, .int .i64 4] 44)
    have b1 := ((Blk.new (w.alloc (.cells ([0, 10, 12].map (Value.int .i64)).toArray 3)) 44 #[.slice (some ⟨w.heap.size, 0, none⟩) 3 3, .int .i64 1, .int .i64 2]).alloc (.cells ([0, 0, 0, 0].map (Value.int .i64)).toArray 3)).alloc (.cells #[.slice (some ⟨w.heap.size + 1 + 1, 0, none⟩) 4 4, .int .i64 1, .int .i64 4] 44)
    have b2 := Blk.new (((w.alloc (.cells ([0, 10, 12].map (Value.int .i64)).toArray 3)).alloc (.cells #[.slice (some ⟨w.heap.size, 0, none⟩) 3 3, .int .i64 1, .int .i64 2] 44)).alloc (.cells ([0, 0, 0, 0].map (Value.int .i64)).toArray 3)) 44 #[.slice (some ⟨w.heap.size + 1 + 1, 0, none⟩) 4 4, .int .i64 1, .int .i64 4]
    simp only [World.size_alloc] at i2 b1 b2
    exact ⟨b1, b2, i1, by (simp only [World.size_alloc]; exact i2), bthen (bthen (bthen (balloc _ _) (balloc _ _)) (balloc _ _)) (balloc _ _)⟩)
  go_enter Try.func23, Try.ntmps23
  go_wp2_with fail
  obtain ⟨f0, f1, f2, g0, g1, g2, hlf, hlg⟩ := L.out.cells
  refine (dcfn_any (some ⟨w.heap.size, 0, none⟩) (some ⟨w.heap.size + 1 + 1, 0, none⟩) 3 4 3 4 1 2 1 4 [0, 10, 12] [0, 0, 0, 0] _ L.out.ia L.out.ib (by omega) (by omega)).mono ?_
  rintro e w2 ⟨f, er, hS, A5, n5, c5, hc5, rfl, hI5, hA5, hb⟩
  obtain ⟨rfl, rfl⟩ := dx_of hS
  have hn5 : n5 = 1 := hI5.1.symm
  subst hn5
  have hb := bthen hb (balloc _ (.cells #[.slice A5 1 c5, .int .i64 dxH.per, .int .i64 dxH.inc] 44))
  have HB0 := Lib.hid (Blk.new w2 44 #[.slice A5 1 c5, .int .i64 dxH.per, .int .i64 dxH.inc])
  have HI0 := Lib.hid (hI5.alloc' (.cells #[.slice A5 1 c5, .int .i64 dxH.per, .int .i64 dxH.inc] 44))
  -- all over a step hb
  have L := Lib.hid (L.out.below hb)
  try (have HB := Lib.hid (HB.out.below hb HB.out.lt); have HI := Lib.hid (HI.out.ext hb))
  try (have CB := Lib.hid (CB.out.below hb CB.out.lt); have CI := Lib.hid (CI.out.ext hb); have CJ := Lib.hid (CJ.out.ext hb))
  try (have XB := Lib.hid (XB.out.below hb XB.out.lt); have XI := Lib.hid (XI.out.ext hb))
  clear hb
  have HB := HB0; have HI := HI0
  clear HB0 HI0 hc5 hI5 hA5 hS
  clear f0 f1 f2 g0 g1 g2 hlf hlg
  go_upto_region 4 with fail
  generalize hwe : w2.alloc (.cells #[.slice A5 1 c5, .int .i64 dxH.per, .int .i64 dxH.inc] 44) = w3 at *
  clear hwe
  generalize w2.heap.size = Hb at *
  obtain ⟨f0, f1, f2, g0, g1, g2, hlf, hlg⟩ := L.out.cells
  try (obtain ⟨⟨h0, h1, h2⟩, _, hlh⟩ := HB.out.c3)
  try (obtain ⟨⟨c0, c1, c2, c3⟩, _, hlc⟩ := CB.out.c4)
  try (obtain ⟨⟨x0, x1, x2⟩, _, hlx⟩ := XB.out.c3)
  go_wp2_with fail
  refine (dcprv_any (some ⟨w.heap.size, 0, none⟩) (some ⟨w.heap.size + 1 + 1, 0, none⟩) 3 4 3 4 1 2 1 4 [0, 10, 12] [0, 0, 0, 0] _ L.out.ia L.out.ib (by omega) (by omega)).mono ?_
  rintro e w4 ⟨r, cs, er, hS, A6, n6, c6, B6, m6, d6, hc6, hd6, rfl, hI6, hJ6, hA6, hB6, hb⟩
  obtain ⟨rfl, rfl⟩ := dx_of hS.1
  have CK := Lib.hid (prove_check hS)
  have hn6 : n6 = 1 := hI6.1.symm
  subst hn6
  have hm6 : m6 ≤ 520 := by
    obtain ⟨_, _, _, a, b, ha, hb, _, _, _, hC⟩ := CK.out
    obtain rfl := NF.unique ha dxA_nf
    rcases hC with ⟨h1, _⟩ | ⟨_, _, _, hl, _⟩
    · exact absurd h1 (by
        obtain rfl := NF.unique hb dxG_nf
        exact dx_steep _ _ rfl rfl (by decide))
    · rw [← hJ6.1, hl]; decide
  have hb := bthen hb (balloc _ (.cells #[.slice A6 1 c6, .int .i64 dxH.per, .int .i64 dxH.inc, .slice B6 m6 d6] 55))
  have CB0 := Lib.hid (Blk.new w4 55 #[.slice A6 1 c6, .int .i64 dxH.per, .int .i64 dxH.inc, .slice B6 m6 d6])
  have CI0 := Lib.hid (hI6.alloc' (.cells #[.slice A6 1 c6, .int .i64 dxH.per, .int .i64 dxH.inc, .slice B6 m6 d6] 55))
  have CJ0 := Lib.hid (hJ6.alloc' (.cells #[.slice A6 1 c6, .int .i64 dxH.per, .int .i64 dxH.inc, .slice B6 m6 d6] 55))
  -- all over a step hb
  have L := Lib.hid (L.out.below hb)
  try (have HB := Lib.hid (HB.out.below hb HB.out.lt); have HI := Lib.hid (HI.out.ext hb))
  try (have CB := Lib.hid (CB.out.below hb CB.out.lt); have CI := Lib.hid (CI.out.ext hb); have CJ := Lib.hid (CJ.out.ext hb))
  try (have XB := Lib.hid (XB.out.below hb XB.out.lt); have XI := Lib.hid (XI.out.ext hb))
  clear hb
  have CB := CB0; have CI := CI0; have CJ := CJ0
  clear CB0 CI0 CJ0 hc6 hd6 hI6 hJ6 hA6 hB6 hS
  clear f0 f1 f2 g0 g1 g2 hlf hlg
  try clear h0 h1 h2 hlh
  try clear c0 c1 c2 c3 hlc
  try clear x0 x1 x2 hlx
  go_upto_region 5 with fail
  generalize hwe : w4.alloc (.cells #[.slice A6 1 c6, .int .i64 dxH.per, .int .i64 dxH.inc, .slice B6 m6 d6] 55) = w5 at *
  clear hwe
  generalize w4.heap.size = Cb at *
  have i1 := (ints_litC w5 [0]).alloc' (.cells ([0].map (Value.int .i64)).toArray 3)
  have i2 := ints_litC (w5.alloc (.cells ([0].map (Value.int .i64)).toArray 3)) [0]
  have hb0 := bthen (balloc w5 (.cells ([0].map (Value.int .i64)).toArray 3)) (balloc _ (.cells ([0].map (Value.int .i64)).toArray 3))
  simp only [List.map_cons, List.map_nil, World.size_alloc] at i1 i2 hb0
  have I1 := Lib.hid i1; have I2 := Lib.hid i2; have HB5 := Lib.hid hb0
  clear i1 i2 hb0
  go_wp2_with fail
  refine (dcfn_any (some ⟨w5.heap.size, 0, none⟩) (some ⟨w5.heap.size + 1, 0, none⟩) 1 1 1 1 1 5 1 3 [0] [0] _ (by simpa using I1.out) (by simpa using I2.out) (by omega) (by omega)).mono ?_
  rintro e w6 ⟨f, er, hS, A7, n7, c7, hc7, rfl, hI7, hA7, hb⟩
  obtain ⟨rfl, rfl⟩ := dxI_inf hS
  have hn7 : n7 = 1 := hI7.1.symm
  subst hn7
  have hb := bthen HB5.out (bthen hb (balloc _ (.cells #[.slice A7 1 c7, .int .i64 dxI.per, .int .i64 dxI.inc] 44)))
  have XB0 := Lib.hid (Blk.new w6 44 #[.slice A7 1 c7, .int .i64 dxI.per, .int .i64 dxI.inc])
  have XI0 := Lib.hid (hI7.alloc' (.cells #[.slice A7 1 c7, .int .i64 dxI.per, .int .i64 dxI.inc] 44))
  -- all over a step hb
  have L := Lib.hid (L.out.below hb)
  try (have HB := Lib.hid (HB.out.below hb HB.out.lt); have HI := Lib.hid (HI.out.ext hb))
  try (have CB := Lib.hid (CB.out.below hb CB.out.lt); have CI := Lib.hid (CI.out.ext hb); have CJ := Lib.hid (CJ.out.ext hb))
  try (have XB := Lib.hid (XB.out.below hb XB.out.lt); have XI := Lib.hid (XI.out.ext hb))
  clear hb
  have XB := XB0; have XI := XI0
  clear XB0 XI0 hc7 hI7 hA7 hS I1 I2 HB5
  go_upto_region 6 with fail
  generalize hwe : w6.alloc (.cells #[.slice A7 1 c7, .int .i64 dxI.per, .int .i64 dxI.inc] 44) = w7 at *
  clear hwe
  generalize w6.heap.size = Xb at *
  have hb := balloc w7 (.cells ([14].map (Value.int .i64)).toArray 3)
  have i1 := ints_litC w7 [14]
  simp only [List.map_cons, List.map_nil] at hb i1
  have I1 := Lib.hid i1
  clear i1
  obtain ⟨f0, f1, f2, g0, g1, g2, hlf, hlg⟩ := L.out.cells
  try (obtain ⟨⟨h0, h1, h2⟩, _, hlh⟩ := HB.out.c3)
  try (obtain ⟨⟨c0, c1, c2, c3⟩, _, hlc⟩ := CB.out.c4)
  try (obtain ⟨⟨x0, x1, x2⟩, _, hlx⟩ := XB.out.c3)
  go_wp2_with fail
  clear f0 f1 f2 g0 g1 g2 hlf hlg
  try clear h0 h1 h2 hlh
  try clear c0 c1 c2 c3 hlc
  try clear x0 x1 x2 hlx
  -- all over a step hb
  have L := Lib.hid (L.out.below hb)
  try (have HB := Lib.hid (HB.out.below hb HB.out.lt); have HI := Lib.hid (HI.out.ext hb))
  try (have CB := Lib.hid (CB.out.below hb CB.out.lt); have CI := Lib.hid (CI.out.ext hb); have CJ := Lib.hid (CJ.out.ext hb))
  try (have XB := Lib.hid (XB.out.below hb XB.out.lt); have XI := Lib.hid (XI.out.ext hb))
  clear hb
  refine (refSame_any A5 (some ⟨w7.heap.size, 0, none⟩) 1 1 c5 1 dxH.per 1 dxH.inc 2 dxH.vals [14] _ (by exact HI.out) (by exact I1.out) (by omega) (by omega)).mono ?_
  rw [show Cv.same ⟨dxH.vals, dxH.per, dxH.inc⟩ ⟨[14], 1, 2⟩ = true from (Cv.same_iff _ _).2 rfl]
  rintro e w8 ⟨rfl, hb⟩
  -- all over a step hb
  have L := Lib.hid (L.out.below hb)
  try (have HB := Lib.hid (HB.out.below hb HB.out.lt); have HI := Lib.hid (HI.out.ext hb))
  try (have CB := Lib.hid (CB.out.below hb CB.out.lt); have CI := Lib.hid (CI.out.ext hb); have CJ := Lib.hid (CJ.out.ext hb))
  try (have XB := Lib.hid (XB.out.below hb XB.out.lt); have XI := Lib.hid (XI.out.ext hb))
  clear hb
  clear I1
  obtain ⟨f0, f1, f2, g0, g1, g2, hlf, hlg⟩ := L.out.cells
  try (obtain ⟨⟨h0, h1, h2⟩, _, hlh⟩ := HB.out.c3)
  try (obtain ⟨⟨c0, c1, c2, c3⟩, _, hlc⟩ := CB.out.c4)
  try (obtain ⟨⟨x0, x1, x2⟩, _, hlx⟩ := XB.out.c3)
  go_wp2_with fail
  refine (dcchk_any (some ⟨w.heap.size, 0, none⟩) (some ⟨w.heap.size + 1 + 1, 0, none⟩) A6 B6 3 4 1 m6 3 4 c6 d6 1 2 1 4 [0, 10, 12] [0, 0, 0, 0] dxH cs _ L.out.ia L.out.ib CI.out CJ.out (by omega) (by omega) (by omega) (by omega)).mono ?_
  rintro e w9 ⟨⟨z, hz, rfl⟩, hb⟩
  obtain rfl : z = true := hz.2 CK.out
  clear hz
  have hb1 := balloc w9 (.cells ([inf].map (Value.int .i64)).toArray 3)
  have i1 := ints_litC w9 [inf]
  unfold inf at hb1 i1
  simp only [List.map_cons, List.map_nil] at hb1 i1
  have I1 := Lib.hid i1; have HB1 := Lib.hid hb1
  clear i1 hb1
  clear f0 f1 f2 g0 g1 g2 hlf hlg
  try clear h0 h1 h2 hlh
  try clear c0 c1 c2 c3 hlc
  try clear x0 x1 x2 hlx
  -- all over a step hb
  have L := Lib.hid (L.out.below hb)
  try (have HB := Lib.hid (HB.out.below hb HB.out.lt); have HI := Lib.hid (HI.out.ext hb))
  try (have CB := Lib.hid (CB.out.below hb CB.out.lt); have CI := Lib.hid (CI.out.ext hb); have CJ := Lib.hid (CJ.out.ext hb))
  try (have XB := Lib.hid (XB.out.below hb XB.out.lt); have XI := Lib.hid (XI.out.ext hb))
  clear hb
  obtain ⟨f0, f1, f2, g0, g1, g2, hlf, hlg⟩ := L.out.cells
  try (obtain ⟨⟨h0, h1, h2⟩, _, hlh⟩ := HB.out.c3)
  try (obtain ⟨⟨c0, c1, c2, c3⟩, _, hlc⟩ := CB.out.c4)
  try (obtain ⟨⟨x0, x1, x2⟩, _, hlx⟩ := XB.out.c3)
  go_wp2_with fail
  have hb := HB1.out
  clear f0 f1 f2 g0 g1 g2 hlf hlg
  try clear h0 h1 h2 hlh
  try clear c0 c1 c2 c3 hlc
  try clear x0 x1 x2 hlx
  -- all over a step hb
  have L := Lib.hid (L.out.below hb)
  try (have HB := Lib.hid (HB.out.below hb HB.out.lt); have HI := Lib.hid (HI.out.ext hb))
  try (have CB := Lib.hid (CB.out.below hb CB.out.lt); have CI := Lib.hid (CI.out.ext hb); have CJ := Lib.hid (CJ.out.ext hb))
  try (have XB := Lib.hid (XB.out.below hb XB.out.lt); have XI := Lib.hid (XI.out.ext hb))
  clear hb
  refine (refSame_any A7 (some ⟨w9.heap.size, 0, none⟩) 1 1 c7 1 dxI.per 1 dxI.inc 0 dxI.vals [4611686018427387904] _ (by exact XI.out) (by exact I1.out) (by omega) (by omega)).mono ?_
  rw [show Cv.same ⟨dxI.vals, dxI.per, dxI.inc⟩ ⟨[4611686018427387904], 1, 0⟩ = true from (Cv.same_iff _ _).2 rfl]
  rintro e w10 ⟨rfl, hb⟩
  -- all over a step hb
  have L := Lib.hid (L.out.below hb)
  try (have HB := Lib.hid (HB.out.below hb HB.out.lt); have HI := Lib.hid (HI.out.ext hb))
  try (have CB := Lib.hid (CB.out.below hb CB.out.lt); have CI := Lib.hid (CI.out.ext hb); have CJ := Lib.hid (CJ.out.ext hb))
  try (have XB := Lib.hid (XB.out.below hb XB.out.lt); have XI := Lib.hid (XI.out.ext hb))
  clear hb
  clear I1 HB1
  obtain ⟨f0, f1, f2, g0, g1, g2, hlf, hlg⟩ := L.out.cells
  try (obtain ⟨⟨h0, h1, h2⟩, _, hlh⟩ := HB.out.c3)
  try (obtain ⟨⟨c0, c1, c2, c3⟩, _, hlc⟩ := CB.out.c4)
  try (obtain ⟨⟨x0, x1, x2⟩, _, hlx⟩ := XB.out.c3)
  go_wp2_with fail
  refine (dcchk_any (some ⟨w.heap.size, 0, none⟩) (some ⟨w.heap.size, 0, none⟩) A6 B6 3 3 1 m6 3 3 c6 d6 1 2 1 2 [0, 10, 12] [0, 10, 12] dxH cs _ L.out.ia L.out.ia CI.out CJ.out (by omega) (by omega) (by omega) (by omega)).mono ?_
  rintro e w11 ⟨⟨z, hz, rfl⟩, hb⟩
  obtain rfl : z = false := by
    cases z
    · rfl
    · exact absurd (hz.1 rfl) dx_not
  clear hz
  clear f0 f1 f2 g0 g1 g2 hlf hlg
  try clear h0 h1 h2 hlh
  try clear c0 c1 c2 c3 hlc
  try clear x0 x1 x2 hlx
  -- all over a step hb
  have L := Lib.hid (L.out.below hb)
  try (have HB := Lib.hid (HB.out.below hb HB.out.lt); have HI := Lib.hid (HI.out.ext hb))
  try (have CB := Lib.hid (CB.out.below hb CB.out.lt); have CI := Lib.hid (CI.out.ext hb); have CJ := Lib.hid (CJ.out.ext hb))
  try (have XB := Lib.hid (XB.out.below hb XB.out.lt); have XI := Lib.hid (XI.out.ext hb))
  clear hb
  have bw := L.out.bw
  go_wp2_with fail
  go_ret
  exact ⟨rfl, bw⟩
end Go.Proofs.Ythgfmaijoigckaa
