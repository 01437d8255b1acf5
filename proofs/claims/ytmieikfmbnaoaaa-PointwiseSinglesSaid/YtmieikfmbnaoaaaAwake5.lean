/- The examples of the chapter on pointwise operations: netcalculuslaw05.awake returns true. -/
import Derived.Test.YtmieikfmbnaoaaaPwChooseX
import Derived.Test.YtmieikfmbnaoaaaPwEx
import Derived.Test.YtmieikfmbnaoaaaEnvL
import Derived.Test.YtmieikfmbnaoaaaSto
import Derived.Test.YtmieikfmbnaoaaaRefSame
namespace Go.Proofs.Ytmieikfmbnaoaaa
open Go.RowKit
set_option linter.unusedVariables false

set_option maxHeartbeats 2000000 in
set_option maxRecDepth 100000 in
theorem awake5_any (w : World) : Calls Try.prog 46 #[] w fun e w' => e = .returned (.bool true) ∧ Below w.heap.size w w' := by
  have L := Lib.hid (show LS w ((((w.alloc (.cells ([0].map (Value.int .i64)).toArray 3)).alloc (.cells ([0, 10, 12].map (Value.int .i64)).toArray 3)).alloc (.cells #[.slice (some ⟨w.heap.size, 0, none⟩) 1 1, .int .i64 1, .int .i64 3] 41)).alloc (.cells #[.slice (some ⟨w.heap.size + 1, 0, none⟩) 3 3, .int .i64 1, .int .i64 2] 41)) (w.heap.size + 1 + 1) (some ⟨w.heap.size, 0, none⟩) 1 1 exL (w.heap.size + 1 + 1 + 1) (some ⟨w.heap.size + 1, 0, none⟩) 3 3 exA from by
    have i1 := (((ints_litC w [0]).alloc' (.cells ([0, 10, 12].map (Value.int .i64)).toArray 3)).alloc' (.cells #[.slice (some ⟨w.heap.size, 0, none⟩) 1 1, .int .i64 1, .int .i64 3] 41)).alloc' (.cells #[.slice (some ⟨w.heap.size + 1, 0, none⟩) 3 3, .int .i64 1, .int .i64 2] 41)
    have i2 := ((ints_litC (w.alloc (.cells ([0].map (Value.int .i64)).toArray 3)) [0, 10, 12]).alloc' (.cells #[.slice (some ⟨w.heap.size, 0, none⟩) 1 1, .int .i64 1, .int .i64 3] 41)).alloc' (.cells #[.slice (some ⟨w.heap.size + 1, 0, none⟩) 3 3, .int .i64 1, .int .i64 2] 41)
    have b1 := (Blk.new ((w.alloc (.cells ([0].map (Value.int .i64)).toArray 3)).alloc (.cells ([0, 10, 12].map (Value.int .i64)).toArray 3)) 41 #[.slice (some ⟨w.heap.size, 0, none⟩) 1 1, .int .i64 1, .int .i64 3]).alloc (.cells #[.slice (some ⟨w.heap.size + 1, 0, none⟩) 3 3, .int .i64 1, .int .i64 2] 41)
    have b2 := Blk.new (((w.alloc (.cells ([0].map (Value.int .i64)).toArray 3)).alloc (.cells ([0, 10, 12].map (Value.int .i64)).toArray 3)).alloc (.cells #[.slice (some ⟨w.heap.size, 0, none⟩) 1 1, .int .i64 1, .int .i64 3] 41)) 41 #[.slice (some ⟨w.heap.size + 1, 0, none⟩) 3 3, .int .i64 1, .int .i64 2]
    simp only [World.size_alloc] at i2 b1 b2
    exact ⟨b1, b2, i1, by (simp only [World.size_alloc]; exact i2), bthen (bthen (bthen (balloc _ _) (balloc _ _)) (balloc _ _)) (balloc _ _)⟩)
  go_enter Try.func46, Try.ntmps46
  go_wp2_with fail
  refine (pmin_any (some ⟨w.heap.size, 0, none⟩) (some ⟨w.heap.size + 1, 0, none⟩) 1 3 1 3 1 3 1 2 [0] [0, 10, 12] _ L.out.ia L.out.ib (by omega) (by omega)).mono ?_
  rintro e w1 ⟨r, er, hS, A, n, c, rfl, hI, hA, hb⟩
  obtain ⟨rfl, rfl⟩ := (ExtS.made exL_fin.1 exA_fin.1 (short_one exL_fin.1 exA_fin.1 rfl rfl) hS).is exM_nf exM_lim
  have L := Lib.hid (L.out.below hb)
  have FM := Lib.hid (Bz.mk (L := 0) (c := c) (f := exM) (Blk.new w1 41 #[.slice A n c, .int .i64 exM.per, .int .i64 exM.inc]) (hI.alloc' _) (fun b off s e => Nat.zero_le _))
  have L := Lib.hid (L.out.below (balloc _ (.cells #[.slice A n c, .int .i64 exM.per, .int .i64 exM.inc] 41)))
  clear hS hI hA hb
  go_upto_region 3 with fail
  generalize hwe : w1.alloc (.cells #[.slice A n c, .int .i64 exM.per, .int .i64 exM.inc] 41) = we at *
  clear hwe
  generalize w1.heap.size = M at *
  obtain ⟨f0, f1, f2, g0, g1, g2, hlf, hlg⟩ := L.out.cells
  go_wp2_with fail
  refine (plower_any (some ⟨w.heap.size, 0, none⟩) 1 1 1 3 4 [0] _ L.out.ia (by omega)).mono ?_
  rintro e w2 ⟨r, er, hS, A2, n2, c2, rfl, hI, hA, hb⟩
  obtain ⟨rfl, rfl⟩ := (LowerS.made exL_fin.1 (by omega) (by omega) hS).is exW_nf exW_lim
  clear f0 f1 f2 g0 g1 g2 hlf hlg
  have BW := Lib.hid (bthen (bthen L.out.bw hb) (balloc _ (.cells #[.slice A2 n2 c2, .int .i64 exW.per, .int .i64 exW.inc] 41)))
  have FW := Lib.hid (Bz.mk (L := 0) (c := c2) (f := exW) (Blk.new w2 41 #[.slice A2 n2 c2, .int .i64 exW.per, .int .i64 exW.inc]) (hI.alloc' _) (fun b off s e => Nat.zero_le _))
  have FM := Lib.hid ((FM.out.below hb).alloc (.cells #[.slice A2 n2 c2, .int .i64 exW.per, .int .i64 exW.inc] 41))
  clear hS hI hA hb L
  go_upto_region 4 with fail
  generalize hwe : w2.alloc (.cells #[.slice A2 n2 c2, .int .i64 exW.per, .int .i64 exW.inc] 41) = wf at *
  clear hwe
  generalize w2.heap.size = M2 at *
  obtain ⟨a0, a1, a2, hla⟩ := FM.out.cells
  go_wp2_with fail
  refine (cval_any A n c exM.per exM.inc 8 exM.vals _ FM.out.ints exM_ok (by omega) (by omega)).mono ?_
  rw [show Cv.at ⟨exM.vals, exM.per, exM.inc⟩ ((8 : Int)).toNat = 24 from exM_8]
  rintro e w3 ⟨rfl, hb⟩
  have FM := Lib.hid (FM.out.below hb); have FW := Lib.hid (FW.out.below hb); have BW := Lib.hid (bthen BW.out hb)
  clear hb a0 a1 a2 hla
  obtain ⟨a0, a1, a2, hla⟩ := FM.out.cells
  go_wp2_with fail
  refine (cval_any A n c exM.per exM.inc 20 exM.vals _ FM.out.ints exM_ok (by omega) (by omega)).mono ?_
  rw [show Cv.at ⟨exM.vals, exM.per, exM.inc⟩ ((20 : Int)).toNat = 48 from exM_20]
  rintro e w4 ⟨rfl, hb⟩
  have FW := Lib.hid (FW.out.below hb); have BW := Lib.hid (bthen BW.out hb)
  clear hb a0 a1 a2 hla FM
  obtain ⟨b0, b1, b2, hlb⟩ := FW.out.cells
  obtain rfl : 3 = n2 := FW.out.ints.1
  have J := Lib.hid (ints_litC w4 [0, 0, 2])
  have FI := Lib.hid (FW.out.ints.alloc' (.cells ([0, 0, 2].map (Value.int .i64)).toArray 3))
  have BW := Lib.hid (bthen BW.out (balloc _ (.cells ([0, 0, 2].map (Value.int .i64)).toArray 3)))
  go_wp2_with fail
  refine (refSame_any A2 (some ⟨w4.heap.size, 0, none⟩) 3 3 c2 3 exW.per 1 exW.inc 3 exW.vals [0, 0, 2] _ FI.out J.out (by omega) (by omega)).mono ?_
  rw [show Cv.same ⟨exW.vals, exW.per, exW.inc⟩ ⟨[0, 0, 2], 1, 3⟩ = true from rfl]
  rintro e w5 ⟨rfl, hb⟩
  have bw := bthen BW.out hb
  go_wp2_with fail
  go_ret
  exact ⟨rfl, bw⟩
end Go.Proofs.Ytmieikfmbnaoaaa
