/- The examples of the chapter on deviations: netcalculuslaw10.awake returns true. -/
import Derived.Test.YtbkimphcmmmaiaaDev2
import Derived.Test.YtbkimphcmmmaiaaEx10
import Derived.Test.YtbkimphcmmmaiaaSto
import Derived.Test.YtbkimphcmmmaiaaRefSame
namespace Go.Proofs.Ytbkimphcmmmaiaa
open Go.RowKit
set_option linter.unusedVariables false

/-- where the result is known -/
theorem RetDv.of {S : Bool → Nat → Nat → Prop} {f g : Cv} {w w' : World} {e : Ending} {i : Bool} {v A : Nat} (hf : f.Ok) (hg : g.Ok) (hp : ∃ a b, NF f.at a ∧ NF g.at b ∧ comm a.per.toNat b.per.toNat ≤ 120)
    (hS : ∀ {i j : Bool} {v A w B : Nat}, S i v A → S j w B → i = j ∧ v = w ∧ A = B) (h0 : S i v A) (h : RetDv S f g w e w') : e = .returned (.tuple #[.agg #[.bool i, .int .i64 v, .int .i64 A], .int .i64 0]) ∧ Below w.heap.size w w' := by
  obtain ⟨j, v', A', er, hE, rfl, hb⟩ := h
  obtain ⟨rfl, rfl, rfl, rfl⟩ := DevE.unique (fun _ _ => hS) hE (.inr ⟨hf, hg, hp, rfl, v, A, rfl, rfl, h0⟩)
  exact ⟨rfl, hb⟩
set_option maxHeartbeats 2000000 in
set_option maxRecDepth 100000 in
theorem awake10_any (w : World) : Calls Try.prog 56 #[] w fun e w' => e = .returned (.bool true) ∧ Below w.heap.size w w' := by
  have L := Lib.hid (show LS w ((((w.alloc (.cells ([0, 10, 12].map (Value.int .i64)).toArray 3)).alloc (.cells ([0, 0, 0, 0].map (Value.int .i64)).toArray 3)).alloc (.cells #[.slice (some ⟨w.heap.size, 0, none⟩) 3 3, .int .i64 1, .int .i64 2] 31)).alloc (.cells #[.slice (some ⟨w.heap.size + 1, 0, none⟩) 4 4, .int .i64 1, .int .i64 4] 31)) (w.heap.size + 1 + 1) (some ⟨w.heap.size, 0, none⟩) 3 3 exA (w.heap.size + 1 + 1 + 1) (some ⟨w.heap.size + 1, 0, none⟩) 4 4 exB from by
    have i1 := (((ints_litC w [0, 10, 12]).alloc' (.cells ([0, 0, 0, 0].map (Value.int .i64)).toArray 3)).alloc' (.cells #[.slice (some ⟨w.heap.size, 0, none⟩) 3 3, .int .i64 1, .int .i64 2] 31)).alloc' (.cells #[.slice (some ⟨w.heap.size + 1, 0, none⟩) 4 4, .int .i64 1, .int .i64 4] 31)
    have i2 := ((ints_litC (w.alloc (.cells ([0, 10, 12].map (Value.int .i64)).toArray 3)) [0, 0, 0, 0]).alloc' (.cells #[.slice (some ⟨w.heap.size, 0, none⟩) 3 3, .int .i64 1, .int .i64 2] 31)).alloc' (.cells #[.slice (some ⟨w.heap.size + 1, 0, none⟩) 4 4, .int .i64 1, .int .i64 4] 31)
    have b1 := (Blk.new ((w.alloc (.cells ([0, 10, 12].map (Value.int .i64)).toArray 3)).alloc (.cells ([0, 0, 0, 0].map (Value.int .i64)).toArray 3)) 31 #[.slice (some ⟨w.heap.size, 0, none⟩) 3 3, .int .i64 1, .int .i64 2]).alloc (.cells #[.slice (some ⟨w.heap.size + 1, 0, none⟩) 4 4, .int .i64 1, .int .i64 4] 31)
    have b2 := Blk.new (((w.alloc (.cells ([0, 10, 12].map (Value.int .i64)).toArray 3)).alloc (.cells ([0, 0, 0, 0].map (Value.int .i64)).toArray 3)).alloc (.cells #[.slice (some ⟨w.heap.size, 0, none⟩) 3 3, .int .i64 1, .int .i64 2] 31)) 31 #[.slice (some ⟨w.heap.size + 1, 0, none⟩) 4 4, .int .i64 1, .int .i64 4]
    simp only [World.size_alloc] at i2 b1 b2
    exact ⟨b1, b2, i1, by (simp only [World.size_alloc]; exact i2), bthen (bthen (bthen (balloc _ _) (balloc _ _)) (balloc _ _)) (balloc _ _)⟩)
  go_enter Try.func56, Try.ntmps56
  go_wp2_with fail
  have qz := L.out.cells
  obtain ⟨f0, f1, f2, g0, g1, g2, hlf, hlg⟩ := qz
  refine (delay_any (some ⟨w.heap.size, 0, none⟩) (some ⟨w.heap.size + 1, 0, none⟩) 3 4 3 4 1 2 1 4 [0, 10, 12] [0, 0, 0, 0] _ L.out.ia L.out.ib (by omega) (by omega)).mono ?_
  intro e w1 hr
  obtain ⟨rfl, hb⟩ := RetDv.of exA_fin.1 exB_fin.1 ex_pair (fun h k => h.unique exB_fin.1 k) ex_delay hr
  have L := Lib.hid (L.out.below hb)
  clear hr f0 f1 f2 g0 g1 g2 hlf hlg
  have qz := L.out.cells
  obtain ⟨f0, f1, f2, g0, g1, g2, hlf, hlg⟩ := qz
  clear hb
  have L := Lib.hid (L.out.below (balloc _ (.cells #[.bool false, .int .i64 5, .int .i64 1] 76)))
  have D1 := Lib.hid (Blk.new w1 76 #[.bool false, .int .i64 5, .int .i64 1])
  go_wp2_with fail
  refine (backlog_any (some ⟨w.heap.size, 0, none⟩) (some ⟨w.heap.size + 1, 0, none⟩) 3 4 3 4 1 2 1 4 [0, 10, 12] [0, 0, 0, 0] _ L.out.ia L.out.ib (by omega) (by omega)).mono ?_
  intro e w2 hr
  obtain ⟨rfl, hb⟩ := RetDv.of exA_fin.1 exB_fin.1 ex_pair (fun h k => h.unique k) (ex_ahead 0 (by omega)) hr
  have L := Lib.hid (L.out.below hb)
  clear hr f0 f1 f2 g0 g1 g2 hlf hlg
  have qz := L.out.cells
  obtain ⟨f0, f1, f2, g0, g1, g2, hlf, hlg⟩ := qz
  have D1 := Lib.hid ((D1.out.below hb D1.out.lt).alloc (.cells #[.bool false, .int .i64 14, .int .i64 3] 76))
  clear hb
  have L := Lib.hid (L.out.below (balloc _ (.cells #[.bool false, .int .i64 14, .int .i64 3] 76)))
  have D2 := Lib.hid (Blk.new w2 76 #[.bool false, .int .i64 14, .int .i64 3])
  go_wp2_with fail
  refine (peak_any (some ⟨w.heap.size, 0, none⟩) (some ⟨w.heap.size + 1, 0, none⟩) 3 4 3 4 1 2 1 4 [0, 10, 12] [0, 0, 0, 0] _ L.out.ia L.out.ib (by omega) (by omega)).mono ?_
  intro e w3 hr
  obtain ⟨rfl, hb⟩ := RetDv.of exA_fin.1 exB_fin.1 ex_pair (fun h k => h.unique k) (ex_ahead 1 (by omega)) hr
  have L := Lib.hid (L.out.below hb)
  clear hr f0 f1 f2 g0 g1 g2 hlf hlg
  have qz := L.out.cells
  obtain ⟨f0, f1, f2, g0, g1, g2, hlf, hlg⟩ := qz
  have D1 := Lib.hid ((D1.out.below hb D1.out.lt).alloc (.cells #[.bool false, .int .i64 16, .int .i64 3] 76))
  have D2 := Lib.hid ((D2.out.below hb D2.out.lt).alloc (.cells #[.bool false, .int .i64 16, .int .i64 3] 76))
  clear hb
  have L := Lib.hid (L.out.below (balloc _ (.cells #[.bool false, .int .i64 16, .int .i64 3] 76)))
  have D3 := Lib.hid (Blk.new w3 76 #[.bool false, .int .i64 16, .int .i64 3])
  go_wp2_with fail
  refine (delay_any (some ⟨w.heap.size + 1, 0, none⟩) (some ⟨w.heap.size, 0, none⟩) 4 3 4 3 1 4 1 2 [0, 0, 0, 0] [0, 10, 12] _ L.out.ib L.out.ia (by omega) (by omega)).mono ?_
  intro e w4 hr
  obtain ⟨rfl, hb⟩ := RetDv.of exB_fin.1 exA_fin.1 ex_pair2 (fun h k => h.unique exA_fin.1 k) ex_loose hr
  have L := Lib.hid (L.out.below hb)
  clear hr f0 f1 f2 g0 g1 g2 hlf hlg
  have qz := L.out.cells
  obtain ⟨f0, f1, f2, g0, g1, g2, hlf, hlg⟩ := qz
  have D1 := Lib.hid ((D1.out.below hb D1.out.lt).alloc (.cells #[.bool true, .int .i64 0, .int .i64 0] 76))
  have D2 := Lib.hid ((D2.out.below hb D2.out.lt).alloc (.cells #[.bool true, .int .i64 0, .int .i64 0] 76))
  have D3 := Lib.hid ((D3.out.below hb D3.out.lt).alloc (.cells #[.bool true, .int .i64 0, .int .i64 0] 76))
  clear hb
  have L := Lib.hid (L.out.below (balloc _ (.cells #[.bool true, .int .i64 0, .int .i64 0] 76)))
  have D4 := Lib.hid (Blk.new w4 76 #[.bool true, .int .i64 0, .int .i64 0])
  go_wp2_with fail
  refine (reachTop_any (some ⟨w.heap.size + 1, 0, none⟩) 4 4 1 4 10 [0, 0, 0, 0] _ L.out.ib (by omega)).mono ?_
  intro e w5 hr
  obtain ⟨t, ok, er, hR, rfl, hb⟩ := hr
  obtain ⟨rfl, rfl, rfl⟩ := hR.unique (f := exB) (.inr (.inr ⟨exB_fin.1, .inr ⟨by omega, by omega⟩, ex_reach, rfl⟩))
  have bw := (L.out.below hb).bw
  have D1 := Lib.hid (D1.out.below hb D1.out.lt); have D2 := Lib.hid (D2.out.below hb D2.out.lt); have D3 := Lib.hid (D3.out.below hb D3.out.lt); have D4 := Lib.hid (D4.out.below hb D4.out.lt)
  clear hb L f0 f1 f2 g0 g1 g2 hlf hlg hR
  have a0 := D1.out.cell 0; have a1 := D1.out.cell 1; have a2 := D1.out.cell 2
  have b0 := D2.out.cell 0; have b1 := D2.out.cell 1; have b2 := D2.out.cell 2
  have c0 := D3.out.cell 0; have c1 := D3.out.cell 1; have c2 := D3.out.cell 2
  have d0 := D4.out.cell 0
  simp at a0 a1 a2 b0 b1 b2 c0 c1 c2 d0
  go_wp2_with fail
  go_ret
  exact ⟨rfl, bw⟩
end Go.Proofs.Ytbkimphcmmmaiaa
