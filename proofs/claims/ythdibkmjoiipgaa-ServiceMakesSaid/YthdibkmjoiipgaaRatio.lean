/- netcalculuslaw12.ratio: a fraction that is not always good. -/
import Derived.Test.YthdibkmjoiipgaaSrcFr
namespace Go.Proofs.Ythdibkmjoiipgaa
open Go.RowKit
set_option linter.unusedVariables false
set_option maxHeartbeats 1000000 in
theorem ratio12_any (p : Nat) (w : World) (hS : SrcAt w p) :
    Calls Try.prog 15 #[.pointer (some ⟨p, 0, none⟩)] w (RetFr (fun _ _ => True) p w) := by
  have hpl := hS.lt
  have ZB := Lib.hid (Blk.new w 23 #[.int .i64 0, .int .i64 0])
  have SS := Lib.hid (hS.alloc (.cells #[.int .i64 0, .int .i64 0] 23))
  have KK := Lib.hid (Kept.of (p := p) (balloc w (.cells #[.int .i64 0, .int .i64 0] 23)))
  clear hS
  go_enter Try.func15, Try.ntmps15
  go_upto_region 1 with fail
  generalize hwe : w.alloc (.cells #[.int .i64 0, .int .i64 0] 23) = we at *
  clear hwe
  go_wp2_with fail
  refine (n_any p 7 _ (by exact SS.out) (by omega) (by omega)).mono ?_
  rintro e w1 ⟨z, hz0, hz1, rfl, hS, hk⟩
  have hSz := ZB.out.lt
  replace ZB := Lib.hid (ZB.out.kept (by omega) hk)
  replace KK := Lib.hid (kthen KK.out hk)
  replace SS := Lib.hid hS
  clear hS hk hSz
  by_cases h0 : z = 0
  case pos =>
    subst h0
    go_wp2_with fail
    refine (srcRatio_any p _ (by exact SS.out)).mono ?_
    rintro e w2 ⟨x, y, _, rfl, hS, hk⟩
    have hSz := ZB.out.lt
    replace ZB := Lib.hid (ZB.out.kept (by omega) hk)
    replace KK := Lib.hid (kthen KK.out hk)
    replace SS := Lib.hid hS
    clear hS hk hSz
    -- the fraction x / y is stored and returned; {0} shows nothing
    have hlz := ZB.out.lt
    obtain ⟨z0, z1⟩ : _ ∧ _ := ⟨ZB.out.cell 0, ZB.out.cell 1⟩
    simp at z0 z1
    have v0 := ZB.out.frozen 0; have v1 := ZB.out.frozen 1
    go_wp2_with fail
    have rb := (ZB.out.set_ 0 (.int .i64 x)).set_ 1 (.int .i64 y)
    exact bodyPost_ret (v := .agg #[.int .i64 x, .int .i64 y]) (by simp [results, Try.results15, go_sem, rb.cell]) rfl ⟨x, y, trivial, rfl, (SS.out.far (a := ⟨w.heap.size, 0, none⟩) hpl _).far (a := ⟨w.heap.size, 1, none⟩) hpl _, (KK.out.setCell (.inr (Nat.le_refl _)) _).setCell (.inr (Nat.le_refl _)) _⟩
  case neg =>
    have d0 : (z == 0) = false := by simpa using h0
    clear h0
    have hps := SS.out.lt
    have IL := Lib.hid (ints_litC w1 [1, 3, 7, 60, 120, 121])
    have hb := balloc w1 (.cells ([1, 3, 7, 60, 120, 121].map (Value.int .i64)).toArray 3)
    replace ZB := Lib.hid (ZB.out.below hb ZB.out.lt); replace SS := Lib.hid (SS.out.ext hb); replace KK := Lib.hid (kthen KK.out (Kept.of hb))
    clear hb
    simp only [List.map_cons, List.map_nil] at IL ZB SS KK
    go_wp2_with fail
    refine (pick_any p (some ⟨w1.heap.size, 0, none⟩) 6 6 [1, 3, 7, 60, 120, 121] _ (by exact SS.out) (by exact IL.out) (fun b off s e => by cases e; omega) (by omega) (by omega)).mono ?_
    rintro e w2 ⟨⟨j, hj, rfl⟩, hS, hk⟩
    have hSz := ZB.out.lt
    replace ZB := Lib.hid (ZB.out.kept (by omega) hk)
    replace KK := Lib.hid (kthen KK.out hk)
    replace SS := Lib.hid hS
    clear hS hk hSz
    obtain ⟨m, hm⟩ : ∃ m, m = nth [1, 3, 7, 60, 120, 121] j := ⟨_, rfl⟩
    have hmb : 1 ≤ m ∧ m ≤ 121 := by
      rw [hm]
      match j, hj with
      | 0, _ => decide
      | 1, _ => decide
      | 2, _ => decide
      | 3, _ => decide
      | 4, _ => decide
      | 5, _ => decide
    rw [← hm]
    clear hm hj
    go_wp2_with fail
    refine (srcFr_any p 12 m _ (by exact SS.out) (by omega) (by omega) (by omega) (by omega)).mono ?_
    rintro e w3 ⟨x, y, _, rfl, hS, hk⟩
    have hSz := ZB.out.lt
    replace ZB := Lib.hid (ZB.out.kept (by omega) hk)
    replace KK := Lib.hid (kthen KK.out hk)
    replace SS := Lib.hid hS
    clear hS hk hSz
    -- the fraction x / y is stored and returned; {0} shows nothing
    have hlz := ZB.out.lt
    obtain ⟨z0, z1⟩ : _ ∧ _ := ⟨ZB.out.cell 0, ZB.out.cell 1⟩
    simp at z0 z1
    have v0 := ZB.out.frozen 0; have v1 := ZB.out.frozen 1
    go_wp2_with fail
    have rb := (ZB.out.set_ 0 (.int .i64 x)).set_ 1 (.int .i64 y)
    exact bodyPost_ret (v := .agg #[.int .i64 x, .int .i64 y]) (by simp [results, Try.results15, go_sem, rb.cell]) rfl ⟨x, y, trivial, rfl, (SS.out.far (a := ⟨w.heap.size, 0, none⟩) hpl _).far (a := ⟨w.heap.size, 1, none⟩) hpl _, (KK.out.setCell (.inr (Nat.le_refl _)) _).setCell (.inr (Nat.le_refl _)) _⟩
end Go.Proofs.Ythdibkmjoiipgaa
