/- The reader's Fraction. -/
import Derived.Test.YthdibkmjoiipgaaSrc
import Derived.Test.YthdibkmjoiipgaaFrLaw
import Derived.Test.YthdibkmjoiipgaaRefSame
import Derived.BigRegion
import Derived.Deep.LoopGhost
import Derived.Deep.DeepCutAuto
namespace Go.Proofs.Ythdibkmjoiipgaa
open Go.RowKit
set_option linter.unusedVariables false

/-- a fraction was drawn -/
def RetFr (S : Int → Int → Prop) (p : Nat) (w : World) (e : Ending) (w' : World) : Prop :=
  ∃ x y : Int, S x y ∧ e = .returned (.agg #[.int .i64 x, .int .i64 y]) ∧ SrcAt w' p ∧ Kept w.heap.size p w w'
/-- a good fraction with a small denominator -/
def FrS (top most : Int) (x y : Int) : Prop := GOk x y ∧ y ≤ most ∧ x ≤ top * most
theorem gcd_next (x y : Nat) : Nat.gcd y (x % y) = Nat.gcd x y := by rw [Nat.gcd_comm, ← Nat.gcd_rec, Nat.gcd_comm]
set_option maxHeartbeats 1000000 in
theorem srcFr_any (p : Nat) (top most : Int) (w : World) (hS : SrcAt w p) (ht0 : 0 ≤ top) (ht1 : top ≤ 1000) (hm0 : 1 ≤ most) (hm1 : most ≤ 1000) :
    Calls Try.prog 16 #[.pointer (some ⟨p, 0, none⟩), .int .i64 top, .int .i64 most] w (RetFr (FrS top most) p w) := by
  have hp0 : 0 ≤ top * most := Int.mul_nonneg ht0 (by omega)
  have hp1 : top * most ≤ 1000 * 1000 := Int.mul_le_mul ht1 hm1 (by omega) (by omega)
  have hpl := hS.lt
  have ZB := Lib.hid (Blk.new w 23 #[.int .i64 0, .int .i64 0])
  have SS := Lib.hid (hS.alloc (.cells #[.int .i64 0, .int .i64 0] 23))
  have KK := Lib.hid (Kept.of (p := p) (balloc w (.cells #[.int .i64 0, .int .i64 0] 23)))
  clear hS
  go_enter Try.func16, Try.ntmps16
  go_wp2_with fail
  refine (n_any p (top * most + 1) _ (by exact SS.out) (by omega) (by omega)).mono ?_
  rintro e w2 ⟨u, hu0, hu1, rfl, hS2, hk2⟩
  replace ZB := Lib.hid (ZB.out.kept (by omega) hk2); replace SS := Lib.hid hS2; replace KK := Lib.hid (kthen KK.out hk2)
  clear hS2 hk2
  go_wp2_with fail
  refine (n_any p most _ (by exact SS.out) (by omega) (by omega)).mono ?_
  rintro e w3 ⟨v, hv0, hv1, rfl, hS2, hk2⟩
  replace ZB := Lib.hid (ZB.out.kept (by omega) hk2); replace SS := Lib.hid hS2; replace KK := Lib.hid (kthen KK.out hk2)
  clear hS2 hk2
  obtain ⟨N, rfl⟩ := Int.eq_ofNat_of_zero_le hu0
  obtain ⟨D, hD⟩ : ∃ D : Nat, 1 + v = (D : Int) := ⟨(1 + v).toNat, by omega⟩
  have hD1 : 1 ≤ D := by omega
  have hDm : (D : Int) ≤ most := by omega
  have hNm : (N : Int) ≤ top * most := by omega
  go_wp2_with fail
  clear hD hv0 hv1 hu1
  go_loopg [9, 10] D (fun gg s9 s10 wx => ∃ x y : Nat, s9 = .int .i64 x ∧ s10 = .int .i64 y ∧ y = gg ∧ (x : Int) ≤ 1000000 ∧ (y : Int) ≤ 1000000 ∧ Hid (Nat.gcd x y = Nat.gcd N D) ∧ SrcAt wx p ∧ Kept w.heap.size p w wx ∧ Blk wx w.heap.size 23 #[.int .i64 0, .int .i64 0])
  case atStart => exact ⟨N, D, rfl, rfl, rfl, by omega, by omega, Lib.hid rfl, SS.out, KK.out, ZB.out⟩
  case round =>
    clear SS KK ZB
    obtain ⟨x, y, rfl, rfl, hyg, hx, hy, hgcd, hS, hK, hZ⟩ := hrel
    have HY := Lib.hid hyg; have HG := Lib.hid hgcd; have SS := Lib.hid hS; have KK := Lib.hid hK; have ZB := Lib.hid hZ
    clear hyg hgcd hS hK hZ
    by_cases hy0 : y = 0
    · have hb1 : ((y : Int) != 0) = false := by simpa using hy0
      have hxg : x = Nat.gcd N D := by rw [← HG.out.out, hy0, Nat.gcd_zero_right]
      have hx1 : 1 ≤ x := by rw [hxg]; exact Nat.gcd_pos_of_pos_right _ (by omega)
      obtain ⟨X, hX⟩ : ∃ X, X = N / x := ⟨_, rfl⟩
      obtain ⟨Y, hY⟩ : ∃ Y, Y = D / x := ⟨_, rfl⟩
      have hXN : X ≤ N := by rw [hX]; exact Nat.div_le_self _ _
      have hYD : Y ≤ D := by rw [hY]; exact Nat.div_le_self _ _
      have hY1 : 1 ≤ Y := by rw [hY, hxg]; exact Nat.div_pos (Nat.le_of_dvd (by omega) (Nat.gcd_dvd_right _ _)) (Nat.gcd_pos_of_pos_right _ (by omega))
      have hgg : Nat.gcd X Y = 1 := by rw [hX, hY, hxg]; exact gcd_self_div hD1
      have F := Lib.hid (show FrS top most X Y from ⟨⟨⟨by omega, by omega, by omega, by omega, by simpa using hgg⟩, by omega⟩, by omega, by omega⟩)
      have e1 : ((N : Int)).tdiv (x : Int) = (X : Int) := by rw [hX]; rfl
      have e2 : ((D : Int)).tdiv (x : Int) = (Y : Int) := by rw [hY]; rfl
      have e3 : ((N : Int)) / (x : Int) = (X : Int) := by rw [hX]; rfl
      have e4 : ((D : Int)) / (x : Int) = (Y : Int) := by rw [hY]; rfl
      have e5 : IntKind.i64.wrap (X : Int) = (X : Int) := IntWalk.i64_in _ (by omega)
      have e6 : IntKind.i64.wrap (Y : Int) = (Y : Int) := IntWalk.i64_in _ (by omega)
      have hxn : (x : Int) ≠ 0 := by omega
      have hxn2 : x ≠ 0 := by omega
      clear hX hY hgg HG hy0 hxg
      obtain ⟨z0, z1⟩ : _ ∧ _ := ⟨ZB.out.cell 0, ZB.out.cell 1⟩
      simp at z0 z1
      have v0 := ZB.out.frozen 0; have v1 := ZB.out.frozen 1
      have hlz := ZB.out.lt
      go_upto_region 5 with fail
      go_region
      clear e1 e2 e3 e4 e5 e6
      have rb := Blk.drew ((ZB.out.set_ 0 (.int .i64 X)).set_ 1 (.int .i64 Y))
      have hs := SrcAt.drew ((SS.out.far (a := ⟨w.heap.size, 0, none⟩) (by show p < w.heap.size; omega) (.int .i64 X)).far (a := ⟨w.heap.size, 1, none⟩) (by show p < w.heap.size; omega) (.int .i64 Y))
      have hk := (show Kept w.heap.size p w _ from ⟨KK.out.os, KK.out.tape, KK.out.output, KK.out.size, KK.out.block⟩ : Kept w.heap.size p w wr)
      go_wp2_with fail
      exact bodyPost_ret (v := .agg #[.int .i64 X, .int .i64 Y]) (by simp [results, Try.results16, go_sem, rb.cell]) rfl ⟨_, _, F.out, rfl, hs, by
        have h1 := (hk.setCell (a := ⟨w.heap.size, 0, none⟩) (.inr (Nat.le_refl _)) (.int .i64 X)).setCell (a := ⟨w.heap.size, 1, none⟩) (.inr (Nat.le_refl _)) (.int .i64 Y)
        exact ⟨h1.os, h1.tape, h1.output, h1.size, h1.block⟩⟩
    · have hb1 : ((y : Int) != 0) = true := by simpa using hy0
      have F := Lib.hid (show Nat.gcd y (x % y) = Nat.gcd N D by rw [gcd_next]; exact HG.out.out)
      have hy0' : (y : Int) ≠ 0 := by omega
      clear HG
      go_wp2_with fail
      go_quiet (fail)
      go_wp2
      go_roundg (x % y)
      case measure => rw [← HY.out]; exact Nat.mod_lt _ (by omega)
      case rel => exact ⟨y, x % y, by go_num, by go_num, rfl, hy, by have := Nat.mod_lt x (show y > 0 by omega); omega, F, SS.out.drewN _, kdrewN KK.out, ZB.out.drewN _⟩
end Go.Proofs.Ythdibkmjoiipgaa
