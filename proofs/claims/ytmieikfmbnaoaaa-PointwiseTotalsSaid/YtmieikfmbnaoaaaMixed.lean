/- keep.Mixed: numbers in some order. -/
import Derived.Test.YtmieikfmbnaoaaaSrc
import Derived.Deep.LoopGhost
import Derived.BigRegion
import Derived.Deep.DeepCutAuto
namespace Go.Proofs.Ytmieikfmbnaoaaa
open Go.RowKit
set_option linter.unusedVariables false

/-- the numbers 0 to n - 1 -/
def upto (n : Nat) : List Int := (List.range n).map Int.ofNat
theorem upto_len (n : Nat) : (upto n).length = n := by simp [upto]
theorem upto_nth (n k : Nat) (hk : k < n) : nth (upto n) k = k := by simp [upto, nth, hk]
theorem nth_get (zs : List Int) (k : Nat) (h : k < zs.length) : nth zs k = zs[k] := by simp [nth, h]
theorem swap_perm {zs : List Int} {i j : Nat} (hi : i < zs.length) (hj : j < zs.length) : ((zs.set i (nth zs j)).set j (nth zs i)).Perm zs := by
  rw [nth_get zs j hj, nth_get zs i hi]
  exact List.set_set_perm hi hj

set_option maxHeartbeats 2000000 in
set_option maxRecDepth 100000 in
theorem mixed_any (p n : Nat) (w : World) (hS : SrcAt w p) (h1 : 1 ≤ n) (h2 : n ≤ 100) :
    Calls Try.prog 59 #[.pointer (some ⟨p, 0, none⟩), .int .i64 n] w fun e w' => ∃ zs : List Int, e = .returned (.slice (some ⟨w.heap.size, 0, none⟩) n n) ∧ zs.Perm (upto n) ∧ IBlk w' w.heap.size zs ∧ SrcAt w' p ∧ Kept w.heap.size p w w' := by
  obtain ⟨i0, hi0, hz0, hz1, hz2⟩ := info_parts info_int
  have HS := Lib.hid hS
  have hpl := hS.lt
  clear hS
  go_enter Try.func59, Try.ntmps59
  go_wp2_with (at_make; refine wpList_make_full _ rfl _ _ 26 rfl w.heap.size 3 i0 _ 1 Try.underlying26 hi0 hz0 hz1 .i64 .i64 _ _ n rfl rfl rfl rfl (by rw [hz2]; omega) (by unfold maxLen; omega) (by simp) ?_; intro w1 own1 grow1)
  have bw1 : Below w.heap.size w w1 := (Below.refl _ _).grown grow1 (by simp) (by simp)
  have ib1 := IBlk.made own1 (by omega)
  have IB := Lib.hid ib1
  have KK := Lib.hid (Kept.of (p := p) bw1)
  have SS := Lib.hid (HS.out.ext bw1)
  clear own1 grow1 hi0 hz0 hz1 hz2 bw1 ib1 HS
  go_loopg [6, 13] n (fun gg s6 s13 wx => ∃ (k : Nat) (zs : List Int), k + gg = n ∧ s13 = .int .i64 k ∧ Hid (zs.length = n ∧ ∀ j, j < k → nth zs j = j) ∧ IBlk wx w.heap.size zs ∧ SrcAt wx p ∧ Kept w.heap.size p w wx)
  case atStart => exact ⟨0, List.replicate n 0, by omega, rfl, ⟨by simp, fun j hj => by omega⟩, IB.out, SS.out, KK.out⟩
  case round =>
    clear IB SS KK
    obtain ⟨k, zs, hkg, rfl, HZ, ib, ss, kk⟩ := hrel
    have IB := Lib.hid ib; have SS := Lib.hid ss; have KK := Lib.hid kk
    clear ib ss kk
    by_cases hk : k < n
    · have hki : (k : Int) < n := by omega
      have q0 := IB.out.cell k (by have := HZ.out.1; omega)
      have z0 := IB.out.frozen k
      have hlt := IB.out.lt
      go_wp2_with fail
      go_roundg (gk - 1)
      case measure => omega
      case rel => exact ⟨k + 1, zs.set k (k : Int), by omega, by go_num, ⟨by rw [List.length_set]; exact HZ.out.1, fun j hj => by
        rw [nth_set _ _ _ _ (by have := HZ.out.1; omega)]
        by_cases e : j = k
        · rw [if_pos e, e]
        · rw [if_neg e]; exact HZ.out.2 j (by omega)⟩, IB.out.set_ k _, SS.out.far (by show p < w.heap.size; omega) _, KK.out.setCell (.inr (Nat.le_refl _)) _⟩
    · have hkn : k = n := by omega
      subst hkn
      have hzu : zs = upto k := list_ext (by rw [upto_len]; exact HZ.out.1) (fun j hj => by rw [HZ.out.1] at hj; rw [HZ.out.2 j hj, upto_nth _ _ hj])
      subst hzu
      clear hk hkg HZ
      obtain ⟨m, hm⟩ : ∃ m, k = m + 1 := ⟨k - 1, by omega⟩
      have e0 : IntKind.i64.wrap ((k : Int) - 1) = (m : Int) := by rw [IntWalk.i64_in _ (by omega)]; omega
      have hkm : (k : Int) - 1 = (m : Int) := by omega
      have HM := Lib.hid hm
      clear hm
      go_wp2_with fail
      clear e0 hkm
      go_loopg [7, 8] m (fun gg s7 s8 wx => ∃ (i : Nat) (zs : List Int), i = gg ∧ i ≤ m ∧ s7 = .int .i64 i ∧ zs.Perm (upto k) ∧ IBlk wx w.heap.size zs ∧ SrcAt wx p ∧ Kept w.heap.size p w wx)
      case atStart => exact ⟨m, upto k, rfl, Nat.le_refl _, rfl, List.Perm.refl _, IB.out, SS.out, KK.out⟩
      case round =>
        clear IB SS KK
        obtain ⟨i, zs, hig, him, rfl, hpm, ib, ss, kk⟩ := hrel
        have HIG := Lib.hid hig
        clear hig
        have IB := Lib.hid ib; have SS := Lib.hid ss; have KK := Lib.hid kk; have HP := Lib.hid hpm
        have hln : zs.length = k := by rw [hpm.length_eq, upto_len]
        have HLN := Lib.hid hln
        clear ib ss kk hpm hln
        by_cases hi : 0 < i
        · have hii : (0 : Int) < i := by omega
          have hkM : m < k := by have := HM.out; omega
          go_wp2_with fail
          refine (n_any p ((i : Int) + 1) _ SS.out (by omega) (by omega)).mono ?_
          rintro e w2 ⟨z, hz0, hz1, rfl, hS, hk2⟩
          have hsz := hk2.size
          have hWl := IB.out.lt
          have IB := Lib.hid (show IBlk w2 w.heap.size zs from (hk2.block w.heap.size hWl (by omega)).trans IB.out)
          have SS := Lib.hid hS; have KK := Lib.hid (kthen KK.out hk2)
          obtain ⟨j, rfl⟩ := Int.eq_ofNat_of_zero_le hz0
          have hjk : j < k := by omega
          have hik : i < k := by omega
          have hji : (j : Int) < k := by omega
          have hiki : (i : Int) < k := by omega
          clear hS hk2 hsz hWl
          have q0 := IB.out.cell i (by rw [HLN.out]; exact hik)
          have q1 := IB.out.cell j (by rw [HLN.out]; exact hjk)
          have z0 := IB.out.frozen i; have z1 := IB.out.frozen j
          have q3 := (IB.out.set_ i (nth zs j)).cell j (by rw [List.length_set, HLN.out]; exact hjk)
          have hlt := IB.out.lt
          go_upto_region 11 with fail
          go_region
          all_goals
            go_wp2_with fail
            go_roundg (gk - 1)
            case measure => have := HIG.out; omega
            case rel =>
              have hgi := HIG.out
              have kk := (KK.out.setCell (a := ⟨w.heap.size, i, none⟩) (.inr (Nat.le_refl _)) (.int .i64 (nth zs j))).setCell (a := ⟨w.heap.size, j, none⟩) (.inr (Nat.le_refl _)) (.int .i64 (nth zs i))
              have i2 := (IB.out.set_ i (nth zs j)).set_ j (nth zs i)
              exact ⟨i - 1, _, by omega, by omega, by go_num, (swap_perm (by rw [HLN.out]; exact hik) (by rw [HLN.out]; exact hjk)).trans HP.out, i2, (SS.out.far (by show p < w.heap.size; omega) _).far (by show p < w.heap.size; omega) _, ⟨kk.os, kk.tape, kk.output, kk.size, kk.block⟩⟩
        · have hi0 : i = 0 := by omega
          subst hi0
          clear hi
          go_wp2_with fail
          go_ret
          exact ⟨zs, rfl, HP.out, IB.out, SS.out, KK.out⟩
end Go.Proofs.Ytmieikfmbnaoaaa
