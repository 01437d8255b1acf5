/- The reference's test of a period: what it returns. -/
import Derived.Test.YthdibkmjoiipgaaRefAt
import Derived.Test.YthdibkmjoiipgaaMade
import Derived.Deep.DeepCutAuto
import Derived.Deep.CutBlock
import Derived.Deep.RegionHeld3
import Derived.BigRegion
namespace Go.Proofs.Ythdibkmjoiipgaa
open Go.RowKit
set_option linter.unusedVariables false

/-- the first j residues keep the period r -/
def RefTo (f : Cv) (r j : Nat) : Prop := ∀ k, k < j → f.at (f.vals.length - f.per.toNat + k + r) = f.at (f.vals.length - f.per.toNat + k) + f.inc * r / f.per
theorem RefTo.succ {f : Cv} {r j : Nat} (h : RefTo f r j) (h1 : f.at (f.vals.length - f.per.toNat + j + r) = f.at (f.vals.length - f.per.toNat + j) + f.inc * r / f.per) : RefTo f r (j + 1) := fun k hk => by
  by_cases e : k = j
  · rw [e]; exact h1
  · exact h k (by omega)

/-- the call returned whether S holds -/
def RetB (S : Prop) (w : World) (e : Ending) (w' : World) : Prop := (∃ b, (b = true ↔ S) ∧ e = .returned (.bool b)) ∧ Below w.heap.size w w'

set_option maxHeartbeats 4000000 in
theorem periodic_any (A : Option Addr) (n c : Nat) (p i : Int) (zs : List Int) (w : World) (hA : Ints w w.heap.size A n zs) (pre : Pre ⟨zs, p, i⟩) (s r : Nat) (hs : s = n - p.toNat) (hr1 : 1 ≤ r) (hr : r ≤ p.toNat) :
    Calls Try.prog 141 #[.agg #[.slice A n c, .int .i64 p, .int .i64 i], .int .i64 s, .int .i64 r] w (RetB (RefT ⟨zs, p, i⟩ r) w) := by
  have hl := hA.1
  have hp1 := pre.p1; have hpn := pre.pn; have hi0 := pre.i0; have hi1 := pre.i1; have hn2 := pre.n2
  have HV := Lib.hid pre.v
  simp only [hl] at hp1 hpn hi0 hi1 hn2
  obtain ⟨P, rfl⟩ := Int.eq_ofNat_of_zero_le (show 0 ≤ p by omega)
  rw [Int.toNat_natCast] at hs hr
  have hir : i * (r : Int) ≤ 1099511627776 * 100000 := Int.mul_le_mul hi1 (by omega) (by omega) (by omega)
  have hir0 : 0 ≤ i * (r : Int) := Int.mul_nonneg hi0 (by omega)
  have HI := Lib.hid (hA.alloc' (.cells #[.slice A n c, .int .i64 P, .int .i64 i] 46))
  have FB := Lib.hid (Blk.new w 46 #[.slice A n c, .int .i64 P, .int .i64 i])
  have BW := Lib.hid (balloc w (.cells #[.slice A n c, .int .i64 P, .int .i64 i] 46))
  have HL := Lib.hid hl; have HS := Lib.hid hs
  have hsP : s + P = n := by omega
  clear hA pre hl hs
  have hrn : (r : Int) ≠ 0 := by omega
  have hPn : (P : Int) ≠ 0 := by omega
  have hPn2 : P ≠ 0 := by omega
  have hrn2 : r ≠ 0 := by omega
  by_cases t1 : ((P : Int) % r = 0 ∧ i * r % (P : Int) = 0)
  · have b1 : ((P : Int) % r != 0) = false := by simp [t1.1]
    have b2 : (i * (r : Int) % (P : Int) != 0) = false := by simp [t1.2]
    obtain ⟨st, hst⟩ : ∃ st, i * (r : Int) / (P : Int) = st := ⟨_, rfl⟩
    have hs0 : 0 ≤ st := by rw [← hst]; exact Int.ediv_nonneg hir0 (by omega)
    have hs1 : st ≤ 1099511627776 * 100000 := by rw [← hst]; exact Int.le_trans (Int.ediv_le_self _ hir0) hir
    have T1 := Lib.hid t1; have HST := Lib.hid hst
    clear t1
    go_enter Try.func141, Try.ntmps141
    go_wp2_with fail
    clear b1 b2 hst
    go_loopg [7] P (fun gg s7 wx => ∃ j : Nat, j + gg = P ∧ s7 = .int .i64 ((s + j : Nat) : Int) ∧ Hid (RefTo ⟨zs, P, i⟩ r j) ∧ Ints wx wx.heap.size A n zs ∧ Blk wx w.heap.size 46 #[.slice A n c, .int .i64 P, .int .i64 i] ∧ Below w.heap.size w wx)
    case atStart => exact ⟨0, by omega, by simp, (fun k hk => by omega), HI.out, FB.out, BW.out⟩
    case round =>
      clear HI FB BW
      obtain ⟨j, hjg, rfl, hto, hi, hf, hb⟩ := hrel
      have HI := Lib.hid hi; have FB := Lib.hid hf; have BW := Lib.hid hb; have HTO := Lib.hid hto.out
      clear hi hf hb hto
      obtain ⟨f0, f1, f2⟩ : _ ∧ _ ∧ _ := ⟨FB.out.cell 0, FB.out.cell 1, FB.out.cell 2⟩
      simp at f0 f1 f2
      have hlf := FB.out.lt
      by_cases hj : j < P
      · obtain ⟨t, ht⟩ : ∃ t, s + j = t := ⟨_, rfl⟩
        rw [ht]
        have hti : (t : Int) < (s : Int) + (P : Int) := by omega
        have htr : (t : Int) + (r : Int) = ((t + r : Nat) : Int) := by omega
        obtain ⟨x, hx⟩ : ∃ x, x = Cv.at ⟨zs, P, i⟩ (t + r) := ⟨_, rfl⟩
        obtain ⟨y, hy⟩ : ∃ y, y = Cv.at ⟨zs, P, i⟩ t := ⟨_, rfl⟩
        have hyb : 0 ≤ y ∧ y ≤ 4611686018427387904 + 1099511627776 * 100000 := by
          rw [hy, Cv.at_lt (f := ⟨zs, P, i⟩) (by show t < zs.length; rw [HL.out]; omega)]
          have := HV.out t; show 0 ≤ nth zs t ∧ nth zs t ≤ _; omega
        have HX := Lib.hid hx; have HY := Lib.hid hy
        have TN := Lib.hid (show ((t : Int) + (r : Int)).toNat = t + r by omega)
        have e1 : IntKind.i64.wrap ((t : Int) + (r : Int)) = (t : Int) + (r : Int) := IntWalk.i64_in _ (by omega)
        have e2 : IntKind.i64.wrap (i * (r : Int)) = i * (r : Int) := IntWalk.i64_in _ (by omega)
        have e3 : (i * (r : Int)).tdiv (P : Int) = st := by rw [Int.tdiv_eq_ediv_of_nonneg hir0]; exact HST.out
        have e4 : IntKind.i64.wrap (y + st) = y + st := IntWalk.i64_in _ (by omega)
        have e5 : i * (r : Int) / (P : Int) = st := HST.out
        have e6 : IntKind.i64.wrap st = st := IntWalk.i64_in _ (by omega)
        have HT := Lib.hid ht
        have htb : t + r ≤ 200000 := by omega
        clear hx hy ht htr
        go_upto_region 6 with fail
        go_cut [48] (fun s48 wx => s48 = .bool (x != y + st) ∧ Ints wx wx.heap.size A n zs ∧ Blk wx w.heap.size 46 #[.slice A n c, .int .i64 P, .int .i64 i] ∧ Below w.heap.size w wx)
        case first =>
          go_region_held3 (fun w' => w'.cell? ⟨w.heap.size, 0, none⟩ = some (.slice A n c) ∧ w'.cell? ⟨w.heap.size, 1, none⟩ = some (.int .i64 P) ∧ w'.cell? ⟨w.heap.size, 2, none⟩ = some (.int .i64 i)) (first | go_keep)
            (first
              | (go_at_call_of 48 (Value.int IntKind.i64 ((t : Int) + (r : Int)))
                 refine (refAt_any A n c P i _ zs _ (by exact HI.out) (by omega) (by omega) (by omega) hi0 (by omega) HV.out (by omega) (by omega)).mono ?_
                 rw [TN.out, ← HX.out]
                 rintro e wq ⟨rfl, hbq⟩
                 have HI := Lib.hid (HI.out.ext (by first | exact hbq | exact bofdrew hbq)); have FB := Lib.hid (FB.out.below (by first | exact hbq | exact bofdrew hbq) FB.out.lt); have BW := Lib.hid (bthen BW.out (by first | exact hbq | exact bofdrew hbq))
                 clear hbq f0 f1 f2 hlf
                 obtain ⟨f0, f1, f2⟩ : _ ∧ _ ∧ _ := ⟨FB.out.cell 0, FB.out.cell 1, FB.out.cell 2⟩
                 simp at f0 f1 f2
                 have hlf := FB.out.lt
                 dsimp only)
              | (go_at_call_of 48 (Value.int IntKind.i64 (t : Int))
                 refine (refAt_any A n c P i t zs _ (by exact HI.out) (by omega) (by omega) (by omega) hi0 (by omega) HV.out (by omega) (by omega)).mono ?_
                 rw [Int.toNat_natCast, ← HY.out]
                 rintro e wq ⟨rfl, hbq⟩
                 have HI := Lib.hid (HI.out.ext (by first | exact hbq | exact bofdrew hbq)); have FB := Lib.hid (FB.out.below (by first | exact hbq | exact bofdrew hbq) FB.out.lt); have BW := Lib.hid (bthen BW.out (by first | exact hbq | exact bofdrew hbq))
                 clear hbq f0 f1 f2 hlf
                 obtain ⟨f0, f1, f2⟩ : _ ∧ _ ∧ _ := ⟨FB.out.cell 0, FB.out.cell 1, FB.out.cell 2⟩
                 simp at f0 f1 f2
                 have hlf := FB.out.lt
                 dsimp only))
          all_goals
            go_wp2_with fail
            go_meet
            exact ⟨rfl, HI.out, FB.out, BW.out⟩
        case rest =>
          clear e1 e2 e3 e4 e5 e6 HI FB BW f0 f1 f2 hlf
          obtain ⟨rfl, hi, hf, hb⟩ := hcut
          have HI := Lib.hid hi; have FB := Lib.hid hf; have BW := Lib.hid hb
          clear hi hf hb
          have hkey : x = y + st ↔ Cv.at ⟨zs, P, i⟩ ((Cv.mk zs P i).vals.length - (Cv.mk zs P i).per.toNat + j + r) = Cv.at ⟨zs, P, i⟩ ((Cv.mk zs P i).vals.length - (Cv.mk zs P i).per.toNat + j) + (Cv.mk zs P i).inc * r / (Cv.mk zs P i).per := by
            show _ ↔ Cv.at ⟨zs, P, i⟩ (zs.length - ((P : Nat) : Int).toNat + j + r) = Cv.at ⟨zs, P, i⟩ (zs.length - ((P : Nat) : Int).toNat + j) + i * r / P
            rw [Int.toNat_natCast, HL.out, show n - P + j = t by have := HT.out; omega, ← HX.out, ← HY.out, HST.out]
          by_cases hxy : x = y + st
          · have hb0 : (x != y + st) = false := by simpa using hxy
            have F := Lib.hid (HTO.out.succ (hkey.1 hxy))
            have TN2 := Lib.hid (show (t : Int) + 1 = ((s + (j + 1) : Nat) : Int) by have := HT.out; omega)
            rw [hb0]
            clear hkey hxy hb0
            go_wp2_with fail
            go_roundg (gk - 1)
            case measure => omega
            case rel => exact ⟨j + 1, by omega, by rw [TN2.out], F.out, HI.out, FB.out, BW.out⟩
          · have hb0 : (x != y + st) = true := by simpa using hxy
            have F := Lib.hid (show ¬ RefT ⟨zs, P, i⟩ r from fun h => hxy (hkey.2 (h.2 j (by show j < ((P : Nat) : Int).toNat; rw [Int.toNat_natCast]; exact hj))))
            rw [hb0]
            clear hkey hxy hb0
            go_wp2_with fail
            go_ret
            exact ⟨⟨false, by simp [F.out], rfl⟩, BW.out⟩
      · have hjP : j = P := by omega
        have F := Lib.hid (show RefT ⟨zs, P, i⟩ r from ⟨T1.out, fun k hk => HTO.out k (by
          have hk' : k < ((P : Nat) : Int).toNat := hk
          rw [Int.toNat_natCast] at hk'
          omega)⟩)
        obtain ⟨t, ht⟩ : ∃ t, s + j = t := ⟨_, rfl⟩
        rw [ht]
        have hti : ¬ ((t : Int) < (s : Int) + (P : Int)) := by omega
        clear ht hj
        go_wp2_with fail
        go_ret
        exact ⟨⟨true, by simp [F.out], rfl⟩, BW.out⟩
  · have F := Lib.hid (show ¬ RefT ⟨zs, P, i⟩ r from fun h => t1 h.1)
    by_cases t2 : (P : Int) % r = 0
    · have b1 : ((P : Int) % r != 0) = false := by simp [t2]
      have b2 : (i * (r : Int) % (P : Int) != 0) = true := by
        have : ¬ (i * (r : Int) % (P : Int) = 0) := fun h => t1 ⟨t2, h⟩
        simpa using this
      clear t1 t2
      go_enter Try.func141, Try.ntmps141
      go_wp2_with fail
      go_ret
      exact ⟨⟨false, by simp [F.out], rfl⟩, BW.out⟩
    · have b1 : ((P : Int) % r != 0) = true := by simpa using t2
      clear t1 t2
      go_enter Try.func141, Try.ntmps141
      go_wp2_with fail
      go_ret
      exact ⟨⟨false, by simp [F.out], rfl⟩, BW.out⟩
end Go.Proofs.Ythdibkmjoiipgaa
