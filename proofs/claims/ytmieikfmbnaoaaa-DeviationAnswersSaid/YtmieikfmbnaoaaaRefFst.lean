/- netcalculusref10.First: the least tick at which a curve has at least a value. -/
import Derived.Test.YtmieikfmbnaoaaaReach
import Derived.Test.YtmieikfmbnaoaaaFst10Law
import Derived.BigQuiet
import Derived.Deep.QuietTactic
import Derived.Deep.LoopGhost
namespace Go.Proofs.Ytmieikfmbnaoaaa
open Go.RowKit
set_option linter.unusedVariables false

set_option maxHeartbeats 2000000 in
set_option maxRecDepth 100000 in
theorem refFirst_any (A : Option Addr) (n c : Nat) (p i v : Int) (zs : List Int) (w : World) (hA : Ints w w.heap.size A n zs) (hf : Cv.Ok ⟨zs, p, i⟩) (hv0 : 0 ≤ v) (hv : v = inf ∨ v ≤ 1125899906842624) :
    Calls Try.prog 99 #[.agg #[.slice A n c, .int .i64 p, .int .i64 i], .int .i64 v] w (RetRe ⟨zs, p, i⟩ v w) := by
  have hl := hA.1
  have hn1 := hf.n1; have hn2 := hf.n2
  have hp1 := hf.p1; have hp2 := hf.p2; have hpn := hf.pn; have hi1 := hf.i1; have hi2 := hf.i2
  simp only [hl] at hn1 hn2 hp1 hp2 hpn hi1 hi2
  have hv2 : v ≤ 4611686018427387904 := by rcases hv with h | h; rw [h]; unfold inf; omega; omega
  obtain ⟨P, rfl⟩ := Int.eq_ofNat_of_zero_le (show 0 ≤ p by omega)
  have E := Lib.hid (L1.new (c := c) (p := (P : Int)) (i := i) hA)
  have HF := Lib.hid hf; have HL := Lib.hid hl; have HV := Lib.hid hv
  clear hA hf hl hv
  go_enter Try.func99, Try.ntmps99
  obtain ⟨f0, f1, f2, hlf⟩ := E.out.cells
  go_wp2_with fail
  clear f0 f1 f2 hlf
  go_loopg [6] n (fun gg s6 wx => ∃ k : Nat, k + gg = n ∧ s6 = .int .i64 k ∧ NoGeq ⟨zs, P, i⟩ v k ∧ L1 w wx A n c P i zs)
  case atStart => exact ⟨0, by omega, rfl, NoGeq.zero _ _, E.out⟩
  case round =>
    clear E
    obtain ⟨k, hkg, rfl, hno, hE⟩ := hrel
    have E := Lib.hid hE; have HNO := Lib.hid hno
    clear hE hno
    obtain ⟨f0, f1, f2, hlf⟩ := E.out.cells
    obtain ⟨b, off, hAe, hbl, hcell⟩ := E.out.ints.2 (by omega)
    subst hAe
    by_cases hk : k < n
    · have hki : (k : Int) < n := by omega
      have hck := hcell k hk
      obtain ⟨x, hx⟩ : ∃ x, x = nth zs k := ⟨_, rfl⟩
      rw [← hx] at hck
      have HG := Lib.hid (geq_listed (v := v) HF.out hv2 (k := k) (by show k < zs.length; rw [HL.out]; exact hk))
      have HX := Lib.hid hx
      clear hx hcell
      by_cases hge : v ≤ x
      · have F := Lib.hid (reach_yes HNO.out (HG.out.2 (by rw [← HX.out]; exact hge)))
        have d1 : decide (v ≤ x) = true := by simpa using hge
        have bw := E.out.bw
        clear hge
        go_wp2_with fail
        go_ret2
        exact ⟨_, _, F.out, by omega, by omega, rfl, bw⟩
      · have F := Lib.hid (HNO.out.succ (fun h => hge (by rw [HX.out]; exact HG.out.1 h)))
        have d1 : decide (v ≤ x) = false := by simpa using hge
        clear hge
        go_wp2_with fail
        go_roundg (gk - 1)
        case measure => omega
        case rel => exact ⟨k + 1, by omega, by go_num, F.out, E.out⟩
    · have hkn : k = n := by omega
      subst hkn
      clear hk hkg
      have NO := Lib.hid (show NoGeq ⟨zs, P, i⟩ v (Cv.mk zs (P : Int) i).vals.length from by show NoGeq _ v zs.length; rw [HL.out]; exact HNO.out)
      obtain ⟨m, hm⟩ : ∃ m, k = m + 1 := ⟨k - 1, by omega⟩
      have hcm := hcell m (by omega)
      obtain ⟨y, hy⟩ : ∃ y, y = nth zs m := ⟨_, rfl⟩
      rw [← hy] at hcm
      have HY := Lib.hid (show y = nth (Cv.mk zs (P : Int) i).vals ((Cv.mk zs (P : Int) i).vals.length - 1) from by show y = nth zs (zs.length - 1); rw [hy, HL.out, hm, Nat.add_sub_cancel])
      have FIN := Lib.hid (noGeq_fin HF.out NO.out)
      have hyb : 0 ≤ y ∧ y ≤ 1073741824 := by
        have h1 := FIN.out.ne (k - 1) (by show k - 1 < zs.length; rw [HL.out]; omega)
        have h2 := HF.out.nn (k - 1)
        rw [show k - 1 = m by omega] at h1 h2
        have h1' : nth zs m ≤ 1073741824 := h1.2
        have h2' : 0 ≤ nth zs m := h2.1
        omega
      have hyv : y < v := by
        have h1 := NO.out (k - 1) (by show k - 1 < zs.length; rw [HL.out]; omega)
        have h2 := geq_listed (v := v) HF.out hv2 (k := k - 1) (by show k - 1 < zs.length; rw [HL.out]; omega)
        rw [show k - 1 = m by omega] at h1 h2
        have h2' : Geq ⟨zs, P, i⟩ v m ↔ v ≤ nth zs m := h2
        rw [h2', ← hy] at h1
        omega
      have hmk : (m : Int) < k := by omega
      have hm1 : (m : Int) + 1 = k := by omega
      have HM := Lib.hid hm
      have HM1 := Lib.hid hm1
      have hP1 : 1 ≤ P := by omega
      clear hcell hy hm hm1 HNO
      by_cases hvi : v = 4611686018427387904
      · have d1 : (v == 4611686018427387904) = true := by simpa using hvi
        have F := Lib.hid (show ExS (Geq ⟨zs, P, i⟩ v) 0 false from by
          have h := NO.out
          rw [show v = inf from hvi] at h ⊢
          exact reach_inf HF.out h)
        have bw := E.out.bw
        clear hvi
        by_cases hi0 : i = 0
        · have d2 : (i == 0) = true := by simpa using hi0
          clear hi0
          go_wp2_with fail
          go_ret2
          exact ⟨_, _, F.out, by omega, by omega, rfl, bw⟩
        · have d2 : (i == 0) = false := by simpa using hi0
          clear hi0
          go_wp2_with fail
          go_ret2
          exact ⟨_, _, F.out, by omega, by omega, rfl, bw⟩
      · have d1 : (v == 4611686018427387904) = false := by simpa using hvi
        have hvb : v ≤ 1125899906842624 := by
          rcases HV.out with h | h
          · exact absurd h hvi
          · exact h
        have HVI := Lib.hid (show v ≠ inf from hvi)
        clear hvi
        by_cases hi0 : i = 0
        · have d2 : (i == 0) = true := by simpa using hi0
          have F := Lib.hid (reach_flat HF.out NO.out hi0)
          have bw := E.out.bw
          clear hi0
          go_wp2_with fail
          go_ret2
          exact ⟨_, _, F.out, by omega, by omega, rfl, bw⟩
        · have d2 : (i == 0) = false := by simpa using hi0
          obtain ⟨S, hS⟩ : ∃ S, S = k - P := ⟨_, rfl⟩
          have hPk : P ≤ k := by omega
          have e0 : IntKind.i64.wrap ((k : Int) - (P : Int)) = (S : Int) := by rw [hS, IntWalk.i64_in _ (by omega)]; omega
          have hSk : S + P = k := by omega
          have hSk2 : (k : Int) - (P : Int) = (S : Int) := by omega
          have bnd := Lib.hid (show ∀ t, t < k → 0 ≤ nth zs t ∧ nth zs t < v from fun t ht => by
            have h1 := NO.out t (by show t < zs.length; rw [HL.out]; exact ht)
            have h2 := geq_listed (v := v) HF.out hv2 (k := t) (by show t < zs.length; rw [HL.out]; exact ht)
            have h3 := HF.out.nn t
            have h2' : Geq ⟨zs, P, i⟩ v t ↔ v ≤ nth zs t := h2
            rw [h2'] at h1
            exact ⟨h3.1, by omega⟩)
          obtain ⟨x, hx⟩ : ∃ x : Nat → Nat, x = fun t => t + (fstK v (nth zs t) i + 1) * P := ⟨_, rfl⟩
          have HX := Lib.hid hx; have HS := Lib.hid hS
          clear hx hS
          go_wp2_with fail
          clear e0 hSk2
          clear f0 f1 f2 hlf
          go_loopg [7, 8, 9, 10] P (fun gg s7 s8 s9 s10 wx => ∃ (t : Nat) (l : Int), t + gg = k ∧ S ≤ t ∧ s8 = .int .i64 t ∧ s7 = .int .i64 l ∧ FstI x S t l ∧ -1 ≤ l ∧ l ≤ 200000000000000000 ∧ L1 w wx (some ⟨b, off, none⟩) k c P i zs)
          case atStart => exact ⟨S, -1, hSk, Nat.le_refl _, rfl, rfl, FstI.zero x S, by omega, by omega, E.out⟩
          case round =>
            clear E
            obtain ⟨t, l, htg, hSt, rfl, rfl, hfi, hl0, hl1, hE⟩ := hrel
            have E := Lib.hid hE; have HFI := Lib.hid hfi
            clear hE hfi
            obtain ⟨f0, f1, f2, hlf⟩ := E.out.cells
            by_cases ht : t < k
            · have hti : (t : Int) < k := by omega
              obtain ⟨b', off', hAe', hbl', hcell⟩ := E.out.ints.2 (by omega)
              cases hAe'
              have hct := hcell t ht
              have hyb' := bnd.out t ht
              obtain ⟨u, hu⟩ : ∃ u, u = nth zs t := ⟨_, rfl⟩
              rw [← hu] at hct hyb'
              obtain ⟨q1, q2, q3, q4, q5⟩ := fstK_spec (y := u) (v := v) (i := i) (by omega) (by omega)
              obtain ⟨K, hK⟩ : ∃ K, K = fstK v u i := ⟨_, rfl⟩
              rw [← hK] at q1 q2 q3 q4 q5
              have hKP : ((K : Int) + 1) * P ≤ 1125899906842625 * 120 := Int.mul_le_mul (by omega) hp2 (by omega) (by omega)
              have hKP0 : 0 ≤ ((K : Int) + 1) * P := Int.mul_nonneg (by omega) (by omega)
              have XE := Lib.hid (show ((x t : Nat) : Int) = (t : Int) + ((K : Int) + 1) * P from by
                rw [HX.out]
                show ((t + (fstK v (nth zs t) i + 1) * P : Nat) : Int) = _
                rw [← hu, ← hK, Int.natCast_add, Int.natCast_mul, Int.natCast_add]
                rfl)
              have e1 : IntKind.i64.wrap (v - u) = v - u := IntWalk.i64_in _ (by omega)
              have e2 : IntKind.i64.wrap (v - u - 1) = v - u - 1 := IntWalk.i64_in _ (by omega)
              clear hcell hu hK q1 q3 q4
              go_wp2_with fail
              go_quiet (fail)
              clear e1 e2 q2 hct hbl'
              by_cases hl : l < 0
              · have c1 : decide (l < 0) = true := by simpa using hl
                have F := Lib.hid (show FstI x S (t + 1) ((t : Int) + ((K : Int) + 1) * P) from by rw [← XE.out]; exact HFI.out.take hSt (.inl hl))
                clear hl
                go_wp2_with fail
                go_roundg (gk - 1)
                case measure => omega
                case rel => exact ⟨t + 1, _, by omega, by omega, by go_num, rfl, F.out, by omega, by omega, E.out.drewN⟩
              · have c1 : decide (l < 0) = false := by simpa using hl
                by_cases hm : (t : Int) + ((K : Int) + 1) * P < l
                · have c2 : decide ((t : Int) + ((K : Int) + 1) * P < l) = true := by simpa using hm
                  have F := Lib.hid (show FstI x S (t + 1) ((t : Int) + ((K : Int) + 1) * P) from by rw [← XE.out]; exact HFI.out.take hSt (.inr (by rw [XE.out]; exact hm)))
                  clear hl hm
                  go_wp2_with fail
                  go_roundg (gk - 1)
                  case measure => omega
                  case rel => exact ⟨t + 1, _, by omega, by omega, by go_num, rfl, F.out, by omega, by omega, E.out.drewN⟩
                · have c2 : decide ((t : Int) + ((K : Int) + 1) * P < l) = false := by simpa using hm
                  have F := Lib.hid (show FstI x S (t + 1) l from HFI.out.keep (by rw [XE.out]; omega))
                  clear hl hm
                  go_wp2_with fail
                  go_roundg (gk - 1)
                  case measure => omega
                  case rel => exact ⟨t + 1, l, by omega, by omega, by go_num, rfl, F.out, by omega, by omega, E.out.drewN⟩
            · have htk : t = k := by omega
              subst htk
              have F := Lib.hid (show ExS (Geq ⟨zs, P, i⟩ v) l true from by
                have hlen : (Cv.mk zs (P : Int) i).vals.length = t := HL.out
                have hper : (Cv.mk zs (P : Int) i).per.toNat = P := Int.toNat_natCast P
                rcases HFI.out with ⟨h, _⟩ | ⟨X, rfl, ⟨u, h1, h2, h3⟩, h4⟩
                · omega
                · refine fst_all FIN.out HVI.out NO.out (kf := fun t => fstK v (nth zs t) i) (X := X) (fun r hr1 hr2 => ?_) ⟨u, ?_, ?_, ?_⟩ (fun r hr1 hr2 => ?_)
                  · rw [Cv.at_lt hr2]
                    rw [hlen] at hr2
                    obtain ⟨_, _, q3, q4, _⟩ := fstK_spec (y := nth zs r) (v := v) (i := i) (bnd.out r hr2).2 (by omega)
                    exact ⟨q3, q4⟩
                  · rw [hlen, hper]; omega
                  · rw [hlen]; exact h2
                  · rw [hper, h3, HX.out]
                  · rw [hlen] at hr2
                    rw [hlen, hper] at hr1
                    have := h4 r (by omega) hr2
                    rw [HX.out] at this
                    rw [hper]
                    exact this)
              have bw := E.out.bw
              have hl00 : 0 ≤ l := by
                rcases HFI.out with ⟨h, _⟩ | ⟨X, rfl, _⟩
                · omega
                · omega
              clear ht htg
              go_wp2_with fail
              go_ret2
              exact ⟨_, _, F.out, by omega, by omega, rfl, bw⟩
end Go.Proofs.Ytmieikfmbnaoaaa
