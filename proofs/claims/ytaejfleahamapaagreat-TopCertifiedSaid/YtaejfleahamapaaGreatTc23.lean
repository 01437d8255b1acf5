/- The references of the fractions and the curves: Gcd, Lcm, At, Finite. -/
import Derived.BigQuiet
import Derived.Deep.QuietTactic
import Derived.Deep.LoopGhost
import Derived.Outline
import Derived.Test.YtaejfleahamapaaGreatTc4
import Derived.Test.YtaejfleahamapaaGreatTc8
import Derived.Test.YtaejfleahamapaaGreatTc5
import Derived.Test.YtaejfleahamapaaGreatTc11
namespace Go.Proofs.YtaejfleahamapaaGreat
open Go.RowKit
set_option linter.unusedVariables false

def RetRe (f : Cv) (v : Int) (w : World) (e : Ending) (w' : World) : Prop :=
  ∃ t ok, ExS (Geq f v) t ok ∧ 0 ≤ t ∧ t ≤ 200000000000000000 ∧ e = .returned (.tuple #[.int .i64 t, .bool ok]) ∧ Below w.heap.size w w'

theorem reach_k {v y i : Int} (hy : y < v) (hi : 1 ≤ i) : ∃ K : Nat, (v - y + i - 1) / i = (K : Int) + 1 ∧ (v - y + i - 1).tdiv i = (K : Int) + 1 ∧ (K : Int) * i < v - y ∧ v - y ≤ ((K : Int) + 1) * i ∧ (K : Int) ≤ v - y ∧ ((K : Int) + 1) * i ≤ v - y + i - 1 := by
  have h1 := Int.mul_ediv_add_emod (v - y + i - 1) i
  have h2 := Int.emod_nonneg (v - y + i - 1) (show i ≠ 0 by omega)
  have h3 := Int.emod_lt_of_pos (v - y + i - 1) (show 0 < i by omega)
  have h4 : 1 ≤ (v - y + i - 1) / i := by
    rw [Int.le_ediv_iff_mul_le (by omega)]; omega
  obtain ⟨K, hK⟩ : ∃ K : Nat, (v - y + i - 1) / i = (K : Int) + 1 := ⟨((v - y + i - 1) / i - 1).toNat, by omega⟩
  rw [hK] at h1
  have h5 : i * ((K : Int) + 1) = (K : Int) * i + i := by rw [Int.mul_add, Int.mul_one, Int.mul_comm]
  have h6 : ((K : Int) + 1) * i = (K : Int) * i + i := by rw [Int.add_mul, Int.one_mul]
  have h7 : (K : Int) * 1 ≤ (K : Int) * i := Int.mul_le_mul_of_nonneg_left hi (by omega)
  exact ⟨K, hK, by rw [Int.tdiv_eq_ediv_of_nonneg (by omega)]; exact hK, by omega, by omega, by omega, by omega⟩

set_option maxHeartbeats 2000000 in
set_option maxRecDepth 100000 in
theorem reach_any (A : Option Addr) (n c : Nat) (p i v : Int) (zs : List Int) (w : World) (hA : Ints w w.heap.size A n zs) (hf : Cv.Ok ⟨zs, p, i⟩) (hv0 : 0 ≤ v) (hv : v = inf ∨ v ≤ 1125899906842624) :
    Calls Tryz.prog 51 #[.agg #[.slice A n c, .int .i64 p, .int .i64 i], .int .i64 v] w (RetRe ⟨zs, p, i⟩ v w) := by
  have hl := hA.1
  have hn1 := hf.n1; have hn2 := hf.n2
  have hp1 := hf.p1; have hp2 := hf.p2; have hpn := hf.pn; have hi1 := hf.i1; have hi2 := hf.i2
  simp only [hl] at hn1 hn2 hp1 hp2 hpn hi1 hi2
  have hv2 : v ≤ 4611686018427387904 := by rcases hv with h | h; rw [h]; unfold inf; omega; omega
  obtain ⟨P, rfl⟩ := Int.eq_ofNat_of_zero_le (show 0 ≤ p by omega)
  have E := Lib.hid (L1.new (c := c) (p := (P : Int)) (i := i) hA)
  have HF := Lib.hid hf; have HL := Lib.hid hl; have HV := Lib.hid hv
  clear hA hf hl hv
  go_enter Tryz.func51, Tryz.ntmps51
  obtain ⟨f0, f1, f2, hlf⟩ := E.out.cells
  go_wp2_with fail
  clear f0 f1 f2 hlf
  go_loopg [15] n (fun gg s15 wx => ∃ k : Nat, k + gg = n ∧ s15 = .int .i64 k ∧ NoGeq ⟨zs, P, i⟩ v k ∧ L1 w wx A n c P i zs)
  case atStart => exact ⟨0, by omega, rfl, NoGeq.zero _ _, E.out⟩
  case round =>
    clear E
    obtain ⟨k, hkg, rfl, hno, hE⟩ := hrel
    have E := Lib.hid hE; have HNO := Lib.hid hno
    clear hE hno
    obtain ⟨f0, f1, f2, hlf⟩ := E.out.cells
    obtain ⟨b, off, hAe, hbl, hcell⟩ := E.out.ints.2 (by omega)
    subst hAe
    by_cases hk : k < n
    · have hki : (k : Int) < n := by omega
      have hck := hcell k hk
      obtain ⟨x, hx⟩ : ∃ x, x = nth zs k := ⟨_, rfl⟩
      rw [← hx] at hck
      have HG := Lib.hid (geq_listed (v := v) HF.out hv2 (k := k) (by show k < zs.length; rw [HL.out]; exact hk))
      have HX := Lib.hid hx
      clear hx hcell
      by_cases hge : v ≤ x
      · have F := Lib.hid (reach_yes HNO.out (HG.out.2 (by rw [← HX.out]; exact hge)))
        have d1 : decide (v ≤ x) = true := by simpa using hge
        have bw := E.out.bw
        clear hge
        go_wp2_with fail
        go_ret2
        exact ⟨_, _, F.out, by omega, by omega, rfl, bw⟩
      · have F := Lib.hid (HNO.out.succ (fun h => hge (by rw [HX.out]; exact HG.out.1 h)))
        have d1 : decide (v ≤ x) = false := by simpa using hge
        clear hge
        go_wp2_with fail
        go_roundg (gk - 1)
        case measure => omega
        case rel => exact ⟨k + 1, by omega, by go_num, F.out, E.out⟩
    · have hkn : k = n := by omega
      subst hkn
      clear hk hkg
      have NO := Lib.hid (show NoGeq ⟨zs, P, i⟩ v (Cv.mk zs (P : Int) i).vals.length from by show NoGeq _ v zs.length; rw [HL.out]; exact HNO.out)
      obtain ⟨m, hm⟩ : ∃ m, k = m + 1 := ⟨k - 1, by omega⟩
      have hcm := hcell m (by omega)
      obtain ⟨y, hy⟩ : ∃ y, y = nth zs m := ⟨_, rfl⟩
      rw [← hy] at hcm
      have HY := Lib.hid (show y = nth (Cv.mk zs (P : Int) i).vals ((Cv.mk zs (P : Int) i).vals.length - 1) from by show y = nth zs (zs.length - 1); rw [hy, HL.out, hm, Nat.add_sub_cancel])
      have FIN := Lib.hid (noGeq_fin HF.out NO.out)
      have hyb : 0 ≤ y ∧ y ≤ 1073741824 := by
        have h1 := FIN.out.ne (k - 1) (by show k - 1 < zs.length; rw [HL.out]; omega)
        have h2 := HF.out.nn (k - 1)
        rw [show k - 1 = m by omega] at h1 h2
        have h1' : nth zs m ≤ 1073741824 := h1.2
        have h2' : 0 ≤ nth zs m := h2.1
        omega
      have hyv : y < v := by
        have h1 := NO.out (k - 1) (by show k - 1 < zs.length; rw [HL.out]; omega)
        have h2 := geq_listed (v := v) HF.out hv2 (k := k - 1) (by show k - 1 < zs.length; rw [HL.out]; omega)
        rw [show k - 1 = m by omega] at h1 h2
        have h2' : Geq ⟨zs, P, i⟩ v m ↔ v ≤ nth zs m := h2
        rw [h2', ← hy] at h1
        omega
      have hmk : (m : Int) < k := by omega
      have hm1 : (m : Int) + 1 = k := by omega
      have HM := Lib.hid hm
      have HM1 := Lib.hid hm1
      have hP1 : 1 ≤ P := by omega
      clear hcell hy hm hm1 HNO
      by_cases hvi : v = 4611686018427387904
      · have d1 : (v == 4611686018427387904) = true := by simpa using hvi
        have F := Lib.hid (show ExS (Geq ⟨zs, P, i⟩ v) 0 false from by
          have h := NO.out
          rw [show v = inf from hvi] at h ⊢
          exact reach_inf HF.out h)
        have bw := E.out.bw
        clear hvi
        go_wp2_with fail
        go_quiet (fail)
        go_wp2_with fail
        go_ret2
        exact ⟨_, _, F.out, by omega, by omega, rfl, bdrewN bw⟩
      · have d1 : (v == 4611686018427387904) = false := by simpa using hvi
        have hvb : v ≤ 1125899906842624 := by
          rcases HV.out with h | h
          · exact absurd h hvi
          · exact h
        have HVI := Lib.hid (show v ≠ inf from hvi)
        clear hvi
        by_cases hi0 : i = 0
        · have d2 : (i == 0) = true := by simpa using hi0
          have F := Lib.hid (reach_flat HF.out NO.out hi0)
          have bw := E.out.bw
          clear hi0
          go_wp2_with fail
          go_quiet (fail)
          go_wp2_with fail
          go_ret2
          exact ⟨_, _, F.out, by omega, by omega, rfl, bdrewN bw⟩
        · have d2 : (i == 0) = false := by simpa using hi0
          obtain ⟨K, hk1, hk2, hk3, hk4, hk5, hk6⟩ := reach_k hyv (show 1 ≤ i by omega)
          have hKP : (K : Int) * P ≤ 1125899906842624 * 120 := Int.mul_le_mul (by omega) hp2 (by omega) (by omega)
          have hKP0 : 0 ≤ (K : Int) * P := Int.mul_nonneg (by omega) (by omega)
          have T0 := Lib.hid (show NoGeq ⟨zs, P, i⟩ v (k + K * P) from by
            have := reach_far HF.out NO.out (k := K + 1) (by
              rw [← HY.out, show ((K + 1 : Nat) : Int) - 1 = K by omega]; exact hk3) (by omega)
            rw [show K + 1 - 1 = K by omega, show (Cv.mk zs (P : Int) i).vals.length = k from HL.out, show (Cv.mk zs (P : Int) i).per.toNat = P from Int.toNat_natCast P] at this
            exact this)
          have T1 := Lib.hid (show Geq ⟨zs, P, i⟩ v (m + (K + 1) * P) from by
            have := reach_end FIN.out HVI.out (k := K + 1) (by
              rw [← HY.out, show ((K + 1 : Nat) : Int) = (K : Int) + 1 by omega]; exact hk4)
            rw [show (Cv.mk zs (P : Int) i).vals.length = k from HL.out, show (Cv.mk zs (P : Int) i).per.toNat = P from Int.toNat_natCast P, show k - 1 = m by have := HM.out; omega] at this
            exact this)
          obtain ⟨T, hT⟩ : ∃ T, T = m + (K + 1) * P := ⟨_, rfl⟩
          rw [← hT] at T1
          have hKPc : ((K * P : Nat) : Int) = (K : Int) * P := Int.natCast_mul K P
          have hKPn : K * P ≤ 1125899906842624 * 120 := by omega
          have hTb : T ≤ 200000000000000000 := by rw [hT, Nat.add_mul, Nat.one_mul]; omega
          have e1 : IntKind.i64.wrap ((k : Int) - 1) = (m : Int) := by have := HM1.out; rw [IntWalk.i64_in _ (by omega)]; omega
          have e2 : IntKind.i64.wrap (v - y) = v - y := IntWalk.i64_in _ (by omega)
          have e3 : IntKind.i64.wrap (v - y + i) = v - y + i := IntWalk.i64_in _ (by omega)
          have e4 : IntKind.i64.wrap (v - y + i - 1) = v - y + i - 1 := IntWalk.i64_in _ (by omega)
          have e5 : IntKind.i64.wrap ((K : Int) + 1) = (K : Int) + 1 := IntWalk.i64_in _ (by omega)
          have HT := Lib.hid hT
          have HK6 := Lib.hid hk6
          have hTs : k + K * P ≤ T := by rw [hT, Nat.add_mul, Nat.one_mul]; have := HM1.out; omega
          clear hT hk1 hk3 hk4 hk6 hKPn hKPc
          go_wp2_with fail
          go_quiet (fail)
          go_wp2_with fail
          go_quiet (fail)
          clear e1 e2 e3 e4
          go_wp2_with fail
          clear e5
          clear f0 f1 f2 hlf
          obtain ⟨S0, hS0⟩ : ∃ S0, S0 = k + K * P := ⟨_, rfl⟩
          have HS0 := Lib.hid hS0
          rw [← hS0] at T0 hTs
          clear hS0
          go_loopg [11] T (fun gg s11 wx => ∃ t : Nat, t + gg = T + S0 ∧ t ≤ T ∧ s11 = .int .i64 t ∧ NoGeq ⟨zs, P, i⟩ v t ∧ L1 w wx (some ⟨b, off, none⟩) k c P i zs)
          case atStart => exact ⟨S0, by omega, hTs, by rw [HS0.out, Int.natCast_add, Int.natCast_mul], T0.out, E.out.drewN⟩
          case round =>
            clear E
            obtain ⟨t, htg, htT0, rfl, hno, hE⟩ := hrel
            have E := Lib.hid hE; have HNO := Lib.hid hno
            clear hE hno
            obtain ⟨f0, f1, f2, hlf⟩ := E.out.cells
            obtain ⟨x, hx⟩ : ∃ x, x = Cv.at ⟨zs, P, i⟩ t := ⟨_, rfl⟩
            have HX := Lib.hid hx
            clear hx
            have hbig : k ≤ ((t : Int)).toNat → (((((t : Int)).toNat - k) / ((P : Int)).toNat + 1 : Nat) : Int) * i ≤ 1152921504606846976 := by
              intro _
              rw [Int.toNat_natCast, Int.toNat_natCast]
              have h1 : (t - k) / P ≤ K := by
                have h2 := HT.out
                have h3 := HM1.out
                rw [Nat.add_mul, Nat.one_mul] at h2
                have h4 : t - k < (K + 1) * P := by rw [Nat.add_mul, Nat.one_mul]; omega
                have h5 : (t - k) / P < K + 1 := (Nat.div_lt_iff_lt_mul (by omega)).2 h4
                omega
              have h6 : (((t - k) / P + 1 : Nat) : Int) * i ≤ ((K : Int) + 1) * i := Int.mul_le_mul_of_nonneg_right (by omega) (by omega)
              have := HK6.out
              omega
            go_wp2_with fail
            refine (at2_any (some ⟨b, off, none⟩) k c P i t zs _ (by exact E.out.ints) (by omega) (by omega) (by omega) hi1 HF.out.nn (by omega) (by omega) hbig).mono ?_
            rw [Int.toNat_natCast, ← HX.out]
            rintro e wq ⟨rfl, hbq⟩
            have E := Lib.hid (E.out.below hbq)
            clear hbig hbq
            clear f0 f1 f2 hlf
            obtain ⟨f0, f1, f2, hlf⟩ := E.out.cells
            by_cases hxv : x < v
            · have d3 : decide (x < v) = true := by simpa using hxv
              have hng : ¬ Geq ⟨zs, P, i⟩ v t := by
                rintro (h | h)
                · exact FIN.out.not_infAt _ h
                · have := h.2; rw [← HX.out] at this; omega
              have F := Lib.hid (HNO.out.succ hng)
              have htT : t ≠ T := fun e => hng (by rw [e]; exact T1.out)
              clear hxv hng
              go_wp2_with fail
              go_roundg (gk - 1)
              case measure => omega
              case rel => exact ⟨t + 1, by omega, by omega, by go_num, F.out, E.out⟩
            · have d3 : decide (x < v) = false := by simpa using hxv
              have F := Lib.hid (reach_yes HNO.out (.inr ⟨HVI.out, by rw [← HX.out]; omega⟩))
              have bw := E.out.bw
              clear hxv
              go_wp2_with fail
              go_ret2
              exact ⟨_, _, F.out, by omega, by omega, rfl, bw⟩

def ReachS (f : Cv) (v t : Int) (ok : Bool) (er : Int) : Prop :=
  (¬ f.Ok ∧ t = 0 ∧ ok = false ∧ er = 1) ∨ (f.Ok ∧ v ≠ inf ∧ (v < 0 ∨ 1125899906842624 < v) ∧ t = 0 ∧ ok = false ∧ er = 2) ∨ (f.Ok ∧ (v = inf ∨ (0 ≤ v ∧ v ≤ 1125899906842624)) ∧ ExS (Geq f v) t ok ∧ er = 0)
theorem ReachS.unique {f : Cv} {v t t' : Int} {b b' : Bool} {e e' : Int} (h : ReachS f v t b e) (k : ReachS f v t' b' e') : t = t' ∧ b = b' ∧ e = e' := by
  have hi : (inf : Int) = 4611686018427387904 := rfl
  rcases h with ⟨h0, rfl, rfl, rfl⟩ | ⟨h0, h1, h2, rfl, rfl, rfl⟩ | ⟨h0, h1, h2, rfl⟩ <;> rcases k with ⟨k0, rfl, rfl, rfl⟩ | ⟨k0, k1, k2, rfl, rfl, rfl⟩ | ⟨k0, k1, k2, rfl⟩
  · exact ⟨rfl, rfl, rfl⟩
  · exact absurd k0 h0
  · exact absurd k0 h0
  · exact absurd h0 k0
  · exact ⟨rfl, rfl, rfl⟩
  · rcases k1 with k1 | k1
    · exact absurd k1 h1
    · omega
  · exact absurd h0 k0
  · rcases h1 with h1 | h1
    · exact absurd h1 k1
    · omega
  · have := h2.unique k2
    exact ⟨this.1, this.2, rfl⟩
end Go.Proofs.YtaejfleahamapaaGreat

namespace Go.Proofs.YtaejfleahamapaaGreat
open Go.RowKit
set_option linter.unusedVariables false

set_option maxHeartbeats 400000 in
theorem refAt_any (A : Option Addr) (n c : Nat) (p i t : Int) (zs : List Int) (w : World) (hA : Ints w w.heap.size A n zs) (hn : (n : Int) ≤ 1000000)
    (hp : 1 ≤ p) (hpn : p ≤ n) (hi : 0 ≤ i) (hi2 : i ≤ 1099511627776) (hz : ∀ k, 0 ≤ nth zs k ∧ nth zs k ≤ 4611686018427387904) (ht0 : 0 ≤ t) (ht : t ≤ 2097152) :
    Calls Tryz.prog 14 #[.agg #[.slice A n c, .int .i64 p, .int .i64 i], .int .i64 t] w fun e w' => e = .returned (.int .i64 (Cv.at ⟨zs, p, i⟩ t.toNat)) ∧ Below w.heap.size w w' := by
  obtain ⟨p, rfl⟩ := Int.eq_ofNat_of_zero_le (show 0 ≤ p by omega)
  obtain ⟨t, rfl⟩ := Int.eq_ofNat_of_zero_le ht0
  obtain ⟨b, off, rfl, hb, hc⟩ := hA.2 (by omega)
  have hl := hA.1
  have d0 : decide ((t : Int) < 0) = false := by simp
  have d1 : decide ((p : Int) < 1) = false := by simp; omega
  have d2 : decide (n < p) = false := by simp; omega
  by_cases hlt : t < n
  · have hcell := hc t hlt
    clear hc hz hA
    have fin : Cv.at ⟨zs, p, i⟩ t = nth zs t := by simp [Cv.at, hl, hlt]
    have F := Lib.hid fin; clear fin
    have HL := Lib.hid hl; clear hl
    have d3 : decide (n ≤ t) = false := by simp; omega
    go_enter Tryz.func14, Tryz.ntmps14
    go_wp2
    go_ret
    exact ⟨by rw [← F.out]; rfl, (Below.refl _ _).alloc (Nat.le_refl _) _⟩
  · obtain ⟨h1, h2, h3⟩ := idx_bd (t := t) (n := n) (p := p) (by omega) (by omega) (by omega)
    have d3 : decide (n ≤ t) = true := by simp; omega
    have e1 : ((t : Int) - n) / p = (((t - n) / p : Nat) : Int) := by rw [show (t : Int) - n = ((t - n : Nat) : Int) by omega]; rfl
    have fin : Cv.at ⟨zs, p, i⟩ t = if nth zs (t - ((t - n) / p + 1) * p) = inf then inf else nth zs (t - ((t - n) / p + 1) * p) + (((t - n) / p + 1 : Nat) : Int) * i := by simp [Cv.at, hl, hlt]
    have hq : (t - n) / p ≤ t := by have := Nat.div_le_self (t - n) p; omega
    generalize (t - n) / p = q at *
    obtain ⟨j, hj⟩ : ∃ j, t - (q + 1) * p = j := ⟨_, rfl⟩
    rw [hj] at fin h2 h3
    have hki : ((q : Int) + 1) * i ≤ 2097153 * 1099511627776 := by
      refine Int.le_trans (Int.mul_le_mul_of_nonneg_left hi2 (by omega)) ?_
      omega
    have hki0 : 0 ≤ ((q : Int) + 1) * i := Int.mul_nonneg (by omega) hi
    have hpp : ((q : Int) + 1) * p = ((q + 1) * p : Nat) := by simp
    have hqp0 : 0 ≤ ((q : Int) + 1) * p := by omega
    have hqp1 : ((q : Int) + 1) * p ≤ t := by omega
    have e2 : (t : Int) - ((q : Int) + 1) * p = j := by omega
    have hcell := hc _ h2
    have hzz := hz j
    generalize nth zs j = v at *
    clear hc hz hA hpp hj h1
    have F := Lib.hid fin; clear fin
    have HL := Lib.hid hl; clear hl
    rw [show ((q + 1 : Nat) : Int) = (q : Int) + 1 by omega] at F
    by_cases hv : v = inf
    · subst hv
      unfold inf at hcell hzz
      go_enter Tryz.func14, Tryz.ntmps14
      go_wp2
      go_ret
      exact ⟨ret_int (by rw [F.out, if_pos trivial]; rfl), (Below.refl _ _).alloc (Nat.le_refl _) _⟩
    · have hv' : (v == 4611686018427387904) = false := by simp only [beq_eq_false_iff_ne]; exact hv
      rw [if_neg hv] at F
      clear hv
      go_enter Tryz.func14, Tryz.ntmps14
      go_wp2
      go_ret
      exact ⟨ret_int F.out.symm, (Below.refl _ _).alloc (Nat.le_refl _) _⟩

end Go.Proofs.YtaejfleahamapaaGreat

