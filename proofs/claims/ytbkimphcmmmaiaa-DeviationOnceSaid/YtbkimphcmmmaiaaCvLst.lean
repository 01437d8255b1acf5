/- convolution.least: the least value of the splits. -/
import Derived.Test.YtbkimphcmmmaiaaCvBoth
import Derived.Test.YtbkimphcmmmaiaaTab
import Derived.Deep.QuietTactic
import Derived.BigQuiet
namespace Go.Proofs.Ytbkimphcmmmaiaa
open Go.RowKit
set_option linter.unusedVariables false

/-- the least value of the splits from lo on -/
def RetLs (a b : Cv) (lo t : Nat) (w : World) (e : Ending) (w' : World) : Prop := ∃ v, CvI a b lo t (t + 1) v ∧ 0 ≤ v ∧ v ≤ 4611686018427387904 ∧ e = .returned (.int .i64 v) ∧ Below w.heap.size w w'
theorem CvI.bd {a b : Cv} (ha : a.Ok) (hb : b.Ok) {lo t S : Nat} {v : Int} (ht : t ≤ 2000) (h : CvI a b lo t S v) : 0 ≤ v ∧ v ≤ 4611686018427387904 := by
  rcases h with ⟨_, rfl⟩ | ⟨⟨s, _, _, h3, rfl⟩, _⟩
  · unfold inf; omega
  · have := csp_bd ha hb ht h3; omega
set_option maxHeartbeats 1000000 in
theorem cvleast_any (q1 q2 N : Nat) (a b : Cv) (t lo : Nat) (w : World) (hA : RowI w q1 (tab a.at 0 N)) (hB : RowI w q2 (tab b.at 0 N)) (ha : a.Ok) (hb : b.Ok) (ht : t < N) (hN : N ≤ 2000) (hlo : lo ≤ t) :
    Calls Try.prog 144 #[.slice (some ⟨q1, 0, none⟩) N N, .slice (some ⟨q2, 0, none⟩) N N, .int .i64 t, .int .i64 lo, .int .i64 t] w (RetLs a b lo t w) := by
  have T1 := Lib.hid hA; have T2 := Lib.hid hB; have HA := Lib.hid ha; have HB := Lib.hid hb
  have BW := Lib.hid (Below.refl w.heap.size w)
  clear hA hB ha hb
  go_enter Try.func144, Try.ntmps144
  go_wp2_with fail
  go_loopg [12, 11] (t + 1 - lo) (fun gg s12 s11 wx => ∃ (S : Nat) (v : Int), lo ≤ S ∧ S + gg = t + 1 ∧ s12 = .int .i64 S ∧ s11 = .int .i64 v ∧ CvI a b lo t S v ∧ RowI wx q1 (tab a.at 0 N) ∧ RowI wx q2 (tab b.at 0 N) ∧ Below w.heap.size w wx)
  case atStart => exact ⟨lo, inf, Nat.le_refl _, by omega, rfl, rfl, CvI.zero a b lo t, T1.out, T2.out, BW.out⟩
  case round =>
    clear T1 T2 BW
    obtain ⟨S, v, hS, hgg, rfl, rfl, hI, h1, h2, h3⟩ := hrel
    have T1 := Lib.hid h1; have T2 := Lib.hid h2; have BW := Lib.hid h3; have HI := Lib.hid hI
    clear h1 h2 h3 hI
    by_cases hk : S ≤ t
    · have hki : (S : Int) ≤ t := by omega
      obtain ⟨u, hu⟩ : ∃ u, u = t - S := ⟨_, rfl⟩
      have e1 : IntKind.i64.wrap ((t : Int) - (S : Int)) = (u : Int) := by rw [IntWalk.i64_in _ (by omega)]; omega
      have hSN : S < N := by omega
      have huN : u < N := by omega
      have hSNi : (S : Int) < N := by omega
      have huNi : (u : Int) < N := by omega
      have hs0 : 0 ≤ (S : Int) := by omega
      have hu0 : 0 ≤ (u : Int) := by omega
      have c1 := T1.out.cell S (by rw [tab_length]; exact hSN)
      have c2 := T2.out.cell u (by rw [tab_length]; exact huN)
      rw [tab_nth _ _ _ _ hSN, Nat.zero_add] at c1
      rw [tab_nth _ _ _ _ huN, Nat.zero_add] at c2
      obtain ⟨x, hx⟩ : ∃ x, x = a.at S := ⟨_, rfl⟩
      obtain ⟨y, hy⟩ : ∃ y, y = b.at u := ⟨_, rfl⟩
      rw [← hx] at c1
      rw [← hy] at c2
      have bx := HA.out.at_bd (n := S) (by omega)
      have by' := HB.out.at_bd (n := u) (by omega)
      rw [← hx] at bx
      rw [← hy] at by'
      have hl1 := T1.out.lt; have hl2 := T2.out.lt
      have HU := Lib.hid hu; have HX := Lib.hid hx; have HY := Lib.hid hy
      clear hu hx hy
      by_cases ix : x = inf
      · have NI := Lib.hid (HI.out.skip (fun h => h.2.1 (bx.2.2 ix)))
        unfold inf at ix
        have dx : (x != 4611686018427387904) = false := by simpa using ix
        clear bx by' ix
        go_wp2_with fail
        go_quiet (fail)
        go_wp2_with fail
        go_roundg (gk - 1)
        case measure => omega
        case rel => exact ⟨S + 1, v, by omega, by omega, by go_num, rfl, NI.out, T1.out, T2.out, bdrewN BW.out⟩
      · have dx : (x != 4611686018427387904) = true := by unfold inf at ix; simpa using ix
        by_cases iy : y = inf
        · have NI := Lib.hid (HI.out.skip (fun h => h.2.2 (by rw [← HU.out]; exact by'.2.2 iy)))
          unfold inf at iy
          have dy : (y != 4611686018427387904) = false := by simpa using iy
          clear bx by' ix iy
          go_wp2_with fail
          go_quiet (fail)
          go_wp2_with fail
          go_roundg (gk - 1)
          case measure => omega
          case rel => exact ⟨S + 1, v, by omega, by omega, by go_num, rfl, NI.out, T1.out, T2.out, bdrewN BW.out⟩
        · have dy : (y != 4611686018427387904) = true := by unfold inf at iy; simpa using iy
          have HC := Lib.hid (show CSp a b t S from ⟨by omega, fun h => ix (by rw [HX.out]; exact h.2), fun h => iy (by rw [HY.out, HU.out]; exact h.2)⟩)
          have bd := csp_bd HA.out HB.out (show t ≤ 2000 by omega) HC.out
          rw [← HU.out, ← HX.out, ← HY.out] at bd
          have vb := HI.out.bd HA.out HB.out (by omega)
          have bx0 := bx.1; have by0 := by'.1
          have bd1 := bd.1; have bd2 := bd.2
          have e2 : IntKind.i64.wrap (x + y) = x + y := IntWalk.i64_in _ (by omega)
          obtain ⟨z, hz⟩ : ∃ z, z = x + y := ⟨_, rfl⟩
          rw [← hz] at e2 bd1 bd2
          have HZ := Lib.hid hz
          have e3 : x + y = z := hz.symm
          clear bx by' bd ix iy hz
          by_cases hlt : z < v
          · have NI := Lib.hid (HI.out.more hS HC.out (.inr (by rw [← HU.out, ← HX.out, ← HY.out]; omega)))
            rw [← HU.out, ← HX.out, ← HY.out, ← HZ.out] at NI
            clear vb
            go_wp2_with fail
            go_quiet (fail)
            go_wp2_with fail
            go_roundg (gk - 1)
            case measure => omega
            case rel => exact ⟨S + 1, z, by omega, by omega, by go_num, rfl, NI.out, T1.out, T2.out, bdrewN BW.out⟩
          · have NI := Lib.hid (HI.out.keep (by rw [← HU.out, ← HX.out, ← HY.out]; omega) (by rw [← HU.out, ← HX.out, ← HY.out]; unfold inf; omega))
            clear vb
            go_wp2_with fail
            go_quiet (fail)
            go_wp2_with fail
            go_roundg (gk - 1)
            case measure => omega
            case rel => exact ⟨S + 1, v, by omega, by omega, by go_num, rfl, NI.out, T1.out, T2.out, bdrewN BW.out⟩
    · have hki : ¬ (S : Int) ≤ t := by omega
      obtain rfl : S = t + 1 := by omega
      have bd := HI.out.bd HA.out HB.out (by omega)
      have BD := Lib.hid bd
      clear bd
      go_wp2_with fail
      go_ret
      exact ⟨v, HI.out, BD.out.1, BD.out.2, rfl, BW.out⟩
end Go.Proofs.Ytbkimphcmmmaiaa
