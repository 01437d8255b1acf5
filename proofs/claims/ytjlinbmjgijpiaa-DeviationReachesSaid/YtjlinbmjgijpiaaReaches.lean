/- The statement DeviationReaches: the walk. -/
import Derived.Test.YtjlinbmjgijpiaaAwake10
import Derived.Test.YtjlinbmjgijpiaaEnvL
namespace Go.Proofs.Ytjlinbmjgijpiaa
open Go.RowKit
set_option linter.unusedVariables false


set_option maxHeartbeats 2000000 in
set_option maxRecDepth 100000 in
theorem reachesLaw_any (A0 : Option Addr) (n0 c0 : Nat) (L : List Int) (t : Int) (w : World) (hL : Ints w w.heap.size A0 n0 L) (hc0 : n0 ≤ c0) (hn0 : (n0 : Int) ≤ 9223372036854775807) :
    Calls Try.prog 8 #[.slice A0 n0 c0, .int .i64 t] w fun e w' => e = .returned (.bool true) ∧ Below w.heap.size w w' := by
  go_enter Try.func8, Try.ntmps8
  go_wp2_with fail
  refine (new_any A0 n0 c0 L w hL hc0 hn0).mono ?_
  rintro e w1 ⟨rfl, hS1, hb1⟩
  have E := Lib.hid (EnvL.start hS1 hb1)
  clear hL hS1 hb1
  go_wp2_with fail
  refine (srcCurve2_any w.heap.size 8 w1 (by exact E.out.s) (by omega) (by omega)).mono ?_
  rintro e w2 ⟨f, A, n, c, hD, hcf, rfl, hI, hA, hS, hk⟩
  have hps := E.out.s.lt
  have E := Lib.hid (show EnvL w.heap.size w _ [(w2.heap.size, ⟨A, n, c, f⟩)] from (E.out.kept hS hk).push (X := ⟨A, n, c, f⟩) (CR.In.new hI hA hps))
  have HOK := Lib.hid hD.ok
  have hnl : n ≤ 1000 := by have h1 := hD.len; have h2 : f.vals.length = n := hI.1; omega
  clear hD hI hA hS hk hps
  obtain ⟨x0, x1, x2, hlx⟩ := (E.out.get 0 rfl).cells
  go_wp2_with fail
  refine (mod_any t 3000 _ (by omega) (by omega)).mono ?_
  rintro e w3 ⟨⟨v, hv0, hv1, rfl⟩, rfl⟩
  go_wp2_with fail
  refine (reachTop_any A n c f.per f.inc v f.vals _ (by exact (E.out.get 0 rfl).inn.ints) (by omega)).mono ?_
  rintro e w4 ⟨r, ok, er, hR, rfl, hb⟩
  have E := Lib.hid (E.out.below hb)
  have hR2 : ExS (Geq f v) r ok ∧ er = 0 := by
    rcases hR with ⟨h, _⟩ | ⟨_, _, h, _⟩ | ⟨_, _, h, h2⟩
    · exact absurd HOK.out h
    · omega
    · exact ⟨h, h2⟩
  obtain ⟨hx, rfl⟩ := hR2
  clear hb hR
  clear x0 x1 x2 hlx
  obtain ⟨x0, x1, x2, hlx⟩ := (E.out.get 0 rfl).cells
  rcases hx with ⟨rfl, k, rfl, hk1, hk2⟩ | ⟨rfl, rfl, hk⟩
  · have HK1 := Lib.hid hk1; have HK2 := Lib.hid hk2
    clear hk1 hk2
    by_cases hbig : (1048576 : Int) < k
    · go_wp2_with fail
      refine (awake10_any _).mono ?_
      rintro e wq ⟨rfl, hb⟩
      have bw := (E.out.below hb).fin
      go_wp2_with fail
      go_ret
      exact ⟨rfl, bw⟩
    · obtain ⟨x, hx⟩ : ∃ x, x = f.at k := ⟨_, rfl⟩
      have hxv : ¬ x < v := by
        rcases HK1.out with h | h
        · have := h.2; rw [hx, this]; unfold inf; omega
        · have := h.2; omega
      have HX := Lib.hid hx
      clear hx
      go_wp2_with fail
      refine (cval_any A n c f.per f.inc k f.vals _ (by exact (E.out.get 0 rfl).inn.ints) HOK.out (by omega) (by omega)).mono ?_
      rw [show Cv.at ⟨f.vals, f.per, f.inc⟩ ((k : Int)).toNat = x from by rw [Int.toNat_natCast]; exact HX.out.symm]
      rintro e w5 ⟨rfl, hb⟩
      have E := Lib.hid (E.out.below hb)
      clear hb
      clear x0 x1 x2 hlx
      obtain ⟨x0, x1, x2, hlx⟩ := (E.out.get 0 rfl).cells
      by_cases hk0 : k = 0
      · subst hk0
        go_wp2_with fail
        refine (awake10_any _).mono ?_
        rintro e wq ⟨rfl, hb⟩
        have bw := (E.out.below hb).fin
        go_wp2_with fail
        go_ret
        exact ⟨rfl, bw⟩
      · obtain ⟨y, hy⟩ : ∃ y, y = f.at (k - 1) := ⟨_, rfl⟩
        have hyv : y < v := by
          have h := HK2.out (k - 1) (by omega)
          by_cases h2 : y < v
          · exact h2
          · exact absurd (.inr ⟨by unfold inf; omega, by omega⟩) h
        have HY := Lib.hid hy
        have hb0 : ((k : Int) == 0) = false := by simp; omega
        have hk1 : (1 : Int) ≤ k := by omega
        have hkk : 0 ≤ (k : Int) - 1 := by omega
        clear hy hk0
        go_wp2_with fail
        refine (cval_any A n c f.per f.inc (k - 1) f.vals _ (by exact (E.out.get 0 rfl).inn.ints) HOK.out (by omega) (by omega)).mono ?_
        rw [show Cv.at ⟨f.vals, f.per, f.inc⟩ ((k : Int) - 1).toNat = y from by rw [show ((k : Int) - 1).toNat = k - 1 by omega]; exact HY.out.symm]
        rintro e w6 ⟨rfl, hb⟩
        have E := Lib.hid (E.out.below hb)
        clear hb
        clear x0 x1 x2 hlx
        obtain ⟨x0, x1, x2, hlx⟩ := (E.out.get 0 rfl).cells
        go_wp2_with fail
        refine (awake10_any _).mono ?_
        rintro e wq ⟨rfl, hb⟩
        have bw := (E.out.below hb).fin
        go_wp2_with fail
        go_ret
        exact ⟨rfl, bw⟩
  · obtain ⟨x, hx⟩ : ∃ x, x = f.at 1048576 := ⟨_, rfl⟩
    have hxv : x < v := by
      have h := hk 1048576
      by_cases h2 : x < v
      · exact h2
      · exact absurd (.inr ⟨by unfold inf; omega, by omega⟩) h
    have HX := Lib.hid hx
    clear hx hk
    go_wp2_with fail
    refine (cval_any A n c f.per f.inc 1048576 f.vals _ (by exact (E.out.get 0 rfl).inn.ints) HOK.out (by omega) (by omega)).mono ?_
    rw [show Cv.at ⟨f.vals, f.per, f.inc⟩ (1048576 : Int).toNat = x from HX.out.symm]
    rintro e w5 ⟨rfl, hb⟩
    have E := Lib.hid (E.out.below hb)
    clear hb
    clear x0 x1 x2 hlx
    obtain ⟨x0, x1, x2, hlx⟩ := (E.out.get 0 rfl).cells
    go_wp2_with fail
    refine (awake10_any _).mono ?_
    rintro e wq ⟨rfl, hb⟩
    have bw := (E.out.below hb).fin
    go_wp2_with fail
    go_ret
    exact ⟨rfl, bw⟩
end Go.Proofs.Ytjlinbmjgijpiaa
