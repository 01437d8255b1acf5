/- netcalculuslaw09.short: whether the lists are short. -/
import Derived.Test.YthdibkmjoiipgaaEnvL
import Derived.Test.YthdibkmjoiipgaaRefValid
import Derived.Test.YthdibkmjoiipgaaPwKit
import Derived.Deep.LoopGhost
namespace Go.Proofs.Ythdibkmjoiipgaa
open Go.RowKit
set_option linter.unusedVariables false

theorem refValid_big (A : Option Addr) (n c : Nat) (p i : Int) (w : World) (hn : 400 < n) (hn2 : (n : Int) ≤ 9223372036854775807) :
    Calls Try.prog 61 #[.agg #[.slice A n c, .int .i64 p, .int .i64 i]] w fun e w' => e = .returned (.bool false) ∧ Below w.heap.size w w' := by
  have d1 : decide ((n : Int) < 1) = false := by simp; omega
  have d2 : decide (400 < (n : Int)) = true := by simp; omega
  have bw := balloc w (.cells #[.slice A n c, .int .i64 p, .int .i64 i] 46)
  go_enter Try.func61, Try.ntmps61
  go_wp2
  go_ret
  exact ⟨rfl, bw⟩
theorem bthen' {w w1 w2 : World} (h : Below w.heap.size w w1) (k : Below w1.heap.size w1 w2) : Below w.heap.size w w2 := bthen h k
/-- what short returns -/
def RetSh (xs : List CR) (w : World) (e : Ending) (w' : World) : Prop := ∃ z, e = .returned (.bool z) ∧ (z = true → ∀ x ∈ xs, x.n ≤ 800) ∧ Below w.heap.size w w'
set_option maxHeartbeats 2000000 in
set_option maxRecDepth 100000 in
theorem short9_any (b cap N : Nat) (xs : List CR) (w : World) (hN : xs.length = N) (hN2 : N ≤ 100) (hR : Row w.heap.size w b xs) (h9 : ∀ x ∈ xs, (x.n : Int) ≤ 9223372036854775807) :
    Calls Try.prog 32 #[.slice (some ⟨b, 0, none⟩) N cap] w (RetSh xs w) := by
  have ROW := Lib.hid hR; have H9 := Lib.hid h9; have HN := Lib.hid hN
  have BW := Lib.hid (Below.refl w.heap.size w)
  clear hR h9 hN
  go_enter Try.func32, Try.ntmps32
  go_wp2_with fail
  go_loopg [4, 7] N (fun gg s4 s7 wx => ∃ k : Nat, k + gg = N ∧ s7 = .int .i64 k ∧ (∀ j y, j < k → xs[j]? = some y → y.n ≤ 800) ∧ Row w.heap.size wx b xs ∧ Below w.heap.size w wx)
  case atStart => exact ⟨0, by omega, rfl, (fun j y hj => by omega), ROW.out, BW.out⟩
  case round =>
    clear ROW BW
    obtain ⟨k, hkg, rfl, hg, hR, hB⟩ := hrel
    have ROW := Lib.hid hR; have BW := Lib.hid hB; have HG := Lib.hid hg
    clear hR hB hg
    by_cases hk : k < N
    · have hki : (k : Int) < N := by omega
      have hkx : k < xs.length := by rw [HN.out]; exact hk
      obtain ⟨x, hx⟩ : ∃ x, x = xs[k] := ⟨_, rfl⟩
      have HXK := Lib.hid (show xs[k]? = some x from by rw [hx]; exact List.getElem?_eq_getElem hkx)
      have hxm : x ∈ xs := by rw [hx]; exact List.getElem_mem hkx
      have hx9 := H9.out x hxm
      have hcell : ∀ j, j < 3 → wr.cell? ⟨b, k * 3 + j, none⟩ = x.cells[j]? := fun j hj => by
        have := ROW.out.blk.cell (k * 3 + j)
        rw [List.getElem?_toArray, flat_get xs k j x HXK.out hj] at this
        exact this
      have c0 := hcell 0 (by omega); have c1 := hcell 1 (by omega); have c2 := hcell 2 (by omega)
      simp [CR.cells] at c0 c1 c2
      have hlb := ROW.out.lt
      have XI := Lib.hid (ROW.out.inn x hxm)
      clear hcell hx hxm hkx
      go_upto_region 4 with fail
      clear c0 c1 c2 hlb
      have LX := Lib.hid (Blk.new wr 46 #[.slice x.A x.n x.c, .int .i64 x.f.per, .int .i64 x.f.inc])
      have IX := Lib.hid (XI.out.ints.alloc' (.cells #[.slice x.A x.n x.c, .int .i64 x.f.per, .int .i64 x.f.inc] 46))
      have ROW := Lib.hid (ROW.out.alloc (.cells #[.slice x.A x.n x.c, .int .i64 x.f.per, .int .i64 x.f.inc] 46))
      have BW := Lib.hid (bthen' BW.out (balloc wr (.cells #[.slice x.A x.n x.c, .int .i64 x.f.per, .int .i64 x.f.inc] 46)))
      generalize hwe : wr.alloc (.cells #[.slice x.A x.n x.c, .int .i64 x.f.per, .int .i64 x.f.inc] 46) = wo at *
      clear hwe XI
      generalize wr.heap.size = G at *
      obtain ⟨⟨k0, k1, k2⟩, _, hlx⟩ := LX.out.c3
      by_cases h70 : 70 < x.n
      · have dg : decide ((70 : Int) < (x.n : Int)) = true := by simp; omega
        have dg' : decide (70 < x.n) = true := by simp; omega
        clear h70
        by_cases hbig : 400 < x.n
        · go_wp2_with fail
          refine (refValid_big x.A x.n x.c x.f.per x.f.inc _ hbig hx9).mono ?_
          rintro e w2 ⟨rfl, hb⟩
          have ROW := Lib.hid (ROW.out.below hb); have LX := Lib.hid (LX.out.below hb LX.out.lt); have BW := Lib.hid (bthen' BW.out hb)
          clear hb IX
          clear k0 k1 k2 hlx
          obtain ⟨⟨k0, k1, k2⟩, _, hlx⟩ := LX.out.c3
          go_wp2_with fail
          refine (small_any x.A x.n x.c x.f.per x.f.inc _ hx9).mono ?_
          rintro e w3 ⟨rfl, hb⟩
          have ROW := Lib.hid (ROW.out.below hb); have LX := Lib.hid (LX.out.below hb LX.out.lt); have BW := Lib.hid (bthen' BW.out hb)
          clear hb
          clear k0 k1 k2 hlx
          obtain ⟨⟨k0, k1, k2⟩, _, hlx⟩ := LX.out.c3
          by_cases h8 : (x.n : Int) ≤ 800
          · rw [decide_eq_true h8]
            have G2 := Lib.hid (show ∀ j y, j < k + 1 → xs[j]? = some y → y.n ≤ 800 from fun j y hj hy => by
              rcases Nat.lt_or_ge j k with h1 | h1
              · exact HG.out j y h1 hy
              · obtain rfl : j = k := by omega
                rw [HXK.out] at hy
                injection hy with hy
                subst hy
                omega)
            go_wp2_with fail
            go_roundg (gk - 1)
            case measure => omega
            case rel => exact ⟨k + 1, by omega, by go_num, G2.out, ROW.out, BW.out⟩
          · rw [decide_eq_false h8]
            have bw := BW.out
            go_wp2_with fail
            go_ret
            exact ⟨_, rfl, (fun h => by cases h), bw⟩
        · obtain ⟨v, hv⟩ : ∃ v, v = Cv.okB ⟨x.f.vals, x.f.per, x.f.inc⟩ := ⟨_, rfl⟩
          have HV := Lib.hid hv
          clear hv
          go_wp2_with fail
          refine (refValid_any x.A x.n x.c x.f.per x.f.inc x.f.vals _ (by exact IX.out) (by omega)).mono ?_
          rw [← HV.out]
          rintro e w2 ⟨rfl, hb⟩
          have ROW := Lib.hid (ROW.out.below hb); have LX := Lib.hid (LX.out.below hb LX.out.lt); have BW := Lib.hid (bthen' BW.out hb)
          clear hb IX
          clear k0 k1 k2 hlx
          obtain ⟨⟨k0, k1, k2⟩, _, hlx⟩ := LX.out.c3
          cases v
          case true =>
            have bw := BW.out
            go_wp2_with fail
            go_ret
            exact ⟨_, rfl, (fun h => by cases h), bw⟩
          case false =>
            go_wp2_with fail
            refine (small_any x.A x.n x.c x.f.per x.f.inc _ hx9).mono ?_
            rintro e w3 ⟨rfl, hb⟩
            have ROW := Lib.hid (ROW.out.below hb); have LX := Lib.hid (LX.out.below hb LX.out.lt); have BW := Lib.hid (bthen' BW.out hb)
            clear hb
            clear k0 k1 k2 hlx
            obtain ⟨⟨k0, k1, k2⟩, _, hlx⟩ := LX.out.c3
            by_cases h8 : (x.n : Int) ≤ 800
            · rw [decide_eq_true h8]
              have G2 := Lib.hid (show ∀ j y, j < k + 1 → xs[j]? = some y → y.n ≤ 800 from fun j y hj hy => by
                rcases Nat.lt_or_ge j k with h1 | h1
                · exact HG.out j y h1 hy
                · obtain rfl : j = k := by omega
                  rw [HXK.out] at hy
                  injection hy with hy
                  subst hy
                  omega)
              go_wp2_with fail
              go_roundg (gk - 1)
              case measure => omega
              case rel => exact ⟨k + 1, by omega, by go_num, G2.out, ROW.out, BW.out⟩
            · rw [decide_eq_false h8]
              have bw := BW.out
              go_wp2_with fail
              go_ret
              exact ⟨_, rfl, (fun h => by cases h), bw⟩
      · have dg : decide ((70 : Int) < (x.n : Int)) = false := by simp; omega
        have dg' : decide (70 < x.n) = false := by simp; omega
        clear h70
        go_wp2_with fail
        refine (small_any x.A x.n x.c x.f.per x.f.inc _ hx9).mono ?_
        rintro e w3 ⟨rfl, hb⟩
        have ROW := Lib.hid (ROW.out.below hb); have LX := Lib.hid (LX.out.below hb LX.out.lt); have BW := Lib.hid (bthen' BW.out hb)
        clear hb
        clear k0 k1 k2 hlx
        obtain ⟨⟨k0, k1, k2⟩, _, hlx⟩ := LX.out.c3
        by_cases h8 : (x.n : Int) ≤ 800
        · rw [decide_eq_true h8]
          have G2 := Lib.hid (show ∀ j y, j < k + 1 → xs[j]? = some y → y.n ≤ 800 from fun j y hj hy => by
            rcases Nat.lt_or_ge j k with h1 | h1
            · exact HG.out j y h1 hy
            · obtain rfl : j = k := by omega
              rw [HXK.out] at hy
              injection hy with hy
              subst hy
              omega)
          go_wp2_with fail
          go_roundg (gk - 1)
          case measure => omega
          case rel => exact ⟨k + 1, by omega, by go_num, G2.out, ROW.out, BW.out⟩
        · rw [decide_eq_false h8]
          have bw := BW.out
          go_wp2_with fail
          go_ret
          exact ⟨_, rfl, (fun h => by cases h), bw⟩
    · have hkN : k = N := by omega
      have ALL := Lib.hid (show ∀ x ∈ xs, x.n ≤ 800 from fun x hx => by
        obtain ⟨j, hj, he⟩ := List.getElem_of_mem hx
        exact HG.out j x (by rw [hkN, ← HN.out]; exact hj) (by rw [List.getElem?_eq_getElem hj, he]))
      have hki : ¬ (k : Int) < N := by omega
      have bw := BW.out
      clear hk hkN
      go_wp2_with fail
      go_ret
      exact ⟨_, rfl, fun _ => ALL.out, bw⟩
end Go.Proofs.Ythdibkmjoiipgaa
