/- Package curve: Same; slices.Equal. -/
import Derived.Test.YthdibkmjoiipgaaCurve2
import Derived.Deep.RegionHeld3
namespace Go.Proofs.Ythdibkmjoiipgaa
open Go.RowKit
set_option linter.unusedVariables false

set_option maxHeartbeats 1000000 in
theorem equalL_any (A B : Option Addr) (n m c d : Nat) (xs ys : List Int) (w : World) (hA : Ints w w.heap.size A n xs) (hB : Ints w w.heap.size B m ys) (hn : (n : Int) ≤ 1000000) (hm : (m : Int) ≤ 1000000) :
    Calls Try.prog 142 #[.slice A n c, .slice B m d] w fun e w' => e = .returned (.bool (eqL xs ys)) ∧ Below w.heap.size w w' := by
  have hl := hA.1
  have hl2 := hB.1
  by_cases hnm : n = m
  · subst hnm
    have b1 : ((n : Int) != n) = false := by simp
    have HL := Lib.hid hl; clear hl
    have HL2 := Lib.hid hl2; clear hl2
    go_enter Try.func142, Try.ntmps142
    go_wp2
    clear b1
    go_loopg [13] n (fun g t wx => ∃ k : Nat, k + g = n ∧ t = .int .i64 k ∧ Hid (∀ j, j < k → nth xs j = nth ys j) ∧ Below w.heap.size w wx)
    case atStart => exact ⟨0, by omega, rfl, (fun j hj => by omega), Below.refl _ _⟩
    case round =>
      obtain ⟨k, hkg, rfl, hok, bw⟩ := hrel
      have HOK := Lib.hid hok; clear hok
      by_cases hlt : k < n
      · obtain ⟨b, off, rfl, hb, hc⟩ := (hA.ext bw).2 (by omega)
        obtain ⟨b2, off2, rfl, hb2, hc2⟩ := (hB.ext bw).2 (by omega)
        have hck := hc k hlt
        have hck2 := hc2 k hlt
        obtain ⟨x, hx⟩ : ∃ x, x = nth xs k := ⟨_, rfl⟩
        obtain ⟨y, hy⟩ : ∃ y, y = nth ys k := ⟨_, rfl⟩
        rw [← hx] at hck
        rw [← hy] at hck2
        have HA := Lib.hid hA; clear hA
        have HB := Lib.hid hB; clear hB
        have HX := Lib.hid hx; clear hx
        have HY := Lib.hid hy; clear hy
        clear hc hc2
        have hk0 : 0 ≤ (k : Int) := by omega
        have hk1 : (k : Int) < n := by omega
        by_cases hxy : x = y
        · have b1 : (x != y) = false := by simp [hxy]
          have HXY := Lib.hid hxy; clear hxy
          go_wp2_with fail
          go_quiet (fail)
          go_wp2
          go_roundg (gk - 1)
          case measure => omega
          case rel =>
            refine ⟨k + 1, by omega, by go_num, fun j hj => ?_, bdrewN bw⟩
            by_cases e : j = k
            · rw [e, ← HX.out, ← HY.out]; exact HXY.out
            · exact HOK.out.out j (by omega)
        · have b1 : (x != y) = true := by simpa using hxy
          have F : Hid (eqL xs ys = false) := eqL_false (fun e => hxy (by rw [HX.out, HY.out, e]))
          clear hxy
          go_wp2_with fail
          go_quiet (fail)
          go_wp2
          go_ret
          exact ⟨ret_bool F.out.symm, bdrewN bw⟩
      · have F : Hid (eqL xs ys = true) := eqL_true (list_ext (by rw [HL.out, HL2.out]) (fun j hj => HOK.out.out j (by rw [HL.out] at hj; omega)))
        go_wp2
        go_ret
        exact ⟨ret_bool F.out.symm, bw⟩
  · have b1 : ((n : Int) != m) = true := by simp; omega
    have F : Hid (eqL xs ys = false) := eqL_false (fun e => hnm (by rw [← hl, ← hl2, e]))
    clear hl hl2 hnm
    go_enter Try.func142, Try.ntmps142
    go_wp2
    go_ret
    exact ⟨ret_bool F.out.symm, Below.refl _ _⟩

theorem same_any (A B : Option Addr) (n m c d : Nat) (p q i j : Int) (xs ys : List Int) (w : World) (hA : Ints w w.heap.size A n xs) (hB : Ints w w.heap.size B m ys) (hn : (n : Int) ≤ 1000000) (hm : (m : Int) ≤ 1000000) :
    Calls Try.prog 103 #[.agg #[.slice A n c, .int .i64 p, .int .i64 i], .agg #[.slice B m d, .int .i64 q, .int .i64 j]] w fun e w' => e = .returned (.bool (Cv.same ⟨xs, p, i⟩ ⟨ys, q, j⟩)) ∧ Below w.heap.size w w' := by
  have fin : Cv.same ⟨xs, p, i⟩ ⟨ys, q, j⟩ = (eqL xs ys && p == q && i == j) := rfl
  rw [fin]
  clear fin
  have cases : eqL xs ys = false ∨ (eqL xs ys = true ∧ (p == q) = false) ∨ (eqL xs ys = true ∧ (p == q) = true) := by
    cases eqL xs ys <;> cases (p == q) <;> simp
  have hA2 := (hA.alloc' (.cells #[.slice A n c, .int .i64 p, .int .i64 i] 46)).alloc' (.cells #[.slice B m d, .int .i64 q, .int .i64 j] 46)
  have hB2 := (hB.alloc' (.cells #[.slice A n c, .int .i64 p, .int .i64 i] 46)).alloc' (.cells #[.slice B m d, .int .i64 q, .int .i64 j] 46)
  have HA := Lib.hid hA2; have HB := Lib.hid hB2
  clear hA hB hA2 hB2
  rcases cases with h1 | ⟨h1, h2⟩ | ⟨h1, h2⟩
  all_goals
    go_enter Try.func103, Try.ntmps103
    go_wp2_with fail
    refine (equalL_any A B n m c d xs ys _ HA.out HB.out hn hm).mono ?_
    rintro e w1 ⟨rfl, hb⟩
    rw [h1]
    obtain ⟨hc, hf⟩ := bcell hb
    go_wp2_with fail
    go_ret
    exact ⟨by first | (simp [h1, h2]; done) | simp [h1], bthen (bthen (balloc _ _) (balloc _ _)) hb⟩

/-- true exactly if S -/
def RetQ (S : Prop) (w : World) (e : Ending) (w' : World) : Prop := (∃ b, (b = true ↔ S) ∧ e = .returned (.bool b)) ∧ Below w.heap.size w w'
theorem RetQ.no {S : Prop} {w w' : World} (h : ¬ S) (hb : Below w.heap.size w w') : RetQ S w (.returned (.bool false)) w' := ⟨⟨false, ⟨(fun e => by cases e), (fun e => absurd e h)⟩, rfl⟩, hb⟩
theorem RetQ.yes {S : Prop} {w w' : World} (h : S) (hb : Below w.heap.size w w') : RetQ S w (.returned (.bool true)) w' := ⟨⟨true, ⟨fun _ => h, fun _ => rfl⟩, rfl⟩, hb⟩
end Go.Proofs.Ythdibkmjoiipgaa
