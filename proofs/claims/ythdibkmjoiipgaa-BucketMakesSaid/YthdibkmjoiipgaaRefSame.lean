/- Same of the reference of layer 2. -/
import Derived.Test.YthdibkmjoiipgaaCurve2
import Derived.BigQuiet
import Derived.Deep.QuietTactic
import Derived.Deep.LoopGhost
namespace Go.Proofs.Ythdibkmjoiipgaa
open Go.RowKit
set_option linter.unusedVariables false

theorem ints_litC (w : World) (zs : List Int) : Ints (w.alloc (.cells (zs.map (Value.int .i64)).toArray 3)) (w.alloc (.cells (zs.map (Value.int .i64)).toArray 3)).heap.size (some ⟨w.heap.size, 0, none⟩) zs.length zs :=
  IBlk.ints (Blk.new w _ _)
theorem retC_none {er : Int} {w w1 : World} {x y z : Value} (bw : Below w.heap.size w w1) :
    RetC Cv.none er w (.returned (.tuple #[.agg #[.slice none 0 0, .int .i64 0, .int .i64 0], .int .i64 er])) (((w1.setCell ⟨w.heap.size, 0, none⟩ x).setCell ⟨w.heap.size, 1, none⟩ y).setCell ⟨w.heap.size, 2, none⟩ z) :=
  ⟨none, 0, 0, rfl, Ints.none_, (fun b off s h => by cases h), ((bw.setCell (by simp) _).setCell (by simp) _).setCell (by simp) _⟩
theorem retC_none0 {er : Int} {w w1 : World} (bw : Below w.heap.size w w1) :
    RetC Cv.none er w (.returned (.tuple #[.agg #[.slice none 0 0, .int .i64 0, .int .i64 0], .int .i64 er])) w1 :=
  ⟨none, 0, 0, rfl, Ints.none_, (fun b off s h => by cases h), bw⟩

set_option maxHeartbeats 1000000 in
theorem refSame_any (A B : Option Addr) (n m c d : Nat) (p q i j : Int) (xs ys : List Int) (w : World) (hA : Ints w w.heap.size A n xs) (hB : Ints w w.heap.size B m ys) (hn : (n : Int) ≤ 1000000) (hm : (m : Int) ≤ 1000000) :
    Calls Try.prog 25 #[.agg #[.slice A n c, .int .i64 p, .int .i64 i], .agg #[.slice B m d, .int .i64 q, .int .i64 j]] w fun e w' => e = .returned (.bool (Cv.same ⟨xs, p, i⟩ ⟨ys, q, j⟩)) ∧ Below w.heap.size w w' := by
  have hl := hA.1
  have hl2 := hB.1
  have fin : Cv.same ⟨xs, p, i⟩ ⟨ys, q, j⟩ = (eqL xs ys && p == q && i == j) := rfl
  rw [fin]
  clear fin
  by_cases hnm : n = m
  · by_cases hpq : p = q
    · by_cases hij : i = j
      · subst hnm hpq hij
        have hA2 := (hA.alloc' (.cells #[.slice A n c, .int .i64 p, .int .i64 i] 46)).alloc' (.cells #[.slice B n d, .int .i64 p, .int .i64 i] 46)
        have hB2 := (hB.alloc' (.cells #[.slice A n c, .int .i64 p, .int .i64 i] 46)).alloc' (.cells #[.slice B n d, .int .i64 p, .int .i64 i] 46)
        have ab := (Blk.new w 46 #[.slice A n c, .int .i64 p, .int .i64 i]).alloc (.cells #[.slice B n d, .int .i64 p, .int .i64 i] 46)
        have bb := Blk.new (w.alloc (.cells #[.slice A n c, .int .i64 p, .int .i64 i] 46)) 46 #[.slice B n d, .int .i64 p, .int .i64 i]
        simp only [World.size_alloc] at bb
        have bw := bthen (balloc w (.cells #[.slice A n c, .int .i64 p, .int .i64 i] 46)) (balloc _ (.cells #[.slice B n d, .int .i64 p, .int .i64 i] 46))
        have b1 : ((n : Int) != n) = false := by simp
        have b2 : (p != p) = false := by simp
        have b3 : (i != i) = false := by simp
        have HL := Lib.hid hl; have HL2 := Lib.hid hl2; have HW := Lib.hid bw
        clear hl hl2 hA hB bw
        go_enter Try.func25, Try.ntmps25
        go_wp2
        clear b1 b2 b3
        have hls := bb.lt
        generalize ((w.alloc (.cells #[.slice A n c, .int .i64 p, .int .i64 i] 46)).alloc (.cells #[.slice B n d, .int .i64 p, .int .i64 i] 46)) = w2 at *
        go_loopg [5] n (fun g t wx => ∃ k : Nat, k + g = n ∧ t = .int .i64 k ∧ Hid (∀ j, j < k → nth xs j = nth ys j) ∧ Below w2.heap.size w2 wx)
        case atStart => exact ⟨0, by omega, rfl, (fun j hj => by omega), Below.refl _ _⟩
        case round =>
          obtain ⟨k, hkg, rfl, hok, bx⟩ := hrel
          have HOK := Lib.hid hok; clear hok
          have hsx := bx.size
          have q0 := (ab.below bx (by omega)).cell 0; have q1 := (bb.below bx (by omega)).cell 0
          simp at q0 q1
          by_cases hlt : k < n
          · obtain ⟨b, off, rfl, hb, hc⟩ := (hA2.ext bx).2 (by omega)
            obtain ⟨b2, off2, rfl, hb2, hc2⟩ := (hB2.ext bx).2 (by omega)
            have hck := hc k hlt
            have hck2 := hc2 k hlt
            obtain ⟨x, hx⟩ : ∃ x, x = nth xs k := ⟨_, rfl⟩
            obtain ⟨y, hy⟩ : ∃ y, y = nth ys k := ⟨_, rfl⟩
            rw [← hx] at hck
            rw [← hy] at hck2
            have HA := Lib.hid hA2; have HB := Lib.hid hB2; have AB := Lib.hid ab; have BB := Lib.hid bb
            have HX := Lib.hid hx; have HY := Lib.hid hy
            clear hc hc2 hA2 hB2 hx hy ab bb
            have hk0 : 0 ≤ (k : Int) := by omega
            have hk1 : (k : Int) < n := by omega
            by_cases hxy : x = y
            · have b1 : (x != y) = false := by simp [hxy]
              have HXY := Lib.hid hxy; clear hxy
              go_wp2_with fail
              go_quiet (fail)
              go_wp2
              go_roundg (gk - 1)
              case measure => omega
              case rel =>
                refine ⟨k + 1, by omega, by go_num, fun j hj => ?_, bdrewN bx⟩
                by_cases e : j = k
                · rw [e, ← HX.out, ← HY.out]; exact HXY.out
                · exact HOK.out.out j (by omega)
            · have b1 : (x != y) = true := by simpa using hxy
              have F : Hid ((eqL xs ys && p == p && i == i) = false) := by
                show (eqL xs ys && p == p && i == i) = false
                rw [eqL_false (fun e => hxy (by rw [HX.out, HY.out, e]))]; rfl
              clear hxy
              go_wp2_with fail
              go_quiet (fail)
              go_wp2
              go_ret
              exact ⟨ret_bool F.out.symm, bdrewN (bthen HW.out bx)⟩
          · have F : Hid ((eqL xs ys && p == p && i == i) = true) := by
              show (eqL xs ys && p == p && i == i) = true
              rw [eqL_true (list_ext (by rw [HL.out, HL2.out]) (fun j hj => HOK.out.out j (by rw [HL.out] at hj; omega)))]; simp
            go_wp2
            go_ret
            exact ⟨ret_bool F.out.symm, bthen HW.out bx⟩
      · have b3 : (i != j) = true := by simpa using hij
        have b1 : ((n : Int) != m) = false := by simp; omega
        have b2 : (p != q) = false := by simpa using hpq
        have F : Hid ((eqL xs ys && p == q && i == j) = false) := by
          show (eqL xs ys && p == q && i == j) = false
          rw [beq_eq_false_iff_ne.2 hij, Bool.and_false]
        clear hij hpq hnm
        go_enter Try.func25, Try.ntmps25
        go_wp2
        go_ret
        exact ⟨ret_bool F.out.symm, bthen (balloc _ _) (balloc _ _)⟩
    · have b1 : ((n : Int) != m) = false := by simp; omega
      have b2 : (p != q) = true := by simpa using hpq
      have F : Hid ((eqL xs ys && p == q && i == j) = false) := by
        show (eqL xs ys && p == q && i == j) = false
        rw [beq_eq_false_iff_ne.2 hpq, Bool.and_false, Bool.false_and]
      clear hpq hnm
      go_enter Try.func25, Try.ntmps25
      go_wp2
      go_ret
      exact ⟨ret_bool F.out.symm, bthen (balloc _ _) (balloc _ _)⟩
  · have b1 : ((n : Int) != m) = true := by simp; omega
    have F : Hid ((eqL xs ys && p == q && i == j) = false) := by
      show (eqL xs ys && p == q && i == j) = false
      rw [eqL_false (fun e => hnm (by rw [← hl, ← hl2, e])), Bool.false_and, Bool.false_and]
    clear hnm
    go_enter Try.func25, Try.ntmps25
    go_wp2
    go_ret
    exact ⟨ret_bool F.out.symm, bthen (balloc _ _) (balloc _ _)⟩

end Go.Proofs.Ythdibkmjoiipgaa
