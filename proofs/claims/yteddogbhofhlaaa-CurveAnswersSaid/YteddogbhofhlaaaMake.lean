/- curve.Line, curve.Wait, and Same of the reference. -/
import Derived.Test.YteddogbhofhlaaaCurve2
import Derived.BigQuiet
import Derived.Deep.QuietTactic
import Derived.Deep.LoopGhost
namespace Go.Proofs.Yteddogbhofhlaaa
open Go.RowKit
set_option linter.unusedVariables false

theorem ints_litC (w : World) (zs : List Int) : Ints (w.alloc (.cells (zs.map (Value.int .i64)).toArray 3)) (w.alloc (.cells (zs.map (Value.int .i64)).toArray 3)).heap.size (some ⟨w.heap.size, 0, none⟩) zs.length zs :=
  IBlk.ints (Blk.new w _ _)
def lineC (r : Int) : Cv × Int := if r < 0 then (Cv.none, 2) else if 1073741824 < r then (Cv.none, 3) else (⟨[0], 1, r⟩, 0)
def waitC (t : Int) : Cv × Int := if t < 0 then (Cv.none, 2) else if 398 < t then (Cv.none, 3) else (⟨List.replicate (t.toNat + 1) 0 ++ [inf], 1, 0⟩, 0)

theorem retC_none {er : Int} {w w1 : World} {x y z : Value} (bw : Below w.heap.size w w1) :
    RetC Cv.none er w (.returned (.tuple #[.agg #[.slice none 0 0, .int .i64 0, .int .i64 0], .int .i64 er])) (((w1.setCell ⟨w.heap.size, 0, none⟩ x).setCell ⟨w.heap.size, 1, none⟩ y).setCell ⟨w.heap.size, 2, none⟩ z) :=
  ⟨none, 0, 0, rfl, Ints.none_, (fun b off s h => by cases h), ((bw.setCell (by simp) _).setCell (by simp) _).setCell (by simp) _⟩
theorem retC_none0 {er : Int} {w w1 : World} (bw : Below w.heap.size w w1) :
    RetC Cv.none er w (.returned (.tuple #[.agg #[.slice none 0 0, .int .i64 0, .int .i64 0], .int .i64 er])) w1 :=
  ⟨none, 0, 0, rfl, Ints.none_, (fun b off s h => by cases h), bw⟩

theorem line_any (r : Int) (w : World) : Calls Try.prog 63 #[.int .i64 r] w (RetC (lineC r).1 (lineC r).2 w) := by
  by_cases h0 : r < 0
  · rw [show lineC r = (Cv.none, 2) by unfold lineC; rw [if_pos h0]]
    go_enter Try.func63, Try.ntmps63
    go_wp2
    exact bodyPost_ret (v := .tuple #[.agg #[.slice none 0 0, .int .i64 0, .int .i64 0], .int .i64 2]) (by simp [results, Try.results63, go_sem]) rfl (retC_none0 (balloc _ _))
  · by_cases h1 : 1073741824 < r
    · rw [show lineC r = (Cv.none, 3) by unfold lineC; rw [if_neg h0, if_pos h1]]
      go_enter Try.func63, Try.ntmps63
      go_wp2
      exact bodyPost_ret (v := .tuple #[.agg #[.slice none 0 0, .int .i64 0, .int .i64 0], .int .i64 3]) (by simp [results, Try.results63, go_sem]) rfl (retC_none0 (balloc _ _))
    · rw [show lineC r = (⟨[0], 1, r⟩, 0) by unfold lineC; rw [if_neg h0, if_neg h1]]
      have hI := ints_litC (w.alloc (.cells #[.slice (some ⟨w.heap.size + 1, 0, none⟩) 1 1, .int .i64 1, .int .i64 r] 26)) [0]
      rw [show (w.alloc (.cells #[.slice (some ⟨w.heap.size + 1, 0, none⟩) 1 1, .int .i64 1, .int .i64 r] 26)).heap.size = w.heap.size + 1 by simp] at hI
      have HI := Lib.hid hI
      clear hI
      go_enter Try.func63, Try.ntmps63
      go_wp2
      exact bodyPost_ret (v := .tuple #[.agg #[.slice (some ⟨w.heap.size + 1, 0, none⟩) 1 1, .int .i64 1, .int .i64 r], .int .i64 0]) (by simp [results, Try.results63, go_sem]) rfl
        ⟨_, 1, 1, rfl, HI.out, (fun b off s h => by cases h; omega), bthen (balloc _ _) (balloc _ _)⟩

set_option maxHeartbeats 1000000 in
theorem refSame_any (A B : Option Addr) (n m c d : Nat) (p q i j : Int) (xs ys : List Int) (w : World) (hA : Ints w w.heap.size A n xs) (hB : Ints w w.heap.size B m ys) (hn : (n : Int) ≤ 1000000) (hm : (m : Int) ≤ 1000000) :
    Calls Try.prog 20 #[.agg #[.slice A n c, .int .i64 p, .int .i64 i], .agg #[.slice B m d, .int .i64 q, .int .i64 j]] w fun e w' => e = .returned (.bool (Cv.same ⟨xs, p, i⟩ ⟨ys, q, j⟩)) ∧ Below w.heap.size w w' := by
  have hl := hA.1
  have hl2 := hB.1
  have fin : Cv.same ⟨xs, p, i⟩ ⟨ys, q, j⟩ = (eqL xs ys && p == q && i == j) := rfl
  rw [fin]
  clear fin
  by_cases hnm : n = m
  · by_cases hpq : p = q
    · by_cases hij : i = j
      · subst hnm hpq hij
        have hA2 := (hA.alloc' (.cells #[.slice A n c, .int .i64 p, .int .i64 i] 26)).alloc' (.cells #[.slice B n d, .int .i64 p, .int .i64 i] 26)
        have hB2 := (hB.alloc' (.cells #[.slice A n c, .int .i64 p, .int .i64 i] 26)).alloc' (.cells #[.slice B n d, .int .i64 p, .int .i64 i] 26)
        have ab := (Blk.new w 26 #[.slice A n c, .int .i64 p, .int .i64 i]).alloc (.cells #[.slice B n d, .int .i64 p, .int .i64 i] 26)
        have bb := Blk.new (w.alloc (.cells #[.slice A n c, .int .i64 p, .int .i64 i] 26)) 26 #[.slice B n d, .int .i64 p, .int .i64 i]
        simp only [World.size_alloc] at bb
        have bw := bthen (balloc w (.cells #[.slice A n c, .int .i64 p, .int .i64 i] 26)) (balloc _ (.cells #[.slice B n d, .int .i64 p, .int .i64 i] 26))
        have b1 : ((n : Int) != n) = false := by simp
        have b2 : (p != p) = false := by simp
        have b3 : (i != i) = false := by simp
        have HL := Lib.hid hl; have HL2 := Lib.hid hl2; have HW := Lib.hid bw
        clear hl hl2 hA hB bw
        go_enter Try.func20, Try.ntmps20
        go_wp2
        clear b1 b2 b3
        have hls := bb.lt
        generalize ((w.alloc (.cells #[.slice A n c, .int .i64 p, .int .i64 i] 26)).alloc (.cells #[.slice B n d, .int .i64 p, .int .i64 i] 26)) = w2 at *
        go_loopg [5] n (fun g t wx => ∃ k : Nat, k + g = n ∧ t = .int .i64 k ∧ Hid (∀ j, j < k → nth xs j = nth ys j) ∧ Below w2.heap.size w2 wx)
        case atStart => exact ⟨0, by omega, rfl, (fun j hj => by omega), Below.refl _ _⟩
        case round =>
          obtain ⟨k, hkg, rfl, hok, bx⟩ := hrel
          have HOK := Lib.hid hok; clear hok
          have hsx := bx.size
          have q0 := (ab.below bx (by omega)).cell 0; have q1 := (bb.below bx (by omega)).cell 0
          simp at q0 q1
          by_cases hlt : k < n
          · obtain ⟨b, off, rfl, hb, hc⟩ := (hA2.ext bx).2 (by omega)
            obtain ⟨b2, off2, rfl, hb2, hc2⟩ := (hB2.ext bx).2 (by omega)
            have hck := hc k hlt
            have hck2 := hc2 k hlt
            obtain ⟨x, hx⟩ : ∃ x, x = nth xs k := ⟨_, rfl⟩
            obtain ⟨y, hy⟩ : ∃ y, y = nth ys k := ⟨_, rfl⟩
            rw [← hx] at hck
            rw [← hy] at hck2
            have HA := Lib.hid hA2; have HB := Lib.hid hB2; have AB := Lib.hid ab; have BB := Lib.hid bb
            have HX := Lib.hid hx; have HY := Lib.hid hy
            clear hc hc2 hA2 hB2 hx hy ab bb
            have hk0 : 0 ≤ (k : Int) := by omega
            have hk1 : (k : Int) < n := by omega
            by_cases hxy : x = y
            · have b1 : (x != y) = false := by simp [hxy]
              have HXY := Lib.hid hxy; clear hxy
              go_wp2_with fail
              go_quiet (fail)
              go_wp2
              go_roundg (gk - 1)
              case measure => omega
              case rel =>
                refine ⟨k + 1, by omega, by go_num, fun j hj => ?_, bdrewN bx⟩
                by_cases e : j = k
                · rw [e, ← HX.out, ← HY.out]; exact HXY.out
                · exact HOK.out.out j (by omega)
            · have b1 : (x != y) = true := by simpa using hxy
              have F : Hid ((eqL xs ys && p == p && i == i) = false) := by
                show (eqL xs ys && p == p && i == i) = false
                rw [eqL_false (fun e => hxy (by rw [HX.out, HY.out, e]))]; rfl
              clear hxy
              go_wp2_with fail
              go_quiet (fail)
              go_wp2
              go_ret
              exact ⟨ret_bool F.out.symm, bdrewN (bthen HW.out bx)⟩
          · have F : Hid ((eqL xs ys && p == p && i == i) = true) := by
              show (eqL xs ys && p == p && i == i) = true
              rw [eqL_true (list_ext (by rw [HL.out, HL2.out]) (fun j hj => HOK.out.out j (by rw [HL.out] at hj; omega)))]; simp
            go_wp2
            go_ret
            exact ⟨ret_bool F.out.symm, bthen HW.out bx⟩
      · have b3 : (i != j) = true := by simpa using hij
        have b1 : ((n : Int) != m) = false := by simp; omega
        have b2 : (p != q) = false := by simpa using hpq
        have F : Hid ((eqL xs ys && p == q && i == j) = false) := by
          show (eqL xs ys && p == q && i == j) = false
          rw [beq_eq_false_iff_ne.2 hij, Bool.and_false]
        clear hij hpq hnm
        go_enter Try.func20, Try.ntmps20
        go_wp2
        go_ret
        exact ⟨ret_bool F.out.symm, bthen (balloc _ _) (balloc _ _)⟩
    · have b1 : ((n : Int) != m) = false := by simp; omega
      have b2 : (p != q) = true := by simpa using hpq
      have F : Hid ((eqL xs ys && p == q && i == j) = false) := by
        show (eqL xs ys && p == q && i == j) = false
        rw [beq_eq_false_iff_ne.2 hpq, Bool.and_false, Bool.false_and]
      clear hpq hnm
      go_enter Try.func20, Try.ntmps20
      go_wp2
      go_ret
      exact ⟨ret_bool F.out.symm, bthen (balloc _ _) (balloc _ _)⟩
  · have b1 : ((n : Int) != m) = true := by simp; omega
    have F : Hid ((eqL xs ys && p == q && i == j) = false) := by
      show (eqL xs ys && p == q && i == j) = false
      rw [eqL_false (fun e => hnm (by rw [← hl, ← hl2, e])), Bool.false_and, Bool.false_and]
    clear hnm
    go_enter Try.func20, Try.ntmps20
    go_wp2
    go_ret
    exact ⟨ret_bool F.out.symm, bthen (balloc _ _) (balloc _ _)⟩

theorem wait_list (t : Nat) : (List.replicate (t + 2) (0 : Int)).set (t + 1) inf = List.replicate (t + 1) 0 ++ [inf] := by
  refine list_ext (by simp) (fun k hk => ?_)
  simp at hk
  rw [nth_set _ _ _ _ (by simp), nth_append, List.length_replicate]
  by_cases e : k = t + 1
  · subst e; simp [nth]
  · rw [if_neg e, if_pos (by omega), nth_replicate, nth_replicate]

set_option maxHeartbeats 1000000 in
theorem wait_any (t : Int) (w : World) : Calls Try.prog 64 #[.int .i64 t] w (RetC (waitC t).1 (waitC t).2 w) := by
  by_cases h0 : t < 0
  · rw [show waitC t = (Cv.none, 2) by unfold waitC; rw [if_pos h0]]
    go_enter Try.func64, Try.ntmps64
    go_wp2
    exact bodyPost_ret (v := .tuple #[.agg #[.slice none 0 0, .int .i64 0, .int .i64 0], .int .i64 2]) (by simp [results, Try.results64, go_sem]) rfl (retC_none0 (balloc _ _))
  · by_cases h1 : 398 < t
    · rw [show waitC t = (Cv.none, 3) by unfold waitC; rw [if_neg h0, if_pos h1]]
      go_enter Try.func64, Try.ntmps64
      go_wp2
      exact bodyPost_ret (v := .tuple #[.agg #[.slice none 0 0, .int .i64 0, .int .i64 0], .int .i64 3]) (by simp [results, Try.results64, go_sem]) rfl (retC_none0 (balloc _ _))
    · rw [show waitC t = (⟨List.replicate (t.toNat + 1) 0 ++ [inf], 1, 0⟩, 0) by unfold waitC; rw [if_neg h0, if_neg h1]]
      obtain ⟨t, rfl⟩ := Int.eq_ofNat_of_zero_le (show 0 ≤ t by omega)
      rw [Int.toNat_natCast]
      obtain ⟨i0, hi0, hz0, hz1, hz2⟩ := info_parts info_int
      go_enter Try.func64, Try.ntmps64
      go_wp2_with (at_make; refine wpList_make_full _ rfl _ _ 22 rfl w.heap.size 3 i0 _ 1 Try.underlying22 hi0 hz0 hz1 .i64 .i64 _ _ (t + 2) rfl rfl rfl rfl (by rw [hz2]; omega) (by unfold maxLen; omega) (by simp) ?_; intro w1 own1 grow1; have bw1 : Below w.heap.size w w1 := ((Below.refl _ _).alloc (Nat.le_refl _) _).grown grow1 (by simp) (by simp); have ib1 := IBlk.made own1 (by omega); have rb1 : Blk w1 w.heap.size 26 #[.slice none 0 0, .int .i64 0, .int .i64 0] := (Blk.new w _ _).grown grow1 (by simp); rw [show (w.alloc (.cells #[.slice none 0 0, .int .i64 0, .int .i64 0] 26)).heap.size = w.heap.size + 1 by simp] at ib1; have hsz1 := ib1.lt; have c1 := ib1.cell (t + 1) (by simp); have f1 := ib1.frozen (t + 1); have ib2 := ib1.set_ (t + 1) inf; rw [wait_list] at ib2; have r0 := rb1.cell 0; have r1 := rb1.cell 1; have r2 := rb1.cell 2; have z0 := rb1.frozen 0; have z1 := rb1.frozen 1; have z2 := rb1.frozen 2; simp at r0 r1 r2; have RB := Lib.hid rb1; have IB := Lib.hid ib2; have BW := Lib.hid bw1; clear own1 grow1 hi0 hz0 hz1 hz2 bw1 ib1 ib2 rb1)
      have rb2 := (RB.out.far (p := ⟨w.heap.size + 1, t + 1, none⟩) (by simp) (.int .i64 4611686018427387904)).store3 (.slice (some ⟨w.heap.size + 1, 0, none⟩) (t + 2) (t + 2)) (.int .i64 1) (.int .i64 0)
      have hI := IB.out.ints
      rw [show (List.replicate (t + 1) (0 : Int) ++ [inf]).length = t + 2 by simp] at hI
      exact bodyPost_ret (v := .tuple #[.agg #[.slice (some ⟨w.heap.size + 1, 0, none⟩) (t + 2) (t + 2), .int .i64 1, .int .i64 0], .int .i64 0]) (by simp [results, Try.results64, go_sem, rb2.cell]) rfl
        (retC_store3' (B := w.heap.size + 1) (fun b off s h => by cases h; omega) (Nat.le_refl _) (by omega) (f := ⟨List.replicate (t + 1) 0 ++ [inf], 1, 0⟩) hI (BW.out.setCell (by simp) _))
end Go.Proofs.Yteddogbhofhlaaa
