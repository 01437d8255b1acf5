/- Package order, the first part: wave.Common, the pair of two curves, and above. -/
import Derived.Test.YthdibkmjoiipgaaBy
import Derived.Test.YthdibkmjoiipgaaSto
import Derived.Test.YthdibkmjoiipgaaOrdLaw2
import Derived.BigQuiet
import Derived.Deep.QuietTactic
import Derived.Deep.LoopGhost
import Derived.Deep.RegionHeld3
import Derived.Deep.DeepCutAuto
import Derived.Deep.MidRow
import Derived.Laws.Rows
import Derived.Outline
namespace Go.Proofs.Ythdibkmjoiipgaa
open Go.RowKit
set_option linter.unusedVariables false

theorem oball {w0 w : World} (h : Below w0.heap.size w0 w) (o : Obj) : Below w0.heap.size w0 (w.alloc o) := bthen h (balloc w o)
theorem oblater {w0 w w' : World} (h : Below w0.heap.size w0 w) (k : Below w.heap.size w w') : Below w0.heap.size w0 w' := bthen h k

/-- the value of a pair -/
def pairV (A : Option Addr) (n c : Nat) (p i : Int) (B : Option Addr) (m d : Nat) (q j : Int) (s k r : Int) (b : Bool) : Value :=
  .agg #[.slice A n c, .int .i64 p, .int .i64 i, .slice B m d, .int .i64 q, .int .i64 j, .int .i64 s, .int .i64 k, .int .i64 r, .bool b]

set_option maxHeartbeats 1000000 in
theorem above_any (A B : Option Addr) (n m c d : Nat) (p i q j s k r : Int) (b : Bool) (xs ys : List Int) (t : Int) (w : World) (hA : Ints w w.heap.size A n xs) (hB : Ints w w.heap.size B m ys)
    (hf : Cv.Ok ⟨xs, p, i⟩) (hg : Cv.Ok ⟨ys, q, j⟩) (ht0 : 0 ≤ t) (ht : t ≤ 1000000) :
    Calls Try.prog 161 #[pairV A n c p i B m d q j s k r b, .int .i64 t] w fun e w' => e = .returned (.bool (decide (Cv.at ⟨ys, q, j⟩ t.toNat < Cv.at ⟨xs, p, i⟩ t.toNat))) ∧ Below w.heap.size w w' := by
  have hn := hf.n2; have hm := hg.n2
  have hp1 := hf.p1; have hpn := hf.pn; have hi1 := hf.i1; have hi2 := hf.i2
  have hq1 := hg.p1; have hqm := hg.pn; have hj1 := hg.i1; have hj2 := hg.i2
  have hl := hA.1; have hl2 := hB.1
  simp only [hl, hl2] at hn hm hp1 hpn hi1 hi2 hq1 hqm hj1 hj2
  have NF := Lib.hid hf.nn; have NG := Lib.hid hg.nn
  obtain ⟨x, hx⟩ : ∃ x, x = Cv.at ⟨xs, p, i⟩ t.toNat := ⟨_, rfl⟩
  obtain ⟨y, hy⟩ : ∃ y, y = Cv.at ⟨ys, q, j⟩ t.toNat := ⟨_, rfl⟩
  rw [← hx, ← hy]
  have HX := Lib.hid hx; have HY := Lib.hid hy
  have pv : pairV A n c p i B m d q j s k r b = .agg #[.slice A n c, .int .i64 p, .int .i64 i, .slice B m d, .int .i64 q, .int .i64 j, .int .i64 s, .int .i64 k, .int .i64 r, .bool b] := rfl
  rw [pv]
  clear hx hy hf hg hl hl2 pv
  have PB := Lib.hid (Blk.new w 146 #[.slice A n c, .int .i64 p, .int .i64 i, .slice B m d, .int .i64 q, .int .i64 j, .int .i64 s, .int .i64 k, .int .i64 r, .bool b])
  have IA := Lib.hid (hA.alloc' (.cells #[.slice A n c, .int .i64 p, .int .i64 i, .slice B m d, .int .i64 q, .int .i64 j, .int .i64 s, .int .i64 k, .int .i64 r, .bool b] 146))
  have IB := Lib.hid (hB.alloc' (.cells #[.slice A n c, .int .i64 p, .int .i64 i, .slice B m d, .int .i64 q, .int .i64 j, .int .i64 s, .int .i64 k, .int .i64 r, .bool b] 146))
  have BW := Lib.hid (balloc w (.cells #[.slice A n c, .int .i64 p, .int .i64 i, .slice B m d, .int .i64 q, .int .i64 j, .int .i64 s, .int .i64 k, .int .i64 r, .bool b] 146))
  clear hA hB
  go_enter Try.func161, Try.ntmps161
  go_wp2_with fail
  generalize hw1 : w.alloc (.cells #[.slice A n c, .int .i64 p, .int .i64 i, .slice B m d, .int .i64 q, .int .i64 j, .int .i64 s, .int .i64 k, .int .i64 r, .bool b] 146) = w1 at *
  clear hw1
  have q0 := PB.out.cell 0; have q1 := PB.out.cell 1; have q2 := PB.out.cell 2; have q3 := PB.out.cell 3; have q4 := PB.out.cell 4; have q5 := PB.out.cell 5
  simp at q0 q1 q2 q3 q4 q5
  have hlp := PB.out.lt
  go_region_held3 (fun w' => w'.cell? ⟨w.heap.size, 0, none⟩ = some (.slice A n c) ∧ w'.cell? ⟨w.heap.size, 1, none⟩ = some (.int .i64 p) ∧ w'.cell? ⟨w.heap.size, 2, none⟩ = some (.int .i64 i) ∧
      w'.cell? ⟨w.heap.size, 3, none⟩ = some (.slice B m d) ∧ w'.cell? ⟨w.heap.size, 4, none⟩ = some (.int .i64 q) ∧ w'.cell? ⟨w.heap.size, 5, none⟩ = some (.int .i64 j)) (first | go_keep)
    (first
      | (go_at_call_of 108 (Value.agg #[.slice A n c, .int .i64 p, .int .i64 i])
         refine (at_any A n c p i t xs _ (by exact IA.out) (by omega) hp1 hpn hi1 (by omega) NF.out ht0 (by omega)).mono ?_
         rintro e w3 ⟨rfl, hb3⟩
         rw [← HX.out]
         have IA := Lib.hid (IA.out.ext (by first | exact hb3 | exact bofdrew hb3))
         have IB := Lib.hid (IB.out.ext (by first | exact hb3 | exact bofdrew hb3))
         have BW := Lib.hid (bthen BW.out (by first | exact hb3 | exact bofdrew hb3))
         have PB := Lib.hid (PB.out.below (by first | exact hb3 | exact bofdrew hb3) PB.out.lt)
         clear q0 q1 q2 q3 q4 q5 hlp hb3
         have q0 := PB.out.cell 0; have q1 := PB.out.cell 1; have q2 := PB.out.cell 2; have q3 := PB.out.cell 3; have q4 := PB.out.cell 4; have q5 := PB.out.cell 5
         simp at q0 q1 q2 q3 q4 q5
         have hlp := PB.out.lt)
      | (go_at_call_of 108 (Value.agg #[.slice B m d, .int .i64 q, .int .i64 j])
         refine (at_any B m d q j t ys _ (by exact IB.out) (by omega) hq1 hqm hj1 (by omega) NG.out ht0 (by omega)).mono ?_
         rintro e w3 ⟨rfl, hb3⟩
         rw [← HY.out]
         have IA := Lib.hid (IA.out.ext (by first | exact hb3 | exact bofdrew hb3))
         have IB := Lib.hid (IB.out.ext (by first | exact hb3 | exact bofdrew hb3))
         have BW := Lib.hid (bthen BW.out (by first | exact hb3 | exact bofdrew hb3))
         have PB := Lib.hid (PB.out.below (by first | exact hb3 | exact bofdrew hb3) PB.out.lt)
         clear q0 q1 q2 q3 q4 q5 hlp hb3
         have q0 := PB.out.cell 0; have q1 := PB.out.cell 1; have q2 := PB.out.cell 2; have q3 := PB.out.cell 3; have q4 := PB.out.cell 4; have q5 := PB.out.cell 5
         simp at q0 q1 q2 q3 q4 q5
         have hlp := PB.out.lt))
  all_goals
    go_wp2_with fail
    go_ret
    exact ⟨rfl, BW.out⟩

theorem Blk.store10 {w : World} {g : Nat} {t : TypeId} {z0 z1 z2 z3 z4 z5 z6 z7 z8 z9 : Value} (h : Blk w g t #[z0, z1, z2, z3, z4, z5, z6, z7, z8, z9]) (a0 a1 a2 a3 a4 a5 a6 a7 a8 a9 : Value) :
    Blk ((((((((((w.setCell ⟨g, 0, none⟩ a0).setCell ⟨g, 1, none⟩ a1).setCell ⟨g, 2, none⟩ a2).setCell ⟨g, 3, none⟩ a3).setCell ⟨g, 4, none⟩ a4).setCell ⟨g, 5, none⟩ a5).setCell ⟨g, 6, none⟩ a6).setCell ⟨g, 7, none⟩ a7).setCell ⟨g, 8, none⟩ a8).setCell ⟨g, 9, none⟩ a9) g t #[a0, a1, a2, a3, a4, a5, a6, a7, a8, a9] := by
  have h0 : Blk _ g t #[a0, z1, z2, z3, z4, z5, z6, z7, z8, z9] := h.set_ 0 a0
  have h1 : Blk _ g t #[a0, a1, z2, z3, z4, z5, z6, z7, z8, z9] := h0.set_ 1 a1
  have h2 : Blk _ g t #[a0, a1, a2, z3, z4, z5, z6, z7, z8, z9] := h1.set_ 2 a2
  have h3 : Blk _ g t #[a0, a1, a2, a3, z4, z5, z6, z7, z8, z9] := h2.set_ 3 a3
  have h4 : Blk _ g t #[a0, a1, a2, a3, a4, z5, z6, z7, z8, z9] := h3.set_ 4 a4
  have h5 : Blk _ g t #[a0, a1, a2, a3, a4, a5, z6, z7, z8, z9] := h4.set_ 5 a5
  have h6 : Blk _ g t #[a0, a1, a2, a3, a4, a5, a6, z7, z8, z9] := h5.set_ 6 a6
  have h7 : Blk _ g t #[a0, a1, a2, a3, a4, a5, a6, a7, z8, z9] := h6.set_ 7 a7
  have h8 : Blk _ g t #[a0, a1, a2, a3, a4, a5, a6, a7, a8, z9] := h7.set_ 8 a8
  exact h8.set_ 9 a9

theorem bstore10 {B : Nat} {w0 w : World} (h : Below B w0 w) {g : Nat} (hg : B ≤ g) (a0 a1 a2 a3 a4 a5 a6 a7 a8 a9 : Value) : Below B w0 ((((((((((w.setCell ⟨g, 0, none⟩ a0).setCell ⟨g, 1, none⟩ a1).setCell ⟨g, 2, none⟩ a2).setCell ⟨g, 3, none⟩ a3).setCell ⟨g, 4, none⟩ a4).setCell ⟨g, 5, none⟩ a5).setCell ⟨g, 6, none⟩ a6).setCell ⟨g, 7, none⟩ a7).setCell ⟨g, 8, none⟩ a8).setCell ⟨g, 9, none⟩ a9) := by
  have h0 := h.setCell (p := ⟨g, 0, none⟩) hg a0
  have h1 := h0.setCell (p := ⟨g, 1, none⟩) hg a1
  have h2 := h1.setCell (p := ⟨g, 2, none⟩) hg a2
  have h3 := h2.setCell (p := ⟨g, 3, none⟩) hg a3
  have h4 := h3.setCell (p := ⟨g, 4, none⟩) hg a4
  have h5 := h4.setCell (p := ⟨g, 5, none⟩) hg a5
  have h6 := h5.setCell (p := ⟨g, 6, none⟩) hg a6
  have h7 := h6.setCell (p := ⟨g, 7, none⟩) hg a7
  have h8 := h7.setCell (p := ⟨g, 8, none⟩) hg a8
  exact h8.setCell (p := ⟨g, 9, none⟩) hg a9

theorem cell_set10 {w : World} {g b o : Nat} {a0 a1 a2 a3 a4 a5 a6 a7 a8 a9 : Value} (h : g ≠ b) : ((((((((((w.setCell ⟨g, 0, none⟩ a0).setCell ⟨g, 1, none⟩ a1).setCell ⟨g, 2, none⟩ a2).setCell ⟨g, 3, none⟩ a3).setCell ⟨g, 4, none⟩ a4).setCell ⟨g, 5, none⟩ a5).setCell ⟨g, 6, none⟩ a6).setCell ⟨g, 7, none⟩ a7).setCell ⟨g, 8, none⟩ a8).setCell ⟨g, 9, none⟩ a9).cell? ⟨b, o, none⟩ = w.cell? ⟨b, o, none⟩ := by
  rw [World.cell?_setCell_other _ _ _ _ (fun e => by injection e with e; exact h e), World.cell?_setCell_other _ _ _ _ (fun e => by injection e with e; exact h e), World.cell?_setCell_other _ _ _ _ (fun e => by injection e with e; exact h e), World.cell?_setCell_other _ _ _ _ (fun e => by injection e with e; exact h e), World.cell?_setCell_other _ _ _ _ (fun e => by injection e with e; exact h e), World.cell?_setCell_other _ _ _ _ (fun e => by injection e with e; exact h e), World.cell?_setCell_other _ _ _ _ (fun e => by injection e with e; exact h e), World.cell?_setCell_other _ _ _ _ (fun e => by injection e with e; exact h e), World.cell?_setCell_other _ _ _ _ (fun e => by injection e with e; exact h e), World.cell?_setCell_other _ _ _ _ (fun e => by injection e with e; exact h e)]

theorem Blk.far10 {w : World} {g h : Nat} {t : TypeId} {cs : Array Value} {a0 a1 a2 a3 a4 a5 a6 a7 a8 a9 : Value} (H : Blk w h t cs) (hne : h ≠ g) : Blk ((((((((((w.setCell ⟨g, 0, none⟩ a0).setCell ⟨g, 1, none⟩ a1).setCell ⟨g, 2, none⟩ a2).setCell ⟨g, 3, none⟩ a3).setCell ⟨g, 4, none⟩ a4).setCell ⟨g, 5, none⟩ a5).setCell ⟨g, 6, none⟩ a6).setCell ⟨g, 7, none⟩ a7).setCell ⟨g, 8, none⟩ a8).setCell ⟨g, 9, none⟩ a9) h t cs :=
  (Blk.far (Blk.far (Blk.far (Blk.far (Blk.far (Blk.far (Blk.far (Blk.far (Blk.far (Blk.far H (p := ⟨g, 0, none⟩) hne a0) (p := ⟨g, 1, none⟩) hne a1) (p := ⟨g, 2, none⟩) hne a2) (p := ⟨g, 3, none⟩) hne a3) (p := ⟨g, 4, none⟩) hne a4) (p := ⟨g, 5, none⟩) hne a5) (p := ⟨g, 6, none⟩) hne a6) (p := ⟨g, 7, none⟩) hne a7) (p := ⟨g, 8, none⟩) hne a8) (p := ⟨g, 9, none⟩) hne a9)
theorem Ints.far10 {w : World} {g n : Nat} {A : Option Addr} {zs : List Int} {a0 a1 a2 a3 a4 a5 a6 a7 a8 a9 : Value} (H : Ints w w.heap.size A n zs) (hne : ∀ b off s, A = some ⟨b, off, s⟩ → b ≠ g) : Ints ((((((((((w.setCell ⟨g, 0, none⟩ a0).setCell ⟨g, 1, none⟩ a1).setCell ⟨g, 2, none⟩ a2).setCell ⟨g, 3, none⟩ a3).setCell ⟨g, 4, none⟩ a4).setCell ⟨g, 5, none⟩ a5).setCell ⟨g, 6, none⟩ a6).setCell ⟨g, 7, none⟩ a7).setCell ⟨g, 8, none⟩ a8).setCell ⟨g, 9, none⟩ a9) ((((((((((w.setCell ⟨g, 0, none⟩ a0).setCell ⟨g, 1, none⟩ a1).setCell ⟨g, 2, none⟩ a2).setCell ⟨g, 3, none⟩ a3).setCell ⟨g, 4, none⟩ a4).setCell ⟨g, 5, none⟩ a5).setCell ⟨g, 6, none⟩ a6).setCell ⟨g, 7, none⟩ a7).setCell ⟨g, 8, none⟩ a8).setCell ⟨g, 9, none⟩ a9).heap.size A n zs := by
  have h := (Ints.setCell (Ints.setCell (Ints.setCell (Ints.setCell (Ints.setCell (Ints.setCell (Ints.setCell (Ints.setCell (Ints.setCell (Ints.setCell H (p := ⟨g, 0, none⟩) hne a0) (p := ⟨g, 1, none⟩) hne a1) (p := ⟨g, 2, none⟩) hne a2) (p := ⟨g, 3, none⟩) hne a3) (p := ⟨g, 4, none⟩) hne a4) (p := ⟨g, 5, none⟩) hne a5) (p := ⟨g, 6, none⟩) hne a6) (p := ⟨g, 7, none⟩) hne a7) (p := ⟨g, 8, none⟩) hne a8) (p := ⟨g, 9, none⟩) hne a9)
  simpa using h
theorem Ints.set1 {w : World} {n : Nat} {A : Option Addr} {zs : List Int} {p : Addr} {u : Value} (H : Ints w w.heap.size A n zs) (hne : ∀ b off s, A = some ⟨b, off, s⟩ → b ≠ p.block) : Ints (w.setCell p u) (w.setCell p u).heap.size A n zs := by
  simpa using H.setCell hne u

def RetP (v : Value) (w : World) (e : Ending) (w' : World) : Prop := e = .returned (.tuple #[v, .int .i64 0]) ∧ Below w.heap.size w w'

set_option maxHeartbeats 1000000 in
set_option maxRecDepth 100000 in
theorem both_bad (A B : Option Addr) (n m c d : Nat) (p i q j : Int) (xs ys : List Int) (w : World) (hA : Ints w w.heap.size A n xs) (hB : Ints w w.heap.size B m ys) (hn : (n : Int) ≤ 1000000) (hm : (m : Int) ≤ 1000000)
    (hbad : ¬ (Cv.Ok ⟨xs, p, i⟩ ∧ Cv.Ok ⟨ys, q, j⟩)) :
    Calls Try.prog 160 #[.agg #[.slice A n c, .int .i64 p, .int .i64 i], .agg #[.slice B m d, .int .i64 q, .int .i64 j]] w fun e w' =>
      e = .returned (.tuple #[pairV none 0 0 0 0 none 0 0 0 0 0 0 0 false, .int .i64 1]) ∧ Below w.heap.size w w' := by
  unfold pairV
  have IA := Lib.hid (((hA.alloc' (.cells #[.slice A n c, .int .i64 p, .int .i64 i] 46)).alloc' (.cells #[.slice B m d, .int .i64 q, .int .i64 j] 46)).alloc' (.cells #[.slice none 0 0, .int .i64 0, .int .i64 0, .slice none 0 0, .int .i64 0, .int .i64 0, .int .i64 0, .int .i64 0, .int .i64 0, .bool false] 146))
  have IB := Lib.hid (((hB.alloc' (.cells #[.slice A n c, .int .i64 p, .int .i64 i] 46)).alloc' (.cells #[.slice B m d, .int .i64 q, .int .i64 j] 46)).alloc' (.cells #[.slice none 0 0, .int .i64 0, .int .i64 0, .slice none 0 0, .int .i64 0, .int .i64 0, .int .i64 0, .int .i64 0, .int .i64 0, .bool false] 146))
  have hbad' : Cv.okB ⟨xs, p, i⟩ = false ∨ (Cv.okB ⟨xs, p, i⟩ = true ∧ Cv.okB ⟨ys, q, j⟩ = false) := by
    by_cases h1 : Cv.Ok ⟨xs, p, i⟩
    · exact .inr ⟨Cv.okB_true h1, Cv.okB_false fun h2 => hbad ⟨h1, h2⟩⟩
    · exact .inl (Cv.okB_false h1)
  clear hA hB hbad
  have FB := Lib.hid (((Blk.new w 46 #[.slice A n c, .int .i64 p, .int .i64 i]).alloc (.cells #[.slice B m d, .int .i64 q, .int .i64 j] 46)).alloc (.cells #[.slice none 0 0, .int .i64 0, .int .i64 0, .slice none 0 0, .int .i64 0, .int .i64 0, .int .i64 0, .int .i64 0, .int .i64 0, .bool false] 146))
  have gb := (Blk.new (w.alloc (.cells #[.slice A n c, .int .i64 p, .int .i64 i] 46)) 46 #[.slice B m d, .int .i64 q, .int .i64 j]).alloc (.cells #[.slice none 0 0, .int .i64 0, .int .i64 0, .slice none 0 0, .int .i64 0, .int .i64 0, .int .i64 0, .int .i64 0, .int .i64 0, .bool false] 146)
  rw [World.size_alloc] at gb
  have rb := Blk.new ((w.alloc (.cells #[.slice A n c, .int .i64 p, .int .i64 i] 46)).alloc (.cells #[.slice B m d, .int .i64 q, .int .i64 j] 46)) 146 #[.slice none 0 0, .int .i64 0, .int .i64 0, .slice none 0 0, .int .i64 0, .int .i64 0, .int .i64 0, .int .i64 0, .int .i64 0, .bool false]
  rw [World.size_alloc, World.size_alloc] at rb
  have GB := Lib.hid gb; have RB := Lib.hid rb
  have BW := Lib.hid (bthen (bthen (balloc w (.cells #[.slice A n c, .int .i64 p, .int .i64 i] 46)) (balloc _ (.cells #[.slice B m d, .int .i64 q, .int .i64 j] 46))) (balloc _ (.cells #[.slice none 0 0, .int .i64 0, .int .i64 0, .slice none 0 0, .int .i64 0, .int .i64 0, .int .i64 0, .int .i64 0, .int .i64 0, .bool false] 146)))
  clear gb rb
  rcases hbad' with h1 | ⟨h1, h2⟩
  · go_enter Try.func160, Try.ntmps160
    go_wp2_with fail
    refine (valid_any A n c p i xs _ IA.out hn).mono ?_
    rw [h1]
    rintro e w1 ⟨rfl, hb⟩
    have IA := Lib.hid (IA.out.ext hb); have IB := Lib.hid (IB.out.ext hb); have BW := Lib.hid (bthen BW.out hb)
    have FB := Lib.hid (FB.out.below hb FB.out.lt); have GB := Lib.hid (GB.out.below hb GB.out.lt); have RB := Lib.hid (RB.out.below hb RB.out.lt)
    have f0 := FB.out.cell 0; have f1 := FB.out.cell 1; have f2 := FB.out.cell 2; have g0 := GB.out.cell 0; have g1 := GB.out.cell 1; have g2 := GB.out.cell 2
    simp at f0 f1 f2 g0 g1 g2
    have hlf := FB.out.lt; have hlg := GB.out.lt; have hlr := RB.out.lt
    have r0 := RB.out.cell 0; have v0 := RB.out.frozen 0; have r1 := RB.out.cell 1; have v1 := RB.out.frozen 1; have r2 := RB.out.cell 2; have v2 := RB.out.frozen 2; have r3 := RB.out.cell 3; have v3 := RB.out.frozen 3; have r4 := RB.out.cell 4; have v4 := RB.out.frozen 4
    have r5 := RB.out.cell 5; have v5 := RB.out.frozen 5; have r6 := RB.out.cell 6; have v6 := RB.out.frozen 6; have r7 := RB.out.cell 7; have v7 := RB.out.frozen 7; have r8 := RB.out.cell 8; have v8 := RB.out.frozen 8; have r9 := RB.out.cell 9; have v9 := RB.out.frozen 9
    simp at r0 r1 r2 r3 r4 r5 r6 r7 r8 r9
    go_wp2_with fail
    exact bodyPost_ret (v := .tuple #[.agg #[.slice none 0 0, .int .i64 0, .int .i64 0, .slice none 0 0, .int .i64 0, .int .i64 0, .int .i64 0, .int .i64 0, .int .i64 0, .bool false], .int .i64 1]) (by simp [results, Try.results160, go_sem, (RB.out.store10 _ _ _ _ _ _ _ _ _ _).cell]) rfl ⟨rfl, bstore10 BW.out (by omega) _ _ _ _ _ _ _ _ _ _⟩
  · go_enter Try.func160, Try.ntmps160
    go_wp2_with fail
    refine (valid_any A n c p i xs _ IA.out hn).mono ?_
    rw [h1]
    rintro e w1 ⟨rfl, hb⟩
    have IA := Lib.hid (IA.out.ext hb); have IB := Lib.hid (IB.out.ext hb); have BW := Lib.hid (bthen BW.out hb)
    have FB := Lib.hid (FB.out.below hb FB.out.lt); have GB := Lib.hid (GB.out.below hb GB.out.lt); have RB := Lib.hid (RB.out.below hb RB.out.lt)
    have f0 := FB.out.cell 0; have f1 := FB.out.cell 1; have f2 := FB.out.cell 2; have g0 := GB.out.cell 0; have g1 := GB.out.cell 1; have g2 := GB.out.cell 2
    simp at f0 f1 f2 g0 g1 g2
    have hlf := FB.out.lt; have hlg := GB.out.lt; have hlr := RB.out.lt
    clear hb
    go_wp2_with fail
    refine (valid_any B m d q j ys _ IB.out hm).mono ?_
    rw [h2]
    rintro e w2 ⟨rfl, hb⟩
    have IA := Lib.hid (IA.out.ext hb); have IB := Lib.hid (IB.out.ext hb); have BW := Lib.hid (bthen BW.out hb)
    have FB := Lib.hid (FB.out.below hb FB.out.lt); have GB := Lib.hid (GB.out.below hb GB.out.lt); have RB := Lib.hid (RB.out.below hb RB.out.lt)
    have r0 := RB.out.cell 0; have v0 := RB.out.frozen 0; have r1 := RB.out.cell 1; have v1 := RB.out.frozen 1; have r2 := RB.out.cell 2; have v2 := RB.out.frozen 2; have r3 := RB.out.cell 3; have v3 := RB.out.frozen 3; have r4 := RB.out.cell 4; have v4 := RB.out.frozen 4
    have r5 := RB.out.cell 5; have v5 := RB.out.frozen 5; have r6 := RB.out.cell 6; have v6 := RB.out.frozen 6; have r7 := RB.out.cell 7; have v7 := RB.out.frozen 7; have r8 := RB.out.cell 8; have v8 := RB.out.frozen 8; have r9 := RB.out.cell 9; have v9 := RB.out.frozen 9
    simp at r0 r1 r2 r3 r4 r5 r6 r7 r8 r9
    go_wp2_with fail
    exact bodyPost_ret (v := .tuple #[.agg #[.slice none 0 0, .int .i64 0, .int .i64 0, .slice none 0 0, .int .i64 0, .int .i64 0, .int .i64 0, .int .i64 0, .int .i64 0, .bool false], .int .i64 1]) (by simp [results, Try.results160, go_sem, (RB.out.store10 _ _ _ _ _ _ _ _ _ _).cell]) rfl ⟨rfl, bstore10 BW.out (by omega) _ _ _ _ _ _ _ _ _ _⟩

theorem wpList_storeP {w : World} {ops : Array Oper} {rest : List Oper} {o : Oper} {a : Act} {Q : Exit → Act → World → Prop} (hgd : o.guard = none) (s x : Operand) (ho : o.op = .store 146 s x)
    {g : Nat} (hs : a.eval s = .pointer (some ⟨g, 0, none⟩)) {t : TypeId} {z0 z1 z2 z3 z4 z5 z6 z7 z8 z9 : Value} (hB : Blk w g t #[z0, z1, z2, z3, z4, z5, z6, z7, z8, z9]) {a0 a1 a2 a3 a4 a5 a6 a7 a8 a9 : Value} (hx : a.eval x = .agg #[a0, a1, a2, a3, a4, a5, a6, a7, a8, a9]) (h1 : (#[a0, a1, a2, a3, a4, a5, a6, a7, a8, a9] : Array Value).all (·.oneCell') = true)
    (h : ∀ w', Sto g w w' → Blk w' g t #[a0, a1, a2, a3, a4, a5, a6, a7, a8, a9] → wpList Try.prog ops Q rest (a.put o.dst undef) w') : wpList Try.prog ops Q (o :: rest) a w := by
  refine wpList_store_mid hgd 146 s x ho g 0 #[a0, a1, a2, a3, a4, a5, a6, a7, a8, a9] hs hx ?_ (by kernel_rfl) h1 ?_
  · intro j hj
    have hj' : j < 10 := hj
    rw [Nat.zero_add]
    refine ⟨?_, hB.frozen j⟩
    rw [hB.cell j]
    simp [hj']
  · have e : w.setCells g 0 (#[a0, a1, a2, a3, a4, a5, a6, a7, a8, a9] : Array Value).toList = ((((((((((w.setCell ⟨g, 0, none⟩ a0).setCell ⟨g, 1, none⟩ a1).setCell ⟨g, 2, none⟩ a2).setCell ⟨g, 3, none⟩ a3).setCell ⟨g, 4, none⟩ a4).setCell ⟨g, 5, none⟩ a5).setCell ⟨g, 6, none⟩ a6).setCell ⟨g, 7, none⟩ a7).setCell ⟨g, 8, none⟩ a8).setCell ⟨g, 9, none⟩ a9) := rfl
    rw [e]
    exact h _ ((((((((((((Sto.refl g w).set 0 a0).set 1 a1).set 2 a2).set 3 a3).set 4 a4).set 5 a5).set 6 a6).set 7 a7).set 8 a8).set 9 a9)) (hB.store10 _ _ _ _ _ _ _ _ _ _)
end Go.Proofs.Ythdibkmjoiipgaa
