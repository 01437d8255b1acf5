/- bucket.valid and Excess, and the same of the reference. -/
import Derived.Test.YthdibkmjoiipgaaRefFr
import Derived.Test.YthdibkmjoiipgaaFrLaw
import Derived.Deep.LoopGhost
import Derived.Deep.DeepCutAuto
namespace Go.Proofs.Ythdibkmjoiipgaa
open Go.RowKit
set_option linter.unusedVariables false

def bokB (B b R r : Int) : Bool := decide (GOk B b ∧ GOk R r)
theorem bokB_t {B b R r : Int} (h : GOk B b ∧ GOk R r) : bokB B b R r = true := decide_eq_true h
theorem bokB_f {B b R r : Int} (h : ¬ (GOk B b ∧ GOk R r)) : bokB B b R r = false := decide_eq_false h
/-- a bucket in the first block of a call -/
structure BE (w wx : World) (B b R r : Int) : Prop where
  bb : Blk wx w.heap.size 27 #[.int .i64 B, .int .i64 b, .int .i64 R, .int .i64 r]
  bw : Below w.heap.size w wx
section
variable {w wx wy : World} {B b R r : Int}
theorem BE.new (w : World) (B b R r : Int) : BE w (w.alloc (.cells #[.int .i64 B, .int .i64 b, .int .i64 R, .int .i64 r] 27)) B b R r := ⟨Blk.new _ _ _, balloc _ _⟩
theorem BE.below (h : BE w wx B b R r) (hb : Below wx.heap.size wx wy) : BE w wy B b R r := ⟨h.bb.below hb h.bb.lt, bthen h.bw hb⟩
theorem BE.alloc (h : BE w wx B b R r) (o : Obj) : BE w (wx.alloc o) B b R r := h.below (balloc _ o)
theorem BE.drew (h : BE w wx B b R r) : BE w wx.drew B b R r := ⟨h.bb, Below.drew h.bw⟩
theorem BE.cells (h : BE w wx B b R r) : wx.cell? ⟨w.heap.size, 0, none⟩ = some (.int .i64 B) ∧ wx.cell? ⟨w.heap.size, 1, none⟩ = some (.int .i64 b) ∧ wx.cell? ⟨w.heap.size, 2, none⟩ = some (.int .i64 R) ∧ wx.cell? ⟨w.heap.size, 3, none⟩ = some (.int .i64 r) ∧ w.heap.size < wx.heap.size := by
  have q0 := h.bb.cell 0; have q1 := h.bb.cell 1; have q2 := h.bb.cell 2; have q3 := h.bb.cell 3
  simp at q0 q1 q2 q3
  exact ⟨q0, q1, q2, q3, h.bb.lt⟩
end
theorem bvalid_any (B b R r : Int) (w : World) :
    Calls Try.prog 77 #[.agg #[.int .i64 B, .int .i64 b, .int .i64 R, .int .i64 r]] w fun e w' => e = .returned (.bool (bokB B b R r)) ∧ Below w.heap.size w w' := by
  have E := Lib.hid (BE.new w B b R r)
  by_cases h1 : FOk B b
  · by_cases h2 : FOk R r
    · have F1 := Lib.hid (fokB_t h1); have F2 := Lib.hid (fokB_t h2)
      by_cases h3 : 0 ≤ B
      · have c3 : decide (0 ≤ B) = true := by simpa using h3
        by_cases h4 : 0 ≤ R
        · have c4 : decide (0 ≤ R) = true := by simpa using h4
          rw [bokB_t ⟨⟨h1, h3⟩, h2, h4⟩]
          clear h1 h2 h3 h4
          go_enter Try.func77, Try.ntmps77
          obtain ⟨f0, f1, f2, f3, hlf⟩ := E.out.cells
          go_wp2_with fail
          refine (fvalid_any B b _).mono ?_
          rw [F1.out]
          rintro e w1 ⟨rfl, hb⟩
          have E := Lib.hid (E.out.below hb)
          clear hb
          clear f0 f1 f2 f3 hlf
          obtain ⟨f0, f1, f2, f3, hlf⟩ := E.out.cells
          go_wp2_with fail
          refine (fvalid_any R r _).mono ?_
          rw [F2.out]
          rintro e w1 ⟨rfl, hb⟩
          have E := Lib.hid (E.out.below hb)
          clear hb
          clear f0 f1 f2 f3 hlf
          obtain ⟨f0, f1, f2, f3, hlf⟩ := E.out.cells
          go_wp2_with fail
          go_ret
          exact ⟨rfl, E.out.bw⟩
        · have c4 : decide (0 ≤ R) = false := by simpa using h4
          rw [bokB_f (fun h => h4 h.2.2)]
          clear h1 h2 h3 h4
          go_enter Try.func77, Try.ntmps77
          obtain ⟨f0, f1, f2, f3, hlf⟩ := E.out.cells
          go_wp2_with fail
          refine (fvalid_any B b _).mono ?_
          rw [F1.out]
          rintro e w1 ⟨rfl, hb⟩
          have E := Lib.hid (E.out.below hb)
          clear hb
          clear f0 f1 f2 f3 hlf
          obtain ⟨f0, f1, f2, f3, hlf⟩ := E.out.cells
          go_wp2_with fail
          refine (fvalid_any R r _).mono ?_
          rw [F2.out]
          rintro e w1 ⟨rfl, hb⟩
          have E := Lib.hid (E.out.below hb)
          clear hb
          clear f0 f1 f2 f3 hlf
          obtain ⟨f0, f1, f2, f3, hlf⟩ := E.out.cells
          go_wp2_with fail
          go_ret
          exact ⟨rfl, E.out.bw⟩
      · have c3 : decide (0 ≤ B) = false := by simpa using h3
        rw [bokB_f (fun h => h3 h.1.2)]
        clear h1 h2 h3
        go_enter Try.func77, Try.ntmps77
        obtain ⟨f0, f1, f2, f3, hlf⟩ := E.out.cells
        go_wp2_with fail
        refine (fvalid_any B b _).mono ?_
        rw [F1.out]
        rintro e w1 ⟨rfl, hb⟩
        have E := Lib.hid (E.out.below hb)
        clear hb
        clear f0 f1 f2 f3 hlf
        obtain ⟨f0, f1, f2, f3, hlf⟩ := E.out.cells
        go_wp2_with fail
        refine (fvalid_any R r _).mono ?_
        rw [F2.out]
        rintro e w1 ⟨rfl, hb⟩
        have E := Lib.hid (E.out.below hb)
        clear hb
        clear f0 f1 f2 f3 hlf
        obtain ⟨f0, f1, f2, f3, hlf⟩ := E.out.cells
        go_wp2_with fail
        go_ret
        exact ⟨rfl, E.out.bw⟩
    · have F1 := Lib.hid (fokB_t h1); have F2 := Lib.hid (fokB_f h2)
      rw [bokB_f (fun h => h2 h.2.1)]
      clear h1 h2
      go_enter Try.func77, Try.ntmps77
      obtain ⟨f0, f1, f2, f3, hlf⟩ := E.out.cells
      go_wp2_with fail
      refine (fvalid_any B b _).mono ?_
      rw [F1.out]
      rintro e w1 ⟨rfl, hb⟩
      have E := Lib.hid (E.out.below hb)
      clear hb
      clear f0 f1 f2 f3 hlf
      obtain ⟨f0, f1, f2, f3, hlf⟩ := E.out.cells
      go_wp2_with fail
      refine (fvalid_any R r _).mono ?_
      rw [F2.out]
      rintro e w1 ⟨rfl, hb⟩
      have E := Lib.hid (E.out.below hb)
      clear hb
      clear f0 f1 f2 f3 hlf
      obtain ⟨f0, f1, f2, f3, hlf⟩ := E.out.cells
      go_wp2_with fail
      go_ret
      exact ⟨rfl, E.out.bw⟩
  · have F1 := Lib.hid (fokB_f h1)
    rw [bokB_f (fun h => h1 h.1.1)]
    clear h1
    go_enter Try.func77, Try.ntmps77
    obtain ⟨f0, f1, f2, f3, hlf⟩ := E.out.cells
    go_wp2_with fail
    refine (fvalid_any B b _).mono ?_
    rw [F1.out]
    rintro e w1 ⟨rfl, hb⟩
    have E := Lib.hid (E.out.below hb)
    clear hb
    clear f0 f1 f2 f3 hlf
    obtain ⟨f0, f1, f2, f3, hlf⟩ := E.out.cells
    go_wp2_with fail
    go_ret
    exact ⟨rfl, E.out.bw⟩
/-- a pace, its rate and its latency; or a bucket, its burst and its rate -/
structure PN where
  R : Int
  r : Int
  L : Int
  l : Int
def PN.cells (x : PN) : List Value := [.int .i64 x.R, .int .i64 x.r, .int .i64 x.L, .int .i64 x.l]
def PN.Good (x : PN) : Prop := GOk x.R x.r ∧ GOk x.L x.l
/-- from the place o of block b on lie paces or buckets -/
structure RowQ (w : World) (b o : Nat) (ps : List PN) : Prop where
  lt : b < w.heap.size
  cell : ∀ (k j : Nat) (x : PN), ps[k]? = some x → j < 4 → w.cell? ⟨b, o + k * 4 + j, none⟩ = x.cells[j]?
section
variable {b o : Nat} {w w' : World} {ps : List PN}
theorem RowQ.below (h : RowQ w b o ps) (hb : Below w.heap.size w w') : RowQ w' b o ps :=
  ⟨Nat.lt_of_lt_of_le h.lt hb.size, fun k j x hx hj => ((bcell hb).1 b _ h.lt).trans (h.cell k j x hx hj)⟩
theorem RowQ.get (h : RowQ w b o ps) {k : Nat} (hk : k < ps.length) : ∃ x, ps[k]? = some x ∧ w.cell? ⟨b, o + k * 4, none⟩ = some (.int .i64 x.R) ∧ w.cell? ⟨b, o + k * 4 + 1, none⟩ = some (.int .i64 x.r) ∧ w.cell? ⟨b, o + k * 4 + 2, none⟩ = some (.int .i64 x.L) ∧ w.cell? ⟨b, o + k * 4 + 3, none⟩ = some (.int .i64 x.l) := by
  have hx : ps[k]? = some ps[k] := List.getElem?_eq_getElem hk
  exact ⟨ps[k], hx, h.cell k 0 _ hx (by omega), h.cell k 1 _ hx (by omega), h.cell k 2 _ hx (by omega), h.cell k 3 _ hx (by omega)⟩
end
end Go.Proofs.Ythdibkmjoiipgaa
