/- A function with one curve as its argument. -/
import Derived.Test.YtmieikfmbnaoaaaMem
namespace Go.Proofs.Ytmieikfmbnaoaaa
open Go.RowKit
set_option linter.unusedVariables false

/-- in a function with one curve as argument: the boxed curve -/
structure L1 (w wx : World) (A : Option Addr) (n c : Nat) (p i : Int) (zs : List Int) : Prop where
  fb : Blk wx w.heap.size 41 #[.slice A n c, .int .i64 p, .int .i64 i]
  ib : Ints wx w.heap.size A n zs
  bw : Below w.heap.size w wx
section
variable {w wx wy : World} {A : Option Addr} {n c : Nat} {p i : Int} {zs : List Int}
theorem L1.new (hA : Ints w w.heap.size A n zs) : L1 w (w.alloc (.cells #[.slice A n c, .int .i64 p, .int .i64 i] 41)) A n c p i zs :=
  ⟨Blk.new w _ _, hA.alloc (Nat.le_refl _) _, balloc w _⟩
theorem L1.ints (h : L1 w wx A n c p i zs) : Ints wx wx.heap.size A n zs := h.ib.more h.bw.size
theorem L1.below (h : L1 w wx A n c p i zs) (hb : Below wx.heap.size wx wy) : L1 w wy A n c p i zs := ⟨h.fb.below hb h.fb.lt, h.ib.below (hb.mono h.bw.size), bthen h.bw hb⟩
theorem L1.alloc (h : L1 w wx A n c p i zs) (o : Obj) : L1 w (wx.alloc o) A n c p i zs := h.below (balloc wx o)
theorem L1.drewN {k : Nat} (h : L1 w wx A n c p i zs) : L1 w (wx.drewN k) A n c p i zs := ⟨h.fb, h.ib, bdrewN h.bw⟩
theorem L1.cells (h : L1 w wx A n c p i zs) : wx.cell? ⟨w.heap.size, 0, none⟩ = some (.slice A n c) ∧ wx.cell? ⟨w.heap.size, 1, none⟩ = some (.int .i64 p) ∧ wx.cell? ⟨w.heap.size, 2, none⟩ = some (.int .i64 i) ∧ w.heap.size < wx.heap.size := by
  have q0 := h.fb.cell 0; have q1 := h.fb.cell 1; have q2 := h.fb.cell 2
  simp at q0 q1 q2
  exact ⟨q0, q1, q2, h.fb.lt⟩
end
end Go.Proofs.Ytmieikfmbnaoaaa
