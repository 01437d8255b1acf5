/- Two curves in local variables. -/
import Derived.Test.YtmieikfmbnaoaaaMem
namespace Go.Proofs.Ytmieikfmbnaoaaa
open Go.RowKit
set_option linter.unusedVariables false

/-- two curves in local variables -/
structure LS (w wx : World) (F : Nat) (A : Option Addr) (n c : Nat) (f : Cv) (G : Nat) (B : Option Addr) (m d : Nat) (g : Cv) : Prop where
  fb : Blk wx F 41 #[.slice A n c, .int .i64 f.per, .int .i64 f.inc]
  gb : Blk wx G 41 #[.slice B m d, .int .i64 g.per, .int .i64 g.inc]
  ia : Ints wx wx.heap.size A n f.vals
  ib : Ints wx wx.heap.size B m g.vals
  bw : Below w.heap.size w wx
section
variable {w wx wy : World} {A B : Option Addr} {F G n c m d : Nat} {f g : Cv}
theorem LS.below (h : LS w wx F A n c f G B m d g) (hb : Below wx.heap.size wx wy) : LS w wy F A n c f G B m d g :=
  ⟨h.fb.below hb h.fb.lt, h.gb.below hb h.gb.lt, h.ia.ext hb, h.ib.ext hb, bthen h.bw hb⟩
theorem LS.cells (h : LS w wx F A n c f G B m d g) : wx.cell? ⟨F, 0, none⟩ = some (.slice A n c) ∧ wx.cell? ⟨F, 1, none⟩ = some (.int .i64 f.per) ∧ wx.cell? ⟨F, 2, none⟩ = some (.int .i64 f.inc) ∧
    wx.cell? ⟨G, 0, none⟩ = some (.slice B m d) ∧ wx.cell? ⟨G, 1, none⟩ = some (.int .i64 g.per) ∧ wx.cell? ⟨G, 2, none⟩ = some (.int .i64 g.inc) ∧ F < wx.heap.size ∧ G < wx.heap.size := by
  have f0 := h.fb.cell 0; have f1 := h.fb.cell 1; have f2 := h.fb.cell 2; have g0 := h.gb.cell 0; have g1 := h.gb.cell 1; have g2 := h.gb.cell 2
  simp at f0 f1 f2 g0 g1 g2
  exact ⟨f0, f1, f2, g0, g1, g2, h.fb.lt, h.gb.lt⟩
end

end Go.Proofs.Ytmieikfmbnaoaaa
