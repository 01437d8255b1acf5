/- Words for functions with two curves as arguments. -/
import Derived.Test.YtmieikfmbnaoaaaCurve2
import Derived.Test.YtmieikfmbnaoaaaOrdLaw2
namespace Go.Proofs.Ytmieikfmbnaoaaa
open Go.RowKit
set_option linter.unusedVariables false

/-- the two curves lie in the first two blocks of a call -/
structure PS (w wx : World) (A : Option Addr) (n c : Nat) (p i : Int) (xs : List Int) (B : Option Addr) (m d : Nat) (q j : Int) (ys : List Int) : Prop where
  fb : Blk wx w.heap.size 41 #[.slice A n c, .int .i64 p, .int .i64 i]
  gb : Blk wx (w.heap.size + 1) 41 #[.slice B m d, .int .i64 q, .int .i64 j]
  ia : Ints wx wx.heap.size A n xs
  ib : Ints wx wx.heap.size B m ys
  bw : Below w.heap.size w wx
section
variable {w wx wy : World} {A B : Option Addr} {n c m d : Nat} {p i q j : Int} {xs ys : List Int}
theorem PS.new (hA : Ints w w.heap.size A n xs) (hB : Ints w w.heap.size B m ys) : PS w ((w.alloc (.cells #[.slice A n c, .int .i64 p, .int .i64 i] 41)).alloc (.cells #[.slice B m d, .int .i64 q, .int .i64 j] 41)) A n c p i xs B m d q j ys :=
  ⟨(Blk.new w 41 #[.slice A n c, .int .i64 p, .int .i64 i]).alloc _, by
    have := Blk.new (w.alloc (.cells #[.slice A n c, .int .i64 p, .int .i64 i] 41)) 41 #[.slice B m d, .int .i64 q, .int .i64 j]
    rwa [World.size_alloc] at this, (hA.alloc' _).alloc' _, (hB.alloc' _).alloc' _, bthen (balloc w _) (balloc _ _)⟩
theorem PS.below (h : PS w wx A n c p i xs B m d q j ys) (hb : Below wx.heap.size wx wy) : PS w wy A n c p i xs B m d q j ys :=
  ⟨h.fb.below hb h.fb.lt, h.gb.below hb h.gb.lt, h.ia.ext hb, h.ib.ext hb, bthen h.bw hb⟩
theorem PS.alloc (h : PS w wx A n c p i xs B m d q j ys) (o : Obj) : PS w (wx.alloc o) A n c p i xs B m d q j ys := h.below (balloc wx o)
theorem PS.drew (h : PS w wx A n c p i xs B m d q j ys) : PS w wx.drew A n c p i xs B m d q j ys := ⟨h.fb, h.gb, h.ia, h.ib, ⟨h.bw.os, h.bw.tape, h.bw.output, h.bw.size, h.bw.block⟩⟩
theorem PS.cells (h : PS w wx A n c p i xs B m d q j ys) : wx.cell? ⟨w.heap.size, 0, none⟩ = some (.slice A n c) ∧ wx.cell? ⟨w.heap.size, 1, none⟩ = some (.int .i64 p) ∧ wx.cell? ⟨w.heap.size, 2, none⟩ = some (.int .i64 i) ∧
    wx.cell? ⟨w.heap.size + 1, 0, none⟩ = some (.slice B m d) ∧ wx.cell? ⟨w.heap.size + 1, 1, none⟩ = some (.int .i64 q) ∧ wx.cell? ⟨w.heap.size + 1, 2, none⟩ = some (.int .i64 j) ∧ w.heap.size < wx.heap.size ∧ w.heap.size + 1 < wx.heap.size := by
  have f0 := h.fb.cell 0; have f1 := h.fb.cell 1; have f2 := h.fb.cell 2; have g0 := h.gb.cell 0; have g1 := h.gb.cell 1; have g2 := h.gb.cell 2
  simp at f0 f1 f2 g0 g1 g2
  exact ⟨f0, f1, f2, g0, g1, g2, h.fb.lt, h.gb.lt⟩
end

def RetE (S : Int → Bool → Prop) (f g : Cv) (w : World) (e : Ending) (w' : World) : Prop :=
  ∃ t ok er, OrdS (S t ok) f g t ok er ∧ e = .returned (.tuple #[.int .i64 t, .bool ok, .int .i64 er]) ∧ Below w.heap.size w w'

/-- what order.AtMost returns -/
def AtM (f g : Cv) (b : Bool) : Prop := (f.Ok ∧ g.Ok ∧ (b = true ↔ ∀ n, ¬ Up f g n)) ∨ (¬ (f.Ok ∧ g.Ok) ∧ b = false)
theorem AtM.unique {f g : Cv} {a b : Bool} (h : AtM f g a) (k : AtM f g b) : a = b := by
  rcases h with ⟨h1, h2, h⟩ | ⟨h1, rfl⟩ <;> rcases k with ⟨k1, k2, k⟩ | ⟨k1, rfl⟩
  · rw [← k] at h; cases a <;> cases b <;> simp_all
  · exact absurd ⟨h1, h2⟩ k1
  · exact absurd ⟨k1, k2⟩ h1
  · rfl

def RetM (f g : Cv) (w : World) (e : Ending) (w' : World) : Prop := ∃ b, AtM f g b ∧ e = .returned (.bool b) ∧ Below w.heap.size w w'

/-- what a valid pair returns is unique -/
theorem RetE.of {S : Int → Bool → Prop} {f g : Cv} {w : World} {e : Ending} {w' : World} {t : Int} {b : Bool} (hf : f.Ok) (hg : g.Ok) (hu : ∀ t' b', S t' b' → t' = t ∧ b' = b) (h : RetE S f g w e w') :
    e = .returned (.tuple #[.int .i64 t, .bool b, .int .i64 0]) ∧ Below w.heap.size w w' := by
  obtain ⟨t', b', er, hS, rfl, hb⟩ := h
  rcases hS with ⟨_, _, rfl, hS⟩ | ⟨hn, _⟩
  · obtain ⟨rfl, rfl⟩ := hu _ _ hS
    exact ⟨rfl, hb⟩
  · exact absurd ⟨hf, hg⟩ hn
theorem RetM.of {f g : Cv} {w : World} {e : Ending} {w' : World} {b : Bool} (hu : AtM f g b) (h : RetM f g w e w') : e = .returned (.bool b) ∧ Below w.heap.size w w' := by
  obtain ⟨b', hS, rfl, hb⟩ := h
  rw [hS.unique hu]
  exact ⟨rfl, hb⟩

/-- what is returned for two valid curves -/
theorem RetE.ok {S : Int → Bool → Prop} {f g : Cv} {w : World} {e : Ending} {w' : World} (hf : f.Ok) (hg : g.Ok) (h : RetE S f g w e w') :
    ∃ t b, S t b ∧ e = .returned (.tuple #[.int .i64 t, .bool b, .int .i64 0]) ∧ Below w.heap.size w w' := by
  obtain ⟨t, b, er, hS, rfl, hb⟩ := h
  rcases hS with ⟨_, _, rfl, hS⟩ | ⟨hn, _⟩
  · exact ⟨t, b, hS, rfl, hb⟩
  · exact absurd ⟨hf, hg⟩ hn
end Go.Proofs.Ytmieikfmbnaoaaa
