/- Words for walks with several curves in local variables. -/
import Derived.Test.YtmieikfmbnaoaaaSrcCurve
namespace Go.Proofs.Ytmieikfmbnaoaaa
open Go.RowKit
set_option linter.unusedVariables false

/-- the block F holds the curve f, apart from block p -/
structure Loc (p : Nat) (w : World) (F : Nat) (A : Option Addr) (n c : Nat) (f : Cv) : Prop where
  blk : Blk w F 41 #[.slice A n c, .int .i64 f.per, .int .i64 f.inc]
  ints : Ints w w.heap.size A n f.vals
  ne : F ≠ p
  ap : ∀ b off s, A = some ⟨b, off, s⟩ → b ≠ p

section
variable {p F n c : Nat} {w w' : World} {A : Option Addr} {f : Cv}
theorem Loc.lt (h : Loc p w F A n c f) : F < w.heap.size := h.blk.lt
theorem Loc.below (h : Loc p w F A n c f) (hb : Below w.heap.size w w') : Loc p w' F A n c f := ⟨h.blk.below hb h.lt, h.ints.ext hb, h.ne, h.ap⟩
theorem Loc.alloc (h : Loc p w F A n c f) (o : Obj) : Loc p (w.alloc o) F A n c f := h.below (balloc w o)
theorem Loc.drew (h : Loc p w F A n c f) : Loc p w.drew F A n c f := ⟨h.blk, h.ints, h.ne, h.ap⟩
theorem Loc.drewN (h : Loc p w F A n c f) (k : Nat) : Loc p (w.drewN k) F A n c f := ⟨h.blk, h.ints, h.ne, h.ap⟩
theorem Loc.kept (h : Loc p w F A n c f) (k : Kept w.heap.size p w w') : Loc p w' F A n c f := ⟨h.blk.kept h.ne k, h.ints.kept h.ap k, h.ne, h.ap⟩
theorem Loc.cells (h : Loc p w F A n c f) : w.cell? ⟨F, 0, none⟩ = some (.slice A n c) ∧ w.cell? ⟨F, 1, none⟩ = some (.int .i64 f.per) ∧ w.cell? ⟨F, 2, none⟩ = some (.int .i64 f.inc) ∧ F < w.heap.size := by
  have q0 := h.blk.cell 0; have q1 := h.blk.cell 1; have q2 := h.blk.cell 2
  simp at q0 q1 q2
  exact ⟨q0, q1, q2, h.lt⟩
theorem Loc.len (h : Loc p w F A n c f) : f.vals.length = n := h.ints.1
/-- a curve that has been returned, laid in a new block -/
theorem Loc.new {B : Nat} (hI : Ints w w.heap.size A n f.vals) (hA : ∀ b off s, A = some ⟨b, off, s⟩ → B ≤ b) (hB : p < B) (hw : p < w.heap.size) : Loc p (w.alloc (.cells #[.slice A n c, .int .i64 f.per, .int .i64 f.inc] 41)) w.heap.size A n c f :=
  ⟨Blk.new _ _ _, hI.alloc' _, by omega, fun b off s h => by have := hA b off s h; omega⟩
/-- where the list lies, it lies below the heap's end -/
theorem Loc.addr (h : Loc p w F A n c f) (hn : 0 < n) : ∀ b off s, A = some ⟨b, off, s⟩ → b < w.heap.size := by
  intro b off s e
  obtain ⟨b', off', e', hb, _⟩ := h.ints.2 hn
  rw [e] at e'
  cases e'
  exact hb
/-- the struct of another variable is stored -/
theorem Loc.far3 (h : Loc p w F A n c f) {G : Nat} {x y z : Value} (hF : F ≠ G) (hA : ∀ b off s, A = some ⟨b, off, s⟩ → b ≠ G) :
    Loc p (((w.setCell ⟨G, 0, none⟩ x).setCell ⟨G, 1, none⟩ y).setCell ⟨G, 2, none⟩ z) F A n c f :=
  ⟨((h.blk.far hF x).far hF y).far hF z, by simpa using ((h.ints.setCell (p := ⟨G, 0, none⟩) hA x).setCell (p := ⟨G, 1, none⟩) hA y).setCell (p := ⟨G, 2, none⟩) hA z, h.ne, h.ap⟩
/-- a curve that has been returned, stored in a variable that lay there -/
theorem Loc.stored {x y z : Value} {B : Nat} (hZ : Blk w F 41 #[x, y, z]) (hI : Ints w w.heap.size A n f.vals) (hA : ∀ b off s, A = some ⟨b, off, s⟩ → B ≤ b) (hB : F < B) (hF : p < F) :
    Loc p (((w.setCell ⟨F, 0, none⟩ (.slice A n c)).setCell ⟨F, 1, none⟩ (.int .i64 f.per)).setCell ⟨F, 2, none⟩ (.int .i64 f.inc)) F A n c f :=
  ⟨hZ.store3 _ _ _, by
    simpa using ((hI.setCell (p := ⟨F, 0, none⟩) (fun b off s e => by have := hA b off s e; simp; omega) (.slice A n c)).setCell (p := ⟨F, 1, none⟩) (fun b off s e => by have := hA b off s e; simp; omega) (.int .i64 f.per)).setCell (p := ⟨F, 2, none⟩) (fun b off s e => by have := hA b off s e; simp; omega) (.int .i64 f.inc),
    by omega, fun b off s e => by have := hA b off s e; omega⟩
theorem SrcAt.far3 (h : SrcAt w p) {G : Nat} {x y z : Value} (hG : p < G) : SrcAt (((w.setCell ⟨G, 0, none⟩ x).setCell ⟨G, 1, none⟩ y).setCell ⟨G, 2, none⟩ z) p :=
  ((h.far (a := ⟨G, 0, none⟩) hG x).far (a := ⟨G, 1, none⟩) hG y).far (a := ⟨G, 2, none⟩) hG z
theorem Kept.set3 {B : Nat} {w0 : World} (h : Kept B p w0 w) {G : Nat} {x y z : Value} (hG : B ≤ G) : Kept B p w0 (((w.setCell ⟨G, 0, none⟩ x).setCell ⟨G, 1, none⟩ y).setCell ⟨G, 2, none⟩ z) :=
  ((h.setCell (a := ⟨G, 0, none⟩) (.inr hG) x).setCell (a := ⟨G, 1, none⟩) (.inr hG) y).setCell (a := ⟨G, 2, none⟩) (.inr hG) z
theorem SrcAt.kdrew {n : Nat} (h : SrcAt w p) : SrcAt (w.drewN n) p := h
/-- Kept from the start, one step more -/
theorem kstep {w0 : World} (h : Kept w0.heap.size p w0 w) (k : Kept w.heap.size p w w') : Kept w0.heap.size p w0 w' := kthen h k
theorem kbel {w0 : World} (h : Kept w0.heap.size p w0 w) (k : Below w.heap.size w w') : Kept w0.heap.size p w0 w' := kbelow h k
theorem kall {w0 : World} (h : Kept w0.heap.size p w0 w) (o : Obj) : Kept w0.heap.size p w0 (w.alloc o) := kbelow h (balloc w o)
theorem ball {w0 w : World} (h : Below w0.heap.size w0 w) (o : Obj) : Below w0.heap.size w0 (w.alloc o) := bthen h (balloc w o)
theorem klater {p : Nat} {w0 w w' : World} (h : Below w0.heap.size w0 w) (k : Kept w.heap.size p w w') : Kept w0.heap.size p w0 w' := kthen (Kept.of h) k
theorem blater {w0 w w' : World} (h : Below w0.heap.size w0 w) (k : Below w.heap.size w w') : Below w0.heap.size w0 w' := bthen h k
theorem kdrw {w0 : World} (h : Kept w0.heap.size p w0 w) : Kept w0.heap.size p w0 w.drew := ⟨h.os, h.tape, h.output, h.size, h.block⟩
end
end Go.Proofs.Ytmieikfmbnaoaaa
