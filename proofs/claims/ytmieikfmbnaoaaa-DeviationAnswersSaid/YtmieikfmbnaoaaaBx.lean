/- A curve in a variable of a function's own. -/
import Derived.Test.YtmieikfmbnaoaaaSto
import Derived.Test.YtmieikfmbnaoaaaCommon
namespace Go.Proofs.Ytmieikfmbnaoaaa
open Go.RowKit
set_option linter.unusedVariables false

/-- block F is a variable that holds the curve f, whose list lies between L and F -/
structure Bx (L : Nat) (w : World) (F : Nat) (A : Option Addr) (n c : Nat) (f : Cv) : Prop where
  blk : Blk w F 41 #[.slice A n c, .int .i64 f.per, .int .i64 f.inc]
  ints : Ints w w.heap.size A n f.vals
  ap : ∀ b off s, A = some ⟨b, off, s⟩ → L ≤ b ∧ b < F
  lf : L ≤ F
section
variable {L F n c : Nat} {w w' : World} {A : Option Addr} {f : Cv}
theorem Bx.lt (h : Bx L w F A n c f) : F < w.heap.size := h.blk.lt
theorem Bx.new {B : Nat} (hI : Ints w w.heap.size A n f.vals) (hA : ∀ b off s, A = some ⟨b, off, s⟩ → B ≤ b) (hL : L ≤ B) (hn : 0 < n) (hw : L ≤ w.heap.size) : Bx L (w.alloc (.cells #[.slice A n c, .int .i64 f.per, .int .i64 f.inc] 41)) w.heap.size A n c f :=
  ⟨Blk.new _ _ _, hI.alloc' _, fun b off s e => by
    have h1 := hA b off s e
    obtain ⟨b', off', e', hb, _⟩ := hI.2 hn
    rw [e] at e'; cases e'; omega, hw⟩
theorem Bx.below (h : Bx L w F A n c f) (hb : Below w.heap.size w w') : Bx L w' F A n c f := ⟨h.blk.below hb h.lt, h.ints.ext hb, h.ap, h.lf⟩
theorem Bx.alloc (h : Bx L w F A n c f) (o : Obj) : Bx L (w.alloc o) F A n c f := h.below (balloc w o)
theorem Bx.drew (h : Bx L w F A n c f) : Bx L w.drew F A n c f := ⟨h.blk, h.ints, h.ap, h.lf⟩
theorem Bx.drewN (h : Bx L w F A n c f) (k : Nat) : Bx L (w.drewN k) F A n c f := ⟨h.blk, h.ints, h.ap, h.lf⟩
theorem Bx.sto {g : Nat} (h : Bx L w F A n c f) (s : Sto g w w') (hg : F < g ∨ g < L) : Bx L w' F A n c f :=
  ⟨h.blk.sto s (by have := h.lf; omega), h.ints.sto s (fun b off o e => by have := h.ap b off o e; omega), h.ap, h.lf⟩
theorem Bx.cells (h : Bx L w F A n c f) : w.cell? ⟨F, 0, none⟩ = some (.slice A n c) ∧ w.cell? ⟨F, 1, none⟩ = some (.int .i64 f.per) ∧ w.cell? ⟨F, 2, none⟩ = some (.int .i64 f.inc) ∧ F < w.heap.size := by
  have q0 := h.blk.cell 0; have q1 := h.blk.cell 1; have q2 := h.blk.cell 2
  simp at q0 q1 q2
  exact ⟨q0, q1, q2, h.lt⟩
theorem Bx.set1 (h : Bx L w F A n c f) {g : Nat} (hg : F < g ∨ g < L) (i : Nat) (u : Value) : Bx L (w.setCell ⟨g, i, none⟩ u) F A n c f := h.sto ((Sto.refl g w).set i u) hg
end
theorem common2_any (p q : Int) (w : World) (hp1 : 1 ≤ p) (hp : p ≤ 1000) (hq1 : 1 ≤ q) (hq : q ≤ 1000) :
    Calls Try.prog 141 #[.int .i64 p, .int .i64 q] w fun e w' => e = .returned (.int .i64 (comm p.toNat q.toNat : Nat)) ∧ Below w.heap.size w w' := by
  obtain ⟨p, rfl⟩ := Int.eq_ofNat_of_zero_le (show 0 ≤ p by omega)
  obtain ⟨q, rfl⟩ := Int.eq_ofNat_of_zero_le (show 0 ≤ q by omega)
  simp only [Int.toNat_natCast]
  exact common_any p q w hp hq (by omega)
end Go.Proofs.Ytmieikfmbnaoaaa
