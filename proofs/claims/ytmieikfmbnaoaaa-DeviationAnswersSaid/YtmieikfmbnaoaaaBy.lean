/- A curve in a variable of a function's own, perhaps without values. -/
import Derived.Test.YtmieikfmbnaoaaaBx
namespace Go.Proofs.Ytmieikfmbnaoaaa
open Go.RowKit
set_option linter.unusedVariables false

theorem Ints.sto0 {w w' : World} {g n : Nat} {A : Option Addr} {zs : List Int} (H : Ints w w.heap.size A n zs) (s : Sto g w w') (hne : 0 < n → ∀ b off o, A = some ⟨b, off, o⟩ → b ≠ g) : Ints w' w'.heap.size A n zs := by
  rw [s.size]
  exact ⟨H.1, fun hn => by
    obtain ⟨b, off, e, hb, hc⟩ := H.2 hn
    exact ⟨b, off, e, hb, fun j hj => (World.cell?_of_block (a := ⟨b, off + j, none⟩) (s.block b (hne hn b off none e))).trans (hc j hj)⟩⟩
/-- block F is a variable that holds the curve f, whose list, if it has values, lies between L and F -/
structure By (L : Nat) (w : World) (F : Nat) (A : Option Addr) (n c : Nat) (f : Cv) : Prop where
  blk : Blk w F 41 #[.slice A n c, .int .i64 f.per, .int .i64 f.inc]
  ints : Ints w w.heap.size A n f.vals
  lo : ∀ b off s, A = some ⟨b, off, s⟩ → L ≤ b
  ap : 0 < n → ∀ b off s, A = some ⟨b, off, s⟩ → b < F
  lf : L ≤ F
section
variable {L F n c : Nat} {w w' : World} {A : Option Addr} {f : Cv}
theorem By.lt (h : By L w F A n c f) : F < w.heap.size := h.blk.lt
theorem By.new {B : Nat} (hI : Ints w w.heap.size A n f.vals) (hA : ∀ b off s, A = some ⟨b, off, s⟩ → B ≤ b) (hL : L ≤ B) (hw : L ≤ w.heap.size) : By L (w.alloc (.cells #[.slice A n c, .int .i64 f.per, .int .i64 f.inc] 41)) w.heap.size A n c f :=
  ⟨Blk.new _ _ _, hI.alloc' _, fun b off s e => by have h1 := hA b off s e; omega, fun hn b off s e => by
    obtain ⟨b', off', e', hb, _⟩ := hI.2 hn
    rw [e] at e'; cases e'; omega, hw⟩
theorem By.below (h : By L w F A n c f) (hb : Below w.heap.size w w') : By L w' F A n c f := ⟨h.blk.below hb h.lt, h.ints.ext hb, h.lo, h.ap, h.lf⟩
theorem By.alloc (h : By L w F A n c f) (o : Obj) : By L (w.alloc o) F A n c f := h.below (balloc w o)
theorem By.drew (h : By L w F A n c f) : By L w.drew F A n c f := ⟨h.blk, h.ints, h.lo, h.ap, h.lf⟩
theorem By.drewN (h : By L w F A n c f) (k : Nat) : By L (w.drewN k) F A n c f := ⟨h.blk, h.ints, h.lo, h.ap, h.lf⟩
theorem By.sto {g : Nat} (h : By L w F A n c f) (s : Sto g w w') (hg : F < g ∨ g < L) : By L w' F A n c f :=
  ⟨h.blk.sto s (by have := h.lf; omega), h.ints.sto0 s (fun hn b off o e => by have := h.ap hn b off o e; have := h.lo b off o e; omega), h.lo, h.ap, h.lf⟩
theorem By.cells (h : By L w F A n c f) : w.cell? ⟨F, 0, none⟩ = some (.slice A n c) ∧ w.cell? ⟨F, 1, none⟩ = some (.int .i64 f.per) ∧ w.cell? ⟨F, 2, none⟩ = some (.int .i64 f.inc) ∧ F < w.heap.size := by
  have q0 := h.blk.cell 0; have q1 := h.blk.cell 1; have q2 := h.blk.cell 2
  simp at q0 q1 q2
  exact ⟨q0, q1, q2, h.lt⟩
theorem By.upto {B : Nat} (h : By L w F A n c f) (hb : Below B w w') (hF : F < B) : By L w' F A n c f :=
  ⟨h.blk.below hb hF, ⟨h.ints.1, fun hn => by
    obtain ⟨b, off, e, hlt, hc⟩ := h.ints.2 hn
    have h1 := h.ap hn _ _ _ e
    exact ⟨b, off, e, Nat.lt_of_lt_of_le hlt hb.size, fun j hj => ((bcell hb).1 b (off + j) (by omega)).trans (hc j hj)⟩⟩, h.lo, h.ap, h.lf⟩
theorem By.set1 (h : By L w F A n c f) {g : Nat} (hg : F < g ∨ g < L) (i : Nat) (x : Value) : By L (w.setCell ⟨g, i, none⟩ x) F A n c f := h.sto ((Sto.refl g w).set i x) hg
theorem By.set3 (h : By L w F A n c f) {g : Nat} (hg : F < g ∨ g < L) (x y z : Value) : By L (((w.setCell ⟨g, 0, none⟩ x).setCell ⟨g, 1, none⟩ y).setCell ⟨g, 2, none⟩ z) F A n c f := h.sto ((((Sto.refl g w).set 0 x).set 1 y).set 2 z) hg
end
end Go.Proofs.Ytmieikfmbnaoaaa
