/- Words for walks of laws: stores to a variable that lies apart from the others. -/
import Derived.Test.YtbkimphcmmmaiaaEnvL
namespace Go.Proofs.Ytbkimphcmmmaiaa
open Go.RowKit
set_option linter.unusedVariables false

/-- block Z is none of the curves' -/
def CR.Off (x : CR) (Z : Nat) : Prop := 0 < x.n → ∀ b off s, x.A = some ⟨b, off, s⟩ → b ≠ Z
def Apart (vs : List (Nat × CR)) (Z : Nat) : Prop := ∀ x ∈ vs, x.1 ≠ Z ∧ x.2.Off Z
section
variable {p : Nat} {w0 w w' : World} {vs : List (Nat × CR)} {x : CR} {Z : Nat}
theorem CR.In.off (h : x.In p w) : x.Off w.heap.size := fun hn b off s e => by
  obtain ⟨b', off', e', hb, _⟩ := h.ints.2 hn
  rw [e] at e'; cases e'; omega
theorem CR.Off.of_ge {B : Nat} (h : ∀ b off s, x.A = some ⟨b, off, s⟩ → B ≤ b) (hZ : Z < B) : x.Off Z := fun _ b off s e => by have := h b off s e; omega
theorem CR.In.far (h : x.In p w) (hz : x.Off Z) (k : Nat) (u : Value) : x.In p (w.setCell ⟨Z, k, none⟩ u) := by
  refine ⟨?_, h.ap⟩
  rcases Nat.eq_zero_or_pos x.n with e | e
  · exact ⟨h.ints.1, fun hn => by omega⟩
  · have := h.ints.setCell (p := ⟨Z, k, none⟩) (fun b off s e' => hz e b off s e') u
    simpa using this
theorem EnvL.apart (h : EnvL p w0 w vs) : Apart vs w.heap.size := fun x hx => ⟨Nat.ne_of_lt (h.v x hx).lt, (h.v x hx).inn.off⟩
theorem Lc.far {F : Nat} (h : Lc p w F x) (hF : F ≠ Z) (hz : x.Off Z) (k : Nat) (u : Value) : Lc p (w.setCell ⟨Z, k, none⟩ u) F x := ⟨h.blk.far hF u, h.inn.far hz k u, h.ne⟩
theorem EnvL.far (h : EnvL p w0 w vs) (hZ : w0.heap.size ≤ Z) (hp : p < Z) (ha : Apart vs Z) (k : Nat) (u : Value) : EnvL p w0 (w.setCell ⟨Z, k, none⟩ u) vs :=
  ⟨h.s.far hp u, h.k.setCell (.inr hZ) u, fun x hx => (h.v x hx).far (ha x hx).1 (ha x hx).2 k u⟩
theorem EnvL.far3 (h : EnvL p w0 w vs) (hZ : w0.heap.size ≤ Z) (hp : p < Z) (ha : Apart vs Z) (x y z : Value) : EnvL p w0 (((w.setCell ⟨Z, 0, none⟩ x).setCell ⟨Z, 1, none⟩ y).setCell ⟨Z, 2, none⟩ z) vs :=
  ((h.far hZ hp ha 0 x).far hZ hp ha 1 y).far hZ hp ha 2 z
theorem CR.In.far3 (h : x.In p w) (hz : x.Off Z) (a b c : Value) : x.In p (((w.setCell ⟨Z, 0, none⟩ a).setCell ⟨Z, 1, none⟩ b).setCell ⟨Z, 2, none⟩ c) := ((h.far hz 0 a).far hz 1 b).far hz 2 c
/-- a curve is stored to a variable that lies apart -/
theorem EnvL.sto (h : EnvL p w0 w vs) {a b c : Value} (hb : Blk w Z 31 #[a, b, c]) (hZ : w0.heap.size ≤ Z) (hp : p < Z) (ha : Apart vs Z) {X : CR} (hX : X.In p w) (hXZ : X.Off Z) :
    EnvL p w0 (((w.setCell ⟨Z, 0, none⟩ (.slice X.A X.n X.c)).setCell ⟨Z, 1, none⟩ (.int .i64 X.f.per)).setCell ⟨Z, 2, none⟩ (.int .i64 X.f.inc)) (vs ++ [(Z, X)]) := by
  have h1 := h.far3 hZ hp ha (.slice X.A X.n X.c) (.int .i64 X.f.per) (.int .i64 X.f.inc)
  refine ⟨h1.s, h1.k, fun x hx => ?_⟩
  rcases List.mem_append.1 hx with hx | hx
  · exact h1.v x hx
  · simp only [List.mem_singleton] at hx
    subst hx
    exact ⟨hb.store3 _ _ _, hX.far3 hXZ _ _ _, by show Z ≠ p; omega⟩
end
end Go.Proofs.Ytbkimphcmmmaiaa
