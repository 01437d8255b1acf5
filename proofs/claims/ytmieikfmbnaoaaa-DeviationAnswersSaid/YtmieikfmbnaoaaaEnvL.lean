/- Words for walks of laws: a reader, and any number of curves in variables. -/
import Derived.Test.YtmieikfmbnaoaaaCvs
namespace Go.Proofs.Ytmieikfmbnaoaaa
open Go.RowKit
set_option linter.unusedVariables false

theorem CR.In.new {p B : Nat} {w : World} {x : CR} (h : Ints w w.heap.size x.A x.n x.f.vals) (hB : ∀ b off s, x.A = some ⟨b, off, s⟩ → B ≤ b) (hp : p < B) : x.In p w := ⟨h, fun _ b off s e => by have := hB b off s e; omega⟩
theorem CR.In.old {w : World} {x : CR} (h : Ints w w.heap.size x.A x.n x.f.vals) : x.In w.heap.size w := ⟨h, fun hn b off s e => by
  obtain ⟨b', off', e', hb, _⟩ := h.2 hn
  rw [e] at e'; cases e'; omega⟩

/-- a reader at block p, and curves in variables -/
structure EnvL (p : Nat) (w0 w : World) (vs : List (Nat × CR)) : Prop where
  s : SrcAt w p
  k : Kept w0.heap.size p w0 w
  v : ∀ x ∈ vs, Lc p w x.1 x.2
section
variable {p : Nat} {w0 w w' : World} {vs : List (Nat × CR)}
theorem EnvL.start {w1 : World} (hS : SrcAt w1 p) (hb : Below w.heap.size w w1) : EnvL p w w1 [] := ⟨hS, Kept.of hb, fun x hx => by cases hx⟩
theorem EnvL.below (h : EnvL p w0 w vs) (hb : Below w.heap.size w w') : EnvL p w0 w' vs := ⟨h.s.ext hb, kbel h.k hb, fun x hx => (h.v x hx).below hb⟩
theorem EnvL.alloc (h : EnvL p w0 w vs) (o : Obj) : EnvL p w0 (w.alloc o) vs := h.below (balloc w o)
theorem EnvL.drew (h : EnvL p w0 w vs) : EnvL p w0 w.drew vs := ⟨h.s, kdrw h.k, fun x hx => (h.v x hx).drew⟩
theorem EnvL.kept (h : EnvL p w0 w vs) (hS : SrcAt w' p) (hk : Kept w.heap.size p w w') : EnvL p w0 w' vs := ⟨hS, kstep h.k hk, fun x hx => (h.v x hx).kept hk⟩
theorem EnvL.push (h : EnvL p w0 w vs) {X : CR} (hX : X.In p w) : EnvL p w0 (w.alloc (.cells #[.slice X.A X.n X.c, .int .i64 X.f.per, .int .i64 X.f.inc] 41)) (vs ++ [(w.heap.size, X)]) :=
  ⟨h.s.alloc _, kall h.k _, fun x hx => by
    rcases List.mem_append.1 hx with hx | hx
    · exact (h.v x hx).alloc _
    · simp only [List.mem_singleton] at hx
      subst hx
      exact Lc.new hX h.s.lt⟩
theorem EnvL.get (h : EnvL p w0 w vs) (i : Nat) {F : Nat} {X : CR} (hx : vs[i]? = some (F, X)) : Lc p w F X := h.v (F, X) (List.mem_of_getElem? hx)
theorem EnvL.fin (h : EnvL w0.heap.size w0 w vs) : Below w0.heap.size w0 w := h.k.below (Nat.le_refl _)
end
/-- curve.Value of a valid curve -/
theorem cval_any (A : Option Addr) (n c : Nat) (p i t : Int) (zs : List Int) (w : World) (hA : Ints w w.heap.size A n zs) (ok : Cv.Ok ⟨zs, p, i⟩) (h0 : 0 ≤ t) (h1 : t ≤ 1048576) :
    Calls Try.prog 56 #[.agg #[.slice A n c, .int .i64 p, .int .i64 i], .int .i64 t] w fun e w' => e = .returned (.tuple #[.int .i64 (Cv.at ⟨zs, p, i⟩ t.toNat), .int .i64 0]) ∧ Below w.heap.size w w' := by
  have hn : (n : Int) ≤ 1000000 := by
    have h1 := ok.n2
    have h2 : (Cv.mk zs p i).vals.length = n := hA.1
    omega
  refine (value_any A n c p i t zs w hA hn).mono ?_
  rintro e w' ⟨rfl, hb⟩
  refine ⟨?_, hb⟩
  have e1 : Cv.value ⟨zs, p, i⟩ t = (Cv.at ⟨zs, p, i⟩ t.toNat, 0) := by unfold Cv.value; rw [if_pos (Cv.okB_true ok), if_neg (by omega)]
  rw [e1]
end Go.Proofs.Ytmieikfmbnaoaaa
