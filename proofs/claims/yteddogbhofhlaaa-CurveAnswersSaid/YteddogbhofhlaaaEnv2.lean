/- Words for walks with a reader and two drawn curves in local variables. -/
import Derived.Test.YteddogbhofhlaaaOrdAwake
import Derived.Test.YteddogbhofhlaaaLoc
namespace Go.Proofs.Yteddogbhofhlaaa
open Go.RowKit
set_option linter.unusedVariables false

/-- a reader at block p; the curves f and g in the blocks F and G -/
structure Env2 (p : Nat) (w0 w : World) (F : Nat) (A : Option Addr) (n c : Nat) (f : Cv) (G : Nat) (B : Option Addr) (m d : Nat) (g : Cv) : Prop where
  s : SrcAt w p
  k : Kept w0.heap.size p w0 w
  lf : Loc p w F A n c f
  lg : Loc p w G B m d g
section
variable {p : Nat} {w0 w w' : World} {A B : Option Addr} {F G n c m d : Nat} {f g : Cv}
theorem Env2.below (h : Env2 p w0 w F A n c f G B m d g) (hb : Below w.heap.size w w') : Env2 p w0 w' F A n c f G B m d g := ⟨h.s.ext hb, kbel h.k hb, h.lf.below hb, h.lg.below hb⟩
theorem Env2.kept (h : Env2 p w0 w F A n c f G B m d g) (hS : SrcAt w' p) (hk : Kept w.heap.size p w w') : Env2 p w0 w' F A n c f G B m d g := ⟨hS, kstep h.k hk, h.lf.kept hk, h.lg.kept hk⟩
theorem Env2.alloc (h : Env2 p w0 w F A n c f G B m d g) (o : Obj) : Env2 p w0 (w.alloc o) F A n c f G B m d g := h.below (balloc w o)
theorem Env2.drew (h : Env2 p w0 w F A n c f G B m d g) : Env2 p w0 w.drew F A n c f G B m d g := ⟨h.s, kdrw h.k, h.lf.drew, h.lg.drew⟩
theorem Env2.drewN (h : Env2 p w0 w F A n c f G B m d g) (i : Nat) : Env2 p w0 (w.drewN i) F A n c f G B m d g := ⟨h.s, kdrewN h.k, h.lf.drewN i, h.lg.drewN i⟩
theorem Env2.cells (h : Env2 p w0 w F A n c f G B m d g) : w.cell? ⟨F, 0, none⟩ = some (.slice A n c) ∧ w.cell? ⟨F, 1, none⟩ = some (.int .i64 f.per) ∧ w.cell? ⟨F, 2, none⟩ = some (.int .i64 f.inc) ∧
    w.cell? ⟨G, 0, none⟩ = some (.slice B m d) ∧ w.cell? ⟨G, 1, none⟩ = some (.int .i64 g.per) ∧ w.cell? ⟨G, 2, none⟩ = some (.int .i64 g.inc) ∧ F < w.heap.size ∧ G < w.heap.size ∧ p < w.heap.size := by
  obtain ⟨f0, f1, f2, hlf⟩ := h.lf.cells
  obtain ⟨g0, g1, g2, hlg⟩ := h.lg.cells
  exact ⟨f0, f1, f2, g0, g1, g2, hlf, hlg, h.s.lt⟩
/-- at the end of a law -/
theorem Env2.fin {w0 : World} (h : Env2 w0.heap.size w0 w F A n c f G B m d g) : Below w0.heap.size w0 w := h.k.below (Nat.le_refl _)

/-- 'f, g := s.Curve(..), s.Curve(..)': the second draw lies behind the first one -/
theorem Env2.drawn {w2 w3 : World} {B0 : Nat} (hk : Kept w0.heap.size p w0 w2) (hI : Ints w2 w2.heap.size A n f.vals) (hA : ∀ b off s, A = some ⟨b, off, s⟩ → B0 ≤ b) (hp : p < B0)
    (hI' : Ints w3 w3.heap.size B m g.vals) (hB : ∀ b off s, B = some ⟨b, off, s⟩ → w2.heap.size ≤ b) (hp2 : p < w2.heap.size) (hS : SrcAt w3 p) (hk3 : Kept w2.heap.size p w2 w3) :
    Env2 p w0 ((w3.alloc (.cells #[.slice A n c, .int .i64 f.per, .int .i64 f.inc] 26)).alloc (.cells #[.slice B m d, .int .i64 g.per, .int .i64 g.inc] 26)) w3.heap.size A n c f (w3.heap.size + 1) B m d g := by
  have hne : ∀ b off s, A = some ⟨b, off, s⟩ → b ≠ p := fun b off s e => by have := hA b off s e; omega
  have i3 := hI.kept hne hk3
  have l1 := (Loc.new (c := c) i3 hA hp hS.lt).alloc (.cells #[.slice B m d, .int .i64 g.per, .int .i64 g.inc] 26)
  have l2 := Loc.new (c := d) (hI'.alloc' (.cells #[.slice A n c, .int .i64 f.per, .int .i64 f.inc] 26)) hB hp2 (hS.alloc _).lt
  simp only [World.size_alloc] at l2
  exact ⟨(hS.alloc _).alloc _, kall (kall (kstep hk hk3) _) _, l1, l2⟩
end

/-- what is returned for two valid curves -/
theorem RetE.ok {S : Int → Bool → Prop} {f g : Cv} {w : World} {e : Ending} {w' : World} (hf : f.Ok) (hg : g.Ok) (h : RetE S f g w e w') :
    ∃ t b, S t b ∧ e = .returned (.tuple #[.int .i64 t, .bool b, .int .i64 0]) ∧ Below w.heap.size w w' := by
  obtain ⟨t, b, er, hS, rfl, hb⟩ := h
  rcases hS with ⟨_, _, rfl, hS⟩ | ⟨hn, _⟩
  · exact ⟨t, b, hS, rfl, hb⟩
  · exact absurd ⟨hf, hg⟩ hn
end Go.Proofs.Yteddogbhofhlaaa
