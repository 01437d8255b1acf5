/- Words for walks with several curves in local variables. -/
import Derived.Test.YthdibkmjoiipgaaSrcCurve
namespace Go.Proofs.Ythdibkmjoiipgaa
open Go.RowKit
set_option linter.unusedVariables false

/-- the block F holds the curve f, apart from block p -/
structure Loc (p : Nat) (w : World) (F : Nat) (A : Option Addr) (n c : Nat) (f : Cv) : Prop where
  blk : Blk w F 46 #[.slice A n c, .int .i64 f.per, .int .i64 f.inc]
  ints : Ints w w.heap.size A n f.vals
  ne : F ≠ p
  ap : ∀ b off s, A = some ⟨b, off, s⟩ → b ≠ p

section
variable {p F n c : Nat} {w w' : World} {A : Option Addr} {f : Cv}
theorem Loc.lt (h : Loc p w F A n c f) : F < w.heap.size := h.blk.lt
theorem Loc.below (h : Loc p w F A n c f) (hb : Below w.heap.size w w') : Loc p w' F A n c f := ⟨h.blk.below hb h.lt, h.ints.ext hb, h.ne, h.ap⟩
theorem Loc.alloc (h : Loc p w F A n c f) (o : Obj) : Loc p (w.alloc o) F A n c f := h.below (balloc w o)
theorem Loc.drew (h : Loc p w F A n c f) : Loc p w.drew F A n c f := ⟨h.blk, h.ints, h.ne, h.ap⟩
theorem Loc.drewN (h : Loc p w F A n c f) (k : Nat) : Loc p (w.drewN k) F A n c f := ⟨h.blk, h.ints, h.ne, h.ap⟩
theorem Loc.kept (h : Loc p w F A n c f) (k : Kept w.heap.size p w w') : Loc p w' F A n c f := ⟨h.blk.kept h.ne k, h.ints.kept h.ap k, h.ne, h.ap⟩
theorem Loc.cells (h : Loc p w F A n c f) : w.cell? ⟨F, 0, none⟩ = some (.slice A n c) ∧ w.cell? ⟨F, 1, none⟩ = some (.int .i64 f.per) ∧ w.cell? ⟨F, 2, none⟩ = some (.int .i64 f.inc) ∧ F < w.heap.size := by
  have q0 := h.blk.cell 0; have q1 := h.blk.cell 1; have q2 := h.blk.cell 2
  simp at q0 q1 q2
  exact ⟨q0, q1, q2, h.lt⟩
theorem Loc.len (h : Loc p w F A n c f) : f.vals.length = n := h.ints.1
/-- a curve that has been returned, laid in a new block -/
theorem Loc.new {B : Nat} (hI : Ints w w.heap.size A n f.vals) (hA : ∀ b off s, A = some ⟨b, off, s⟩ → B ≤ b) (hB : p < B) (hw : p < w.heap.size) : Loc p (w.alloc (.cells #[.slice A n c, .int .i64 f.per, .int .i64 f.inc] 46)) w.heap.size A n c f :=
  ⟨Blk.new _ _ _, hI.alloc' _, by omega, fun b off s h => by have := hA b off s h; omega⟩
/-- where the list lies, it lies below the heap's end -/
theorem Loc.addr (h : Loc p w F A n c f) (hn : 0 < n) : ∀ b off s, A = some ⟨b, off, s⟩ → b < w.heap.size := by
  intro b off s e
  obtain ⟨b', off', e', hb, _⟩ := h.ints.2 hn
  rw [e] at e'
  cases e'
  exact hb
/-- the struct of another variable is stored -/
theorem Loc.far3 (h : Loc p w F A n c f) {G : Nat} {x y z : Value} (hF : F ≠ G) (hA : ∀ b off s, A = some ⟨b, off, s⟩ → b ≠ G) :
    Loc p (((w.setCell ⟨G, 0, none⟩ x).setCell ⟨G, 1, none⟩ y).setCell ⟨G, 2, none⟩ z) F A n c f :=
  ⟨((h.blk.far hF x).far hF y).far hF z, by simpa using ((h.ints.setCell (p := ⟨G, 0, none⟩) hA x).setCell (p := ⟨G, 1, none⟩) hA y).setCell (p := ⟨G, 2, none⟩) hA z, h.ne, h.ap⟩
/-- a curve that has been returned, stored in a variable that lay there -/
theorem Loc.stored {x y z : Value} {B : Nat} (hZ : Blk w F 46 #[x, y, z]) (hI : Ints w w.heap.size A n f.vals) (hA : ∀ b off s, A = some ⟨b, off, s⟩ → B ≤ b) (hB : F < B) (hF : p < F) :
    Loc p (((w.setCell ⟨F, 0, none⟩ (.slice A n c)).setCell ⟨F, 1, none⟩ (.int .i64 f.per)).setCell ⟨F, 2, none⟩ (.int .i64 f.inc)) F A n c f :=
  ⟨hZ.store3 _ _ _, by
    simpa using ((hI.setCell (p := ⟨F, 0, none⟩) (fun b off s e => by have := hA b off s e; simp; omega) (.slice A n c)).setCell (p := ⟨F, 1, none⟩) (fun b off s e => by have := hA b off s e; simp; omega) (.int .i64 f.per)).setCell (p := ⟨F, 2, none⟩) (fun b off s e => by have := hA b off s e; simp; omega) (.int .i64 f.inc),
    by omega, fun b off s e => by have := hA b off s e; omega⟩
theorem SrcAt.far3 (h : SrcAt w p) {G : Nat} {x y z : Value} (hG : p < G) : SrcAt (((w.setCell ⟨G, 0, none⟩ x).setCell ⟨G, 1, none⟩ y).setCell ⟨G, 2, none⟩ z) p :=
  ((h.far (a := ⟨G, 0, none⟩) hG x).far (a := ⟨G, 1, none⟩) hG y).far (a := ⟨G, 2, none⟩) hG z
theorem Kept.set3 {B : Nat} {w0 : World} (h : Kept B p w0 w) {G : Nat} {x y z : Value} (hG : B ≤ G) : Kept B p w0 (((w.setCell ⟨G, 0, none⟩ x).setCell ⟨G, 1, none⟩ y).setCell ⟨G, 2, none⟩ z) :=
  ((h.setCell (a := ⟨G, 0, none⟩) (.inr hG) x).setCell (a := ⟨G, 1, none⟩) (.inr hG) y).setCell (a := ⟨G, 2, none⟩) (.inr hG) z
theorem SrcAt.kdrew {n : Nat} (h : SrcAt w p) : SrcAt (w.drewN n) p := h
/-- Kept from the start, one step more -/
theorem kstep {w0 : World} (h : Kept w0.heap.size p w0 w) (k : Kept w.heap.size p w w') : Kept w0.heap.size p w0 w' := kthen h k
theorem kbel {w0 : World} (h : Kept w0.heap.size p w0 w) (k : Below w.heap.size w w') : Kept w0.heap.size p w0 w' := kbelow h k
theorem kall {w0 : World} (h : Kept w0.heap.size p w0 w) (o : Obj) : Kept w0.heap.size p w0 (w.alloc o) := kbelow h (balloc w o)
theorem ball {w0 w : World} (h : Below w0.heap.size w0 w) (o : Obj) : Below w0.heap.size w0 (w.alloc o) := bthen h (balloc w o)
theorem klater {p : Nat} {w0 w w' : World} (h : Below w0.heap.size w0 w) (k : Kept w.heap.size p w w') : Kept w0.heap.size p w0 w' := kthen (Kept.of h) k
theorem blater {w0 w w' : World} (h : Below w0.heap.size w0 w) (k : Below w.heap.size w w') : Below w0.heap.size w0 w' := bthen h k
theorem kdrw {w0 : World} (h : Kept w0.heap.size p w0 w) : Kept w0.heap.size p w0 w.drew := ⟨h.os, h.tape, h.output, h.size, h.block⟩
end
end Go.Proofs.Ythdibkmjoiipgaa
namespace Go.Proofs.Ythdibkmjoiipgaa
open Go.RowKit
set_option linter.unusedVariables false

/-- a curve as it lies in a variable: its list's address, length, capacity, and what it is -/
structure CR where
  A : Option Addr
  n : Nat
  c : Nat
  f : Cv
def CR.cells (x : CR) : List Value := [.slice x.A x.n x.c, .int .i64 x.f.per, .int .i64 x.f.inc]
/-- its list lies in the world, apart from block p -/
structure CR.In (x : CR) (p : Nat) (w : World) : Prop where
  ints : Ints w w.heap.size x.A x.n x.f.vals
  ap : 0 < x.n → ∀ b off s, x.A = some ⟨b, off, s⟩ → b ≠ p

theorem Ints.kept0 {w w' : World} {p n : Nat} {A : Option Addr} {zs : List Int} (h : Ints w w.heap.size A n zs) (ha : 0 < n → ∀ b off s, A = some ⟨b, off, s⟩ → b ≠ p) (k : Kept w.heap.size p w w') : Ints w' w'.heap.size A n zs :=
  ⟨h.1, fun hn => by
    obtain ⟨b, off, e, hb, hc⟩ := h.2 hn
    exact ⟨b, off, e, Nat.lt_of_lt_of_le hb k.size, fun j hj => (World.cell?_of_block (a := ⟨b, off + j, none⟩) (k.block b hb (ha hn _ _ _ e))).trans (hc j hj)⟩⟩
section
variable {p : Nat} {w w' : World} {x : CR}
theorem CR.In.below (h : x.In p w) (hb : Below w.heap.size w w') : x.In p w' := ⟨h.ints.ext hb, h.ap⟩
theorem CR.In.kept (h : x.In p w) (hk : Kept w.heap.size p w w') : x.In p w' := ⟨h.ints.kept0 h.ap hk, h.ap⟩
theorem CR.In.alloc (h : x.In p w) (o : Obj) : x.In p (w.alloc o) := h.below (balloc w o)
theorem CR.In.drew (h : x.In p w) : x.In p w.drew := ⟨h.ints, h.ap⟩
theorem CR.In.len (h : x.In p w) : x.f.vals.length = x.n := h.ints.1

/-- the block F is a variable that holds the curve x -/
structure Lc (p : Nat) (w : World) (F : Nat) (x : CR) : Prop where
  blk : Blk w F 46 #[.slice x.A x.n x.c, .int .i64 x.f.per, .int .i64 x.f.inc]
  inn : x.In p w
  ne : F ≠ p
variable {F : Nat}
theorem Lc.lt (h : Lc p w F x) : F < w.heap.size := h.blk.lt
theorem Lc.below (h : Lc p w F x) (hb : Below w.heap.size w w') : Lc p w' F x := ⟨h.blk.below hb h.lt, h.inn.below hb, h.ne⟩
theorem Lc.kept (h : Lc p w F x) (hk : Kept w.heap.size p w w') : Lc p w' F x := ⟨h.blk.kept h.ne hk, h.inn.kept hk, h.ne⟩
theorem Lc.alloc (h : Lc p w F x) (o : Obj) : Lc p (w.alloc o) F x := h.below (balloc w o)
theorem Lc.drew (h : Lc p w F x) : Lc p w.drew F x := ⟨h.blk, h.inn.drew, h.ne⟩
theorem Lc.cells (h : Lc p w F x) : w.cell? ⟨F, 0, none⟩ = some (.slice x.A x.n x.c) ∧ w.cell? ⟨F, 1, none⟩ = some (.int .i64 x.f.per) ∧ w.cell? ⟨F, 2, none⟩ = some (.int .i64 x.f.inc) ∧ F < w.heap.size := by
  have q0 := h.blk.cell 0; have q1 := h.blk.cell 1; have q2 := h.blk.cell 2
  simp at q0 q1 q2
  exact ⟨q0, q1, q2, h.lt⟩
theorem Lc.new (h : x.In p w) (hp : p < w.heap.size) : Lc p (w.alloc (.cells #[.slice x.A x.n x.c, .int .i64 x.f.per, .int .i64 x.f.inc] 46)) w.heap.size x :=
  ⟨Blk.new _ _ _, h.alloc _, by omega⟩
theorem Loc.lc {A : Option Addr} {n c : Nat} {f : Cv} (h : Loc p w F A n c f) : Lc p w F ⟨A, n, c, f⟩ := ⟨h.blk, ⟨h.ints, fun _ => h.ap⟩, h.ne⟩

/-- block b is a list of curves -/
structure Row (p : Nat) (w : World) (b : Nat) (xs : List CR) : Prop where
  blk : Blk w b 46 (xs.flatMap CR.cells).toArray
  inn : ∀ x ∈ xs, x.In p w
  ne : b ≠ p
variable {b : Nat} {xs : List CR}
theorem Row.lt (h : Row p w b xs) : b < w.heap.size := h.blk.lt
theorem Row.below (h : Row p w b xs) (hb : Below w.heap.size w w') : Row p w' b xs := ⟨h.blk.below hb h.lt, fun x hx => (h.inn x hx).below hb, h.ne⟩
theorem Row.kept (h : Row p w b xs) (hk : Kept w.heap.size p w w') : Row p w' b xs := ⟨h.blk.kept h.ne hk, fun x hx => (h.inn x hx).kept hk, h.ne⟩
theorem Row.alloc (h : Row p w b xs) (o : Obj) : Row p (w.alloc o) b xs := h.below (balloc w o)
theorem Row.drew (h : Row p w b xs) : Row p w.drew b xs := ⟨h.blk, fun x hx => (h.inn x hx).drew, h.ne⟩
theorem flat_get (xs : List CR) (k j : Nat) (x : CR) (hx : xs[k]? = some x) (hj : j < 3) : (xs.flatMap CR.cells)[k * 3 + j]? = x.cells[j]? := by
  induction xs generalizing k with
  | nil => simp at hx
  | cons y ys ih =>
    rw [List.flatMap_cons]
    have hl : y.cells.length = 3 := rfl
    rcases k with _ | k
    · simp at hx
      subst hx
      rw [Nat.zero_mul, Nat.zero_add, List.getElem?_append_left (by omega)]
    · rw [List.getElem?_append_right (by omega), hl, show (k + 1) * 3 + j - 3 = k * 3 + j by omega]
      exact ih k (by simpa using hx)
theorem Row.get (h : Row p w b xs) {k : Nat} (hk : k < xs.length) : ∃ x, x ∈ xs ∧ x.In p w ∧ w.cell? ⟨b, k * 3, none⟩ = some (.slice x.A x.n x.c) ∧ w.cell? ⟨b, k * 3 + 1, none⟩ = some (.int .i64 x.f.per) ∧ w.cell? ⟨b, k * 3 + 2, none⟩ = some (.int .i64 x.f.inc) := by
  have hx : xs[k]? = some xs[k] := List.getElem?_eq_getElem hk
  refine ⟨xs[k], List.getElem_mem hk, h.inn _ (List.getElem_mem hk), ?_, ?_, ?_⟩
  · have := h.blk.cell (k * 3 + 0)
    rw [List.getElem?_toArray, flat_get xs k 0 _ hx (by omega)] at this
    exact this
  · have := h.blk.cell (k * 3 + 1)
    rw [List.getElem?_toArray, flat_get xs k 1 _ hx (by omega)] at this
    exact this
  · have := h.blk.cell (k * 3 + 2)
    rw [List.getElem?_toArray, flat_get xs k 2 _ hx (by omega)] at this
    exact this
end

theorem small_any (A : Option Addr) (n c : Nat) (p i : Int) (w : World) (hn : (n : Int) ≤ 9223372036854775807) :
    Calls Try.prog 88 #[.agg #[.slice A n c, .int .i64 p, .int .i64 i]] w fun e w' => e = .returned (.bool (decide ((n : Int) ≤ 800))) ∧ Below w.heap.size w w' := by
  go_enter Try.func88, Try.ntmps88
  go_wp2
  go_ret
  exact ⟨rfl, (Below.refl _ _).alloc (Nat.le_refl _) _⟩
end Go.Proofs.Ythdibkmjoiipgaa
namespace Go.Proofs.Ythdibkmjoiipgaa
open Go.RowKit
set_option linter.unusedVariables false

theorem CR.In.new {p B : Nat} {w : World} {x : CR} (h : Ints w w.heap.size x.A x.n x.f.vals) (hB : ∀ b off s, x.A = some ⟨b, off, s⟩ → B ≤ b) (hp : p < B) : x.In p w := ⟨h, fun _ b off s e => by have := hB b off s e; omega⟩
theorem CR.In.old {w : World} {x : CR} (h : Ints w w.heap.size x.A x.n x.f.vals) : x.In w.heap.size w := ⟨h, fun hn b off s e => by
  obtain ⟨b', off', e', hb, _⟩ := h.2 hn
  rw [e] at e'; cases e'; omega⟩

/-- a reader at block p, and curves in variables -/
structure EnvL (p : Nat) (w0 w : World) (vs : List (Nat × CR)) : Prop where
  s : SrcAt w p
  k : Kept w0.heap.size p w0 w
  v : ∀ x ∈ vs, Lc p w x.1 x.2
section
variable {p : Nat} {w0 w w' : World} {vs : List (Nat × CR)}
theorem EnvL.start {w1 : World} (hS : SrcAt w1 p) (hb : Below w.heap.size w w1) : EnvL p w w1 [] := ⟨hS, Kept.of hb, fun x hx => by cases hx⟩
theorem EnvL.below (h : EnvL p w0 w vs) (hb : Below w.heap.size w w') : EnvL p w0 w' vs := ⟨h.s.ext hb, kbel h.k hb, fun x hx => (h.v x hx).below hb⟩
theorem EnvL.alloc (h : EnvL p w0 w vs) (o : Obj) : EnvL p w0 (w.alloc o) vs := h.below (balloc w o)
theorem EnvL.drew (h : EnvL p w0 w vs) : EnvL p w0 w.drew vs := ⟨h.s, kdrw h.k, fun x hx => (h.v x hx).drew⟩
theorem EnvL.kept (h : EnvL p w0 w vs) (hS : SrcAt w' p) (hk : Kept w.heap.size p w w') : EnvL p w0 w' vs := ⟨hS, kstep h.k hk, fun x hx => (h.v x hx).kept hk⟩
theorem EnvL.push (h : EnvL p w0 w vs) {X : CR} (hX : X.In p w) : EnvL p w0 (w.alloc (.cells #[.slice X.A X.n X.c, .int .i64 X.f.per, .int .i64 X.f.inc] 46)) (vs ++ [(w.heap.size, X)]) :=
  ⟨h.s.alloc _, kall h.k _, fun x hx => by
    rcases List.mem_append.1 hx with hx | hx
    · exact (h.v x hx).alloc _
    · simp only [List.mem_singleton] at hx
      subst hx
      exact Lc.new hX h.s.lt⟩
theorem EnvL.get (h : EnvL p w0 w vs) (i : Nat) {F : Nat} {X : CR} (hx : vs[i]? = some (F, X)) : Lc p w F X := h.v (F, X) (List.mem_of_getElem? hx)
theorem EnvL.fin (h : EnvL w0.heap.size w0 w vs) : Below w0.heap.size w0 w := h.k.below (Nat.le_refl _)
end
/-- curve.Value of a valid curve -/
theorem cval_any (A : Option Addr) (n c : Nat) (p i t : Int) (zs : List Int) (w : World) (hA : Ints w w.heap.size A n zs) (ok : Cv.Ok ⟨zs, p, i⟩) (h0 : 0 ≤ t) (h1 : t ≤ 1048576) :
    Calls Try.prog 51 #[.agg #[.slice A n c, .int .i64 p, .int .i64 i], .int .i64 t] w fun e w' => e = .returned (.tuple #[.int .i64 (Cv.at ⟨zs, p, i⟩ t.toNat), .int .i64 0]) ∧ Below w.heap.size w w' := by
  have hn : (n : Int) ≤ 1000000 := by
    have h1 := ok.n2
    have h2 : (Cv.mk zs p i).vals.length = n := hA.1
    omega
  refine (value_any A n c p i t zs w hA hn).mono ?_
  rintro e w' ⟨rfl, hb⟩
  refine ⟨?_, hb⟩
  have e1 : Cv.value ⟨zs, p, i⟩ t = (Cv.at ⟨zs, p, i⟩ t.toNat, 0) := by unfold Cv.value; rw [if_pos (Cv.okB_true ok), if_neg (by omega)]
  rw [e1]
end Go.Proofs.Ythdibkmjoiipgaa
