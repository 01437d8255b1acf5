/- Words for walks over lists of curves: curves as records, one in a variable, a list of them in a block; keep.Small. -/
import Derived.Test.YtmieikfmbnaoaaaLoc
namespace Go.Proofs.Ytmieikfmbnaoaaa
open Go.RowKit
set_option linter.unusedVariables false

/-- a curve as it lies in a variable: its list's address, length, capacity, and what it is -/
structure CR where
  A : Option Addr
  n : Nat
  c : Nat
  f : Cv
def CR.cells (x : CR) : List Value := [.slice x.A x.n x.c, .int .i64 x.f.per, .int .i64 x.f.inc]
/-- its list lies in the world, apart from block p -/
structure CR.In (x : CR) (p : Nat) (w : World) : Prop where
  ints : Ints w w.heap.size x.A x.n x.f.vals
  ap : 0 < x.n → ∀ b off s, x.A = some ⟨b, off, s⟩ → b ≠ p

theorem Ints.kept0 {w w' : World} {p n : Nat} {A : Option Addr} {zs : List Int} (h : Ints w w.heap.size A n zs) (ha : 0 < n → ∀ b off s, A = some ⟨b, off, s⟩ → b ≠ p) (k : Kept w.heap.size p w w') : Ints w' w'.heap.size A n zs :=
  ⟨h.1, fun hn => by
    obtain ⟨b, off, e, hb, hc⟩ := h.2 hn
    exact ⟨b, off, e, Nat.lt_of_lt_of_le hb k.size, fun j hj => (World.cell?_of_block (a := ⟨b, off + j, none⟩) (k.block b hb (ha hn _ _ _ e))).trans (hc j hj)⟩⟩
section
variable {p : Nat} {w w' : World} {x : CR}
theorem CR.In.below (h : x.In p w) (hb : Below w.heap.size w w') : x.In p w' := ⟨h.ints.ext hb, h.ap⟩
theorem CR.In.kept (h : x.In p w) (hk : Kept w.heap.size p w w') : x.In p w' := ⟨h.ints.kept0 h.ap hk, h.ap⟩
theorem CR.In.alloc (h : x.In p w) (o : Obj) : x.In p (w.alloc o) := h.below (balloc w o)
theorem CR.In.drew (h : x.In p w) : x.In p w.drew := ⟨h.ints, h.ap⟩
theorem CR.In.len (h : x.In p w) : x.f.vals.length = x.n := h.ints.1

/-- the block F is a variable that holds the curve x -/
structure Lc (p : Nat) (w : World) (F : Nat) (x : CR) : Prop where
  blk : Blk w F 41 #[.slice x.A x.n x.c, .int .i64 x.f.per, .int .i64 x.f.inc]
  inn : x.In p w
  ne : F ≠ p
variable {F : Nat}
theorem Lc.lt (h : Lc p w F x) : F < w.heap.size := h.blk.lt
theorem Lc.below (h : Lc p w F x) (hb : Below w.heap.size w w') : Lc p w' F x := ⟨h.blk.below hb h.lt, h.inn.below hb, h.ne⟩
theorem Lc.kept (h : Lc p w F x) (hk : Kept w.heap.size p w w') : Lc p w' F x := ⟨h.blk.kept h.ne hk, h.inn.kept hk, h.ne⟩
theorem Lc.alloc (h : Lc p w F x) (o : Obj) : Lc p (w.alloc o) F x := h.below (balloc w o)
theorem Lc.drew (h : Lc p w F x) : Lc p w.drew F x := ⟨h.blk, h.inn.drew, h.ne⟩
theorem Lc.cells (h : Lc p w F x) : w.cell? ⟨F, 0, none⟩ = some (.slice x.A x.n x.c) ∧ w.cell? ⟨F, 1, none⟩ = some (.int .i64 x.f.per) ∧ w.cell? ⟨F, 2, none⟩ = some (.int .i64 x.f.inc) ∧ F < w.heap.size := by
  have q0 := h.blk.cell 0; have q1 := h.blk.cell 1; have q2 := h.blk.cell 2
  simp at q0 q1 q2
  exact ⟨q0, q1, q2, h.lt⟩
theorem Lc.new (h : x.In p w) (hp : p < w.heap.size) : Lc p (w.alloc (.cells #[.slice x.A x.n x.c, .int .i64 x.f.per, .int .i64 x.f.inc] 41)) w.heap.size x :=
  ⟨Blk.new _ _ _, h.alloc _, by omega⟩
theorem Loc.lc {A : Option Addr} {n c : Nat} {f : Cv} (h : Loc p w F A n c f) : Lc p w F ⟨A, n, c, f⟩ := ⟨h.blk, ⟨h.ints, fun _ => h.ap⟩, h.ne⟩

/-- block b is a list of curves -/
structure Row (p : Nat) (w : World) (b : Nat) (xs : List CR) : Prop where
  blk : Blk w b 41 (xs.flatMap CR.cells).toArray
  inn : ∀ x ∈ xs, x.In p w
  ne : b ≠ p
variable {b : Nat} {xs : List CR}
theorem Row.lt (h : Row p w b xs) : b < w.heap.size := h.blk.lt
theorem Row.below (h : Row p w b xs) (hb : Below w.heap.size w w') : Row p w' b xs := ⟨h.blk.below hb h.lt, fun x hx => (h.inn x hx).below hb, h.ne⟩
theorem Row.kept (h : Row p w b xs) (hk : Kept w.heap.size p w w') : Row p w' b xs := ⟨h.blk.kept h.ne hk, fun x hx => (h.inn x hx).kept hk, h.ne⟩
theorem Row.alloc (h : Row p w b xs) (o : Obj) : Row p (w.alloc o) b xs := h.below (balloc w o)
theorem Row.drew (h : Row p w b xs) : Row p w.drew b xs := ⟨h.blk, fun x hx => (h.inn x hx).drew, h.ne⟩
theorem flat_get (xs : List CR) (k j : Nat) (x : CR) (hx : xs[k]? = some x) (hj : j < 3) : (xs.flatMap CR.cells)[k * 3 + j]? = x.cells[j]? := by
  induction xs generalizing k with
  | nil => simp at hx
  | cons y ys ih =>
    rw [List.flatMap_cons]
    have hl : y.cells.length = 3 := rfl
    rcases k with _ | k
    · simp at hx
      subst hx
      rw [Nat.zero_mul, Nat.zero_add, List.getElem?_append_left (by omega)]
    · rw [List.getElem?_append_right (by omega), hl, show (k + 1) * 3 + j - 3 = k * 3 + j by omega]
      exact ih k (by simpa using hx)
theorem Row.get (h : Row p w b xs) {k : Nat} (hk : k < xs.length) : ∃ x, x ∈ xs ∧ x.In p w ∧ w.cell? ⟨b, k * 3, none⟩ = some (.slice x.A x.n x.c) ∧ w.cell? ⟨b, k * 3 + 1, none⟩ = some (.int .i64 x.f.per) ∧ w.cell? ⟨b, k * 3 + 2, none⟩ = some (.int .i64 x.f.inc) := by
  have hx : xs[k]? = some xs[k] := List.getElem?_eq_getElem hk
  refine ⟨xs[k], List.getElem_mem hk, h.inn _ (List.getElem_mem hk), ?_, ?_, ?_⟩
  · have := h.blk.cell (k * 3 + 0)
    rw [List.getElem?_toArray, flat_get xs k 0 _ hx (by omega)] at this
    exact this
  · have := h.blk.cell (k * 3 + 1)
    rw [List.getElem?_toArray, flat_get xs k 1 _ hx (by omega)] at this
    exact this
  · have := h.blk.cell (k * 3 + 2)
    rw [List.getElem?_toArray, flat_get xs k 2 _ hx (by omega)] at this
    exact this
end

theorem small_any (A : Option Addr) (n c : Nat) (p i : Int) (w : World) (hn : (n : Int) ≤ 9223372036854775807) :
    Calls Try.prog 32 #[.agg #[.slice A n c, .int .i64 p, .int .i64 i]] w fun e w' => e = .returned (.bool (decide ((n : Int) ≤ 800))) ∧ Below w.heap.size w w' := by
  go_enter Try.func32, Try.ntmps32
  go_wp2
  go_ret
  exact ⟨rfl, (Below.refl _ _).alloc (Nat.le_refl _) _⟩
end Go.Proofs.Ytmieikfmbnaoaaa
