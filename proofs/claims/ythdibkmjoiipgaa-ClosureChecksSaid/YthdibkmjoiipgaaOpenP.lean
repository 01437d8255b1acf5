/- A certificate (a curve, a number and a list of integers) that came in as a struct: what the datum says of the cells. -/
import Derived.Test.YthdibkmjoiipgaaBentP
import Derived.WalkKit
import Derived.ProofKit
import Derived.OpenShut
import Derived.ChangeOld
import Derived.Below
import Derived.Lib.SmallJoins
import Derived.Deep.Slices
import Derived.Deep.Strs
namespace Go.Proofs.Ythdibkmjoiipgaa
open Go.ChangeShapes Go.WideShapes Go.ChangeAt Go.RowKit Go.Joins Go.Deep
set_option linter.unusedVariables false

theorem add_noneG (b off j : Nat) : (Addr.add ⟨b, off, none⟩ j) = ⟨b, off + j, none⟩ := by
  unfold Addr.add
  split
  · rename_i h; subst h; rfl
  · rfl
theorem spot_noneG {w : World} {x : Addr} {v : Value} (h : w.cell? x = some v) : ∃ b off, x = ⟨b, off, none⟩ := by
  obtain ⟨b, off, spot⟩ := x
  cases spot with
  | none => exact ⟨b, off, rfl⟩
  | some s => exfalso; unfold World.cell? at h; split at h <;> simp at h
section
variable {H : Type} {enc : TypeId × Value → H} {W : World}
theorem ints_of_trodG {n : Nat} {v : Value} {y : DataW H × List MemPlace} (h : DataW.trod enc Try.prog W 0 (fun _ => true) true n 29 [v] = some y) :
    ∃ (a : Option Addr) (len cap : Nat) (zs : List Int), v = .slice a len cap ∧ Ints W W.heap.size a len zs ∧ len ≤ cap ∧ (len : Int) ≤ 9223372036854775807 := by
  rcases open_ints Try.underlying29 Try.underlying3 (by kernel_rfl) h with ⟨hcs, _⟩ | ⟨x, l, c, zs, hcs, _, hl, hm, hz, _, hcell, hwz⟩
  · simp at hcs
    subst hcs
    exact ⟨none, 0, 0, [], rfl, Ints.none_, Nat.le_refl _, by omega⟩
  · simp at hcs
    subst hcs
    simp only [if_true] at hz
    refine ⟨some x, l, c, zs.take l, rfl, ⟨by simp; omega, fun hn => ?_⟩, hl, by unfold maxLen at hm; omega⟩
    have h0 := hcell 0 (by omega)
    have hx : x.add 0 = x := by simp [Addr.add]
    rw [hx] at h0
    obtain ⟨b, off, rfl⟩ := spot_noneG h0
    refine ⟨b, off, rfl, World.block_lt_of_cell? W _ h0, fun j hj => ?_⟩
    have hj' := hcell j (by omega)
    rw [nth_take _ _ _ hj]
    rw [add_noneG] at hj'
    exact hj'
theorem cells3_openG {P : Program} {base fuel : Nat} {spare : Nat → Bool} {held : Bool} {t : TypeId} {f0 f1 f2 : Field} {c0 c1 c2 : Value} {x : DataW H × List MemPlace} (hs : P.underlying t = some (.struct #[f0, f1, f2])) (hone : oneCellFields P #[f0, f1, f2] = true)
    (h : DataW.trod enc P W base spare held fuel t [c0, c1, c2] = some x) : ∃ y0 y1 y2 n, DataW.trod enc P W base spare held n f0.type [c0] = some y0 ∧ DataW.trod enc P W base spare held n f1.type [c1] = some y1 ∧ DataW.trod enc P W base spare held n f2.type [c2] = some y2 := by
  obtain ⟨y0, y1, y2, n, _, _, h0, h1, h2⟩ := Go.Deep.trod_struct3 hs h
  obtain ⟨o0, k0⟩ := hone_of hone 0 f0 rfl
  obtain ⟨o1, k1⟩ := hone_of hone 1 f1 rfl
  obtain ⟨o2, k2⟩ := hone_of hone 2 f2 rfl
  exact ⟨y0, y1, y2, n, by simpa [o0, k0] using h0, by simpa [o1, k1] using h1, by simpa [o2, k2] using h2⟩
theorem three_openP {t : TypeId} {f0 f1 f2 : Field} {n : Nat} {c0 c1 c2 c3 c4 : Value} {x : DataW H × List MemPlace} (hs : Try.prog.underlying t = some (.struct #[f0, f1, f2])) (h0 : f0.type = 46) (o0 : f0.offset = 0) (h1 : f1.type = 3) (o1 : f1.offset = 3) (h2 : f2.type = 29) (o2 : f2.offset = 4)
    (h : DataW.trod enc Try.prog W 0 (fun _ => true) true n t [c0, c1, c2, c3, c4] = some x) :
    ∃ (A : Option Addr) (k c : Nat) (p i : Int) (L : List Int) (fr : Int) (B : Option Addr) (m d : Nat) (cs : List Int), c0 = .slice A k c ∧ c1 = .int .i64 p ∧ c2 = .int .i64 i ∧ c3 = .int .i64 fr ∧ c4 = .slice B m d ∧ Ints W W.heap.size A k L ∧ k ≤ c ∧ (k : Int) ≤ 9223372036854775807 ∧ Ints W W.heap.size B m cs ∧ m ≤ d ∧ (m : Int) ≤ 9223372036854775807 := by
  obtain ⟨y0, y1, y2, m, _, _, t0, t1, t2⟩ := Go.Deep.trod_struct3 hs h
  have hi : Try.prog.cellsOf 46 = 3 := by kernel_rfl
  have hk : Try.prog.cellsOf 3 = 1 := by kernel_rfl
  have hj : Try.prog.cellsOf 29 = 1 := by kernel_rfl
  rw [h0, o0, hi] at t0
  rw [h1, o1, hk] at t1
  rw [h2, o2, hj] at t2
  obtain ⟨z0, z1, z2, n', u0, u1, u2⟩ := cells3_openG (c0 := c0) (c1 := c1) (c2 := c2) Try.underlying46 (by kernel_rfl) (by simpa using t0)
  obtain ⟨A, k, cp, zs, rfl, hI, g1, g2⟩ := ints_of_trodG u0
  obtain ⟨i1, e1, _, _⟩ := DataW.trod_int Try.underlying3 u1
  obtain ⟨i2, e2, _, _⟩ := DataW.trod_int Try.underlying3 u2
  obtain ⟨i3, e3, _, _⟩ := DataW.trod_int Try.underlying3 (show DataW.trod enc Try.prog W _ _ _ _ _ [c3] = some y1 from by simpa using t1)
  simp at e1 e2 e3
  subst e1 e2 e3
  obtain ⟨B, m, d, cs, rfl, hJ, g3, g4⟩ := ints_of_trodG (v := c4) (by simpa using t2)
  exact ⟨A, k, cp, i1, i2, zs, i3, B, m, d, cs, rfl, rfl, rfl, rfl, rfl, hI, g1, g2, hJ, g3, g4⟩
set_option maxRecDepth 100000 in
theorem parts_open {r : Reach} {b0 : Nat} {v : Value} {d : DataW H} {p : List MemPlace} (hv : Value.okWide Try.prog W r b0 63 v) (h : DataW.Trod enc Try.prog W 0 (fun _ => true) true 63 v d p) :
    ∃ (A : Option Addr) (k c : Nat) (p i : Int) (L : List Int) (fr : Int) (B : Option Addr) (m d : Nat) (cs : List Int), v = .agg #[.slice A k c, .int .i64 p, .int .i64 i, .int .i64 fr, .slice B m d] ∧ Ints W W.heap.size A k L ∧ k ≤ c ∧ (k : Int) ≤ 9223372036854775807 ∧ Ints W W.heap.size B m cs ∧ m ≤ d ∧ (m : Int) ≤ 9223372036854775807 := by
  obtain ⟨cs, rfl, hsz⟩ := okWide_struct Try.underlying63 hv
  have hc : Try.prog.cellsOf 63 = 5 := by kernel_rfl
  rw [hc] at hsz
  obtain ⟨l, rfl⟩ : ∃ l : List Value, cs = l.toArray := ⟨cs.toList, by simp⟩
  match l, hsz with
  | [c0, c1, c2, c3, c4], _ =>
    obtain ⟨fuel, hf⟩ := h
    obtain ⟨A, k, c, p, i, L, fr, B, m, d, cs, rfl, rfl, rfl, rfl, rfl, h1⟩ := three_openP Try.underlying63 rfl rfl rfl rfl rfl rfl (by simpa [Value.cells] using hf)
    exact ⟨A, k, c, p, i, L, fr, B, m, d, cs, rfl, h1⟩
end
end Go.Proofs.Ythdibkmjoiipgaa
