/- A list of curves that came in: what its datum says of the cells. -/
import Derived.Test.YtmieikfmbnaoaaaPwTot
import Derived.WalkKit
import Derived.ProofKit
import Derived.OpenShut
import Derived.ShutString
import Derived.ChangeOld
import Derived.Below
import Derived.Lib.SmallJoins
import Derived.Deep.Slices
import Derived.Deep.Strs
namespace Go.Proofs.Ytmieikfmbnaoaaa
open Go.ChangeShapes Go.WideShapes Go.ChangeAt Go.RowKit Go.Joins Go.Deep
set_option linter.unusedVariables false

instance : Inhabited CR := ⟨⟨none, 0, 0, Cv.none⟩⟩
theorem add_none (b off j : Nat) : (Addr.add ⟨b, off, none⟩ j) = ⟨b, off + j, none⟩ := by
  unfold Addr.add
  split
  · rename_i h; subst h; rfl
  · rfl
theorem spot_none {w : World} {x : Addr} {v : Value} (h : w.cell? x = some v) : ∃ b off, x = ⟨b, off, none⟩ := by
  obtain ⟨b, off, spot⟩ := x
  cases spot with
  | none => exact ⟨b, off, rfl⟩
  | some s => exfalso; unfold World.cell? at h; split at h <;> simp at h
section
variable {H : Type} {enc : TypeId × Value → H} {W : World}
theorem ints_of_trod {n : Nat} {v : Value} {y : DataW H × List MemPlace} (h : DataW.trod enc Try.prog W 0 (fun _ => true) true n 26 [v] = some y) :
    ∃ (a : Option Addr) (len cap : Nat) (zs : List Int), v = .slice a len cap ∧ Ints W W.heap.size a len zs ∧ len ≤ cap ∧ (len : Int) ≤ 9223372036854775807 := by
  rcases open_ints Try.underlying26 Try.underlying3 (by kernel_rfl) h with ⟨hcs, _⟩ | ⟨x, l, c, zs, hcs, _, hl, hm, hz, _, hcell, hwz⟩
  · simp at hcs
    subst hcs
    exact ⟨none, 0, 0, [], rfl, Ints.none_, Nat.le_refl _, by omega⟩
  · simp at hcs
    subst hcs
    simp only [if_true] at hz
    refine ⟨some x, l, c, zs.take l, rfl, ⟨by simp; omega, fun hn => ?_⟩, hl, by unfold maxLen at hm; omega⟩
    have h0 := hcell 0 (by omega)
    have hx : x.add 0 = x := by simp [Addr.add]
    rw [hx] at h0
    obtain ⟨b, off, rfl⟩ := spot_none h0
    refine ⟨b, off, rfl, World.block_lt_of_cell? W _ h0, fun j hj => ?_⟩
    have hj' := hcell j (by omega)
    rw [nth_take _ _ _ hj]
    rw [add_none] at hj'
    exact hj'
theorem cells3_open {P : Program} {base fuel : Nat} {spare : Nat → Bool} {held : Bool} {t : TypeId} {f0 f1 f2 : Field} {c0 c1 c2 : Value} {x : DataW H × List MemPlace} (hs : P.underlying t = some (.struct #[f0, f1, f2])) (hone : oneCellFields P #[f0, f1, f2] = true)
    (h : DataW.trod enc P W base spare held fuel t [c0, c1, c2] = some x) : ∃ y0 y1 y2 n, DataW.trod enc P W base spare held n f0.type [c0] = some y0 ∧ DataW.trod enc P W base spare held n f1.type [c1] = some y1 ∧ DataW.trod enc P W base spare held n f2.type [c2] = some y2 := by
  obtain ⟨y0, y1, y2, n, _, _, h0, h1, h2⟩ := Go.Deep.trod_struct3 hs h
  obtain ⟨o0, k0⟩ := hone_of hone 0 f0 rfl
  obtain ⟨o1, k1⟩ := hone_of hone 1 f1 rfl
  obtain ⟨o2, k2⟩ := hone_of hone 2 f2 rfl
  exact ⟨y0, y1, y2, n, by simpa [o0, k0] using h0, by simpa [o1, k1] using h1, by simpa [o2, k2] using h2⟩
theorem curves_of_trod {d : DataW H} {p : List MemPlace} {a : Option Addr} {len cap : Nat} (h : DataW.Trod enc Try.prog W 0 (fun _ => true) true 67 (.slice a len cap) d p) :
    ∃ xs : List CR, xs.length = len ∧ (len : Int) ≤ 9223372036854775807 ∧ (0 < len → ∃ g o, a = some ⟨g, o, none⟩ ∧ RowO W g o xs) ∧ ∀ x ∈ xs, x.n ≤ x.c ∧ (x.n : Int) ≤ 9223372036854775807 := by
  obtain ⟨fuel, hf⟩ := h
  rcases Go.Deep.open_slice Try.underlying67 hf with ⟨hcs, _⟩ | ⟨a', l, c, m, n, D, Pl, hcs, _, hl, hm, hmm, _, hx⟩
  · simp [Value.cells] at hcs
    obtain ⟨rfl, rfl, rfl⟩ := hcs
    exact ⟨[], rfl, by omega, fun h => absurd h (by omega), fun x hx => by cases hx⟩
  · simp [Value.cells] at hcs
    obtain ⟨rfl, rfl, rfl⟩ := hcs
    simp only [if_true] at hmm
    subst hmm
    have hC : Try.prog.cellsOf 41 = 3 := by kernel_rfl
    have each : ∀ i, i < len → ∃ x : CR, (x.n ≤ x.c ∧ (x.n : Int) ≤ 9223372036854775807) ∧ Ints W W.heap.size x.A x.n x.f.vals ∧ ∀ j, j < 3 → W.cell? ((a'.add (i * 3)).add j) = x.cells[j]? := by
      intro i hi
      obtain ⟨cs', hc, ht⟩ := hx i (by omega)
      rw [hC] at hc
      obtain ⟨_, hlen, hcell⟩ := World.cells?_some hc
      match cs', hlen with
      | [c0, c1, c2], _ =>
        obtain ⟨y0, y1, y2, n', t0, t1, t2⟩ := cells3_open Try.underlying41 (by kernel_rfl) ht
        obtain ⟨A, k, cp, zs, rfl, hI, h1, h2⟩ := ints_of_trod t0
        obtain ⟨i1, e1, _, _⟩ := DataW.trod_int Try.underlying3 t1
        obtain ⟨i2, e2, _, _⟩ := DataW.trod_int Try.underlying3 t2
        simp at e1 e2
        subst e1 e2
        exact ⟨⟨A, k, cp, ⟨zs, i1, i2⟩⟩, ⟨h1, h2⟩, hI, fun j hj => hcell j hj⟩
    obtain ⟨X, hX⟩ := Go.Deep.choose_lt each
    have hget : ∀ k x, ((List.range len).map X)[k]? = some x → k < len ∧ x = X k := by
      intro k x hk
      have hk2 : k < len := by
        rcases Nat.lt_or_ge k len with h | h
        · exact h
        · rw [List.getElem?_eq_none (by simpa using h)] at hk; cases hk
      simp [hk2] at hk
      exact ⟨hk2, hk.symm⟩
    refine ⟨(List.range len).map X, by simp, by unfold maxLen at hm; omega, fun hpos => ?_, fun x hx => ?_⟩
    · have h0 := (hX 0 hpos).2.2 0 (by omega)
      rw [Nat.zero_mul] at h0
      have hz : (a'.add 0).add 0 = a' := by simp [Addr.add]
      rw [hz] at h0
      obtain ⟨g, o, rfl⟩ := spot_none h0
      refine ⟨g, o, rfl, World.block_lt_of_cell? W _ h0, fun k j x hk hj => ?_, fun x hx => ?_⟩
      · obtain ⟨hk2, rfl⟩ := hget k x hk
        have h1 := (hX k hk2).2.2 j hj
        rw [add_none, add_none] at h1
        exact h1
      · simp only [List.mem_map, List.mem_range] at hx
        obtain ⟨k, hk, rfl⟩ := hx
        exact (hX k hk).2.1
    · simp only [List.mem_map, List.mem_range] at hx
      obtain ⟨k, hk, rfl⟩ := hx
      exact (hX k hk).1
end
end Go.Proofs.Ytmieikfmbnaoaaa
