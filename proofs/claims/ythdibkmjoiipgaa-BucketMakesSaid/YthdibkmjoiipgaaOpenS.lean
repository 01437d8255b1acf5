/- A list of buckets or a staircase that came in: what the datum says of the cells. -/
import Derived.Test.YthdibkmjoiipgaaOpenQ
import Derived.WalkKit
import Derived.ProofKit
import Derived.OpenShut
import Derived.ChangeOld
import Derived.Below
import Derived.Lib.SmallJoins
import Derived.Deep.Slices
import Derived.Deep.Strs
namespace Go.Proofs.Ythdibkmjoiipgaa
open Go.ChangeShapes Go.WideShapes Go.ChangeAt Go.RowKit Go.Joins Go.Deep
set_option linter.unusedVariables false

section
variable {H : Type} {enc : TypeId × Value → H} {W : World} {base : Nat} {spare : Nat → Bool} {held : Bool}
set_option maxRecDepth 100000 in
theorem stair_open {r : Reach} {b0 : Nat} {v : Value} {d : DataW H} {p : List MemPlace} (hv : Value.okWide Try.prog W r b0 44 v) (h : DataW.Trod enc Try.prog W base spare held 44 v d p) : ∃ S E A : Int, v = .agg #[.int .i64 S, .int .i64 E, .int .i64 A] := by
  obtain ⟨c0, c1, c2, y0, y1, y2, nn, rfl, _, _, t0, t1, t2⟩ := open_agg3 Try.underlying44 (by kernel_rfl) (by kernel_rfl) hv h
  obtain ⟨i0, e0, _, _⟩ := DataW.trod_int Try.underlying3 t0
  obtain ⟨i1, e1, _, _⟩ := DataW.trod_int Try.underlying3 t1
  obtain ⟨i2, e2, _, _⟩ := DataW.trod_int Try.underlying3 t2
  simp at e0 e1 e2
  subst e0 e1 e2
  exact ⟨i0, i1, i2, rfl⟩
theorem buckets_of_trod {d : DataW H} {p : List MemPlace} {a : Option Addr} {len cap : Nat} (h : DataW.Trod enc Try.prog W 0 (fun _ => true) true 39 (.slice a len cap) d p) :
    ∃ xs : List PN, xs.length = len ∧ (len : Int) ≤ 9223372036854775807 ∧ len ≤ cap ∧ (0 < len → ∃ g o, a = some ⟨g, o, none⟩ ∧ RowQ W g o xs) := by
  obtain ⟨fuel, hf⟩ := h
  rcases Go.Deep.open_slice Try.underlying39 hf with ⟨hcs, _⟩ | ⟨a', l, c, m, n, D, Pl, hcs, _, hl, hm, hmm, _, hx⟩
  · simp [Value.cells] at hcs
    obtain ⟨rfl, rfl, rfl⟩ := hcs
    exact ⟨[], rfl, by omega, by omega, fun h => absurd h (by omega)⟩
  · simp [Value.cells] at hcs
    obtain ⟨rfl, rfl, rfl⟩ := hcs
    simp only [if_true] at hmm
    subst hmm
    have hC : Try.prog.cellsOf 27 = 4 := by kernel_rfl
    have each : ∀ i, i < len → ∃ x : PN, ∀ j, j < 4 → W.cell? ((a'.add (i * 4)).add j) = x.cells[j]? := by
      intro i hi
      obtain ⟨cs', hc, ht⟩ := hx i (by omega)
      rw [hC] at hc
      obtain ⟨_, hlen, hcell⟩ := World.cells?_some hc
      match cs', hlen with
      | [c0, c1, c2, c3], _ =>
        obtain ⟨R, r, L, l, rfl, rfl, rfl, rfl⟩ := two_open Try.underlying27 rfl rfl rfl rfl ht
        exact ⟨⟨R, r, L, l⟩, fun j hj => hcell j hj⟩
    obtain ⟨X, hX⟩ := Go.Deep.choose_lt each
    have hget : ∀ k x, ((List.range len).map X)[k]? = some x → k < len ∧ x = X k := by
      intro k x hk
      have hk2 : k < len := by
        rcases Nat.lt_or_ge k len with h | h
        · exact h
        · rw [List.getElem?_eq_none (by simpa using h)] at hk; cases hk
      simp [hk2] at hk
      exact ⟨hk2, hk.symm⟩
    refine ⟨(List.range len).map X, by simp, by unfold maxLen at hm; omega, by omega, fun hpos => ?_⟩
    have h0 := hX 0 hpos 0 (by omega)
    rw [Nat.zero_mul] at h0
    have hz : (a'.add 0).add 0 = a' := by simp [Addr.add]
    rw [hz] at h0
    obtain ⟨g, o, rfl⟩ := spot_noneQ h0
    refine ⟨g, o, rfl, World.block_lt_of_cell? W _ h0, fun k j x hk hj => ?_⟩
    obtain ⟨hk2, rfl⟩ := hget k x hk
    have h1 := hX k hk2 j hj
    rw [add_noneQ, add_noneQ] at h1
    exact h1
end
end Go.Proofs.Ythdibkmjoiipgaa
