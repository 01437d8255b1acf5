/- A bucket, a pace, a list of paces that came in: what the datum says of the cells. -/
import Derived.Test.YthdibkmjoiipgaaBk
import Derived.WalkKit
import Derived.ProofKit
import Derived.OpenShut
import Derived.ChangeOld
import Derived.Below
import Derived.Lib.SmallJoins
import Derived.Deep.Slices
import Derived.Deep.Strs
namespace Go.Proofs.Ythdibkmjoiipgaa
open Go.ChangeShapes Go.WideShapes Go.ChangeAt Go.RowKit Go.Joins Go.Deep
set_option linter.unusedVariables false

instance : Inhabited PN := ⟨⟨0, 0, 0, 0⟩⟩
theorem add_noneQ (b off j : Nat) : (Addr.add ⟨b, off, none⟩ j) = ⟨b, off + j, none⟩ := by
  unfold Addr.add
  split
  · rename_i h; subst h; rfl
  · rfl
theorem spot_noneQ {w : World} {x : Addr} {v : Value} (h : w.cell? x = some v) : ∃ b off, x = ⟨b, off, none⟩ := by
  obtain ⟨b, off, spot⟩ := x
  cases spot with
  | none => exact ⟨b, off, rfl⟩
  | some s => exfalso; unfold World.cell? at h; split at h <;> simp at h
section
variable {H : Type} {enc : TypeId × Value → H} {W : World} {base : Nat} {spare : Nat → Bool} {held : Bool}
theorem fr_open {n : Nat} {c0 c1 : Value} {x : DataW H × List MemPlace} (h : DataW.trod enc Try.prog W base spare held n 23 [c0, c1] = some x) : ∃ i j : Int, c0 = .int .i64 i ∧ c1 = .int .i64 j := by
  obtain ⟨y0, y1, m, _, _, h0, h1⟩ := trod_struct2 Try.underlying23 h
  have hi : Try.prog.cellsOf 3 = 1 := by kernel_rfl
  rw [hi] at h0 h1
  obtain ⟨i, e1, _, _⟩ := DataW.trod_int Try.underlying3 h0
  obtain ⟨j, e2, _, _⟩ := DataW.trod_int Try.underlying3 h1
  simp at e1 e2
  exact ⟨i, j, e1, e2⟩
theorem two_open {t : TypeId} {f0 f1 : Field} {n : Nat} {c0 c1 c2 c3 : Value} {x : DataW H × List MemPlace} (hs : Try.prog.underlying t = some (.struct #[f0, f1])) (h0 : f0.type = 23) (h1 : f0.offset = 0) (h2 : f1.type = 23) (h3 : f1.offset = 2)
    (h : DataW.trod enc Try.prog W base spare held n t [c0, c1, c2, c3] = some x) : ∃ i j k l : Int, c0 = .int .i64 i ∧ c1 = .int .i64 j ∧ c2 = .int .i64 k ∧ c3 = .int .i64 l := by
  obtain ⟨y0, y1, m, _, _, t0, t1⟩ := trod_struct2 hs h
  have hi : Try.prog.cellsOf 23 = 2 := by kernel_rfl
  rw [h0, h1, hi] at t0
  rw [h2, h3, hi] at t1
  obtain ⟨i, j, e1, e2⟩ := fr_open (by simpa using t0)
  obtain ⟨k, l, e3, e4⟩ := fr_open (by simpa using t1)
  exact ⟨i, j, k, l, e1, e2, e3, e4⟩
set_option maxRecDepth 100000 in
theorem bucket_open {r : Reach} {b0 : Nat} {v : Value} {d : DataW H} {p : List MemPlace} (hv : Value.okWide Try.prog W r b0 27 v) (h : DataW.Trod enc Try.prog W base spare held 27 v d p) :
    ∃ i j k l : Int, v = .agg #[.int .i64 i, .int .i64 j, .int .i64 k, .int .i64 l] := by
  obtain ⟨cs, rfl, hsz⟩ := okWide_struct Try.underlying27 hv
  have hc : Try.prog.cellsOf 27 = 4 := by kernel_rfl
  rw [hc] at hsz
  obtain ⟨l, rfl⟩ : ∃ l : List Value, cs = l.toArray := ⟨cs.toList, by simp⟩
  match l, hsz with
  | [c0, c1, c2, c3], _ =>
    obtain ⟨fuel, hf⟩ := h
    obtain ⟨i, j, k, l, rfl, rfl, rfl, rfl⟩ := two_open Try.underlying27 rfl rfl rfl rfl (by simpa [Value.cells] using hf)
    exact ⟨i, j, k, l, rfl⟩
set_option maxRecDepth 100000 in
theorem pace_open {r : Reach} {b0 : Nat} {v : Value} {d : DataW H} {p : List MemPlace} (hv : Value.okWide Try.prog W r b0 25 v) (h : DataW.Trod enc Try.prog W base spare held 25 v d p) :
    ∃ i j k l : Int, v = .agg #[.int .i64 i, .int .i64 j, .int .i64 k, .int .i64 l] := by
  obtain ⟨cs, rfl, hsz⟩ := okWide_struct Try.underlying25 hv
  have hc : Try.prog.cellsOf 25 = 4 := by kernel_rfl
  rw [hc] at hsz
  obtain ⟨l, rfl⟩ : ∃ l : List Value, cs = l.toArray := ⟨cs.toList, by simp⟩
  match l, hsz with
  | [c0, c1, c2, c3], _ =>
    obtain ⟨fuel, hf⟩ := h
    obtain ⟨i, j, k, l, rfl, rfl, rfl, rfl⟩ := two_open Try.underlying25 rfl rfl rfl rfl (by simpa [Value.cells] using hf)
    exact ⟨i, j, k, l, rfl⟩
theorem paces_of_trod {d : DataW H} {p : List MemPlace} {a : Option Addr} {len cap : Nat} (h : DataW.Trod enc Try.prog W 0 (fun _ => true) true 28 (.slice a len cap) d p) :
    ∃ xs : List PN, xs.length = len ∧ (len : Int) ≤ 9223372036854775807 ∧ len ≤ cap ∧ (0 < len → ∃ g o, a = some ⟨g, o, none⟩ ∧ RowQ W g o xs) := by
  obtain ⟨fuel, hf⟩ := h
  rcases Go.Deep.open_slice Try.underlying28 hf with ⟨hcs, _⟩ | ⟨a', l, c, m, n, D, Pl, hcs, _, hl, hm, hmm, _, hx⟩
  · simp [Value.cells] at hcs
    obtain ⟨rfl, rfl, rfl⟩ := hcs
    exact ⟨[], rfl, by omega, by omega, fun h => absurd h (by omega)⟩
  · simp [Value.cells] at hcs
    obtain ⟨rfl, rfl, rfl⟩ := hcs
    simp only [if_true] at hmm
    subst hmm
    have hC : Try.prog.cellsOf 25 = 4 := by kernel_rfl
    have each : ∀ i, i < len → ∃ x : PN, ∀ j, j < 4 → W.cell? ((a'.add (i * 4)).add j) = x.cells[j]? := by
      intro i hi
      obtain ⟨cs', hc, ht⟩ := hx i (by omega)
      rw [hC] at hc
      obtain ⟨_, hlen, hcell⟩ := World.cells?_some hc
      match cs', hlen with
      | [c0, c1, c2, c3], _ =>
        obtain ⟨R, r, L, l, rfl, rfl, rfl, rfl⟩ := two_open Try.underlying25 rfl rfl rfl rfl ht
        exact ⟨⟨R, r, L, l⟩, fun j hj => hcell j hj⟩
    obtain ⟨X, hX⟩ := Go.Deep.choose_lt each
    have hget : ∀ k x, ((List.range len).map X)[k]? = some x → k < len ∧ x = X k := by
      intro k x hk
      have hk2 : k < len := by
        rcases Nat.lt_or_ge k len with h | h
        · exact h
        · rw [List.getElem?_eq_none (by simpa using h)] at hk; cases hk
      simp [hk2] at hk
      exact ⟨hk2, hk.symm⟩
    refine ⟨(List.range len).map X, by simp, by unfold maxLen at hm; omega, by omega, fun hpos => ?_⟩
    have h0 := hX 0 hpos 0 (by omega)
    rw [Nat.zero_mul] at h0
    have hz : (a'.add 0).add 0 = a' := by simp [Addr.add]
    rw [hz] at h0
    obtain ⟨g, o, rfl⟩ := spot_noneQ h0
    refine ⟨g, o, rfl, World.block_lt_of_cell? W _ h0, fun k j x hk hj => ?_⟩
    obtain ⟨hk2, rfl⟩ := hget k x hk
    have h1 := hX k hk2 j hj
    rw [add_noneQ, add_noneQ] at h1
    exact h1
end
end Go.Proofs.Ythdibkmjoiipgaa
