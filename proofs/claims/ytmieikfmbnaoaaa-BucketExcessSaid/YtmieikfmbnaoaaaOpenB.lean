/- Two fractions that came in as a struct (a bucket, a pace): what the datum says of the cells. -/
import Derived.Test.YtmieikfmbnaoaaaProg
import Derived.WalkKit
import Derived.ProofKit
import Derived.OpenShut
import Derived.ChangeOld
import Derived.Below
import Derived.Lib.SmallJoins
import Derived.Deep.Slices
import Derived.Deep.Strs
namespace Go.Proofs.Ytmieikfmbnaoaaa
open Go.ChangeShapes Go.WideShapes Go.ChangeAt Go.RowKit Go.Joins Go.Deep
set_option linter.unusedVariables false

section
variable {H : Type} {enc : TypeId × Value → H} {W : World} {base : Nat} {spare : Nat → Bool} {held : Bool}
theorem fr_open {n : Nat} {c0 c1 : Value} {x : DataW H × List MemPlace} (h : DataW.trod enc Try.prog W base spare held n 23 [c0, c1] = some x) : ∃ i j : Int, c0 = .int .i64 i ∧ c1 = .int .i64 j := by
  obtain ⟨y0, y1, m, _, _, h0, h1⟩ := trod_struct2 Try.underlying23 h
  have hi : Try.prog.cellsOf 3 = 1 := by kernel_rfl
  rw [hi] at h0 h1
  obtain ⟨i, e1, _, _⟩ := DataW.trod_int Try.underlying3 h0
  obtain ⟨j, e2, _, _⟩ := DataW.trod_int Try.underlying3 h1
  simp at e1 e2
  exact ⟨i, j, e1, e2⟩
theorem two_open {t : TypeId} {f0 f1 : Field} {n : Nat} {c0 c1 c2 c3 : Value} {x : DataW H × List MemPlace} (hs : Try.prog.underlying t = some (.struct #[f0, f1])) (h0 : f0.type = 23) (h1 : f0.offset = 0) (h2 : f1.type = 23) (h3 : f1.offset = 2)
    (h : DataW.trod enc Try.prog W base spare held n t [c0, c1, c2, c3] = some x) : ∃ i j k l : Int, c0 = .int .i64 i ∧ c1 = .int .i64 j ∧ c2 = .int .i64 k ∧ c3 = .int .i64 l := by
  obtain ⟨y0, y1, m, _, _, t0, t1⟩ := trod_struct2 hs h
  have hi : Try.prog.cellsOf 23 = 2 := by kernel_rfl
  rw [h0, h1, hi] at t0
  rw [h2, h3, hi] at t1
  obtain ⟨i, j, e1, e2⟩ := fr_open (by simpa using t0)
  obtain ⟨k, l, e3, e4⟩ := fr_open (by simpa using t1)
  exact ⟨i, j, k, l, e1, e2, e3, e4⟩
set_option maxRecDepth 100000 in
theorem bucket_open {r : Reach} {b0 : Nat} {v : Value} {d : DataW H} {p : List MemPlace} (hv : Value.okWide Try.prog W r b0 25 v) (h : DataW.Trod enc Try.prog W base spare held 25 v d p) :
    ∃ i j k l : Int, v = .agg #[.int .i64 i, .int .i64 j, .int .i64 k, .int .i64 l] := by
  obtain ⟨cs, rfl, hsz⟩ := okWide_struct Try.underlying25 hv
  have hc : Try.prog.cellsOf 25 = 4 := by kernel_rfl
  rw [hc] at hsz
  obtain ⟨l, rfl⟩ : ∃ l : List Value, cs = l.toArray := ⟨cs.toList, by simp⟩
  match l, hsz with
  | [c0, c1, c2, c3], _ =>
    obtain ⟨fuel, hf⟩ := h
    obtain ⟨i, j, k, l, rfl, rfl, rfl, rfl⟩ := two_open Try.underlying25 rfl rfl rfl rfl (by simpa [Value.cells] using hf)
    exact ⟨i, j, k, l, rfl⟩
end
end Go.Proofs.Ytmieikfmbnaoaaa
