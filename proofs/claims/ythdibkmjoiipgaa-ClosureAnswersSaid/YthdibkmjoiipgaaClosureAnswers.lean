/- Of, Prove and Subadditive return the documented curves and certificates, or the documented errors, for any curves. No condition. -/
import Derived.Test.YthdibkmjoiipgaaRows
import Derived.WalkKit
import Derived.ProofKit
import Derived.OpenShut
import Derived.ShutString
import Derived.ChangeOld
import Derived.Below
import Derived.Lib.SmallJoins
import Derived.Test.YthdibkmjoiipgaaClAs
namespace Go.Proofs.Ythdibkmjoiipgaa.closureAnswers
open Go.ChangeShapes Go.WideShapes Go.ChangeAt Go.RowKit Go.Joins
open Go.ChangeMaps (open_string shut_string)
set_option linter.unusedVariables false

theorem own : ownKnob Try.prog.godebug = none := by kernel_rfl
theorem laidOut : laidOutB Try.prog = true := by kernel_rfl

/-- a slice of integers that came in -/
def IsRow (k : IntKind) (w : World) (a : Option Addr) (len cap : Nat) (zs : List Int) : Prop :=
  (a = none ∧ len = 0 ∧ cap = 0 ∧ zs = []) ∨
  ∃ x, a = some x ∧ len ≤ cap ∧ cap ≤ maxLen ∧ zs.length = cap ∧ (∀ i, i < zs.length → w.cell? (x.add i) = some (.int k (zs.getD i 0))) ∧ ∀ n ∈ zs, (Lit.int k n).wf = true

theorem ints_of_row {w : World} {a : Option Addr} {len cap : Nat} {zs : List Int} (h : IsRow .i64 w a len cap zs) : Ints w w.heap.size a len (zs.take len) ∧ len ≤ cap ∧ (len : Int) ≤ 9223372036854775807 := by
  rcases h with ⟨rfl, rfl, rfl, rfl⟩ | ⟨x, rfl, h1, h2, h3, h4, _⟩
  · exact ⟨Ints.none_, Nat.le_refl _, by omega⟩
  · refine ⟨⟨by simp; omega, fun hn => ?_⟩, h1, by unfold maxLen at h2; omega⟩
    have h0 := h4 0 (by omega)
    have hx : x.add 0 = x := by simp [Addr.add]
    rw [hx] at h0
    obtain ⟨b, off, spot⟩ := x
    have hs : spot = none := by
      cases spot with
      | none => rfl
      | some s => exfalso; unfold World.cell? at h0; split at h0 <;> simp at h0
    subst hs
    refine ⟨b, off, rfl, World.block_lt_of_cell? w _ h0, fun j hj => ?_⟩
    have hj' := h4 j (by omega)
    rw [nth_take _ _ _ hj]
    have hadd : (Addr.add ⟨b, off, none⟩ j) = ⟨b, off + j, none⟩ := by
      unfold Addr.add
      split
      · rename_i h; subst h; rfl
      · rfl
    rw [hadd] at hj'
    exact hj'

theorem walk (a0 : Option Addr) (len0 cap0 : Nat) (p0 i0 : Int) (z0 : List Int) (a1 : Option Addr) (len1 cap1 : Nat) (z1 : List Int) (w : World) (w0 : IsRow .i64 w a0 len0 cap0 z0) (w1 : IsRow .i64 w a1 len1 cap1 z1) :
    Calls Try.prog 5 #[.agg #[.slice a0 len0 cap0, .int .i64 p0, .int .i64 i0], .slice a1 len1 cap1] w fun e w' => e = .returned (.bool true) ∧ Below w.heap.size w w' := by
  obtain ⟨h0a, h0b, h0c⟩ := ints_of_row w0
  obtain ⟨h1a, h1b, h1c⟩ := ints_of_row w1
  exact clAs_any a0 len0 cap0 p0 i0 _ a1 len1 cap1 _ w h0a h0b h0c h1a h1b h1c

set_option maxRecDepth 100000 in
theorem lifted (os : Os) (started : os.Started) (H : Type) (enc : TypeId × Value → H) :
    ReturnsInHanded {} Try.checked os 5 .any (Rows.closureAnswersSpec.pre6 enc Try.prog Try.f5 Rows.closureAnswersRow.domain false) (Rows.closureAnswersSpec.post enc Try.prog Try.f5 false true false false) := by
  refine returnsInHanded_of_change (C := Try.checked) own started (by kernel_rfl) Try.func5
    (ChangeSpec.witness6 (enc := enc) (C := Try.checked) false ⟨#[], #[.agg #[.slice none 0 0, .int .i64 0, .int .i64 0], .slice none 0 0], []⟩ 8 (by kernel_rfl) (by kernel_rfl) (by kernel_rfl) (by kernel_rfl)) ?_
  intro W base args ds gs before hval0 hW hcnd _
  have hval : ∀ (j : Nat) t v, Try.f5.params[j]? = some t → args[j]? = some v → Value.okWide Try.prog W .any base t v := hval0
  have hW' := hW
  obtain ⟨p, q, hA0, hV, rfl, hfz, hnd⟩ := hW
  have hA : DataW.TrodAll enc Try.prog W 0 (fun _ => true) true Try.f5.params.toList args.toList ds p := hA0
  rw [Try.params5] at hA hval
  obtain ⟨v0, vs0, d0, ds0, p0, q0, hargs, rfl, rfl, h0, r0⟩ := trodAll_cons hA
  obtain ⟨v1, vs1, d1, ds1, p1, q1, rfl, rfl, rfl, h1, r1⟩ := trodAll_cons r0
  obtain ⟨rfl, rfl, rfl⟩ := trodAll_nil r1
  obtain rfl : args = #[v0, v1] := by cases args; simp_all
  obtain ⟨rfl, rfl⟩ := trodVars_none hV
  have k0 := h0
  have lt0 : ∀ x ∈ p0, x.block < W.heap.size := by obtain ⟨m, hm⟩ := k0; exact DataW.trod_lt m _ _ _ hm
  obtain ⟨a0, len0, cap0, pp0, ii0, z0, w0, rfl⟩ : ∃ (a : Option Addr) (len cap : Nat) (p i : Int) (zs : List Int), IsRow .i64 W a len cap zs ∧ v0 = .agg #[.slice a len cap, .int .i64 p, .int .i64 i] := by
    obtain ⟨c0, c1, c2, y0, y1, y2, nn, rfl, _, _, t0, t1, t2⟩ := open_agg3 Try.underlying46 (by kernel_rfl) (by kernel_rfl) (hval 0 46 v0 rfl rfl) h0
    obtain ⟨i1, e1, _, _⟩ := DataW.trod_int Try.underlying3 t1
    obtain ⟨i2, e2, _, _⟩ := DataW.trod_int Try.underlying3 t2
    simp at e1 e2
    subst e1 e2
    rcases open_ints Try.underlying29 Try.underlying3 (by kernel_rfl) t0 with ⟨hcs, _⟩ | ⟨x, l, c, zs, hcs, _, hl, hm, hz, _, hcell, hwz⟩
    · simp at hcs
      subst hcs
      exact ⟨none, 0, 0, i1, i2, [], .inl ⟨rfl, rfl, rfl, rfl⟩, rfl⟩
    · simp at hcs
      subst hcs
      exact ⟨some x, l, c, i1, i2, zs, .inr ⟨_, rfl, hl, hm, by simpa using hz, hcell, hwz⟩, rfl⟩
  obtain ⟨a1, len1, cap1, rfl⟩ := okWide_slice Try.underlying29 (hval 1 29 v1 rfl rfl)
  have k1 := h1
  have lt1 : ∀ x ∈ p1, x.block < W.heap.size := by obtain ⟨m, hm⟩ := k1; exact DataW.trod_lt m _ _ _ hm
  obtain ⟨z1, w1⟩ : ∃ zs, IsRow .i64 W a1 len1 cap1 zs := by
    obtain ⟨fuel, hf⟩ := h1
    rcases open_ints Try.underlying29 Try.underlying3 (by kernel_rfl) hf with ⟨hcs, _⟩ | ⟨x, l, c, zs, hcs, _, hl, hm, hz, _, hcell, hwz⟩
    · simp [Value.cells] at hcs
      obtain ⟨rfl, rfl, rfl⟩ := hcs
      exact ⟨[], .inl ⟨rfl, rfl, rfl, rfl⟩⟩
    · simp [Value.cells] at hcs
      obtain ⟨rfl, rfl, rfl⟩ := hcs
      exact ⟨zs, .inr ⟨_, rfl, hl, hm, by simpa using hz, hcell, hwz⟩⟩
  clear hA0 hval0
  refine (walk a0 len0 cap0 pp0 ii0 z0 a1 len1 cap1 z1 W w0 w1).mono fun e W' ⟨he, bel⟩ => ?_
  subst he
  exact ⟨_, rfl, _, _, _, [], _, [], hW', trodAll_mk1 (shut_bool Try.underlying4 _), (trodAll_cons_mk (Below.trod laidOut (by kernel_rfl) (of_decide_eq_true (by kernel_rfl)) k0 bel lt0) (trodAll_cons_mk (Below.trod laidOut (by kernel_rfl) (of_decide_eq_true (by kernel_rfl)) k1 bel lt1) trodAll_mk0)), rfl, bel.frame _, fun h => by cases h⟩

theorem jA : (Rows.closureAnswersRow.inPlace == Try.pinned.checked.prog.inPlace 5) = true := by kernel_rfl
theorem jB : (Rows.closureAnswersRow.unfollowed == Try.pinned.checked.prog.unfollowed 5) = true := by kernel_rfl
theorem jC : (Rows.closureAnswersRow.recurses == Try.pinned.checked.prog.recurses 5) = true := by kernel_rfl
theorem jD : (Rows.closureAnswersRow.named == Try.pinned.checked.prog.varsNamed 5) = true := by kernel_rfl
theorem joined : joinedFacts Try.pinned.checked.prog 5 Try.f5 Rows.closureAnswersSpec Rows.closureAnswersRow = true := by
  unfold joinedFacts
  rw [jA, jB, jC, jD]
  kernel_rfl

theorem over : Rows.closureAnswersRow.holds Try.pinned (OpenSpec.ofChange Rows.closureAnswersSpec) :=
  OpenClaim.holds_of_wide 5 Try.f5 rfl rfl rfl rfl rfl rfl rfl ⟨rfl, rfl, rfl, rfl, rfl⟩ rfl rfl rfl rfl rfl (by kernel_rfl) Try.func5 joined
    (of_decide_eq_true (by kernel_rfl)) (by unfold Func.isWrapper; first | (rw [if_pos (by decide +kernel)]; kernel_rfl) | (rw [if_neg (by decide +kernel)]; exact ⟨rfl, rfl⟩))
    (fun os started H enc _ => lifted os started H enc)

theorem proved : Rows.ClosureAnswersSaid := over
end Go.Proofs.Ythdibkmjoiipgaa.closureAnswers
