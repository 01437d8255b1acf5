/- Check accepts exactly the certificates that the chapter describes, and whatever it accepts has the closure as its Result. No condition. -/
import Derived.Test.YthdibkmjoiipgaaRows
import Derived.WalkKit
import Derived.ProofKit
import Derived.OpenShut
import Derived.ShutString
import Derived.ChangeOld
import Derived.Below
import Derived.Lib.SmallJoins
import Derived.Test.YthdibkmjoiipgaaOpenP
import Derived.Test.YthdibkmjoiipgaaClCs
namespace Go.Proofs.Ythdibkmjoiipgaa.closureChecks
open Go.ChangeShapes Go.WideShapes Go.ChangeAt Go.RowKit Go.Joins
open Go.ChangeMaps (open_string shut_string)
set_option linter.unusedVariables false

theorem own : ownKnob Try.prog.godebug = none := by kernel_rfl
theorem laidOut : laidOutB Try.prog = true := by kernel_rfl

/-- a slice of integers that came in -/
def IsRow (k : IntKind) (w : World) (a : Option Addr) (len cap : Nat) (zs : List Int) : Prop :=
  (a = none ∧ len = 0 ∧ cap = 0 ∧ zs = []) ∨
  ∃ x, a = some x ∧ len ≤ cap ∧ cap ≤ maxLen ∧ zs.length = cap ∧ (∀ i, i < zs.length → w.cell? (x.add i) = some (.int k (zs.getD i 0))) ∧ ∀ n ∈ zs, (Lit.int k n).wf = true

theorem ints_of_row {w : World} {a : Option Addr} {len cap : Nat} {zs : List Int} (h : IsRow .i64 w a len cap zs) : Ints w w.heap.size a len (zs.take len) ∧ len ≤ cap ∧ (len : Int) ≤ 9223372036854775807 := by
  rcases h with ⟨rfl, rfl, rfl, rfl⟩ | ⟨x, rfl, h1, h2, h3, h4, _⟩
  · exact ⟨Ints.none_, Nat.le_refl _, by omega⟩
  · refine ⟨⟨by simp; omega, fun hn => ?_⟩, h1, by unfold maxLen at h2; omega⟩
    have h0 := h4 0 (by omega)
    have hx : x.add 0 = x := by simp [Addr.add]
    rw [hx] at h0
    obtain ⟨b, off, spot⟩ := x
    have hs : spot = none := by
      cases spot with
      | none => rfl
      | some s => exfalso; unfold World.cell? at h0; split at h0 <;> simp at h0
    subst hs
    refine ⟨b, off, rfl, World.block_lt_of_cell? w _ h0, fun j hj => ?_⟩
    have hj' := h4 j (by omega)
    rw [nth_take _ _ _ hj]
    have hadd : (Addr.add ⟨b, off, none⟩ j) = ⟨b, off + j, none⟩ := by
      unfold Addr.add
      split
      · rename_i h; subst h; rfl
      · rfl
    rw [hadd] at hj'
    exact hj'

theorem walk (a0 : Option Addr) (len0 cap0 : Nat) (p0 i0 : Int) (z0 : List Int) (f0 : Int) (b0 : Option Addr) (lem0 dap0 : Nat) (y0 : List Int) (a1 : Option Addr) (len1 cap1 : Nat) (p1 i1 : Int) (z1 : List Int) (a2 : Option Addr) (len2 cap2 : Nat) (z2 : List Int) (w : World) (w0 : Ints w w.heap.size a0 len0 z0 ∧ len0 ≤ cap0 ∧ (len0 : Int) ≤ 9223372036854775807 ∧ Ints w w.heap.size b0 lem0 y0 ∧ lem0 ≤ dap0 ∧ (lem0 : Int) ≤ 9223372036854775807) (w1 : IsRow .i64 w a1 len1 cap1 z1) (w2 : IsRow .i64 w a2 len2 cap2 z2) :
    Calls Try.prog 6 #[.agg #[.slice a0 len0 cap0, .int .i64 p0, .int .i64 i0, .int .i64 f0, .slice b0 lem0 dap0], .agg #[.slice a1 len1 cap1, .int .i64 p1, .int .i64 i1], .slice a2 len2 cap2] w fun e w' => e = .returned (.bool true) ∧ Below w.heap.size w w' := by
  obtain ⟨h0a, h0b, h0c, h0d, h0e, h0f⟩ := w0
  obtain ⟨h1a, h1b, h1c⟩ := ints_of_row w1
  obtain ⟨h2a, h2b, h2c⟩ := ints_of_row w2
  exact clCs_any a0 len0 cap0 p0 i0 _ f0 b0 lem0 dap0 _ a1 len1 cap1 p1 i1 _ a2 len2 cap2 _ w h0a h0b h0c h0d h0e h0f h1a h1b h1c h2a h2b h2c

set_option maxRecDepth 100000 in
theorem lifted (os : Os) (started : os.Started) (H : Type) (enc : TypeId × Value → H) :
    ReturnsInHanded {} Try.checked os 6 .any (Rows.closureChecksSpec.pre6 enc Try.prog Try.f6 Rows.closureChecksRow.domain false) (Rows.closureChecksSpec.post enc Try.prog Try.f6 false true false false) := by
  refine returnsInHanded_of_change (C := Try.checked) own started (by kernel_rfl) Try.func6
    (ChangeSpec.witness6 (enc := enc) (C := Try.checked) false ⟨#[], #[.agg #[.slice none 0 0, .int .i64 0, .int .i64 0, .int .i64 0, .slice none 0 0], .agg #[.slice none 0 0, .int .i64 0, .int .i64 0], .slice none 0 0], []⟩ 8 (by kernel_rfl) (by kernel_rfl) (by kernel_rfl) (by kernel_rfl)) ?_
  intro W base args ds gs before hval0 hW hcnd _
  have hval : ∀ (j : Nat) t v, Try.f6.params[j]? = some t → args[j]? = some v → Value.okWide Try.prog W .any base t v := hval0
  have hW' := hW
  obtain ⟨p, q, hA0, hV, rfl, hfz, hnd⟩ := hW
  have hA : DataW.TrodAll enc Try.prog W 0 (fun _ => true) true Try.f6.params.toList args.toList ds p := hA0
  rw [Try.params6] at hA hval
  obtain ⟨v0, vs0, d0, ds0, p0, q0, hargs, rfl, rfl, h0, r0⟩ := trodAll_cons hA
  obtain ⟨v1, vs1, d1, ds1, p1, q1, rfl, rfl, rfl, h1, r1⟩ := trodAll_cons r0
  obtain ⟨v2, vs2, d2, ds2, p2, q2, rfl, rfl, rfl, h2, r2⟩ := trodAll_cons r1
  obtain ⟨rfl, rfl, rfl⟩ := trodAll_nil r2
  obtain rfl : args = #[v0, v1, v2] := by cases args; simp_all
  obtain ⟨rfl, rfl⟩ := trodVars_none hV
  have k0 := h0
  have lt0 : ∀ x ∈ p0, x.block < W.heap.size := by obtain ⟨m, hm⟩ := k0; exact DataW.trod_lt m _ _ _ hm
  obtain ⟨a0, len0, cap0, pp0, ii0, z0, ff0, b0, lem0, dap0, y0, rfl, w0⟩ := parts_open (hval 0 63 v0 rfl rfl) h0
  have k1 := h1
  have lt1 : ∀ x ∈ p1, x.block < W.heap.size := by obtain ⟨m, hm⟩ := k1; exact DataW.trod_lt m _ _ _ hm
  obtain ⟨a1, len1, cap1, pp1, ii1, z1, w1, rfl⟩ : ∃ (a : Option Addr) (len cap : Nat) (p i : Int) (zs : List Int), IsRow .i64 W a len cap zs ∧ v1 = .agg #[.slice a len cap, .int .i64 p, .int .i64 i] := by
    obtain ⟨c0, c1, c2, y0, y1, y2, nn, rfl, _, _, t0, t1, t2⟩ := open_agg3 Try.underlying46 (by kernel_rfl) (by kernel_rfl) (hval 1 46 v1 rfl rfl) h1
    obtain ⟨i1, e1, _, _⟩ := DataW.trod_int Try.underlying3 t1
    obtain ⟨i2, e2, _, _⟩ := DataW.trod_int Try.underlying3 t2
    simp at e1 e2
    subst e1 e2
    rcases open_ints Try.underlying29 Try.underlying3 (by kernel_rfl) t0 with ⟨hcs, _⟩ | ⟨x, l, c, zs, hcs, _, hl, hm, hz, _, hcell, hwz⟩
    · simp at hcs
      subst hcs
      exact ⟨none, 0, 0, i1, i2, [], .inl ⟨rfl, rfl, rfl, rfl⟩, rfl⟩
    · simp at hcs
      subst hcs
      exact ⟨some x, l, c, i1, i2, zs, .inr ⟨_, rfl, hl, hm, by simpa using hz, hcell, hwz⟩, rfl⟩
  obtain ⟨a2, len2, cap2, rfl⟩ := okWide_slice Try.underlying29 (hval 2 29 v2 rfl rfl)
  have k2 := h2
  have lt2 : ∀ x ∈ p2, x.block < W.heap.size := by obtain ⟨m, hm⟩ := k2; exact DataW.trod_lt m _ _ _ hm
  obtain ⟨z2, w2⟩ : ∃ zs, IsRow .i64 W a2 len2 cap2 zs := by
    obtain ⟨fuel, hf⟩ := h2
    rcases open_ints Try.underlying29 Try.underlying3 (by kernel_rfl) hf with ⟨hcs, _⟩ | ⟨x, l, c, zs, hcs, _, hl, hm, hz, _, hcell, hwz⟩
    · simp [Value.cells] at hcs
      obtain ⟨rfl, rfl, rfl⟩ := hcs
      exact ⟨[], .inl ⟨rfl, rfl, rfl, rfl⟩⟩
    · simp [Value.cells] at hcs
      obtain ⟨rfl, rfl, rfl⟩ := hcs
      exact ⟨zs, .inr ⟨_, rfl, hl, hm, by simpa using hz, hcell, hwz⟩⟩
  clear hA0 hval0
  refine (walk a0 len0 cap0 pp0 ii0 z0 ff0 b0 lem0 dap0 y0 a1 len1 cap1 pp1 ii1 z1 a2 len2 cap2 z2 W w0 w1 w2).mono fun e W' ⟨he, bel⟩ => ?_
  subst he
  exact ⟨_, rfl, _, _, _, [], _, [], hW', trodAll_mk1 (shut_bool Try.underlying4 _), (trodAll_cons_mk (Below.trod laidOut (by kernel_rfl) (of_decide_eq_true (by kernel_rfl)) k0 bel lt0) (trodAll_cons_mk (Below.trod laidOut (by kernel_rfl) (of_decide_eq_true (by kernel_rfl)) k1 bel lt1) (trodAll_cons_mk (Below.trod laidOut (by kernel_rfl) (of_decide_eq_true (by kernel_rfl)) k2 bel lt2) trodAll_mk0))), rfl, bel.frame _, fun h => by cases h⟩

theorem jA : (Rows.closureChecksRow.inPlace == Try.pinned.checked.prog.inPlace 6) = true := by kernel_rfl
theorem jB : (Rows.closureChecksRow.unfollowed == Try.pinned.checked.prog.unfollowed 6) = true := by kernel_rfl
theorem jC : (Rows.closureChecksRow.recurses == Try.pinned.checked.prog.recurses 6) = true := by kernel_rfl
theorem jD : (Rows.closureChecksRow.named == Try.pinned.checked.prog.varsNamed 6) = true := by kernel_rfl
theorem joined : joinedFacts Try.pinned.checked.prog 6 Try.f6 Rows.closureChecksSpec Rows.closureChecksRow = true := by
  unfold joinedFacts
  rw [jA, jB, jC, jD]
  kernel_rfl

theorem over : Rows.closureChecksRow.holds Try.pinned (OpenSpec.ofChange Rows.closureChecksSpec) :=
  OpenClaim.holds_of_wide 6 Try.f6 rfl rfl rfl rfl rfl rfl rfl ⟨rfl, rfl, rfl, rfl, rfl⟩ rfl rfl rfl rfl rfl (by kernel_rfl) Try.func6 joined
    (of_decide_eq_true (by kernel_rfl)) (by unfold Func.isWrapper; first | (rw [if_pos (by decide +kernel)]; kernel_rfl) | (rw [if_neg (by decide +kernel)]; exact ⟨rfl, rfl⟩))
    (fun os started H enc _ => lifted os started H enc)

theorem proved : Rows.ClosureChecksSaid := over
end Go.Proofs.Ythdibkmjoiipgaa.closureChecks
