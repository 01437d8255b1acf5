/- Lists of curves that grow by append. -/
import Derived.Test.YtmieikfmbnaoaaaPwTot
import Derived.Maps.AppendAt
namespace Go.Proofs.Ytmieikfmbnaoaaa
open Go.RowKit
set_option linter.unusedVariables false

theorem info_curve : (Try.prog.info? 41).map (fun i => (i.zero, i.size, i.bytes)) = some (some (.agg #[.slice none 0 0, .int .i64 0, .int .i64 0]), 3, 40) := by kernel_rfl
/-- the slice value v, of the call's own from block base on, holds the curves xs -/
def COwn (w : World) (base : Nat) (v : Value) (n : Nat) (xs : List CR) : Prop := w.ownsRow base 41 3 v n (xs.flatMap CR.cells)
section
variable {w w' : World} {base n : Nat} {v : Value} {xs : List CR}
theorem COwn.nil_ (w : World) (base : Nat) : COwn w base (.slice none 0 0) 0 [] := ⟨by simp, .inl ⟨rfl, rfl⟩⟩
theorem COwn.alloc (h : COwn w base v n xs) (o : Obj) : COwn (w.alloc o) base v n xs := World.ownsRow.alloc h o
theorem flat_len (xs : List CR) : (xs.flatMap CR.cells).length = xs.length * 3 := by
  induction xs with
  | nil => rfl
  | cons x xs ih =>
    rw [List.flatMap_cons, List.length_append, ih, List.length_cons]
    have : x.cells.length = 3 := rfl
    omega
theorem COwn.len (h : COwn w base v n xs) : xs.length = n := by
  have h1 : (xs.flatMap CR.cells).length = n * 3 := h.1
  rw [flat_len] at h1; omega
theorem COwn.row (h : COwn w base v n xs) (hn : 0 < n) (hx : ∀ x ∈ xs, Ints w w.heap.size x.A x.n x.f.vals) : ∃ g c, v = .slice (some ⟨g, 0, none⟩) n c ∧ base ≤ g ∧ RowC w g xs := by
  have hl := h.len
  obtain ⟨h1, h2⟩ := h
  rcases h2 with ⟨_, h2⟩ | ⟨g, cap, cur, rfl, hb, hh, hnc, hcm, hcs, hcur⟩
  · omega
  · refine ⟨g, cap, rfl, hb, ⟨?_, fun k j x hk hj => ?_, hx⟩⟩
    · rcases Nat.lt_or_ge g w.heap.size with hlt | hge
      · exact hlt
      · rw [Array.getElem?_eq_none hge] at hh; cases hh
    · have hkn : k < n := by
        rcases Nat.lt_or_ge k xs.length with h' | h'
        · omega
        · rw [List.getElem?_eq_none h'] at hk; cases hk
      have h3 := flat_get xs k j x hk hj
      rw [← hcur, List.getElem?_take, if_pos (by omega)] at h3
      simp only [World.cell?, hh, Option.isSome_none, Bool.false_eq_true, if_false]
      rw [← h3, Array.getElem?_toList]
theorem COwn.below {B : Nat} (h : COwn w base v n xs) (hb : Below B w w') (hv : ∀ g, v.ownBlock = some g → g < B) : COwn w' base v n xs := by
  obtain ⟨h1, h2⟩ := h
  refine ⟨h1, ?_⟩
  rcases h2 with h2 | ⟨g, cap, cur, rfl, hg, hh, r⟩
  · exact .inl h2
  · exact .inr ⟨g, cap, cur, rfl, hg, by rw [hb.block g (hv g rfl)]; exact hh, r⟩
theorem COwn.blk (h : COwn w base v n xs) (g : Nat) (hg : v.ownBlock = some g) : base ≤ g ∧ g < w.heap.size := by
  rcases h.2 with ⟨rfl, _⟩ | ⟨g', cap, cur, rfl, hb, hh, _⟩
  · cases hg
  · have : g' = g := by simpa [Value.ownBlock] using hg
    subst this
    refine ⟨hb, ?_⟩
    rcases Nat.lt_or_ge g' w.heap.size with hlt | hge
    · exact hlt
    · rw [Array.getElem?_eq_none hge] at hh; cases hh
def appSemC (args : Array Value) : Sem Value := Builtin.append_ #[67, 67] 67 args
theorem app_foldC (args : Array Value) : Builtin.append_ #[67, 67] 67 args = appSemC args := rfl
theorem run_appSemC (h : COwn w base v n xs) (x : CR) (hbase : base ≤ w.heap.size) (hn : n ≤ 10000) :
    ∃ v' w', Sem.run Try.prog (appSemC #[v, .slice (some ⟨w.heap.size, 0, none⟩) 1 1]) (w.alloc (.cells #[.slice x.A x.n x.c, .int .i64 x.f.per, .int .i64 x.f.inc] 41)) = .ok v' w' ∧ COwn w' base v' (n + 1) (xs ++ [x]) ∧ Below base w w' := by
  obtain ⟨i0, hi0, hz0, hz1, hz2⟩ := info_parts info_curve
  obtain ⟨v', w', hrun, h2, h3, _, _⟩ := run_append_own_at (P := Try.prog) (w := w.alloc (.cells #[.slice x.A x.n x.c, .int .i64 x.f.per, .int .i64 x.f.inc] 41)) base 67 67 41 i0 (.agg #[.slice none 0 0, .int .i64 0, .int .i64 0]) 3 40 Try.underlying67 hi0 hz0 hz1 hz2 rfl (by omega) v n _ (h.alloc _) ⟨w.heap.size, 0, none⟩ 1 1 x.cells rfl (by
    intro j u hu
    have hj : j < 3 := by
      rcases Nat.lt_or_ge j 3 with h' | h'
      · exact h'
      · rw [List.getElem?_eq_none (by exact h')] at hu; cases hu
    have hb := (Blk.new w 41 #[.slice x.A x.n x.c, .int .i64 x.f.per, .int .i64 x.f.inc]).cell j
    have e : (Addr.add ⟨w.heap.size, 0, none⟩ j) = ⟨w.heap.size, j, none⟩ := by
      unfold Addr.add
      split
      · rename_i h0; subst h0; rfl
      · simp
    rw [e, hb, ← hu]
    have : j = 0 ∨ j = 1 ∨ j = 2 := by omega
    rcases this with rfl | rfl | rfl <;> rfl) (by
    intro u hu
    simp only [CR.cells, List.mem_cons, List.not_mem_nil, or_false] at hu
    rcases hu with rfl | rfl | rfl <;> rfl) (by unfold maxLen; omega) (by omega) (by simp; omega)
  refine ⟨v', w', hrun, ?_, ?_⟩
  · unfold COwn
    rw [List.flatMap_append, List.flatMap_cons, List.flatMap_nil, List.append_nil]
    exact h2
  · exact ((balloc w _).mono hbase).trans (Below.grown (Below.refl _ _) h3 (by simp; omega) (fun g hg => (h.blk g hg).1))
end
end Go.Proofs.Ytmieikfmbnaoaaa
