/- A list of numbers in the first cells of a block. -/
import Derived.Test.YthdibkmjoiipgaaSrc
namespace Go.Proofs.Ythdibkmjoiipgaa
open Go.RowKit
set_option linter.unusedVariables false

/-- the first cells of block g are the numbers zs -/
def RowI (w : World) (g : Nat) (zs : List Int) : Prop := ∃ cur : Array Value, Blk w g 3 cur ∧ ∀ j, j < zs.length → cur[j]? = some (.int .i64 (nth zs j))
section
variable {w w' : World} {g : Nat} {zs : List Int}
theorem RowI.lt (h : RowI w g zs) : g < w.heap.size := by obtain ⟨cur, h1, _⟩ := h; exact h1.lt
theorem RowI.cell (h : RowI w g zs) (j : Nat) (hj : j < zs.length) : w.cell? ⟨g, j, none⟩ = some (.int .i64 (nth zs j)) := by
  obtain ⟨cur, h1, h2⟩ := h
  rw [h1.cell j]; exact h2 j hj
theorem RowI.frozen (h : RowI w g zs) (j : Nat) : w.frozen? ⟨g, j, none⟩ = false := by obtain ⟨cur, h1, _⟩ := h; exact h1.frozen j
theorem RowI.set_ (h : RowI w g zs) (k : Nat) (hk : k < zs.length) (x : Int) : RowI (w.setCell ⟨g, k, none⟩ (.int .i64 x)) g (zs.set k x) := by
  obtain ⟨cur, h1, h2⟩ := h
  have hkc : k < cur.size := by
    have := h2 k hk
    rcases Nat.lt_or_ge k cur.size with e | e
    · exact e
    · rw [Array.getElem?_eq_none e] at this; cases this
  refine ⟨_, h1.set_ k _, fun j hj => ?_⟩
  rw [nth_set _ _ _ _ hk, Array.getElem?_setIfInBounds]
  by_cases e : j = k
  · subst e; simp [hkc]
  · rw [if_neg (by omega), if_neg e]
    exact h2 j (by simpa using hj)
theorem RowI.ints (h : RowI w g zs) : Ints w w.heap.size (some ⟨g, 0, none⟩) zs.length zs :=
  ⟨rfl, fun _ => ⟨g, 0, rfl, h.lt, fun j hj => by rw [Nat.zero_add]; exact h.cell j hj⟩⟩
theorem RowI.below {B : Nat} (h : RowI w g zs) (hb : Below B w w') (hg : g < B) : RowI w' g zs := by obtain ⟨cur, h1, h2⟩ := h; exact ⟨cur, h1.below hb hg, h2⟩
theorem RowI.far (h : RowI w g zs) {p : Addr} (hp : g ≠ p.block) (u : Value) : RowI (w.setCell p u) g zs := by obtain ⟨cur, h1, h2⟩ := h; exact ⟨cur, h1.far hp u, h2⟩
end
theorem Own.row {w : World} {base n : Nat} {v : Value} {xs : List Int} (h : Own w base v n xs) (hn : 0 < n) : ∃ g c, v = .slice (some ⟨g, 0, none⟩) n c ∧ base ≤ g ∧ n ≤ c ∧ RowI w g xs := by
  have hl := h.len
  rcases h.2 with ⟨rfl, rfl⟩ | ⟨g, cap, cur, rfl, hb, hh, hnc, hcm, hcs, hcur⟩
  · omega
  · refine ⟨g, cap, rfl, hb, hnc, cur, hh, fun j hj => ?_⟩
    have : (cur.toList.take (n * 1))[j]? = some (.int .i64 (nth xs j)) := by
      rw [hcur]; simp [nth, hj]
    rw [List.getElem?_take, if_pos (by omega)] at this
    simpa using this

theorem Own.row0 {w : World} {base n c : Nat} {g : Nat} {xs : List Int} (h : Own w base (.slice (some ⟨g, 0, none⟩) n c) n xs) : RowI w g xs := by
  have hl := h.len
  rcases h.2 with ⟨e, _⟩ | ⟨g', cap, cur, e, hb, hh, hnc, hcm, hcs, hcur⟩
  · cases e
  · injection e with e1 e2 e3
    injection e1 with e1
    injection e1 with e1
    subst e1
    refine ⟨cur, hh, fun j hj => ?_⟩
    have : (cur.toList.take (n * 1))[j]? = some (.int .i64 (nth xs j)) := by
      rw [hcur]; simp [nth, hj]
    rw [List.getElem?_take, if_pos (by omega)] at this
    simpa using this
theorem RowI.kept {w w' : World} {g p : Nat} {zs : List Int} (h : RowI w g zs) (hg : g ≠ p) (k : Kept w.heap.size p w w') : RowI w' g zs := by obtain ⟨cur, h1, h2⟩ := h; exact ⟨cur, h1.kept hg k, h2⟩
theorem RowI.drew {w : World} {g : Nat} {zs : List Int} (h : RowI w g zs) : RowI w.drew g zs := h
theorem RowI.alloc {w : World} {g : Nat} {zs : List Int} (h : RowI w g zs) (o : Obj) : RowI (w.alloc o) g zs := h.below (balloc w o) h.lt
end Go.Proofs.Ythdibkmjoiipgaa
