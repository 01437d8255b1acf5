/- Lists of paces or buckets, apart from a reader's block: made, handed on, filled. -/
import Derived.Test.YthdibkmjoiipgaaBk
import Derived.Test.YthdibkmjoiipgaaEnvL
import Derived.Test.YthdibkmjoiipgaaSto
namespace Go.Proofs.Ythdibkmjoiipgaa
open Go.RowKit
set_option linter.unusedVariables false
set_option linter.unusedSimpArgs false
theorem rq4 {w : World} {b o k : Nat} {ps : List PN} {x : PN} (h : RowQ w b o ps) (hx : ps[k]? = some x) : (w.cell? ⟨b, o + k * 4, none⟩ = some (.int .i64 x.R) ∧ w.cell? ⟨b, o + k * 4 + 1, none⟩ = some (.int .i64 x.r) ∧ w.cell? ⟨b, o + k * 4 + 2, none⟩ = some (.int .i64 x.L) ∧ w.cell? ⟨b, o + k * 4 + 3, none⟩ = some (.int .i64 x.l)) ∧ b < w.heap.size :=
  ⟨⟨h.cell k 0 x hx (by omega), h.cell k 1 x hx (by omega), h.cell k 2 x hx (by omega), h.cell k 3 x hx (by omega)⟩, h.lt⟩
theorem bq4 {w : World} {g : Nat} {t : TypeId} {x y z u : Value} (h : Blk w g t #[x, y, z, u]) : (w.cell? ⟨g, 0, none⟩ = some x ∧ w.cell? ⟨g, 1, none⟩ = some y ∧ w.cell? ⟨g, 2, none⟩ = some z ∧ w.cell? ⟨g, 3, none⟩ = some u) ∧
    (w.frozen? ⟨g, 0, none⟩ = false ∧ w.frozen? ⟨g, 1, none⟩ = false ∧ w.frozen? ⟨g, 2, none⟩ = false ∧ w.frozen? ⟨g, 3, none⟩ = false) ∧ g < w.heap.size :=
  ⟨⟨h.cell 0, h.cell 1, h.cell 2, h.cell 3⟩, ⟨h.frozen 0, h.frozen 1, h.frozen 2, h.frozen 3⟩, h.lt⟩
def PN.vals (x : PN) : Array Value := #[.int .i64 x.R, .int .i64 x.r, .int .i64 x.L, .int .i64 x.l]
/-- the block F is a variable that holds four numbers -/
structure Lq (p : Nat) (w : World) (F : Nat) (t : TypeId) (x : PN) : Prop where
  blk : Blk w F t #[.int .i64 x.R, .int .i64 x.r, .int .i64 x.L, .int .i64 x.l]
  ne : F ≠ p
section
variable {p F : Nat} {w w' : World} {t : TypeId} {x : PN}
theorem Lq.below (h : Lq p w F t x) (hb : Below w.heap.size w w') : Lq p w' F t x := ⟨h.blk.below hb h.blk.lt, h.ne⟩
theorem Lq.kept (h : Lq p w F t x) (hk : Kept w.heap.size p w w') : Lq p w' F t x := ⟨h.blk.kept h.ne hk, h.ne⟩
theorem Lq.drew (h : Lq p w F t x) : Lq p w.drew F t x := ⟨h.blk, h.ne⟩
theorem Lq.q (h : Lq p w F t x) : w.cell? ⟨F, 0, none⟩ = some (.int .i64 x.R) ∧ w.cell? ⟨F, 1, none⟩ = some (.int .i64 x.r) ∧ w.cell? ⟨F, 2, none⟩ = some (.int .i64 x.L) ∧ w.cell? ⟨F, 3, none⟩ = some (.int .i64 x.l) ∧ F < w.heap.size := by
  have := bq4 h.blk
  exact ⟨this.1.1, this.1.2.1, this.1.2.2.1, this.1.2.2.2, this.2.2⟩
end
theorem RowQ.keptQ {w w' : World} {b o p : Nat} {ps : List PN} (h : RowQ w b o ps) (hb : b ≠ p) (hk : Kept w.heap.size p w w') : RowQ w' b o ps :=
  ⟨Nat.lt_of_lt_of_le h.lt hk.size, fun k j x hx hj => (World.cell?_of_block (a := ⟨b, o + k * 4 + j, none⟩) (hk.block b h.lt hb)).trans (h.cell k j x hx hj)⟩
/-- a list of paces, apart from block p -/
def LsQ (p : Nat) (w : World) (A : Option Addr) (n c : Nat) (ps : List PN) : Prop := ps.length = n ∧ n ≤ c ∧ (n : Int) ≤ 9223372036854775807 ∧ (0 < n → ∃ g o, A = some ⟨g, o, none⟩ ∧ g ≠ p ∧ RowQ w g o ps)
theorem LsQ.below {p n c : Nat} {w w' : World} {A : Option Addr} {ps : List PN} (h : LsQ p w A n c ps) (hb : Below w.heap.size w w') : LsQ p w' A n c ps :=
  ⟨h.1, h.2.1, h.2.2.1, fun h0 => by
    obtain ⟨g, o, e, hg, hr⟩ := h.2.2.2 h0
    exact ⟨g, o, e, hg, hr.below hb⟩⟩
theorem LsQ.kept {p n c : Nat} {w w' : World} {A : Option Addr} {ps : List PN} (h : LsQ p w A n c ps) (hk : Kept w.heap.size p w w') : LsQ p w' A n c ps :=
  ⟨h.1, h.2.1, h.2.2.1, fun h0 => by
    obtain ⟨g, o, e, hg, hr⟩ := h.2.2.2 h0
    exact ⟨g, o, e, hg, hr.keptQ hg hk⟩⟩
theorem LsQ.nil (p : Nat) (w : World) : LsQ p w none 0 0 [] := ⟨rfl, Nat.le_refl _, by omega, fun h => absurd h (by omega)⟩
theorem LsQ.drew {p n c : Nat} {w : World} {A : Option Addr} {ps : List PN} (h : LsQ p w A n c ps) : LsQ p w.drew A n c ps :=
  ⟨h.1, h.2.1, h.2.2.1, fun h0 => by
    obtain ⟨g, o, e, hg, hr⟩ := h.2.2.2 h0
    exact ⟨g, o, e, hg, ⟨hr.lt, hr.cell⟩⟩⟩
theorem LsQ.at_ {p : Nat} {w : World} {G n c : Nat} {ps : List PN} (h : LsQ p w (some ⟨G, 0, none⟩) n c ps) {k : Nat} (hk : k < n) : ∃ x : PN, (w.cell? ⟨G, k * 4, none⟩ = some (.int .i64 x.R) ∧ w.cell? ⟨G, k * 4 + 1, none⟩ = some (.int .i64 x.r) ∧ w.cell? ⟨G, k * 4 + 2, none⟩ = some (.int .i64 x.L) ∧ w.cell? ⟨G, k * 4 + 3, none⟩ = some (.int .i64 x.l)) ∧ G < w.heap.size := by
  obtain ⟨g, o, e, _, hr⟩ := h.2.2.2 (by omega)
  injection e with e
  injection e with e1 e2
  subst e1 e2
  have hkl : k < ps.length := by rw [h.1]; exact hk
  have := rq4 hr (List.getElem?_eq_getElem hkl)
  simp only [Nat.zero_add] at this
  exact ⟨_, this⟩
theorem flat4 : ∀ {ps : List PN} {k j : Nat} {x : PN}, ps[k]? = some x → j < 4 → (ps.flatMap PN.cells)[k * 4 + j]? = x.cells[j]?
  | [], _, _, _, h, _ => by simp at h
  | y :: ps, 0, j, x, h, hj => by
    simp only [List.getElem?_cons_zero, Option.some.injEq] at h
    subst h
    rw [List.flatMap_cons, List.getElem?_append_left (by show 0 * 4 + j < 4; omega), Nat.zero_mul, Nat.zero_add]
  | y :: ps, k + 1, j, x, h, hj => by
    rw [List.flatMap_cons, List.getElem?_append_right (by show 4 ≤ (k + 1) * 4 + j; omega), show (k + 1) * 4 + j - y.cells.length = k * 4 + j by show (k + 1) * 4 + j - 4 = _; omega]
    exact flat4 (by simpa using h) hj
theorem LsQ.lit {p : Nat} {w : World} (hp : p < w.heap.size) (t : TypeId) (ps : List PN) (n : Nat) (hn : ps.length = n) (h9 : (n : Int) ≤ 9223372036854775807) : LsQ p (w.alloc (.cells (ps.flatMap PN.cells).toArray t)) (some ⟨w.heap.size, 0, none⟩) n n ps := by
  refine ⟨hn, Nat.le_refl _, h9, fun _ => ⟨_, _, rfl, Nat.ne_of_gt hp, ?_⟩⟩
  have B := Blk.new w t (ps.flatMap PN.cells).toArray
  refine ⟨B.lt, fun k j z hz hj => ?_⟩
  rw [B.cell (0 + k * 4 + j), Nat.zero_add, List.getElem?_toArray]
  exact flat4 hz hj
/-- block G has room for n elements, of which the first are those of ys -/
structure MkQ (p : Nat) (w : World) (t : TypeId) (G n : Nat) (ys : List PN) : Prop where
  blk : ∃ cs, Blk w G t cs ∧ cs.size = n * 4 ∧ ∀ (j : Nat) (y : PN), ys[j]? = some y → ∀ i, i < 4 → cs[j * 4 + i]? = y.cells[i]?
  ne : G ≠ p
theorem blk_made4 {w : World} {base g n : Nat} {t : TypeId} {xs : List Value} (h : w.ownsRow base t 4 (.slice (some ⟨g, 0, none⟩) n n) n xs) : ∃ cs, Blk w g t cs ∧ cs.size = n * 4 := by
  rcases h.2 with ⟨e, _⟩ | ⟨g', cap, cur, e, hb, hh, hnc, hcm, hcs, hcur⟩
  · cases e
  · injection e with e1 e2 e3
    injection e1 with e1
    injection e1 with e1
    subst e1 e3
    exact ⟨cur, hh, hcs⟩
section
variable {p G n : Nat} {w w' : World} {t : TypeId} {ys : List PN}
theorem MkQ.lt (h : MkQ p w t G n ys) : G < w.heap.size := by obtain ⟨cs, h1, _⟩ := h.blk; exact h1.lt
theorem MkQ.below (h : MkQ p w t G n ys) (hb : Below w.heap.size w w') : MkQ p w' t G n ys := by
  obtain ⟨cs, h1, h2⟩ := h.blk
  exact ⟨⟨cs, h1.below hb h1.lt, h2⟩, h.ne⟩
theorem MkQ.kept (h : MkQ p w t G n ys) (hk : Kept w.heap.size p w w') : MkQ p w' t G n ys := by
  obtain ⟨cs, h1, h2⟩ := h.blk
  exact ⟨⟨cs, h1.kept h.ne hk, h2⟩, h.ne⟩
theorem MkQ.slot (h : MkQ p w t G n ys) {k : Nat} (hk : k < n) : (∃ v, w.cell? ⟨G, k * 4, none⟩ = some v) ∧ (∃ v, w.cell? ⟨G, k * 4 + 1, none⟩ = some v) ∧ (∃ v, w.cell? ⟨G, k * 4 + 2, none⟩ = some v) ∧ (∃ v, w.cell? ⟨G, k * 4 + 3, none⟩ = some v) ∧
    w.frozen? ⟨G, k * 4, none⟩ = false ∧ w.frozen? ⟨G, k * 4 + 1, none⟩ = false ∧ w.frozen? ⟨G, k * 4 + 2, none⟩ = false ∧ w.frozen? ⟨G, k * 4 + 3, none⟩ = false := by
  obtain ⟨cs, h1, h2, _⟩ := h.blk
  have hc : ∀ i, i < cs.size → ∃ v, w.cell? ⟨G, i, none⟩ = some v := fun i hi => ⟨cs[i], by rw [h1.cell]; exact Array.getElem?_eq_getElem hi⟩
  exact ⟨hc _ (by omega), hc _ (by omega), hc _ (by omega), hc _ (by omega), h1.frozen _, h1.frozen _, h1.frozen _, h1.frozen _⟩
theorem MkQ.store (h : MkQ p w t G n ys) {k : Nat} {y : PN} (hl : ys.length = k) (hk : k < n) :
    MkQ p ((((w.setCell ⟨G, k * 4, none⟩ (.int .i64 y.R)).setCell ⟨G, k * 4 + 1, none⟩ (.int .i64 y.r)).setCell ⟨G, k * 4 + 2, none⟩ (.int .i64 y.L)).setCell ⟨G, k * 4 + 3, none⟩ (.int .i64 y.l)) t G n (ys ++ [y]) := by
  obtain ⟨cs, h1, h2, h3⟩ := h.blk
  refine ⟨⟨_, (((h1.set_ _ _).set_ _ _).set_ _ _).set_ _ _, by simpa using h2, fun j z hz i hi => ?_⟩, h.ne⟩
  simp only [Array.getElem?_setIfInBounds, Array.size_setIfInBounds]
  rcases Nat.lt_or_ge j k with hj | hj
  · rw [List.getElem?_append_left (by omega)] at hz
    rw [if_neg (by omega), if_neg (by omega), if_neg (by omega), if_neg (by omega)]
    exact h3 j z hz i hi
  · rw [List.getElem?_append_right (by omega)] at hz
    have hjk : j = k := by
      rcases Nat.lt_or_ge k j with h4 | h4
      · rw [List.getElem?_eq_none (by simp; omega)] at hz; cases hz
      · omega
    subst hjk
    rw [hl, Nat.sub_self] at hz
    simp only [List.getElem?_cons_zero, Option.some.injEq] at hz
    subst hz
    have : i = 0 ∨ i = 1 ∨ i = 2 ∨ i = 3 := by omega
    rcases this with rfl | rfl | rfl | rfl
    · rw [if_neg (by omega), if_neg (by omega), if_neg (by omega), if_pos (by omega), if_pos (by omega)]; rfl
    · rw [if_neg (by omega), if_neg (by omega), if_pos rfl, if_pos (by omega)]; rfl
    · rw [if_neg (by omega), if_pos rfl, if_pos (by omega)]; rfl
    · rw [if_pos rfl, if_pos (by omega)]; rfl
theorem MkQ.ls (h : MkQ p w t G n ys) (hl : ys.length = n) (h9 : (n : Int) ≤ 9223372036854775807) : LsQ p w (some ⟨G, 0, none⟩) n n ys := by
  obtain ⟨cs, h1, h2, h3⟩ := h.blk
  refine ⟨hl, Nat.le_refl _, h9, fun _ => ⟨_, _, rfl, h.ne, h1.lt, fun k j y hy hj => ?_⟩⟩
  rw [h1.cell, Nat.zero_add]
  exact h3 k y hy j hj
theorem Sto.four (G : Nat) (w : World) (k : Nat) (a b c d : Value) : Sto G w ((((w.setCell ⟨G, k * 4, none⟩ a).setCell ⟨G, k * 4 + 1, none⟩ b).setCell ⟨G, k * 4 + 2, none⟩ c).setCell ⟨G, k * 4 + 3, none⟩ d) :=
  ((((Sto.refl G w).set _ a).set _ b).set _ c).set _ d
theorem Kept.sto {B : Nat} {w0 : World} (h : Kept B p w0 w) (s : Sto G w w') (hG : B ≤ G) : Kept B p w0 w' :=
  h.trans ⟨s.os, s.tape, s.output, by rw [s.size]; exact Nat.le_refl _, fun k hk hp => s.block k (by omega)⟩
theorem Lq.sto {F : Nat} {x : PN} (h : Lq p w F t x) (s : Sto G w w') (hF : F ≠ G) : Lq p w' F t x := ⟨h.blk.sto s hF, h.ne⟩
theorem LsQ.sto {n c : Nat} {ps : List PN} {A : Option Addr} (h : LsQ p w A n c ps) (s : Sto G w w') (hb : 0 < n → ∀ g o, A = some ⟨g, o, none⟩ → g ≠ G) : LsQ p w' A n c ps :=
  ⟨h.1, h.2.1, h.2.2.1, fun h0 => by
    obtain ⟨g, o, e, hg, hr⟩ := h.2.2.2 h0
    exact ⟨g, o, e, hg, ⟨by rw [s.size]; exact hr.lt, fun k j x hx hj => (World.cell?_of_block (a := ⟨g, o + k * 4 + j, none⟩) (s.block g (hb h0 g o e))).trans (hr.cell k j x hx hj)⟩⟩⟩
theorem SrcAt.four (h : SrcAt w p) {k : Nat} {a b c d : Value} (hG : p < G) : SrcAt ((((w.setCell ⟨G, k * 4, none⟩ a).setCell ⟨G, k * 4 + 1, none⟩ b).setCell ⟨G, k * 4 + 2, none⟩ c).setCell ⟨G, k * 4 + 3, none⟩ d) p :=
  (((h.far (a := ⟨G, _, none⟩) hG a).far (a := ⟨G, _, none⟩) hG b).far (a := ⟨G, _, none⟩) hG c).far (a := ⟨G, _, none⟩) hG d
end
end Go.Proofs.Ythdibkmjoiipgaa
