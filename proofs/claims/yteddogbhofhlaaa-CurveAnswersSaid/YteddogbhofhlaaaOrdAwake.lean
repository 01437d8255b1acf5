/- The examples of the chapter on order: netcalculuslaw04.awake returns true. -/
import Derived.Test.YteddogbhofhlaaaOrder5
import Derived.Test.YteddogbhofhlaaaMake
namespace Go.Proofs.Yteddogbhofhlaaa
open Go.RowKit
set_option linter.unusedVariables false

def exF : Cv := ⟨[0], 1, 3⟩
def exG : Cv := ⟨[0, 10, 12], 1, 2⟩
theorem exF_at (n : Nat) : exF.at n = 3 * n := by
  unfold Cv.at exF
  simp only [List.length_cons, List.length_nil]
  have h1 : (1 : Int).toNat = 1 := rfl
  by_cases h : n < 0 + 1
  · rw [if_pos h, show n = 0 by omega]; rfl
  · rw [if_neg h, h1, Nat.div_one, show n - (n - (0 + 1) + 1) * 1 = 0 by omega, if_neg (by unfold nth inf; simp)]
    have e : nth [0] 0 = 0 := rfl
    rw [e]; omega
theorem exG_at (n : Nat) : exG.at n = if n = 0 then 0 else if n = 1 then 10 else 2 * n + 8 := by
  unfold Cv.at exG
  simp only [List.length_cons, List.length_nil]
  have h1 : (1 : Int).toNat = 1 := rfl
  by_cases h : n < 0 + 1 + 1 + 1
  · rw [if_pos h]
    have : n = 0 ∨ n = 1 ∨ n = 2 := by omega
    rcases this with rfl | rfl | rfl <;> rfl
  · rw [if_neg h, h1, Nat.div_one, show n - (n - (0 + 1 + 1 + 1) + 1) * 1 = 2 by omega, if_neg (by unfold nth inf; simp), if_neg (by omega), if_neg (by omega)]
    have e : nth [0, 10, 12] 2 = 12 := rfl
    rw [e]; omega
theorem exF_fin : exF.Fin := by
  refine ⟨⟨by decide, by decide, by decide, by decide, by decide, by decide, by decide, ?_, by decide, ?_, ?_, by decide⟩, by decide⟩
  · intro k hk
    have hk' : k < 1 := hk
    rw [show k = 0 by omega]; decide
  · intro k hk
    have hk' : k + 1 < 1 := hk
    omega
  · intro h; exact absurd h (by decide)
theorem exG_fin : exG.Fin := by
  refine ⟨⟨by decide, by decide, by decide, by decide, by decide, by decide, by decide, ?_, by decide, ?_, ?_, by decide⟩, by decide⟩
  · intro k hk
    have hk' : k < 3 := hk
    have : k = 0 ∨ k = 1 ∨ k = 2 := by omega
    rcases this with rfl | rfl | rfl <;> decide
  · intro k hk
    have hk' : k + 1 < 3 := hk
    have : k = 0 ∨ k = 1 := by omega
    rcases this with rfl | rfl <;> decide
  · intro h; exact absurd h (by decide)
theorem ex_exceeds : ExS (Up exF exG) 9 true := by
  refine .inl ⟨rfl, 9, rfl, ?_, fun m hm => ?_⟩
  · rw [up_fin exF_fin exG_fin, exF_at, exG_at]; decide
  · rw [up_fin exF_fin exG_fin, exF_at, exG_at]
    by_cases h0 : m = 0
    · rw [if_pos h0]; omega
    · by_cases h1 : m = 1
      · rw [if_neg h0, if_pos h1]; omega
      · rw [if_neg h0, if_neg h1]; omega
theorem ex_settles : SeS (Up exG exF) 8 true := by
  refine .inl ⟨rfl, 8, rfl, fun m hm => ?_, fun k hk => ?_⟩
  · rw [up_fin exG_fin exF_fin, exF_at, exG_at, if_neg (by omega), if_neg (by omega)]; omega
  · have : k = 7 := by omega
    subst this
    rw [up_fin exG_fin exF_fin, exF_at, exG_at]; decide
theorem ex_meets : SeS (Ne2 exF exG) 0 false := by
  refine .inr ⟨rfl, rfl, fun m => ⟨m + 9, by omega, .inl ?_⟩⟩
  rw [up_fin exF_fin exG_fin, exF_at, exG_at, if_neg (by omega), if_neg (by omega)]; omega
theorem ex_most : AtM exF exF true := .inl ⟨exF_fin.1, exF_fin.1, by simp only [true_iff]; intro n; rw [up_fin exF_fin exF_fin]; omega⟩
theorem ex_most2 : AtM exF exG false := .inl ⟨exF_fin.1, exG_fin.1, by
  simp only [Bool.false_eq_true, false_iff]
  intro h
  have := h 9
  rw [up_fin exF_fin exG_fin, exF_at, exG_at] at this
  exact this (by decide)⟩

/-- what a valid pair returns is unique -/
theorem RetE.of {S : Int → Bool → Prop} {f g : Cv} {w : World} {e : Ending} {w' : World} {t : Int} {b : Bool} (hf : f.Ok) (hg : g.Ok) (hu : ∀ t' b', S t' b' → t' = t ∧ b' = b) (h : RetE S f g w e w') :
    e = .returned (.tuple #[.int .i64 t, .bool b, .int .i64 0]) ∧ Below w.heap.size w w' := by
  obtain ⟨t', b', er, hS, rfl, hb⟩ := h
  rcases hS with ⟨_, _, rfl, hS⟩ | ⟨hn, _⟩
  · obtain ⟨rfl, rfl⟩ := hu _ _ hS
    exact ⟨rfl, hb⟩
  · exact absurd ⟨hf, hg⟩ hn
theorem RetM.of {f g : Cv} {w : World} {e : Ending} {w' : World} {b : Bool} (hu : AtM f g b) (h : RetM f g w e w') : e = .returned (.bool b) ∧ Below w.heap.size w w' := by
  obtain ⟨b', hS, rfl, hb⟩ := h
  rw [hS.unique hu]
  exact ⟨rfl, hb⟩

/-- two curves in local variables -/
structure LS (w wx : World) (F : Nat) (A : Option Addr) (n c : Nat) (f : Cv) (G : Nat) (B : Option Addr) (m d : Nat) (g : Cv) : Prop where
  fb : Blk wx F 26 #[.slice A n c, .int .i64 f.per, .int .i64 f.inc]
  gb : Blk wx G 26 #[.slice B m d, .int .i64 g.per, .int .i64 g.inc]
  ia : Ints wx wx.heap.size A n f.vals
  ib : Ints wx wx.heap.size B m g.vals
  bw : Below w.heap.size w wx
section
variable {w wx wy : World} {A B : Option Addr} {F G n c m d : Nat} {f g : Cv}
theorem LS.below (h : LS w wx F A n c f G B m d g) (hb : Below wx.heap.size wx wy) : LS w wy F A n c f G B m d g :=
  ⟨h.fb.below hb h.fb.lt, h.gb.below hb h.gb.lt, h.ia.ext hb, h.ib.ext hb, bthen h.bw hb⟩
theorem LS.cells (h : LS w wx F A n c f G B m d g) : wx.cell? ⟨F, 0, none⟩ = some (.slice A n c) ∧ wx.cell? ⟨F, 1, none⟩ = some (.int .i64 f.per) ∧ wx.cell? ⟨F, 2, none⟩ = some (.int .i64 f.inc) ∧
    wx.cell? ⟨G, 0, none⟩ = some (.slice B m d) ∧ wx.cell? ⟨G, 1, none⟩ = some (.int .i64 g.per) ∧ wx.cell? ⟨G, 2, none⟩ = some (.int .i64 g.inc) ∧ F < wx.heap.size ∧ G < wx.heap.size := by
  have f0 := h.fb.cell 0; have f1 := h.fb.cell 1; have f2 := h.fb.cell 2; have g0 := h.gb.cell 0; have g1 := h.gb.cell 1; have g2 := h.gb.cell 2
  simp at f0 f1 f2 g0 g1 g2
  exact ⟨f0, f1, f2, g0, g1, g2, h.fb.lt, h.gb.lt⟩
end

set_option maxHeartbeats 2000000 in
set_option maxRecDepth 100000 in
theorem awake4_any (w : World) : Calls Try.prog 25 #[] w fun e w' => e = .returned (.bool true) ∧ Below w.heap.size w w' := by
  have L := Lib.hid (show LS w ((((w.alloc (.cells ([0].map (Value.int .i64)).toArray 3)).alloc (.cells ([0, 10, 12].map (Value.int .i64)).toArray 3)).alloc (.cells #[.slice (some ⟨w.heap.size, 0, none⟩) 1 1, .int .i64 1, .int .i64 3] 26)).alloc (.cells #[.slice (some ⟨w.heap.size + 1, 0, none⟩) 3 3, .int .i64 1, .int .i64 2] 26)) (w.heap.size + 1 + 1) (some ⟨w.heap.size, 0, none⟩) 1 1 exF (w.heap.size + 1 + 1 + 1) (some ⟨w.heap.size + 1, 0, none⟩) 3 3 exG from by
    have i1 := (((ints_litC w [0]).alloc' (.cells ([0, 10, 12].map (Value.int .i64)).toArray 3)).alloc' (.cells #[.slice (some ⟨w.heap.size, 0, none⟩) 1 1, .int .i64 1, .int .i64 3] 26)).alloc' (.cells #[.slice (some ⟨w.heap.size + 1, 0, none⟩) 3 3, .int .i64 1, .int .i64 2] 26)
    have i2 := ((ints_litC (w.alloc (.cells ([0].map (Value.int .i64)).toArray 3)) [0, 10, 12]).alloc' (.cells #[.slice (some ⟨w.heap.size, 0, none⟩) 1 1, .int .i64 1, .int .i64 3] 26)).alloc' (.cells #[.slice (some ⟨w.heap.size + 1, 0, none⟩) 3 3, .int .i64 1, .int .i64 2] 26)
    have b1 := (Blk.new ((w.alloc (.cells ([0].map (Value.int .i64)).toArray 3)).alloc (.cells ([0, 10, 12].map (Value.int .i64)).toArray 3)) 26 #[.slice (some ⟨w.heap.size, 0, none⟩) 1 1, .int .i64 1, .int .i64 3]).alloc (.cells #[.slice (some ⟨w.heap.size + 1, 0, none⟩) 3 3, .int .i64 1, .int .i64 2] 26)
    have b2 := Blk.new (((w.alloc (.cells ([0].map (Value.int .i64)).toArray 3)).alloc (.cells ([0, 10, 12].map (Value.int .i64)).toArray 3)).alloc (.cells #[.slice (some ⟨w.heap.size, 0, none⟩) 1 1, .int .i64 1, .int .i64 3] 26)) 26 #[.slice (some ⟨w.heap.size + 1, 0, none⟩) 3 3, .int .i64 1, .int .i64 2]
    simp only [World.size_alloc] at i2 b1 b2
    exact ⟨b1, b2, i1, by (simp only [World.size_alloc]; exact i2), bthen (bthen (bthen (balloc _ _) (balloc _ _)) (balloc _ _)) (balloc _ _)⟩)
  go_enter Try.func25, Try.ntmps25
  go_wp2_with fail
  have qz := L.out.cells
  obtain ⟨f0, f1, f2, g0, g1, g2, hlf, hlg⟩ := qz
  refine (exceeds_any (some ⟨w.heap.size, 0, none⟩) (some ⟨w.heap.size + 1, 0, none⟩) 1 3 1 3 1 3 1 2 [0] [0, 10, 12] _ L.out.ia L.out.ib (by omega) (by omega)).mono ?_
  intro e w1 hr
  obtain ⟨rfl, hb⟩ := RetE.of exF_fin.1 exG_fin.1 (fun t b h => ExS.unique h ex_exceeds) hr
  as_aux_lemma =>
  have L := Lib.hid (L.out.below hb)
  clear hr hb f0 f1 f2 g0 g1 g2 hlf hlg
  have qz := L.out.cells
  obtain ⟨f0, f1, f2, g0, g1, g2, hlf, hlg⟩ := qz
  go_wp2_with fail
  refine (settles_any (some ⟨w.heap.size + 1, 0, none⟩) (some ⟨w.heap.size, 0, none⟩) 3 1 3 1 1 2 1 3 [0, 10, 12] [0] _ L.out.ib L.out.ia (by omega) (by omega)).mono ?_
  intro e w2 hr
  obtain ⟨rfl, hb⟩ := RetE.of exG_fin.1 exF_fin.1 (fun t b h => SeS.unique h ex_settles) hr
  as_aux_lemma =>
  have L := Lib.hid (L.out.below hb)
  clear hr hb f0 f1 f2 g0 g1 g2 hlf hlg
  have qz := L.out.cells
  obtain ⟨f0, f1, f2, g0, g1, g2, hlf, hlg⟩ := qz
  go_wp2_with fail
  refine (meets_any (some ⟨w.heap.size, 0, none⟩) (some ⟨w.heap.size + 1, 0, none⟩) 1 3 1 3 1 3 1 2 [0] [0, 10, 12] _ L.out.ia L.out.ib (by omega) (by omega)).mono ?_
  intro e w3 hr
  obtain ⟨rfl, hb⟩ := RetE.of exF_fin.1 exG_fin.1 (fun t b h => SeS.unique h ex_meets) hr
  as_aux_lemma =>
  have L := Lib.hid (L.out.below hb)
  clear hr hb f0 f1 f2 g0 g1 g2 hlf hlg
  have qz := L.out.cells
  obtain ⟨f0, f1, f2, g0, g1, g2, hlf, hlg⟩ := qz
  go_wp2_with fail
  refine (atMost_any (some ⟨w.heap.size, 0, none⟩) (some ⟨w.heap.size, 0, none⟩) 1 1 1 1 1 3 1 3 [0] [0] _ L.out.ia L.out.ia (by omega) (by omega)).mono ?_
  intro e w4 hr
  obtain ⟨rfl, hb⟩ := RetM.of ex_most hr
  as_aux_lemma =>
  have L := Lib.hid (L.out.below hb)
  clear hr hb f0 f1 f2 g0 g1 g2 hlf hlg
  have qz := L.out.cells
  obtain ⟨f0, f1, f2, g0, g1, g2, hlf, hlg⟩ := qz
  go_wp2_with fail
  refine (atMost_any (some ⟨w.heap.size, 0, none⟩) (some ⟨w.heap.size + 1, 0, none⟩) 1 3 1 3 1 3 1 2 [0] [0, 10, 12] _ L.out.ia L.out.ib (by omega) (by omega)).mono ?_
  intro e w5 hr
  obtain ⟨rfl, hb⟩ := RetM.of ex_most2 hr
  as_aux_lemma =>
  have L := Lib.hid (L.out.below hb)
  clear hr hb f0 f1 f2 g0 g1 g2 hlf hlg
  have qz := L.out.cells
  obtain ⟨f0, f1, f2, g0, g1, g2, hlf, hlg⟩ := qz
  have bw := L.out.bw
  clear L
  go_wp2_with fail
  go_ret
  exact ⟨rfl, bw⟩
end Go.Proofs.Yteddogbhofhlaaa
