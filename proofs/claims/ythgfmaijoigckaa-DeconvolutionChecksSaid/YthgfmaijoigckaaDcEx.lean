/- Deconvolution: the examples of the chapter, in plain words. -/
import Derived.Test.YthgfmaijoigckaaDcPLaw
import Derived.Test.YthgfmaijoigckaaDcOf
namespace Go.Proofs.Ythgfmaijoigckaa
open Go.RowKit
set_option linter.unusedVariables false

def dxF : Cv := ⟨[0, 10, 12], 1, 2⟩
def dxA : Cv := ⟨[0, 10], 1, 2⟩
def dxG : Cv := ⟨[0, 0, 0, 0], 1, 4⟩
def dxH : Cv := ⟨[14], 1, 2⟩
def dxX : Cv := ⟨[0], 1, 5⟩
def dxY : Cv := ⟨[0], 1, 3⟩
def dxI : Cv := ⟨[inf], 1, 0⟩
theorem all_lt {n : Nat} {P : Nat → Prop} (h : ∀ k : Fin n, P k.1) (k : Nat) (hk : k < n) : P k := h ⟨k, hk⟩
theorem nf_one {f : Cv} (hf : f.Fin) (h1 : f.per = 1) (hs : f.vals.length = 1 ∨ nth f.vals (f.vals.length - 2) + f.inc ≠ nth f.vals (f.vals.length - 1)) : NF f.at f := by
  have hn := hf.1.n1
  refine .inl ⟨by omega, by omega, fun t ht => (Cv.at_lt ht).symm, hf.toL.step, fun q s b hq _ => by rw [h1]; exact hq, ?_, fun t ht e => ?_⟩
  · rcases hs with h | h
    · exact .inl (by rw [h1, h]; rfl)
    · by_cases h2 : f.vals.length = 1
      · exact .inl (by rw [h1, h2]; rfl)
      · refine .inr ?_
        rw [h1, show f.vals.length - (1 : Int).toNat - 1 = f.vals.length - 2 by omega, Cv.at_lt (by omega), Cv.at_lt (by omega)]
        exact h
  · rw [Cv.at_lt ht] at e
    exact (hf.ne t ht).1 e
theorem dxF_ok : dxF.Ok := ⟨by decide, by decide, by decide, by decide, by decide, by decide, by decide, all_lt (by decide), by decide, fun k hk => all_lt (n := 3) (P := fun k => k + 1 < _ → nth _ k ≤ nth _ (k + 1)) (by decide) k (by simp only [dxF, List.length_cons, List.length_nil] at hk; omega) hk, fun h => absurd h (by decide), by decide⟩
theorem dxA_fin : dxA.Fin := ⟨⟨by decide, by decide, by decide, by decide, by decide, by decide, by decide, all_lt (by decide), by decide, fun k hk => all_lt (n := 3) (P := fun k => k + 1 < _ → nth _ k ≤ nth _ (k + 1)) (by decide) k (by simp only [dxA, List.length_cons, List.length_nil] at hk; omega) hk, fun h => absurd h (by decide), by decide⟩, by decide⟩
theorem dxF_fin : dxF.Fin := ⟨dxF_ok, by decide⟩
theorem dxG_fin : dxG.Fin := ⟨⟨by decide, by decide, by decide, by decide, by decide, by decide, by decide, all_lt (by decide), by decide, fun k hk => all_lt (n := 3) (P := fun k => k + 1 < _ → nth _ k ≤ nth _ (k + 1)) (by decide) k (by simp only [dxG, List.length_cons, List.length_nil] at hk; omega) hk, fun h => absurd h (by decide), by decide⟩, by decide⟩
theorem dxH_fin : dxH.Fin := ⟨⟨by decide, by decide, by decide, by decide, by decide, by decide, by decide, all_lt (by decide), by decide, fun k hk => all_lt (n := 3) (P := fun k => k + 1 < _ → nth _ k ≤ nth _ (k + 1)) (by decide) k (by simp only [dxH, List.length_cons, List.length_nil] at hk; omega) hk, fun h => absurd h (by decide), by decide⟩, by decide⟩
theorem dxX_fin : dxX.Fin := ⟨⟨by decide, by decide, by decide, by decide, by decide, by decide, by decide, all_lt (by decide), by decide, fun k hk => all_lt (n := 3) (P := fun k => k + 1 < _ → nth _ k ≤ nth _ (k + 1)) (by decide) k (by simp only [dxX, List.length_cons, List.length_nil] at hk; omega) hk, fun h => absurd h (by decide), by decide⟩, by decide⟩
theorem dxY_fin : dxY.Fin := ⟨⟨by decide, by decide, by decide, by decide, by decide, by decide, by decide, all_lt (by decide), by decide, fun k hk => all_lt (n := 3) (P := fun k => k + 1 < _ → nth _ k ≤ nth _ (k + 1)) (by decide) k (by simp only [dxY, List.length_cons, List.length_nil] at hk; omega) hk, fun h => absurd h (by decide), by decide⟩, by decide⟩
theorem dxA_at : dxA.at = dxF.at := by
  funext t
  refine Cv.FinL.unique dxA_fin.toL (fun t ht => ?_) (fun t ht => ?_) t
  · have ht' : t < 2 := ht
    rcases (show t = 0 ∨ t = 1 by omega) with rfl | rfl <;> decide
  · have ht' : 1 ≤ t := ht
    show dxF.at (t + 1) = dxF.at t + 2
    rcases Nat.lt_or_ge t 2 with h1 | h1
    · obtain rfl : t = 1 := by omega
      decide
    · exact dxF_fin.step (t := t) (by show 3 ≤ t + 1; omega)
theorem dxA_nf : NF dxF.at dxA := by
  rw [← dxA_at]
  exact nf_one dxA_fin rfl (.inr (by decide))
theorem dxG_nf : NF dxG.at dxG := nf_one dxG_fin rfl (.inr (by decide))
theorem dxH_nf : NF dxH.at dxH := nf_one dxH_fin rfl (.inl rfl)
theorem dxX_nf : NF dxX.at dxX := nf_one dxX_fin rfl (.inl rfl)
theorem dxY_nf : NF dxY.at dxY := nf_one dxY_fin rfl (.inl rfl)
theorem comm11 : comm 1 1 = 1 := by decide
theorem dxK : dcK dxA dxG = 4 := by
  unfold dcK
  rw [if_neg (by decide)]
  show ordF dxA dxG + comm 1 1 = 4
  rw [comm11]
  decide
theorem dx_steep (a b : Cv) (hp : a.per = 1) (hq : b.per = 1) (hi : a.inc ≤ b.inc) : ¬ Steep a b := fun h => by
  have h1 := h.2.2
  unfold ordD ordC at h1
  rw [hp, hq, show (1 : Int).toNat = 1 from rfl, comm11] at h1
  simp at h1
  omega
theorem dx_check : CheckS dxF dxG dxH [3, 3] := by
  refine ⟨dxF_ok, dxG_fin.1, by decide, dxA, dxG, dxA_nf, dxG_nf, by show comm 1 1 ≤ 120; rw [comm11]; decide, dxH_fin.1, dxH_nf, .inr ⟨dx_steep _ _ rfl rfl (by decide), ⟨fun _ => dxA_fin, fun _ => dxH_fin⟩, fun _ => ⟨by decide, by decide⟩, by decide, fun t ht => ?_⟩⟩
  rw [dxK]
  have ht' : t < 2 := ht
  rcases (show t = 0 ∨ t = 1 by omega) with rfl | rfl
  · refine ⟨by decide, by decide, by decide, fun u hu => ?_⟩
    rcases (show u = 0 ∨ u = 1 ∨ u = 2 ∨ u = 3 by omega) with rfl | rfl | rfl | rfl <;> decide
  · refine ⟨by decide, by decide, by decide, fun u hu => ?_⟩
    rcases (show u = 0 ∨ u = 1 ∨ u = 2 ∨ u = 3 by omega) with rfl | rfl | rfl | rfl <;> decide
theorem dx_of {r : Cv} {e : Int} (h : DcS dxF dxG r e) : r = dxH ∧ e = 0 := by
  obtain ⟨h1, h2⟩ := check_of dx_check h
  exact ⟨h2, h1⟩
/-- the certificate does not prove the deconvolution of the curve by itself -/
theorem dx_not {cs : List Int} : ¬ CheckS dxF dxF dxH cs := fun h => by
  obtain ⟨_, _, _, a, b, ha, hb, _, _, _, hC⟩ := h
  obtain rfl := NF.unique ha dxA_nf
  obtain rfl := NF.unique hb dxA_nf
  rcases hC with ⟨h1, _⟩ | ⟨_, _, _, hl, h1⟩
  · exact dx_steep _ _ rfl rfl (Int.le_refl _) h1
  · have hl0 : 0 < cs.length := by rw [hl]; decide
    obtain ⟨_, _, h2, _⟩ := h1 0 hl0
    rw [show dxH.at 0 = 14 by decide] at h2
    unfold gn at h2
    rw [Nat.zero_add] at h2
    split at h2
    · exact absurd h2 (by decide)
    · omega
theorem dxI_inf {r : Cv} {e : Int} (h : DcS dxX dxY r e) : r = dxI ∧ e = 0 := by
  have hs : Steep dxX dxY := ⟨dxY_fin, dxX_fin, by
    unfold ordD ordC
    show 0 < ((comm 1 1 / 1 : Nat) : Int) * 5 - ((comm 1 1 / 1 : Nat) : Int) * 3
    rw [comm11]
    decide⟩
  rcases h with ⟨h, _⟩ | ⟨_, _, _, _, D, hD, hM⟩
  · exact absurd h (fun h => h.not dxX_fin.1 dxY_fin.1 (by decide) ⟨dxX, dxY, dxX_nf, dxY_nf, by show comm 1 1 ≤ 120; rw [comm11]; decide⟩)
  · rw [dc_loose dxX_fin.1 hs.loose hD] at hM
    obtain ⟨h1, h2⟩ := hM.unique (inf_made (r := dxI) (er := 0) (by unfold chk; rw [if_pos ⟨by decide, all_lt (by decide)⟩]; exact ⟨rfl, rfl⟩))
    exact ⟨h1, h2⟩
end Go.Proofs.Ythgfmaijoigckaa
