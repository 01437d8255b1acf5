/- Deconvolution: the examples of the chapter, in plain words. -/
import Derived.Test.YtbkimphcmmmaiaaDcPLaw
import Derived.Test.YtbkimphcmmmaiaaDcOf
import Derived.Test.YtbkimphcmmmaiaaDcChk
import Derived.Test.YtbkimphcmmmaiaaSto
import Derived.Test.YtbkimphcmmmaiaaRefSame
namespace Go.Proofs.Ytbkimphcmmmaiaa
open Go.RowKit
set_option linter.unusedVariables false

def dxF : Cv := ⟨[0, 10, 12], 1, 2⟩
def dxA : Cv := ⟨[0, 10], 1, 2⟩
def dxG : Cv := ⟨[0, 0, 0, 0], 1, 4⟩
def dxH : Cv := ⟨[14], 1, 2⟩
def dxX : Cv := ⟨[0], 1, 5⟩
def dxY : Cv := ⟨[0], 1, 3⟩
def dxI : Cv := ⟨[inf], 1, 0⟩
theorem all_lt {n : Nat} {P : Nat → Prop} (h : ∀ k : Fin n, P k.1) (k : Nat) (hk : k < n) : P k := h ⟨k, hk⟩
theorem nf_one {f : Cv} (hf : f.Fin) (h1 : f.per = 1) (hs : f.vals.length = 1 ∨ nth f.vals (f.vals.length - 2) + f.inc ≠ nth f.vals (f.vals.length - 1)) : NF f.at f := by
  have hn := hf.1.n1
  refine .inl ⟨by omega, by omega, fun t ht => (Cv.at_lt ht).symm, hf.toL.step, fun q s b hq _ => by rw [h1]; exact hq, ?_, fun t ht e => ?_⟩
  · rcases hs with h | h
    · exact .inl (by rw [h1, h]; rfl)
    · by_cases h2 : f.vals.length = 1
      · exact .inl (by rw [h1, h2]; rfl)
      · refine .inr ?_
        rw [h1, show f.vals.length - (1 : Int).toNat - 1 = f.vals.length - 2 by omega, Cv.at_lt (by omega), Cv.at_lt (by omega)]
        exact h
  · rw [Cv.at_lt ht] at e
    exact (hf.ne t ht).1 e
theorem dxF_ok : dxF.Ok := ⟨by decide, by decide, by decide, by decide, by decide, by decide, by decide, all_lt (by decide), by decide, fun k hk => all_lt (n := 3) (P := fun k => k + 1 < _ → nth _ k ≤ nth _ (k + 1)) (by decide) k (by simp only [dxF, List.length_cons, List.length_nil] at hk; omega) hk, fun h => absurd h (by decide), by decide⟩
theorem dxA_fin : dxA.Fin := ⟨⟨by decide, by decide, by decide, by decide, by decide, by decide, by decide, all_lt (by decide), by decide, fun k hk => all_lt (n := 3) (P := fun k => k + 1 < _ → nth _ k ≤ nth _ (k + 1)) (by decide) k (by simp only [dxA, List.length_cons, List.length_nil] at hk; omega) hk, fun h => absurd h (by decide), by decide⟩, by decide⟩
theorem dxF_fin : dxF.Fin := ⟨dxF_ok, by decide⟩
theorem dxG_fin : dxG.Fin := ⟨⟨by decide, by decide, by decide, by decide, by decide, by decide, by decide, all_lt (by decide), by decide, fun k hk => all_lt (n := 3) (P := fun k => k + 1 < _ → nth _ k ≤ nth _ (k + 1)) (by decide) k (by simp only [dxG, List.length_cons, List.length_nil] at hk; omega) hk, fun h => absurd h (by decide), by decide⟩, by decide⟩
theorem dxH_fin : dxH.Fin := ⟨⟨by decide, by decide, by decide, by decide, by decide, by decide, by decide, all_lt (by decide), by decide, fun k hk => all_lt (n := 3) (P := fun k => k + 1 < _ → nth _ k ≤ nth _ (k + 1)) (by decide) k (by simp only [dxH, List.length_cons, List.length_nil] at hk; omega) hk, fun h => absurd h (by decide), by decide⟩, by decide⟩
theorem dxX_fin : dxX.Fin := ⟨⟨by decide, by decide, by decide, by decide, by decide, by decide, by decide, all_lt (by decide), by decide, fun k hk => all_lt (n := 3) (P := fun k => k + 1 < _ → nth _ k ≤ nth _ (k + 1)) (by decide) k (by simp only [dxX, List.length_cons, List.length_nil] at hk; omega) hk, fun h => absurd h (by decide), by decide⟩, by decide⟩
theorem dxY_fin : dxY.Fin := ⟨⟨by decide, by decide, by decide, by decide, by decide, by decide, by decide, all_lt (by decide), by decide, fun k hk => all_lt (n := 3) (P := fun k => k + 1 < _ → nth _ k ≤ nth _ (k + 1)) (by decide) k (by simp only [dxY, List.length_cons, List.length_nil] at hk; omega) hk, fun h => absurd h (by decide), by decide⟩, by decide⟩
theorem dxA_at : dxA.at = dxF.at := by
  funext t
  refine Cv.FinL.unique dxA_fin.toL (fun t ht => ?_) (fun t ht => ?_) t
  · have ht' : t < 2 := ht
    rcases (show t = 0 ∨ t = 1 by omega) with rfl | rfl <;> decide
  · have ht' : 1 ≤ t := ht
    show dxF.at (t + 1) = dxF.at t + 2
    rcases Nat.lt_or_ge t 2 with h1 | h1
    · obtain rfl : t = 1 := by omega
      decide
    · exact dxF_fin.step (t := t) (by show 3 ≤ t + 1; omega)
theorem dxA_nf : NF dxF.at dxA := by
  rw [← dxA_at]
  exact nf_one dxA_fin rfl (.inr (by decide))
theorem dxG_nf : NF dxG.at dxG := nf_one dxG_fin rfl (.inr (by decide))
theorem dxH_nf : NF dxH.at dxH := nf_one dxH_fin rfl (.inl rfl)
theorem dxX_nf : NF dxX.at dxX := nf_one dxX_fin rfl (.inl rfl)
theorem dxY_nf : NF dxY.at dxY := nf_one dxY_fin rfl (.inl rfl)
theorem comm11 : comm 1 1 = 1 := by decide
theorem dxK : dcK dxA dxG = 4 := by
  unfold dcK
  rw [if_neg (by decide)]
  show ordF dxA dxG + comm 1 1 = 4
  rw [comm11]
  decide
theorem dx_steep (a b : Cv) (hp : a.per = 1) (hq : b.per = 1) (hi : a.inc ≤ b.inc) : ¬ Steep a b := fun h => by
  have h1 := h.2.2
  unfold ordD ordC at h1
  rw [hp, hq, show (1 : Int).toNat = 1 from rfl, comm11] at h1
  simp at h1
  omega
theorem dx_check : CheckS dxF dxG dxH [3, 3] := by
  refine ⟨dxF_ok, dxG_fin.1, by decide, dxA, dxG, dxA_nf, dxG_nf, by show comm 1 1 ≤ 120; rw [comm11]; decide, dxH_fin.1, dxH_nf, .inr ⟨dx_steep _ _ rfl rfl (by decide), ⟨fun _ => dxA_fin, fun _ => dxH_fin⟩, fun _ => ⟨by decide, by decide⟩, by decide, fun t ht => ?_⟩⟩
  rw [dxK]
  have ht' : t < 2 := ht
  rcases (show t = 0 ∨ t = 1 by omega) with rfl | rfl
  · refine ⟨by decide, by decide, by decide, fun u hu => ?_⟩
    rcases (show u = 0 ∨ u = 1 ∨ u = 2 ∨ u = 3 by omega) with rfl | rfl | rfl | rfl <;> decide
  · refine ⟨by decide, by decide, by decide, fun u hu => ?_⟩
    rcases (show u = 0 ∨ u = 1 ∨ u = 2 ∨ u = 3 by omega) with rfl | rfl | rfl | rfl <;> decide
theorem dx_of {r : Cv} {e : Int} (h : DcS dxF dxG r e) : r = dxH ∧ e = 0 := by
  obtain ⟨h1, h2⟩ := check_of dx_check h
  exact ⟨h2, h1⟩
/-- the certificate does not prove the deconvolution of the curve by itself -/
theorem dx_not {cs : List Int} : ¬ CheckS dxF dxF dxH cs := fun h => by
  obtain ⟨_, _, _, a, b, ha, hb, _, _, _, hC⟩ := h
  obtain rfl := NF.unique ha dxA_nf
  obtain rfl := NF.unique hb dxA_nf
  rcases hC with ⟨h1, _⟩ | ⟨_, _, _, hl, h1⟩
  · exact dx_steep _ _ rfl rfl (Int.le_refl _) h1
  · have hl0 : 0 < cs.length := by rw [hl]; decide
    obtain ⟨_, _, h2, _⟩ := h1 0 hl0
    rw [show dxH.at 0 = 14 by decide] at h2
    unfold gn at h2
    rw [Nat.zero_add] at h2
    split at h2
    · exact absurd h2 (by decide)
    · omega
theorem dxI_inf {r : Cv} {e : Int} (h : DcS dxX dxY r e) : r = dxI ∧ e = 0 := by
  have hs : Steep dxX dxY := ⟨dxY_fin, dxX_fin, by
    unfold ordD ordC
    show 0 < ((comm 1 1 / 1 : Nat) : Int) * 5 - ((comm 1 1 / 1 : Nat) : Int) * 3
    rw [comm11]
    decide⟩
  rcases h with ⟨h, _⟩ | ⟨_, _, _, _, D, hD, hM⟩
  · exact absurd h (fun h => h.not dxX_fin.1 dxY_fin.1 (by decide) ⟨dxX, dxY, dxX_nf, dxY_nf, by show comm 1 1 ≤ 120; rw [comm11]; decide⟩)
  · rw [dc_loose dxX_fin.1 hs.loose hD] at hM
    obtain ⟨h1, h2⟩ := hM.unique (inf_made (r := dxI) (er := 0) (by unfold chk; rw [if_pos ⟨by decide, all_lt (by decide)⟩]; exact ⟨rfl, rfl⟩))
    exact ⟨h1, h2⟩
end Go.Proofs.Ytbkimphcmmmaiaa
namespace Go.Proofs.Ytbkimphcmmmaiaa
open Go.RowKit
set_option linter.unusedVariables false

set_option maxHeartbeats 2000000 in
set_option maxRecDepth 100000 in
theorem awake8_any (w : World) : Calls Try.prog 28 #[] w fun e w' => e = .returned (.bool true) ∧ Below w.heap.size w w' := by
  have L := Lib.hid (show LS w ((((w.alloc (.cells ([0, 10, 12].map (Value.int .i64)).toArray 3)).alloc (.cells #[.slice (some ⟨w.heap.size, 0, none⟩) 3 3, .int .i64 1, .int .i64 2] 31)).alloc (.cells ([0, 0, 0, 0].map (Value.int .i64)).toArray 3)).alloc (.cells #[.slice (some ⟨w.heap.size + 1 + 1, 0, none⟩) 4 4, .int .i64 1, .int .i64 4] 31)) (w.heap.size + 1) (some ⟨w.heap.size, 0, none⟩) 3 3 dxF (w.heap.size + 1 + 1 + 1) (some ⟨w.heap.size + 1 + 1, 0, none⟩) 4 4 dxG from by
    have i1 := (((ints_litC w [0, 10, 12]).alloc' (.cells #[.slice (some ⟨w.heap.size, 0, none⟩) 3 3, .int .i64 1, .int .i64 2] 31)).alloc' (.cells ([0, 0, 0, 0].map (Value.int .i64)).toArray 3)).alloc' (.cells #[.slice (some ⟨w.heap.size + 1 + 1, 0, none⟩) 4 4, .int .i64 1, .int .i64 4] 31)
    have i2 := (ints_litC ((w.alloc (.cells ([0, 10, 12].map (Value.int .i64)).toArray 3)).alloc (.cells #[.slice (some ⟨w.heap.size, 0, none⟩) 3 3, .int .i64 1, .int .i64 2] 31)) [0, 0, 0, 0]).alloc' (.cells #[.slice (some ⟨w.heap.size + 1 + 1, 0, none⟩) 4 4, .int .i64 1, .int .i64 4] 31)
    have b1 := ((Blk.new (w.alloc (.cells ([0, 10, 12].map (Value.int .i64)).toArray 3)) 31 #[.slice (some ⟨w.heap.size, 0, none⟩) 3 3, .int .i64 1, .int .i64 2]).alloc (.cells ([0, 0, 0, 0].map (Value.int .i64)).toArray 3)).alloc (.cells #[.slice (some ⟨w.heap.size + 1 + 1, 0, none⟩) 4 4, .int .i64 1, .int .i64 4] 31)
    have b2 := Blk.new (((w.alloc (.cells ([0, 10, 12].map (Value.int .i64)).toArray 3)).alloc (.cells #[.slice (some ⟨w.heap.size, 0, none⟩) 3 3, .int .i64 1, .int .i64 2] 31)).alloc (.cells ([0, 0, 0, 0].map (Value.int .i64)).toArray 3)) 31 #[.slice (some ⟨w.heap.size + 1 + 1, 0, none⟩) 4 4, .int .i64 1, .int .i64 4]
    simp only [World.size_alloc] at i2 b1 b2
    exact ⟨b1, b2, i1, by (simp only [World.size_alloc]; exact i2), bthen (bthen (bthen (balloc _ _) (balloc _ _)) (balloc _ _)) (balloc _ _)⟩)
  go_enter Try.func28, Try.ntmps28
  go_wp2_with fail
  obtain ⟨f0, f1, f2, g0, g1, g2, hlf, hlg⟩ := L.out.cells
  refine (dcfn_any (some ⟨w.heap.size, 0, none⟩) (some ⟨w.heap.size + 1 + 1, 0, none⟩) 3 4 3 4 1 2 1 4 [0, 10, 12] [0, 0, 0, 0] _ L.out.ia L.out.ib (by omega) (by omega)).mono ?_
  rintro e w2 ⟨f, er, hS, A5, n5, c5, hc5, rfl, hI5, hA5, hb⟩
  obtain ⟨rfl, rfl⟩ := dx_of hS
  have hn5 : n5 = 1 := hI5.1.symm
  subst hn5
  have hb := bthen hb (balloc _ (.cells #[.slice A5 1 c5, .int .i64 dxH.per, .int .i64 dxH.inc] 31))
  have HB0 := Lib.hid (Blk.new w2 31 #[.slice A5 1 c5, .int .i64 dxH.per, .int .i64 dxH.inc])
  have HI0 := Lib.hid (hI5.alloc' (.cells #[.slice A5 1 c5, .int .i64 dxH.per, .int .i64 dxH.inc] 31))
  -- all over a step hb
  have L := Lib.hid (L.out.below hb)
  try (have HB := Lib.hid (HB.out.below hb HB.out.lt); have HI := Lib.hid (HI.out.ext hb))
  try (have CB := Lib.hid (CB.out.below hb CB.out.lt); have CI := Lib.hid (CI.out.ext hb); have CJ := Lib.hid (CJ.out.ext hb))
  try (have XB := Lib.hid (XB.out.below hb XB.out.lt); have XI := Lib.hid (XI.out.ext hb))
  clear hb
  have HB := HB0; have HI := HI0
  clear HB0 HI0 hc5 hI5 hA5 hS
  clear f0 f1 f2 g0 g1 g2 hlf hlg
  go_upto_region 4 with fail
  generalize hwe : w2.alloc (.cells #[.slice A5 1 c5, .int .i64 dxH.per, .int .i64 dxH.inc] 31) = w3 at *
  clear hwe
  generalize w2.heap.size = Hb at *
  obtain ⟨f0, f1, f2, g0, g1, g2, hlf, hlg⟩ := L.out.cells
  try (obtain ⟨⟨h0, h1, h2⟩, _, hlh⟩ := HB.out.c3)
  try (obtain ⟨⟨c0, c1, c2, c3⟩, _, hlc⟩ := CB.out.c4)
  try (obtain ⟨⟨x0, x1, x2⟩, _, hlx⟩ := XB.out.c3)
  go_wp2_with fail
  refine (dcprv_any (some ⟨w.heap.size, 0, none⟩) (some ⟨w.heap.size + 1 + 1, 0, none⟩) 3 4 3 4 1 2 1 4 [0, 10, 12] [0, 0, 0, 0] _ L.out.ia L.out.ib (by omega) (by omega)).mono ?_
  rintro e w4 ⟨r, cs, er, hS, A6, n6, c6, B6, m6, d6, hc6, hd6, rfl, hI6, hJ6, hA6, hB6, hb⟩
  obtain ⟨rfl, rfl⟩ := dx_of hS.1
  have CK := Lib.hid (prove_check hS)
  have hn6 : n6 = 1 := hI6.1.symm
  subst hn6
  have hm6 : m6 ≤ 520 := by
    obtain ⟨_, _, _, a, b, ha, hb, _, _, _, hC⟩ := CK.out
    obtain rfl := NF.unique ha dxA_nf
    rcases hC with ⟨h1, _⟩ | ⟨_, _, _, hl, _⟩
    · exact absurd h1 (by
        obtain rfl := NF.unique hb dxG_nf
        exact dx_steep _ _ rfl rfl (by decide))
    · rw [← hJ6.1, hl]; decide
  have hb := bthen hb (balloc _ (.cells #[.slice A6 1 c6, .int .i64 dxH.per, .int .i64 dxH.inc, .slice B6 m6 d6] 106))
  have CB0 := Lib.hid (Blk.new w4 106 #[.slice A6 1 c6, .int .i64 dxH.per, .int .i64 dxH.inc, .slice B6 m6 d6])
  have CI0 := Lib.hid (hI6.alloc' (.cells #[.slice A6 1 c6, .int .i64 dxH.per, .int .i64 dxH.inc, .slice B6 m6 d6] 106))
  have CJ0 := Lib.hid (hJ6.alloc' (.cells #[.slice A6 1 c6, .int .i64 dxH.per, .int .i64 dxH.inc, .slice B6 m6 d6] 106))
  -- all over a step hb
  have L := Lib.hid (L.out.below hb)
  try (have HB := Lib.hid (HB.out.below hb HB.out.lt); have HI := Lib.hid (HI.out.ext hb))
  try (have CB := Lib.hid (CB.out.below hb CB.out.lt); have CI := Lib.hid (CI.out.ext hb); have CJ := Lib.hid (CJ.out.ext hb))
  try (have XB := Lib.hid (XB.out.below hb XB.out.lt); have XI := Lib.hid (XI.out.ext hb))
  clear hb
  have CB := CB0; have CI := CI0; have CJ := CJ0
  clear CB0 CI0 CJ0 hc6 hd6 hI6 hJ6 hA6 hB6 hS
  clear f0 f1 f2 g0 g1 g2 hlf hlg
  try clear h0 h1 h2 hlh
  try clear c0 c1 c2 c3 hlc
  try clear x0 x1 x2 hlx
  go_upto_region 5 with fail
  generalize hwe : w4.alloc (.cells #[.slice A6 1 c6, .int .i64 dxH.per, .int .i64 dxH.inc, .slice B6 m6 d6] 106) = w5 at *
  clear hwe
  generalize w4.heap.size = Cb at *
  have i1 := (ints_litC w5 [0]).alloc' (.cells ([0].map (Value.int .i64)).toArray 3)
  have i2 := ints_litC (w5.alloc (.cells ([0].map (Value.int .i64)).toArray 3)) [0]
  have hb0 := bthen (balloc w5 (.cells ([0].map (Value.int .i64)).toArray 3)) (balloc _ (.cells ([0].map (Value.int .i64)).toArray 3))
  simp only [List.map_cons, List.map_nil, World.size_alloc] at i1 i2 hb0
  have I1 := Lib.hid i1; have I2 := Lib.hid i2; have HB5 := Lib.hid hb0
  clear i1 i2 hb0
  go_wp2_with fail
  refine (dcfn_any (some ⟨w5.heap.size, 0, none⟩) (some ⟨w5.heap.size + 1, 0, none⟩) 1 1 1 1 1 5 1 3 [0] [0] _ (by simpa using I1.out) (by simpa using I2.out) (by omega) (by omega)).mono ?_
  rintro e w6 ⟨f, er, hS, A7, n7, c7, hc7, rfl, hI7, hA7, hb⟩
  obtain ⟨rfl, rfl⟩ := dxI_inf hS
  have hn7 : n7 = 1 := hI7.1.symm
  subst hn7
  have hb := bthen HB5.out (bthen hb (balloc _ (.cells #[.slice A7 1 c7, .int .i64 dxI.per, .int .i64 dxI.inc] 31)))
  have XB0 := Lib.hid (Blk.new w6 31 #[.slice A7 1 c7, .int .i64 dxI.per, .int .i64 dxI.inc])
  have XI0 := Lib.hid (hI7.alloc' (.cells #[.slice A7 1 c7, .int .i64 dxI.per, .int .i64 dxI.inc] 31))
  -- all over a step hb
  have L := Lib.hid (L.out.below hb)
  try (have HB := Lib.hid (HB.out.below hb HB.out.lt); have HI := Lib.hid (HI.out.ext hb))
  try (have CB := Lib.hid (CB.out.below hb CB.out.lt); have CI := Lib.hid (CI.out.ext hb); have CJ := Lib.hid (CJ.out.ext hb))
  try (have XB := Lib.hid (XB.out.below hb XB.out.lt); have XI := Lib.hid (XI.out.ext hb))
  clear hb
  have XB := XB0; have XI := XI0
  clear XB0 XI0 hc7 hI7 hA7 hS I1 I2 HB5
  go_upto_region 6 with fail
  generalize hwe : w6.alloc (.cells #[.slice A7 1 c7, .int .i64 dxI.per, .int .i64 dxI.inc] 31) = w7 at *
  clear hwe
  generalize w6.heap.size = Xb at *
  have hb := balloc w7 (.cells ([14].map (Value.int .i64)).toArray 3)
  have i1 := ints_litC w7 [14]
  simp only [List.map_cons, List.map_nil] at hb i1
  have I1 := Lib.hid i1
  clear i1
  obtain ⟨f0, f1, f2, g0, g1, g2, hlf, hlg⟩ := L.out.cells
  try (obtain ⟨⟨h0, h1, h2⟩, _, hlh⟩ := HB.out.c3)
  try (obtain ⟨⟨c0, c1, c2, c3⟩, _, hlc⟩ := CB.out.c4)
  try (obtain ⟨⟨x0, x1, x2⟩, _, hlx⟩ := XB.out.c3)
  go_wp2_with fail
  clear f0 f1 f2 g0 g1 g2 hlf hlg
  try clear h0 h1 h2 hlh
  try clear c0 c1 c2 c3 hlc
  try clear x0 x1 x2 hlx
  -- all over a step hb
  have L := Lib.hid (L.out.below hb)
  try (have HB := Lib.hid (HB.out.below hb HB.out.lt); have HI := Lib.hid (HI.out.ext hb))
  try (have CB := Lib.hid (CB.out.below hb CB.out.lt); have CI := Lib.hid (CI.out.ext hb); have CJ := Lib.hid (CJ.out.ext hb))
  try (have XB := Lib.hid (XB.out.below hb XB.out.lt); have XI := Lib.hid (XI.out.ext hb))
  clear hb
  refine (refSame_any A5 (some ⟨w7.heap.size, 0, none⟩) 1 1 c5 1 dxH.per 1 dxH.inc 2 dxH.vals [14] _ (by exact HI.out) (by exact I1.out) (by omega) (by omega)).mono ?_
  rw [show Cv.same ⟨dxH.vals, dxH.per, dxH.inc⟩ ⟨[14], 1, 2⟩ = true from (Cv.same_iff _ _).2 rfl]
  rintro e w8 ⟨rfl, hb⟩
  -- all over a step hb
  have L := Lib.hid (L.out.below hb)
  try (have HB := Lib.hid (HB.out.below hb HB.out.lt); have HI := Lib.hid (HI.out.ext hb))
  try (have CB := Lib.hid (CB.out.below hb CB.out.lt); have CI := Lib.hid (CI.out.ext hb); have CJ := Lib.hid (CJ.out.ext hb))
  try (have XB := Lib.hid (XB.out.below hb XB.out.lt); have XI := Lib.hid (XI.out.ext hb))
  clear hb
  clear I1
  obtain ⟨f0, f1, f2, g0, g1, g2, hlf, hlg⟩ := L.out.cells
  try (obtain ⟨⟨h0, h1, h2⟩, _, hlh⟩ := HB.out.c3)
  try (obtain ⟨⟨c0, c1, c2, c3⟩, _, hlc⟩ := CB.out.c4)
  try (obtain ⟨⟨x0, x1, x2⟩, _, hlx⟩ := XB.out.c3)
  go_wp2_with fail
  refine (dcchk_any (some ⟨w.heap.size, 0, none⟩) (some ⟨w.heap.size + 1 + 1, 0, none⟩) A6 B6 3 4 1 m6 3 4 c6 d6 1 2 1 4 [0, 10, 12] [0, 0, 0, 0] dxH cs _ L.out.ia L.out.ib CI.out CJ.out (by omega) (by omega) (by omega) (by omega)).mono ?_
  rintro e w9 ⟨⟨z, hz, rfl⟩, hb⟩
  obtain rfl : z = true := hz.2 CK.out
  clear hz
  have hb1 := balloc w9 (.cells ([inf].map (Value.int .i64)).toArray 3)
  have i1 := ints_litC w9 [inf]
  unfold inf at hb1 i1
  simp only [List.map_cons, List.map_nil] at hb1 i1
  have I1 := Lib.hid i1; have HB1 := Lib.hid hb1
  clear i1 hb1
  clear f0 f1 f2 g0 g1 g2 hlf hlg
  try clear h0 h1 h2 hlh
  try clear c0 c1 c2 c3 hlc
  try clear x0 x1 x2 hlx
  -- all over a step hb
  have L := Lib.hid (L.out.below hb)
  try (have HB := Lib.hid (HB.out.below hb HB.out.lt); have HI := Lib.hid (HI.out.ext hb))
  try (have CB := Lib.hid (CB.out.below hb CB.out.lt); have CI := Lib.hid (CI.out.ext hb); have CJ := Lib.hid (CJ.out.ext hb))
  try (have XB := Lib.hid (XB.out.below hb XB.out.lt); have XI := Lib.hid (XI.out.ext hb))
  clear hb
  obtain ⟨f0, f1, f2, g0, g1, g2, hlf, hlg⟩ := L.out.cells
  try (obtain ⟨⟨h0, h1, h2⟩, _, hlh⟩ := HB.out.c3)
  try (obtain ⟨⟨c0, c1, c2, c3⟩, _, hlc⟩ := CB.out.c4)
  try (obtain ⟨⟨x0, x1, x2⟩, _, hlx⟩ := XB.out.c3)
  go_wp2_with fail
  have hb := HB1.out
  clear f0 f1 f2 g0 g1 g2 hlf hlg
  try clear h0 h1 h2 hlh
  try clear c0 c1 c2 c3 hlc
  try clear x0 x1 x2 hlx
  -- all over a step hb
  have L := Lib.hid (L.out.below hb)
  try (have HB := Lib.hid (HB.out.below hb HB.out.lt); have HI := Lib.hid (HI.out.ext hb))
  try (have CB := Lib.hid (CB.out.below hb CB.out.lt); have CI := Lib.hid (CI.out.ext hb); have CJ := Lib.hid (CJ.out.ext hb))
  try (have XB := Lib.hid (XB.out.below hb XB.out.lt); have XI := Lib.hid (XI.out.ext hb))
  clear hb
  refine (refSame_any A7 (some ⟨w9.heap.size, 0, none⟩) 1 1 c7 1 dxI.per 1 dxI.inc 0 dxI.vals [4611686018427387904] _ (by exact XI.out) (by exact I1.out) (by omega) (by omega)).mono ?_
  rw [show Cv.same ⟨dxI.vals, dxI.per, dxI.inc⟩ ⟨[4611686018427387904], 1, 0⟩ = true from (Cv.same_iff _ _).2 rfl]
  rintro e w10 ⟨rfl, hb⟩
  -- all over a step hb
  have L := Lib.hid (L.out.below hb)
  try (have HB := Lib.hid (HB.out.below hb HB.out.lt); have HI := Lib.hid (HI.out.ext hb))
  try (have CB := Lib.hid (CB.out.below hb CB.out.lt); have CI := Lib.hid (CI.out.ext hb); have CJ := Lib.hid (CJ.out.ext hb))
  try (have XB := Lib.hid (XB.out.below hb XB.out.lt); have XI := Lib.hid (XI.out.ext hb))
  clear hb
  clear I1 HB1
  obtain ⟨f0, f1, f2, g0, g1, g2, hlf, hlg⟩ := L.out.cells
  try (obtain ⟨⟨h0, h1, h2⟩, _, hlh⟩ := HB.out.c3)
  try (obtain ⟨⟨c0, c1, c2, c3⟩, _, hlc⟩ := CB.out.c4)
  try (obtain ⟨⟨x0, x1, x2⟩, _, hlx⟩ := XB.out.c3)
  go_wp2_with fail
  refine (dcchk_any (some ⟨w.heap.size, 0, none⟩) (some ⟨w.heap.size, 0, none⟩) A6 B6 3 3 1 m6 3 3 c6 d6 1 2 1 2 [0, 10, 12] [0, 10, 12] dxH cs _ L.out.ia L.out.ia CI.out CJ.out (by omega) (by omega) (by omega) (by omega)).mono ?_
  rintro e w11 ⟨⟨z, hz, rfl⟩, hb⟩
  obtain rfl : z = false := by
    cases z
    · rfl
    · exact absurd (hz.1 rfl) dx_not
  clear hz
  clear f0 f1 f2 g0 g1 g2 hlf hlg
  try clear h0 h1 h2 hlh
  try clear c0 c1 c2 c3 hlc
  try clear x0 x1 x2 hlx
  -- all over a step hb
  have L := Lib.hid (L.out.below hb)
  try (have HB := Lib.hid (HB.out.below hb HB.out.lt); have HI := Lib.hid (HI.out.ext hb))
  try (have CB := Lib.hid (CB.out.below hb CB.out.lt); have CI := Lib.hid (CI.out.ext hb); have CJ := Lib.hid (CJ.out.ext hb))
  try (have XB := Lib.hid (XB.out.below hb XB.out.lt); have XI := Lib.hid (XI.out.ext hb))
  clear hb
  have bw := L.out.bw
  go_wp2_with fail
  go_ret
  exact ⟨rfl, bw⟩
end Go.Proofs.Ytbkimphcmmmaiaa
