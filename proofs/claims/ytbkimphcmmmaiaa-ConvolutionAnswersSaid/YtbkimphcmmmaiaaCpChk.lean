/- (convolution.pair).below and convolution.Check: the walks. -/
import Derived.Test.YtbkimphcmmmaiaaCpRt
import Derived.Test.YtbkimphcmmmaiaaCpAtt
namespace Go.Proofs.Ytbkimphcmmmaiaa
open Go.RowKit
set_option linter.unusedVariables false

set_option maxHeartbeats 4000000 in
set_option maxRecDepth 100000 in
theorem cpbel_any (A B C : Option Addr) (n m k c d s : Nat) (a b h : Cv) (w : World) (hA : Ints w w.heap.size A n a.vals) (hB : Ints w w.heap.size B m b.vals) (hC : Ints w w.heap.size C k h.vals) (ha : a.Ok) (hb : b.Ok) (hh : h.Ok) (hK : ordC a b ≤ 120) :
    Calls Try.prog 99 #[.agg (cpA A n c a B m d b (ordC a b : Nat)), .agg #[.slice C k s, .int .i64 h.per, .int .i64 h.inc]] w (RetQ (BelowS a b h) w) := by
  have a1 := ha.n1; have a2 := ha.n2; have a3 := ha.p1; have a4 := ha.p2; have a5 := ha.pn; have a6 := ha.i1; have a7 := ha.i2
  have b1 := hb.n1; have b2 := hb.n2; have b3 := hb.p1; have b4 := hb.p2; have b5 := hb.pn; have b6 := hb.i1; have b7 := hb.i2
  have c1' := hh.n1; have c2' := hh.n2; have c3' := hh.p1; have c4' := hh.p2; have c5' := hh.pn; have c6' := hh.i1; have c7' := hh.i2
  have hln : a.vals.length = n := hA.1
  have hlm : b.vals.length = m := hB.1
  have hlk : h.vals.length = k := hC.1
  rw [hln] at a1 a2 a5
  rw [hlm] at b1 b2 b5
  rw [hlk] at c1' c2' c5'
  obtain ⟨K0, hK0⟩ : ∃ K0 : Nat, K0 = ordC a b := ⟨_, rfl⟩
  obtain ⟨KC, hKC⟩ : ∃ KC : Int, KC = (K0 : Int) := ⟨_, rfl⟩
  have hKb1 : 0 ≤ KC := by omega
  have hKb2 : KC ≤ 120 := by omega
  obtain ⟨MF, hMF⟩ : ∃ MF : Nat, MF = max (cst a) (cst h) := ⟨_, rfl⟩
  obtain ⟨MG, hMG⟩ : ∃ MG : Nat, MG = max (cst b) (cst h) := ⟨_, rfl⟩
  have s1 := cst_le ha; have s2 := cst_le hb; have s3 := cst_le hh
  have hmx1 : (if (n : Int) - a.per < (k : Int) - h.per then (k : Int) - h.per else (n : Int) - a.per) = (MF : Int) := by
    rw [hMF]; unfold cst; rw [hln, hlk]; split <;> omega
  have hmx2 : (if (m : Int) - b.per < (k : Int) - h.per then (k : Int) - h.per else (m : Int) - b.per) = (MG : Int) := by
    rw [hMG]; unfold cst; rw [hlm, hlk]; split <;> omega
  obtain ⟨NF', hNF⟩ : ∃ x : Nat, x = MF + K0 := ⟨_, rfl⟩
  obtain ⟨NG, hNG⟩ : ∃ x : Nat, x = MG + K0 := ⟨_, rfl⟩
  obtain ⟨NV, hNV⟩ : ∃ x : Nat, x = NF' + NG := ⟨_, rfl⟩
  have hNF9 : NF' ≤ 520 := by omega
  have hNG9 : NG ≤ 520 := by omega
  have hNV9 : NV ≤ 1040 := by omega
  have e1 : IntKind.i64.wrap ((MF : Int) + KC) = (NF' : Int) := by rw [IntWalk.i64_in _ (by omega)]; omega
  have e2 : (MF : Int) + KC = (NF' : Int) := by omega
  have e3 : IntKind.i64.wrap (NF' : Int) = (NF' : Int) := IntWalk.i64_in _ (by omega)
  have e4 : IntKind.i64.wrap ((MG : Int) + KC) = (NG : Int) := by rw [IntWalk.i64_in _ (by omega)]; omega
  have e5 : (MG : Int) + KC = (NG : Int) := by omega
  have e6 : IntKind.i64.wrap (NG : Int) = (NG : Int) := IntWalk.i64_in _ (by omega)
  have hNVi : (NF' : Int) + (NG : Int) = (NV : Int) := by omega
  have HBS := Lib.hid (show BelowS a b h ↔ ∀ x u, x < NF' → u < NG → h.at (x + u) ≤ pl (a.at x) (b.at u) from by
    rw [hNF, hNG, hMF, hMG, hK0]; exact Iff.rfl)
  have HAO := Lib.hid ha; have HBO := Lib.hid hb; have HHO := Lib.hid hh
  rw [← hK0, ← hKC]
  have E := Lib.hid (CH.new (c := c) (d := d) (K := KC) (s := s) (h := h) hA hB hC)
  have HNV := Lib.hid hNV
  clear hA hB hC ha hb hh hln hlm hlk hK hKC hK0 hMF hMG hNF hNG s1 s2 s3 hNV
  unfold cpA at E
  unfold cpA
  go_enter Try.func99, Try.ntmps99
  go_upto_region 1 with fail
  generalize hwe : (w.alloc (.cells #[.slice A n c, .int .i64 a.per, .int .i64 a.inc, .slice B m d, .int .i64 b.per, .int .i64 b.inc, .int .i64 KC] 114)).alloc (.cells #[.slice C k s, .int .i64 h.per, .int .i64 h.inc] 31) = we at *
  clear hwe
  have E : Hid (CH w we A n c a B m d b KC C k s h) := E
  generalize (Value.agg #[.slice A n c, .int .i64 a.per, .int .i64 a.inc, .slice B m d, .int .i64 b.per, .int .i64 b.inc, .int .i64 KC]) = v0
  generalize (Value.agg #[.slice C k s, .int .i64 h.per, .int .i64 h.inc]) = v1
  obtain ⟨⟨f0, f1, f2⟩, ⟨g0, g1, g2⟩, p6, ⟨h0, h1, h2⟩, hlh⟩ := E.out.cells
  have E := Lib.hid E.out.drew
  try (have T1 := Lib.hid (RowI.drew T1.out))
  clear f0 f1 f2 g0 g1 g2 p6 h0 h1 h2 hlh
  obtain ⟨⟨f0, f1, f2⟩, ⟨g0, g1, g2⟩, p6, ⟨h0, h1, h2⟩, hlh⟩ := E.out.cells
  refine wp_region_held_drew (S := (fun w' => w'.cell? ⟨w.heap.size, 0, none⟩ = some (.slice A n c) ∧ w'.cell? ⟨w.heap.size, 1, none⟩ = some (.int .i64 a.per) ∧ w'.cell? ⟨w.heap.size, 2, none⟩ = some (.int .i64 a.inc) ∧ w'.cell? ⟨w.heap.size, 3, none⟩ = some (.slice B m d) ∧ w'.cell? ⟨w.heap.size, 4, none⟩ = some (.int .i64 b.per) ∧ w'.cell? ⟨w.heap.size, 5, none⟩ = some (.int .i64 b.inc) ∧ w'.cell? ⟨w.heap.size, 6, none⟩ = some (.int .i64 KC) ∧ w'.cell? ⟨w.heap.size + 1, 0, none⟩ = some (.slice C k s) ∧ w'.cell? ⟨w.heap.size + 1, 1, none⟩ = some (.int .i64 h.per) ∧ w'.cell? ⟨w.heap.size + 1, 2, none⟩ = some (.int .i64 h.inc))) (by kernel_rfl) (by exact ⟨f0, f1, f2, g0, g1, g2, p6, h0, h1, h2⟩) (fun hHeld => ?_)
  generalize hwd : we.drew = wd at *
  clear hwd
  refine wpAnyH_take (i := 0) (oi := _) (v := ?_) (by simp only [g8a, g8z]; rfl) (by kernel_rfl) (by kernel_rfl) (by kernel_rfl) (by exact fun _ _ _ h => h) (Or.inl ⟨by rfl, ?_⟩) (by assumption) ?_
  rotate_left 1
  · (intro w hSw; (try dsimp only at hSw); go_simp; try with_reducible rfl)
  all_goals ((try simp only [Act.put]); (try simp only [g8b]); (try simp only [g8c]); (try simp only [g8d]))
  refine wpAnyH_take (i := 1) (oi := _) (v := ?_) (by simp only [g8a, g8s, g8z]; rfl) (by kernel_rfl) (by kernel_rfl) (by kernel_rfl) (by exact fun _ _ _ h => h) (Or.inl ⟨by rfl, ?_⟩) (by assumption) ?_
  rotate_left 1
  · (intro w hSw; (try dsimp only at hSw); go_simp; try with_reducible rfl)
  all_goals ((try simp only [Act.put]); (try simp only [g8b]); (try simp only [g8c]); (try simp only [g8d]))
  refine wpAnyH_take (i := 2) (oi := _) (v := ?_) (by simp only [g8a, g8s, g8z]; rfl) (by kernel_rfl) (by kernel_rfl) (by kernel_rfl) (by exact fun _ _ _ h => h) (Or.inl ⟨by rfl, ?_⟩) (by assumption) ?_
  rotate_left 1
  · (intro w hSw; (try dsimp only at hSw); go_simp; try with_reducible rfl)
  all_goals ((try simp only [Act.put]); (try simp only [g8b]); (try simp only [g8c]); (try simp only [g8d]))
  refine wpAnyH_take (i := 3) (oi := _) (v := ?_) (by simp only [g8a, g8s, g8z]; rfl) (by kernel_rfl) (by kernel_rfl) (by kernel_rfl) (by exact fun _ _ _ h => h) (Or.inl ⟨by rfl, ?_⟩) (by assumption) ?_
  rotate_left 1
  · (intro w hSw; (try dsimp only at hSw); go_simp; try with_reducible rfl)
  all_goals ((try simp only [Act.put]); (try simp only [g8b]); (try simp only [g8c]); (try simp only [g8d]))
  refine wpAnyH_take (i := 5) (oi := _) (v := ?_) (by simp only [g8a, g8s, g8z]; rfl) (by kernel_rfl) (by kernel_rfl) (by kernel_rfl) (by exact fun _ _ _ h => h) (Or.inl ⟨by rfl, ?_⟩) (by assumption) ?_
  rotate_left 1
  · (intro w hSw; (try dsimp only at hSw); go_simp; try with_reducible rfl)
  all_goals ((try simp only [Act.put]); (try simp only [g8b]); (try simp only [g8c]); (try simp only [g8d]))
  refine wpAnyH_take (i := 8) (oi := _) (v := ?_) (by simp only [g8a, g8s, g8z]; rfl) (by kernel_rfl) (by kernel_rfl) (by kernel_rfl) (by exact fun _ _ _ h => h) (Or.inl ⟨by rfl, ?_⟩) (by assumption) ?_
  rotate_left 1
  · (intro w hSw; (try dsimp only at hSw); go_simp; try with_reducible rfl)
  all_goals ((try simp only [Act.put]); (try simp only [g8b]); (try simp only [g8c]); (try simp only [g8d]))
  refine wpAnyH_take (i := 9) (oi := _) (v := ?_) (by simp only [g8a, g8s, g8z]; rfl) (by kernel_rfl) (by kernel_rfl) (by kernel_rfl) (by exact fun _ _ _ h => h) (Or.inl ⟨by rfl, ?_⟩) (by assumption) ?_
  rotate_left 1
  · (intro w hSw; (try dsimp only at hSw); go_simp; try with_reducible rfl)
  all_goals ((try simp only [Act.put]); (try simp only [g8b]); (try simp only [g8c]); (try simp only [g8d]))
  refine wpAnyH_ready (rs := [4]) (by kernel_rfl) (by simp) ?_
  refine (AllReadyH.cons (by simp only [g8a, g8s, g8z]; rfl) (fun K hK => ?_) AllReadyH.nil)
  rw [if_pos (by rfl)]
  go_simp
  refine (start_any A n c a.per a.inc _ (by omega) (by omega) (by omega)).mono ?_
  rintro e wf ⟨rfl, hb⟩
  replace E := Lib.hid (E.out.below hb)
  try (have T1 := Lib.hid (T1.out.below hb T1.out.lt))
  try (have T2 := Lib.hid (T2.out.below hb T2.out.lt))
  clear hb
  try clear hHeld
  clear f0 f1 f2 g0 g1 g2 p6 h0 h1 h2 hlh
  obtain ⟨⟨f0, f1, f2⟩, ⟨g0, g1, g2⟩, p6, ⟨h0, h1, h2⟩, hlh⟩ := E.out.cells
  refine hK.out _ _ (by exact ⟨f0, f1, f2, g0, g1, g2, p6, h0, h1, h2⟩) (fun hHeld => ?_)
  clear hK K
  (try simp only [Act.put]); (try simp only [g8b]); (try simp only [g8c]); (try simp only [g8d])
  refine wpAnyH_ready (rs := [6]) (by kernel_rfl) (by simp) ?_
  refine (AllReadyH.cons (by simp only [g8a, g8s, g8z]; rfl) (fun K hK => ?_) AllReadyH.nil)
  rw [if_pos (by rfl)]
  go_simp
  refine (start_any C k s h.per h.inc _ (by omega) (by omega) (by omega)).mono ?_
  rintro e wg ⟨rfl, hb⟩
  replace E := Lib.hid (E.out.below hb)
  try (have T1 := Lib.hid (T1.out.below hb T1.out.lt))
  try (have T2 := Lib.hid (T2.out.below hb T2.out.lt))
  clear hb
  try clear hHeld
  clear f0 f1 f2 g0 g1 g2 p6 h0 h1 h2 hlh
  obtain ⟨⟨f0, f1, f2⟩, ⟨g0, g1, g2⟩, p6, ⟨h0, h1, h2⟩, hlh⟩ := E.out.cells
  refine hK.out _ _ (by exact ⟨f0, f1, f2, g0, g1, g2, p6, h0, h1, h2⟩) (fun hHeld => ?_)
  clear hK K
  (try simp only [Act.put]); (try simp only [g8b]); (try simp only [g8c]); (try simp only [g8d])
  refine wpAnyH_ready (rs := [7]) (by kernel_rfl) (by simp) ?_
  refine (AllReadyH.cons (by simp only [g8a, g8s, g8z]; rfl) (fun K hK => ?_) AllReadyH.nil)
  rw [if_pos (by rfl)]
  go_simp
  refine hK.out _ _ (by exact ⟨f0, f1, f2, g0, g1, g2, p6, h0, h1, h2⟩) (fun hHeld => ?_)
  clear hK K
  (try simp only [Act.put]); (try simp only [g8b]); (try simp only [g8c]); (try simp only [g8d])
  refine wpAnyH_take (i := 10) (oi := _) (v := ?_) (by simp only [g8a, g8s, g8z]; rfl) (by kernel_rfl) (by kernel_rfl) (by kernel_rfl) (by exact fun _ _ _ h => h) (Or.inl ⟨by rfl, ?_⟩) (by assumption) ?_
  rotate_left 1
  · (intro w hSw; (try dsimp only at hSw); go_simp; try with_reducible rfl)
  all_goals ((try simp only [Act.put]); (try simp only [g8b]); (try simp only [g8c]); (try simp only [g8d]))
  refine wpAnyH_ready (rs := [11]) (by kernel_rfl) (by simp) ?_
  refine (AllReadyH.cons (by simp only [g8a, g8s, g8z]; rfl) (fun K hK => ?_) AllReadyH.nil)
  rw [if_pos (by rfl)]
  go_simp
  refine (table_any A n c a.per a.inc NF' a.vals _ (by exact E.out.ja) (by exact HAO.out) (by omega)).mono ?_
  rintro e wt ⟨q1', rfl, hT, hq, hb⟩
  have T1 := Lib.hid hT
  clear hT hq hmx1 e1 e2 e3
  replace E := Lib.hid (E.out.below hb)
  clear hb hHeld
  clear f0 f1 f2 g0 g1 g2 p6 h0 h1 h2 hlh
  obtain ⟨⟨f0, f1, f2⟩, ⟨g0, g1, g2⟩, p6, ⟨h0, h1, h2⟩, hlh⟩ := E.out.cells
  refine hK.out _ _ (by exact ⟨f0, f1, f2, g0, g1, g2, p6, h0, h1, h2⟩) (fun hHeld => ?_)
  clear hK K
  (try simp only [Act.put]); (try simp only [g8b]); (try simp only [g8c]); (try simp only [g8d])
  refine wpAnyH_take (i := 12) (oi := _) (v := ?_) (by simp only [g8a, g8s, g8z]; rfl) (by kernel_rfl) (by kernel_rfl) (by kernel_rfl) (by exact fun _ _ _ h => h) (Or.inl ⟨by rfl, ?_⟩) (by assumption) ?_
  rotate_left 1
  · (intro w hSw; (try dsimp only at hSw); go_simp; try with_reducible rfl)
  all_goals ((try simp only [Act.put]); (try simp only [g8b]); (try simp only [g8c]); (try simp only [g8d]))
  refine wpAnyH_done (by kernel_rfl) ?_ _
  try clear hHeld
  go_upto_region 2 with fail
  have E := Lib.hid E.out.drew
  try (have T1 := Lib.hid (RowI.drew T1.out))
  clear f0 f1 f2 g0 g1 g2 p6 h0 h1 h2 hlh
  obtain ⟨⟨f0, f1, f2⟩, ⟨g0, g1, g2⟩, p6, ⟨h0, h1, h2⟩, hlh⟩ := E.out.cells
  refine wp_region_held_drew (S := (fun w' => w'.cell? ⟨w.heap.size, 0, none⟩ = some (.slice A n c) ∧ w'.cell? ⟨w.heap.size, 1, none⟩ = some (.int .i64 a.per) ∧ w'.cell? ⟨w.heap.size, 2, none⟩ = some (.int .i64 a.inc) ∧ w'.cell? ⟨w.heap.size, 3, none⟩ = some (.slice B m d) ∧ w'.cell? ⟨w.heap.size, 4, none⟩ = some (.int .i64 b.per) ∧ w'.cell? ⟨w.heap.size, 5, none⟩ = some (.int .i64 b.inc) ∧ w'.cell? ⟨w.heap.size, 6, none⟩ = some (.int .i64 KC) ∧ w'.cell? ⟨w.heap.size + 1, 0, none⟩ = some (.slice C k s) ∧ w'.cell? ⟨w.heap.size + 1, 1, none⟩ = some (.int .i64 h.per) ∧ w'.cell? ⟨w.heap.size + 1, 2, none⟩ = some (.int .i64 h.inc))) (by kernel_rfl) (by exact ⟨f0, f1, f2, g0, g1, g2, p6, h0, h1, h2⟩) (fun hHeld => ?_)
  generalize hwd : wt.drew = wd at *
  clear hwd
  refine wpAnyH_take (i := 0) (oi := _) (v := ?_) (by simp only [g8a, g8z]; rfl) (by kernel_rfl) (by kernel_rfl) (by kernel_rfl) (by exact fun _ _ _ h => h) (Or.inl ⟨by rfl, ?_⟩) (by assumption) ?_
  rotate_left 1
  · (intro w hSw; (try dsimp only at hSw); go_simp; try with_reducible rfl)
  all_goals ((try simp only [Act.put]); (try simp only [g8b]); (try simp only [g8c]); (try simp only [g8d]))
  refine wpAnyH_take (i := 1) (oi := _) (v := ?_) (by simp only [g8a, g8s, g8z]; rfl) (by kernel_rfl) (by kernel_rfl) (by kernel_rfl) (by exact fun _ _ _ h => h) (Or.inl ⟨by rfl, ?_⟩) (by assumption) ?_
  rotate_left 1
  · (intro w hSw; (try dsimp only at hSw); go_simp; try with_reducible rfl)
  all_goals ((try simp only [Act.put]); (try simp only [g8b]); (try simp only [g8c]); (try simp only [g8d]))
  refine wpAnyH_take (i := 2) (oi := _) (v := ?_) (by simp only [g8a, g8s, g8z]; rfl) (by kernel_rfl) (by kernel_rfl) (by kernel_rfl) (by exact fun _ _ _ h => h) (Or.inl ⟨by rfl, ?_⟩) (by assumption) ?_
  rotate_left 1
  · (intro w hSw; (try dsimp only at hSw); go_simp; try with_reducible rfl)
  all_goals ((try simp only [Act.put]); (try simp only [g8b]); (try simp only [g8c]); (try simp only [g8d]))
  refine wpAnyH_take (i := 3) (oi := _) (v := ?_) (by simp only [g8a, g8s, g8z]; rfl) (by kernel_rfl) (by kernel_rfl) (by kernel_rfl) (by exact fun _ _ _ h => h) (Or.inl ⟨by rfl, ?_⟩) (by assumption) ?_
  rotate_left 1
  · (intro w hSw; (try dsimp only at hSw); go_simp; try with_reducible rfl)
  all_goals ((try simp only [Act.put]); (try simp only [g8b]); (try simp only [g8c]); (try simp only [g8d]))
  refine wpAnyH_take (i := 5) (oi := _) (v := ?_) (by simp only [g8a, g8s, g8z]; rfl) (by kernel_rfl) (by kernel_rfl) (by kernel_rfl) (by exact fun _ _ _ h => h) (Or.inl ⟨by rfl, ?_⟩) (by assumption) ?_
  rotate_left 1
  · (intro w hSw; (try dsimp only at hSw); go_simp; try with_reducible rfl)
  all_goals ((try simp only [Act.put]); (try simp only [g8b]); (try simp only [g8c]); (try simp only [g8d]))
  refine wpAnyH_take (i := 8) (oi := _) (v := ?_) (by simp only [g8a, g8s, g8z]; rfl) (by kernel_rfl) (by kernel_rfl) (by kernel_rfl) (by exact fun _ _ _ h => h) (Or.inl ⟨by rfl, ?_⟩) (by assumption) ?_
  rotate_left 1
  · (intro w hSw; (try dsimp only at hSw); go_simp; try with_reducible rfl)
  all_goals ((try simp only [Act.put]); (try simp only [g8b]); (try simp only [g8c]); (try simp only [g8d]))
  refine wpAnyH_take (i := 9) (oi := _) (v := ?_) (by simp only [g8a, g8s, g8z]; rfl) (by kernel_rfl) (by kernel_rfl) (by kernel_rfl) (by exact fun _ _ _ h => h) (Or.inl ⟨by rfl, ?_⟩) (by assumption) ?_
  rotate_left 1
  · (intro w hSw; (try dsimp only at hSw); go_simp; try with_reducible rfl)
  all_goals ((try simp only [Act.put]); (try simp only [g8b]); (try simp only [g8c]); (try simp only [g8d]))
  refine wpAnyH_ready (rs := [4]) (by kernel_rfl) (by simp) ?_
  refine (AllReadyH.cons (by simp only [g8a, g8s, g8z]; rfl) (fun K hK => ?_) AllReadyH.nil)
  rw [if_pos (by rfl)]
  go_simp
  refine (start_any B m d b.per b.inc _ (by omega) (by omega) (by omega)).mono ?_
  rintro e wf ⟨rfl, hb⟩
  replace E := Lib.hid (E.out.below hb)
  try (have T1 := Lib.hid (T1.out.below hb T1.out.lt))
  try (have T2 := Lib.hid (T2.out.below hb T2.out.lt))
  clear hb
  try clear hHeld
  clear f0 f1 f2 g0 g1 g2 p6 h0 h1 h2 hlh
  obtain ⟨⟨f0, f1, f2⟩, ⟨g0, g1, g2⟩, p6, ⟨h0, h1, h2⟩, hlh⟩ := E.out.cells
  refine hK.out _ _ (by exact ⟨f0, f1, f2, g0, g1, g2, p6, h0, h1, h2⟩) (fun hHeld => ?_)
  clear hK K
  (try simp only [Act.put]); (try simp only [g8b]); (try simp only [g8c]); (try simp only [g8d])
  refine wpAnyH_ready (rs := [6]) (by kernel_rfl) (by simp) ?_
  refine (AllReadyH.cons (by simp only [g8a, g8s, g8z]; rfl) (fun K hK => ?_) AllReadyH.nil)
  rw [if_pos (by rfl)]
  go_simp
  refine (start_any C k s h.per h.inc _ (by omega) (by omega) (by omega)).mono ?_
  rintro e wg ⟨rfl, hb⟩
  replace E := Lib.hid (E.out.below hb)
  try (have T1 := Lib.hid (T1.out.below hb T1.out.lt))
  try (have T2 := Lib.hid (T2.out.below hb T2.out.lt))
  clear hb
  try clear hHeld
  clear f0 f1 f2 g0 g1 g2 p6 h0 h1 h2 hlh
  obtain ⟨⟨f0, f1, f2⟩, ⟨g0, g1, g2⟩, p6, ⟨h0, h1, h2⟩, hlh⟩ := E.out.cells
  refine hK.out _ _ (by exact ⟨f0, f1, f2, g0, g1, g2, p6, h0, h1, h2⟩) (fun hHeld => ?_)
  clear hK K
  (try simp only [Act.put]); (try simp only [g8b]); (try simp only [g8c]); (try simp only [g8d])
  refine wpAnyH_ready (rs := [7]) (by kernel_rfl) (by simp) ?_
  refine (AllReadyH.cons (by simp only [g8a, g8s, g8z]; rfl) (fun K hK => ?_) AllReadyH.nil)
  rw [if_pos (by rfl)]
  go_simp
  refine hK.out _ _ (by exact ⟨f0, f1, f2, g0, g1, g2, p6, h0, h1, h2⟩) (fun hHeld => ?_)
  clear hK K
  (try simp only [Act.put]); (try simp only [g8b]); (try simp only [g8c]); (try simp only [g8d])
  refine wpAnyH_take (i := 10) (oi := _) (v := ?_) (by simp only [g8a, g8s, g8z]; rfl) (by kernel_rfl) (by kernel_rfl) (by kernel_rfl) (by exact fun _ _ _ h => h) (Or.inl ⟨by rfl, ?_⟩) (by assumption) ?_
  rotate_left 1
  · (intro w hSw; (try dsimp only at hSw); go_simp; try with_reducible rfl)
  all_goals ((try simp only [Act.put]); (try simp only [g8b]); (try simp only [g8c]); (try simp only [g8d]))
  refine wpAnyH_ready (rs := [11]) (by kernel_rfl) (by simp) ?_
  refine (AllReadyH.cons (by simp only [g8a, g8s, g8z]; rfl) (fun K hK => ?_) AllReadyH.nil)
  rw [if_pos (by rfl)]
  go_simp
  refine (table_any B m d b.per b.inc NG b.vals _ (by exact E.out.jb) (by exact HBO.out) (by omega)).mono ?_
  rintro e wt ⟨q2', rfl, hT, hq, hb⟩
  have T2 := Lib.hid hT
  clear hT hq hmx2 e4 e5 e6
  replace E := Lib.hid (E.out.below hb)
  have T1 := Lib.hid (T1.out.below hb T1.out.lt)
  clear hb hHeld
  clear f0 f1 f2 g0 g1 g2 p6 h0 h1 h2 hlh
  obtain ⟨⟨f0, f1, f2⟩, ⟨g0, g1, g2⟩, p6, ⟨h0, h1, h2⟩, hlh⟩ := E.out.cells
  refine hK.out _ _ (by exact ⟨f0, f1, f2, g0, g1, g2, p6, h0, h1, h2⟩) (fun hHeld => ?_)
  clear hK K
  (try simp only [Act.put]); (try simp only [g8b]); (try simp only [g8c]); (try simp only [g8d])
  refine wpAnyH_take (i := 12) (oi := _) (v := ?_) (by simp only [g8a, g8s, g8z]; rfl) (by kernel_rfl) (by kernel_rfl) (by kernel_rfl) (by exact fun _ _ _ h => h) (Or.inl ⟨by rfl, ?_⟩) (by assumption) ?_
  rotate_left 1
  · (intro w hSw; (try dsimp only at hSw); go_simp; try with_reducible rfl)
  all_goals ((try simp only [Act.put]); (try simp only [g8b]); (try simp only [g8c]); (try simp only [g8d]))
  refine wpAnyH_done (by kernel_rfl) ?_ _
  try clear hHeld
  go_wp2_with fail
  refine (table_any C k s h.per h.inc NV h.vals _ (by exact E.out.jc) (by exact HHO.out) (by omega)).mono ?_
  rintro e wv ⟨q3', rfl, hT, hq, hb⟩
  have T3 := Lib.hid hT
  clear hT hq
  replace E := Lib.hid (E.out.below hb)
  try (have T1 := Lib.hid (T1.out.below hb T1.out.lt))
  try (have T2 := Lib.hid (T2.out.below hb T2.out.lt))
  clear hb
  try clear hHeld
  clear f0 f1 f2 g0 g1 g2 p6 h0 h1 h2 hlh
  obtain ⟨⟨f0, f1, f2⟩, ⟨g0, g1, g2⟩, p6, ⟨h0, h1, h2⟩, hlh⟩ := E.out.cells
  clear hNVi
  clear f0 f1 f2 g0 g1 g2 p6 h0 h1 h2 hlh
  go_wp2_with fail
  go_loopg [8, 9, 10, 11, 45] NF' (fun gg s8 s9 s10 s11 s45 wx => ∃ x : Nat, x + gg = NF' ∧ s45 = .int .i64 x ∧ (∀ x' u, x' < x → u < NG → h.at (x' + u) ≤ pl (a.at x') (b.at u)) ∧ RowI wx q1' (tab a.at 0 NF') ∧ RowI wx q2' (tab b.at 0 NG) ∧ RowI wx q3' (tab h.at 0 NV) ∧ Below w.heap.size w wx)
  case atStart => exact ⟨0, by omega, rfl, (fun x' u hx => by omega), T1.out, T2.out, T3.out, E.out.bw⟩
  case round =>
    clear E T1 T2 T3
    obtain ⟨x, hxg, rfl, hgood, hT1, hT2, hT3, hbw⟩ := hrel
    have T1 := Lib.hid hT1; have T2 := Lib.hid hT2; have T3 := Lib.hid hT3; have BW := Lib.hid hbw; have HG := Lib.hid hgood
    clear hT1 hT2 hT3 hbw hgood
    obtain ⟨go, hgo⟩ : ∃ go : Nat, go = gk := ⟨_, rfl⟩
    subst hgo
    by_cases hx : x < NF'
    · have hxi : (x : Int) < NF' := by omega
      have t1 := T1.out.cell x (by rw [tab_length]; exact hx)
      rw [tab_nth _ _ _ _ hx, Nat.zero_add] at t1
      obtain ⟨av, hav⟩ : ∃ av, av = a.at x := ⟨_, rfl⟩
      rw [← hav] at t1
      have nx := at_near HAO.out (t := x) (by omega)
      rw [← hav] at nx
      have NX := Lib.hid nx; have HAV := Lib.hid hav
      have hl1 := T1.out.lt
      clear nx hav
      go_wp2_with fail
      clear t1 hl1
      go_loopg [10, 11, 52] NG (fun gg s10 s11 s52 wx => ∃ u : Nat, u + gg = NG ∧ s52 = .int .i64 u ∧ (∀ u', u' < u → h.at (x + u') ≤ pl (a.at x) (b.at u')) ∧ RowI wx q1' (tab a.at 0 NF') ∧ RowI wx q2' (tab b.at 0 NG) ∧ RowI wx q3' (tab h.at 0 NV) ∧ Below w.heap.size w wx)
      case atStart => exact ⟨0, by omega, rfl, (fun u' hu => by omega), T1.out, T2.out, T3.out, BW.out⟩
      case round =>
        clear BW T1 T2 T3
        obtain ⟨u, hug, rfl, hgood, hT1, hT2, hT3, hbw⟩ := hrel
        have T1 := Lib.hid hT1; have T2 := Lib.hid hT2; have T3 := Lib.hid hT3; have BW := Lib.hid hbw; have HU := Lib.hid hgood
        clear hT1 hT2 hT3 hbw hgood
        by_cases hu : u < NG
        · have hui : (u : Int) < NG := by omega
          have t2 := T2.out.cell u (by rw [tab_length]; exact hu)
          rw [tab_nth _ _ _ _ hu, Nat.zero_add] at t2
          obtain ⟨bv, hbv⟩ : ∃ bv, bv = b.at u := ⟨_, rfl⟩
          rw [← hbv] at t2
          have ny := at_near HBO.out (t := u) (by omega)
          rw [← hbv] at ny
          have NY := Lib.hid ny; have HBV := Lib.hid hbv
          have hl2 := T2.out.lt
          clear ny hbv
          obtain ⟨y, hy⟩ : ∃ y : Nat, y = x + u := ⟨_, rfl⟩
          have hyV : y < NV := by have := HNV.out; omega
          have hyVi : (y : Int) < NV := by omega
          have hy0 : 0 ≤ (y : Int) := by omega
          have ey1 : IntKind.i64.wrap ((x : Int) + (u : Int)) = (y : Int) := by rw [IntWalk.i64_in _ (by omega)]; omega
          have ey2 : (x : Int) + (u : Int) = (y : Int) := by omega
          have ey3 : IntKind.i64.wrap (y : Int) = (y : Int) := IntWalk.i64_in _ (by omega)
          have HY := Lib.hid hy
          clear hy
          have t3 := T3.out.cell y (by rw [tab_length]; exact hyV)
          rw [tab_nth _ _ _ _ hyV, Nat.zero_add] at t3
          obtain ⟨hv, hhv⟩ : ∃ hv, hv = h.at y := ⟨_, rfl⟩
          rw [← hhv] at t3
          have HHV := Lib.hid hhv
          have hl3 := T3.out.lt
          clear hhv
          obtain ⟨pv, hpv⟩ : ∃ pv, pv = pl av bv := ⟨_, rfl⟩
          have HP := Lib.hid hpv
          clear hpv
          go_upto_region 10 with fail
          have T1 := Lib.hid (RowI.drew T1.out); have T2 := Lib.hid (RowI.drew T2.out); have T3 := Lib.hid (RowI.drew T3.out); have BW := Lib.hid (Below.drew BW.out)
          have t3 := T3.out.cell y (by rw [tab_length]; exact hyV)
          rw [tab_nth _ _ _ _ hyV, Nat.zero_add, ← HHV.out] at t3
          have hl3 := T3.out.lt
          refine wp_region_held_drew (S := (fun w' => w'.cell? ⟨q3', y, none⟩ = some (.int .i64 hv))) (by kernel_rfl) t3 (fun hHeld => ?_)
          clear t2 hl2
          generalize hwd : wr.drew = wd at *
          clear hwd
          refine wpAnyH_take (i := 0) (oi := _) (v := ?_) (by simp only [g8a, g8z]; rfl) (by kernel_rfl) (by kernel_rfl) (by kernel_rfl) (by exact fun _ _ _ h => h) (Or.inl ⟨by rfl, ?_⟩) (by assumption) ?_
          rotate_left 1
          · (intro w hSw; (try dsimp only at hSw); go_simp; try with_reducible rfl)
          all_goals ((try simp only [Act.put]); (try simp only [g8b]); (try simp only [g8c]); (try simp only [g8d]))
          refine wpAnyH_take (i := 1) (oi := _) (v := ?_) (by simp only [g8a, g8s, g8z]; rfl) (by kernel_rfl) (by kernel_rfl) (by kernel_rfl) (by exact fun _ _ _ h => h) (Or.inl ⟨by rfl, ?_⟩) (by assumption) ?_
          rotate_left 1
          · (intro w hSw; (try dsimp only at hSw); go_simp; try with_reducible rfl)
          all_goals ((try simp only [Act.put]); (try simp only [g8b]); (try simp only [g8c]); (try simp only [g8d]))
          refine wpAnyH_take (i := 2) (oi := _) (v := ?_) (by simp only [g8a, g8s, g8z]; rfl) (by kernel_rfl) (by kernel_rfl) (by kernel_rfl) (by exact fun _ _ _ h => h) (Or.inl ⟨by rfl, ?_⟩) (by assumption) ?_
          rotate_left 1
          · (intro w hSw; (try dsimp only at hSw); go_simp; try with_reducible rfl)
          all_goals ((try simp only [Act.put]); (try simp only [g8b]); (try simp only [g8c]); (try simp only [g8d]))
          refine wpAnyH_take (i := 3) (oi := _) (v := ?_) (by simp only [g8a, g8s, g8z]; rfl) (by kernel_rfl) (by kernel_rfl) (by kernel_rfl) (by exact fun _ _ _ h => h) (Or.inl ⟨by rfl, ?_⟩) (by assumption) ?_
          rotate_left 1
          · (intro w hSw; (try dsimp only at hSw); go_simp; try with_reducible rfl)
          all_goals ((try simp only [Act.put]); (try simp only [g8b]); (try simp only [g8c]); (try simp only [g8d]))
          refine wpAnyH_take (i := 4) (oi := _) (v := ?_) (by simp only [g8a, g8s, g8z]; rfl) (by kernel_rfl) (by kernel_rfl) (by kernel_rfl) (by exact fun _ _ _ h => h) (Or.inl ⟨by rfl, ?_⟩) (by assumption) ?_
          rotate_left 1
          · (intro w hSw; (try dsimp only at hSw); go_simp; try with_reducible rfl)
          all_goals ((try simp only [Act.put]); (try simp only [g8b]); (try simp only [g8c]); (try simp only [g8d]))
          refine wpAnyH_take (i := 5) (oi := _) (v := ?_) (by simp only [g8a, g8s, g8z]; rfl) (by kernel_rfl) (by kernel_rfl) (by kernel_rfl) (by exact fun _ _ _ h => h) (Or.inl ⟨by rfl, ?_⟩) (by assumption) ?_
          rotate_left 1
          · (intro w hSw; (try dsimp only at hSw); go_simp; try with_reducible rfl)
          all_goals ((try simp only [Act.put]); (try simp only [g8b]); (try simp only [g8c]); (try simp only [g8d]))
          refine wpAnyH_take (i := 6) (oi := _) (v := ?_) (by simp only [g8a, g8s, g8z]; rfl) (by kernel_rfl) (by kernel_rfl) (by kernel_rfl) (by exact fun _ _ _ h => h) (Or.inl ⟨by rfl, ?_⟩) (by assumption) ?_
          rotate_left 1
          · (intro w hSw; (try dsimp only at hSw); go_simp; try with_reducible rfl)
          all_goals ((try simp only [Act.put]); (try simp only [g8b]); (try simp only [g8c]); (try simp only [g8d]))
          refine wpAnyH_take (i := 7) (oi := _) (v := ?_) (by simp only [g8a, g8s, g8z]; rfl) (by kernel_rfl) (by kernel_rfl) (by kernel_rfl) (by exact fun _ _ _ h => h) (Or.inl ⟨by rfl, ?_⟩) (by assumption) ?_
          rotate_left 1
          · (intro w hSw; (try dsimp only at hSw); go_simp; try with_reducible rfl)
          all_goals ((try simp only [Act.put]); (try simp only [g8b]); (try simp only [g8c]); (try simp only [g8d]))
          clear ey1 ey2 ey3
          refine wpAnyH_ready (rs := [8]) (by kernel_rfl) (by simp) ?_
          refine (AllReadyH.cons (by simp only [g8a, g8s, g8z]; rfl) (fun K hK => ?_) AllReadyH.nil)
          rw [if_pos (by rfl)]
          go_simp
          refine (plus_any av bv wd (by exact NX.out.1) (by exact NX.out.2) (by exact NY.out.1) (by exact NY.out.2)).mono ?_
          rw [← HP.out]
          rintro e wa ⟨rfl, rfl⟩
          refine hK.out _ _ (by exact t3) (fun hHeld => ?_)
          clear hK K
          (try simp only [Act.put]); (try simp only [g8b]); (try simp only [g8c]); (try simp only [g8d])
          by_cases hgt : pv < hv
          case pos =>
            have dt : decide (hv > pv) = true := by simpa using hgt
            have dt2 : decide (pv < hv) = true := by simpa using hgt
            have HGT := Lib.hid hgt
            clear hgt
            refine wpAnyH_take (i := 9) (oi := _) (v := ?_) (by simp only [g8a, g8s, g8z]; rfl) (by kernel_rfl) (by kernel_rfl) (by kernel_rfl) (by exact fun _ _ _ h => h) (Or.inl ⟨by rfl, ?_⟩) (by assumption) ?_
            rotate_left 1
            · (intro w hSw; (try dsimp only at hSw); go_simp; try with_reducible rfl)
            all_goals ((try simp only [Act.put]); (try simp only [g8b]); (try simp only [g8c]); (try simp only [g8d]))
            refine wpAnyH_done (by kernel_rfl) ?_ _
            clear hHeld t3 hl3
            have FIN := Lib.hid (show ¬ BelowS a b h from fun hc => by
              have h1 := HBS.out.1 hc x u hx hu
              rw [← HY.out, ← HHV.out, ← HAV.out, ← HBV.out, ← HP.out] at h1
              have := HGT.out
              omega)
            have bw := BW.out
            go_wp2_with fail
            try rw [Exit.noGoto_ret]
            go_ret
            exact RetQ.no FIN.out bw
          case neg =>
            have dt : decide (hv > pv) = false := by simpa using hgt
            have dt2 : decide (pv < hv) = false := by simpa using hgt
            have HGT := Lib.hid hgt
            clear hgt
            refine wpAnyH_take (i := 9) (oi := _) (v := ?_) (by simp only [g8a, g8s, g8z]; rfl) (by kernel_rfl) (by kernel_rfl) (by kernel_rfl) (by exact fun _ _ _ h => h) (Or.inl ⟨by rfl, ?_⟩) (by assumption) ?_
            rotate_left 1
            · (intro w hSw; (try dsimp only at hSw); go_simp; try with_reducible rfl)
            all_goals ((try simp only [Act.put]); (try simp only [g8b]); (try simp only [g8c]); (try simp only [g8d]))
            refine wpAnyH_done (by kernel_rfl) ?_ _
            clear hHeld t3 hl3
            have GD := Lib.hid (show ∀ u', u' < u + 1 → h.at (x + u') ≤ pl (a.at x) (b.at u') from fun u' hu' => by
              rcases Nat.lt_or_ge u' u with h1 | h1
              · exact HU.out u' h1
              · have e : u' = u := by omega
                rw [e, ← HY.out, ← HHV.out, ← HAV.out, ← HBV.out, ← HP.out]
                have := HGT.out
                omega)
            go_wp2_with fail
            go_roundg (gk - 1)
            case measure => omega
            case rel => exact ⟨u + 1, by omega, by go_num, GD.out, T1.out, T2.out, T3.out, BW.out⟩
        · have huN : u = NG := by omega
          have GD := Lib.hid (show ∀ x' u', x' < x + 1 → u' < NG → h.at (x' + u') ≤ pl (a.at x') (b.at u') from fun x' u' hx' hu' => by
            rcases Nat.lt_or_ge x' x with h1 | h1
            · exact HG.out x' u' h1 hu'
            · have e : x' = x := by omega
              rw [e]; exact HU.out u' (by omega))
          go_wp2_with fail
          go_roundg (go - 1)
          case measure => omega
          case rel => exact ⟨x + 1, by omega, by go_num, GD.out, T1.out, T2.out, T3.out, BW.out⟩
    · have hxN : x = NF' := by omega
      have FIN := Lib.hid (show BelowS a b h from HBS.out.2 fun x' u' h1 h2 => HG.out x' u' (by omega) h2)
      have bw := BW.out
      go_wp2_with fail
      try rw [Exit.noGoto_ret]
      go_ret
      exact RetQ.yes FIN.out bw
end Go.Proofs.Ytbkimphcmmmaiaa
