/- convolution.Check: the walk. -/
import Derived.Test.YtaejfleahamapaaGreatTc30
import Derived.Test.YtaejfleahamapaaGreatTc31
import Derived.Test.YtaejfleahamapaaGreatTc2
namespace Go.Proofs.YtaejfleahamapaaGreat
open Go.RowKit
set_option linter.unusedVariables false

set_option maxHeartbeats 4000000 in
set_option maxRecDepth 100000 in
theorem cpbel_any (A B C : Option Addr) (n m k c d s : Nat) (a b h : Cv) (w : World) (hA : Ints w w.heap.size A n a.vals) (hB : Ints w w.heap.size B m b.vals) (hC : Ints w w.heap.size C k h.vals) (ha : a.Ok) (hb : b.Ok) (hh : h.Ok) (hK : ordC a b ≤ 120) :
    Calls Tryz.prog 57 #[.agg (cpA A n c a B m d b (ordC a b : Nat)), .agg #[.slice C k s, .int .i64 h.per, .int .i64 h.inc]] w (RetQ (BelowS a b h) w) := by
  have a1 := ha.n1; have a2 := ha.n2; have a3 := ha.p1; have a4 := ha.p2; have a5 := ha.pn; have a6 := ha.i1; have a7 := ha.i2
  have b1 := hb.n1; have b2 := hb.n2; have b3 := hb.p1; have b4 := hb.p2; have b5 := hb.pn; have b6 := hb.i1; have b7 := hb.i2
  have c1' := hh.n1; have c2' := hh.n2; have c3' := hh.p1; have c4' := hh.p2; have c5' := hh.pn; have c6' := hh.i1; have c7' := hh.i2
  have hln : a.vals.length = n := hA.1
  have hlm : b.vals.length = m := hB.1
  have hlk : h.vals.length = k := hC.1
  rw [hln] at a1 a2 a5
  rw [hlm] at b1 b2 b5
  rw [hlk] at c1' c2' c5'
  obtain ⟨K0, hK0⟩ : ∃ K0 : Nat, K0 = ordC a b := ⟨_, rfl⟩
  obtain ⟨KC, hKC⟩ : ∃ KC : Int, KC = (K0 : Int) := ⟨_, rfl⟩
  have hKb1 : 0 ≤ KC := by omega
  have hKb2 : KC ≤ 120 := by omega
  obtain ⟨MF, hMF⟩ : ∃ MF : Nat, MF = max (cst a) (cst h) := ⟨_, rfl⟩
  obtain ⟨MG, hMG⟩ : ∃ MG : Nat, MG = max (cst b) (cst h) := ⟨_, rfl⟩
  have s1 := cst_le ha; have s2 := cst_le hb; have s3 := cst_le hh
  have hmx1 : (if (n : Int) - a.per < (k : Int) - h.per then (k : Int) - h.per else (n : Int) - a.per) = (MF : Int) := by
    rw [hMF]; unfold cst; rw [hln, hlk]; split <;> omega
  have hmx2 : (if (m : Int) - b.per < (k : Int) - h.per then (k : Int) - h.per else (m : Int) - b.per) = (MG : Int) := by
    rw [hMG]; unfold cst; rw [hlm, hlk]; split <;> omega
  obtain ⟨NF', hNF⟩ : ∃ x : Nat, x = MF + K0 := ⟨_, rfl⟩
  obtain ⟨NG, hNG⟩ : ∃ x : Nat, x = MG + K0 := ⟨_, rfl⟩
  obtain ⟨NV, hNV⟩ : ∃ x : Nat, x = NF' + NG := ⟨_, rfl⟩
  have hNF9 : NF' ≤ 520 := by omega
  have hNG9 : NG ≤ 520 := by omega
  have hNV9 : NV ≤ 1040 := by omega
  have e1 : IntKind.i64.wrap ((MF : Int) + KC) = (NF' : Int) := by rw [IntWalk.i64_in _ (by omega)]; omega
  have e2 : (MF : Int) + KC = (NF' : Int) := by omega
  have e3 : IntKind.i64.wrap (NF' : Int) = (NF' : Int) := IntWalk.i64_in _ (by omega)
  have e4 : IntKind.i64.wrap ((MG : Int) + KC) = (NG : Int) := by rw [IntWalk.i64_in _ (by omega)]; omega
  have e5 : (MG : Int) + KC = (NG : Int) := by omega
  have e6 : IntKind.i64.wrap (NG : Int) = (NG : Int) := IntWalk.i64_in _ (by omega)
  have hNVi : (NF' : Int) + (NG : Int) = (NV : Int) := by omega
  have HBS := Lib.hid (show BelowS a b h ↔ ∀ x u, x < NF' → u < NG → h.at (x + u) ≤ pl (a.at x) (b.at u) from by
    rw [hNF, hNG, hMF, hMG, hK0]; exact Iff.rfl)
  have HAO := Lib.hid ha; have HBO := Lib.hid hb; have HHO := Lib.hid hh
  rw [← hK0, ← hKC]
  have E := Lib.hid (CH.new (c := c) (d := d) (K := KC) (s := s) (h := h) hA hB hC)
  have HNV := Lib.hid hNV
  clear hA hB hC ha hb hh hln hlm hlk hK hKC hK0 hMF hMG hNF hNG s1 s2 s3 hNV
  unfold cpA at E
  unfold cpA
  go_enter Tryz.func57, Tryz.ntmps57
  go_upto_region 1 with fail
  generalize hwe : (w.alloc (.cells #[.slice A n c, .int .i64 a.per, .int .i64 a.inc, .slice B m d, .int .i64 b.per, .int .i64 b.inc, .int .i64 KC] 91)).alloc (.cells #[.slice C k s, .int .i64 h.per, .int .i64 h.inc] 26) = we at *
  clear hwe
  have E : Hid (CH w we A n c a B m d b KC C k s h) := E
  generalize (Value.agg #[.slice A n c, .int .i64 a.per, .int .i64 a.inc, .slice B m d, .int .i64 b.per, .int .i64 b.inc, .int .i64 KC]) = v0
  generalize (Value.agg #[.slice C k s, .int .i64 h.per, .int .i64 h.inc]) = v1
  obtain ⟨⟨f0, f1, f2⟩, ⟨g0, g1, g2⟩, p6, ⟨h0, h1, h2⟩, hlh⟩ := E.out.cells
  have E := Lib.hid E.out.drew
  try (have T1 := Lib.hid (RowI.drew T1.out))
  clear f0 f1 f2 g0 g1 g2 p6 h0 h1 h2 hlh
  obtain ⟨⟨f0, f1, f2⟩, ⟨g0, g1, g2⟩, p6, ⟨h0, h1, h2⟩, hlh⟩ := E.out.cells
  refine wp_region_held_drew (S := (fun w' => w'.cell? ⟨w.heap.size, 0, none⟩ = some (.slice A n c) ∧ w'.cell? ⟨w.heap.size, 1, none⟩ = some (.int .i64 a.per) ∧ w'.cell? ⟨w.heap.size, 2, none⟩ = some (.int .i64 a.inc) ∧ w'.cell? ⟨w.heap.size, 3, none⟩ = some (.slice B m d) ∧ w'.cell? ⟨w.heap.size, 4, none⟩ = some (.int .i64 b.per) ∧ w'.cell? ⟨w.heap.size, 5, none⟩ = some (.int .i64 b.inc) ∧ w'.cell? ⟨w.heap.size, 6, none⟩ = some (.int .i64 KC) ∧ w'.cell? ⟨w.heap.size + 1, 0, none⟩ = some (.slice C k s) ∧ w'.cell? ⟨w.heap.size + 1, 1, none⟩ = some (.int .i64 h.per) ∧ w'.cell? ⟨w.heap.size + 1, 2, none⟩ = some (.int .i64 h.inc))) (by kernel_rfl) (by exact ⟨f0, f1, f2, g0, g1, g2, p6, h0, h1, h2⟩) (fun hHeld => ?_)
  generalize hwd : we.drew = wd at *
  clear hwd
  refine tkS (i := 0) (v := ?_) ?_ ?_
  rotate_left 1
  · (intro w hSw; (try dsimp only at hSw); go_simp; try with_reducible rfl)
  all_goals ((try simp only [Act.put]); try simp only [g8b, g8c, g8d])
  refine tkS (i := 1) (v := ?_) ?_ ?_
  rotate_left 1
  · (intro w hSw; (try dsimp only at hSw); go_simp; try with_reducible rfl)
  all_goals ((try simp only [Act.put]); try simp only [g8b, g8c, g8d])
  refine tkS (i := 2) (v := ?_) ?_ ?_
  rotate_left 1
  · (intro w hSw; (try dsimp only at hSw); go_simp; try with_reducible rfl)
  all_goals ((try simp only [Act.put]); try simp only [g8b, g8c, g8d])
  refine tkS (i := 3) (v := ?_) ?_ ?_
  rotate_left 1
  · (intro w hSw; (try dsimp only at hSw); go_simp; try with_reducible rfl)
  all_goals ((try simp only [Act.put]); try simp only [g8b, g8c, g8d])
  refine tkS (i := 5) (v := ?_) ?_ ?_
  rotate_left 1
  · (intro w hSw; (try dsimp only at hSw); go_simp; try with_reducible rfl)
  all_goals ((try simp only [Act.put]); try simp only [g8b, g8c, g8d])
  refine tkS (i := 8) (v := ?_) ?_ ?_
  rotate_left 1
  · (intro w hSw; (try dsimp only at hSw); go_simp; try with_reducible rfl)
  all_goals ((try simp only [Act.put]); try simp only [g8b, g8c, g8d])
  refine tkS (i := 9) (v := ?_) ?_ ?_
  rotate_left 1
  · (intro w hSw; (try dsimp only at hSw); go_simp; try with_reducible rfl)
  all_goals ((try simp only [Act.put]); try simp only [g8b, g8c, g8d])
  refine wpAnyH_ready (rs := [4]) (by kernel_rfl) (by simp) ?_
  refine (AllReadyH.cons (by simp only [g8a, g8s, g8z]; rfl) (fun K hK => ?_) AllReadyH.nil)
  rw [if_pos (by rfl)]
  go_simp
  refine (start_any A n c a.per a.inc _ (by omega) (by omega) (by omega)).mono ?_
  rintro e wf ⟨rfl, hb⟩
  replace E := Lib.hid (E.out.below hb)
  try (have T1 := Lib.hid (T1.out.below hb T1.out.lt))
  try (have T2 := Lib.hid (T2.out.below hb T2.out.lt))
  clear hb
  try clear hHeld
  clear f0 f1 f2 g0 g1 g2 p6 h0 h1 h2 hlh
  obtain ⟨⟨f0, f1, f2⟩, ⟨g0, g1, g2⟩, p6, ⟨h0, h1, h2⟩, hlh⟩ := E.out.cells
  refine hK.out _ _ (by exact ⟨f0, f1, f2, g0, g1, g2, p6, h0, h1, h2⟩) (fun hHeld => ?_)
  clear hK K
  (try simp only [Act.put]); (try simp only [g8b]); (try simp only [g8c]); (try simp only [g8d])
  refine wpAnyH_ready (rs := [6]) (by kernel_rfl) (by simp) ?_
  refine (AllReadyH.cons (by simp only [g8a, g8s, g8z]; rfl) (fun K hK => ?_) AllReadyH.nil)
  rw [if_pos (by rfl)]
  go_simp
  refine (start_any C k s h.per h.inc _ (by omega) (by omega) (by omega)).mono ?_
  rintro e wg ⟨rfl, hb⟩
  replace E := Lib.hid (E.out.below hb)
  try (have T1 := Lib.hid (T1.out.below hb T1.out.lt))
  try (have T2 := Lib.hid (T2.out.below hb T2.out.lt))
  clear hb
  try clear hHeld
  clear f0 f1 f2 g0 g1 g2 p6 h0 h1 h2 hlh
  obtain ⟨⟨f0, f1, f2⟩, ⟨g0, g1, g2⟩, p6, ⟨h0, h1, h2⟩, hlh⟩ := E.out.cells
  refine hK.out _ _ (by exact ⟨f0, f1, f2, g0, g1, g2, p6, h0, h1, h2⟩) (fun hHeld => ?_)
  clear hK K
  (try simp only [Act.put]); (try simp only [g8b]); (try simp only [g8c]); (try simp only [g8d])
  refine wpAnyH_ready (rs := [7]) (by kernel_rfl) (by simp) ?_
  refine (AllReadyH.cons (by simp only [g8a, g8s, g8z]; rfl) (fun K hK => ?_) AllReadyH.nil)
  rw [if_pos (by rfl)]
  go_simp
  refine hK.out _ _ (by exact ⟨f0, f1, f2, g0, g1, g2, p6, h0, h1, h2⟩) (fun hHeld => ?_)
  clear hK K
  (try simp only [Act.put]); (try simp only [g8b]); (try simp only [g8c]); (try simp only [g8d])
  refine tkS (i := 10) (v := ?_) ?_ ?_
  rotate_left 1
  · (intro w hSw; (try dsimp only at hSw); go_simp; try with_reducible rfl)
  all_goals ((try simp only [Act.put]); try simp only [g8b, g8c, g8d])
  refine wpAnyH_ready (rs := [11]) (by kernel_rfl) (by simp) ?_
  refine (AllReadyH.cons (by simp only [g8a, g8s, g8z]; rfl) (fun K hK => ?_) AllReadyH.nil)
  rw [if_pos (by rfl)]
  go_simp
  refine (table_any A n c a.per a.inc NF' a.vals _ (by exact E.out.ja) (by exact HAO.out) (by omega)).mono ?_
  rintro e wt ⟨q1', rfl, hT, hq, hb⟩
  have T1 := Lib.hid hT
  clear hT hq hmx1 e1 e2 e3
  replace E := Lib.hid (E.out.below hb)
  clear hb hHeld
  clear f0 f1 f2 g0 g1 g2 p6 h0 h1 h2 hlh
  obtain ⟨⟨f0, f1, f2⟩, ⟨g0, g1, g2⟩, p6, ⟨h0, h1, h2⟩, hlh⟩ := E.out.cells
  refine hK.out _ _ (by exact ⟨f0, f1, f2, g0, g1, g2, p6, h0, h1, h2⟩) (fun hHeld => ?_)
  clear hK K
  (try simp only [Act.put]); (try simp only [g8b]); (try simp only [g8c]); (try simp only [g8d])
  refine tkS (i := 12) (v := ?_) ?_ ?_
  rotate_left 1
  · (intro w hSw; (try dsimp only at hSw); go_simp; try with_reducible rfl)
  all_goals ((try simp only [Act.put]); try simp only [g8b, g8c, g8d])
  refine wpAnyH_done (by kernel_rfl) ?_ _
  try clear hHeld
  go_upto_region 2 with fail
  have E := Lib.hid E.out.drew
  try (have T1 := Lib.hid (RowI.drew T1.out))
  clear f0 f1 f2 g0 g1 g2 p6 h0 h1 h2 hlh
  obtain ⟨⟨f0, f1, f2⟩, ⟨g0, g1, g2⟩, p6, ⟨h0, h1, h2⟩, hlh⟩ := E.out.cells
  refine wp_region_held_drew (S := (fun w' => w'.cell? ⟨w.heap.size, 0, none⟩ = some (.slice A n c) ∧ w'.cell? ⟨w.heap.size, 1, none⟩ = some (.int .i64 a.per) ∧ w'.cell? ⟨w.heap.size, 2, none⟩ = some (.int .i64 a.inc) ∧ w'.cell? ⟨w.heap.size, 3, none⟩ = some (.slice B m d) ∧ w'.cell? ⟨w.heap.size, 4, none⟩ = some (.int .i64 b.per) ∧ w'.cell? ⟨w.heap.size, 5, none⟩ = some (.int .i64 b.inc) ∧ w'.cell? ⟨w.heap.size, 6, none⟩ = some (.int .i64 KC) ∧ w'.cell? ⟨w.heap.size + 1, 0, none⟩ = some (.slice C k s) ∧ w'.cell? ⟨w.heap.size + 1, 1, none⟩ = some (.int .i64 h.per) ∧ w'.cell? ⟨w.heap.size + 1, 2, none⟩ = some (.int .i64 h.inc))) (by kernel_rfl) (by exact ⟨f0, f1, f2, g0, g1, g2, p6, h0, h1, h2⟩) (fun hHeld => ?_)
  generalize hwd : wt.drew = wd at *
  clear hwd
  refine tkS (i := 0) (v := ?_) ?_ ?_
  rotate_left 1
  · (intro w hSw; (try dsimp only at hSw); go_simp; try with_reducible rfl)
  all_goals ((try simp only [Act.put]); try simp only [g8b, g8c, g8d])
  refine tkS (i := 1) (v := ?_) ?_ ?_
  rotate_left 1
  · (intro w hSw; (try dsimp only at hSw); go_simp; try with_reducible rfl)
  all_goals ((try simp only [Act.put]); try simp only [g8b, g8c, g8d])
  refine tkS (i := 2) (v := ?_) ?_ ?_
  rotate_left 1
  · (intro w hSw; (try dsimp only at hSw); go_simp; try with_reducible rfl)
  all_goals ((try simp only [Act.put]); try simp only [g8b, g8c, g8d])
  refine tkS (i := 3) (v := ?_) ?_ ?_
  rotate_left 1
  · (intro w hSw; (try dsimp only at hSw); go_simp; try with_reducible rfl)
  all_goals ((try simp only [Act.put]); try simp only [g8b, g8c, g8d])
  refine tkS (i := 5) (v := ?_) ?_ ?_
  rotate_left 1
  · (intro w hSw; (try dsimp only at hSw); go_simp; try with_reducible rfl)
  all_goals ((try simp only [Act.put]); try simp only [g8b, g8c, g8d])
  refine tkS (i := 8) (v := ?_) ?_ ?_
  rotate_left 1
  · (intro w hSw; (try dsimp only at hSw); go_simp; try with_reducible rfl)
  all_goals ((try simp only [Act.put]); try simp only [g8b, g8c, g8d])
  refine tkS (i := 9) (v := ?_) ?_ ?_
  rotate_left 1
  · (intro w hSw; (try dsimp only at hSw); go_simp; try with_reducible rfl)
  all_goals ((try simp only [Act.put]); try simp only [g8b, g8c, g8d])
  refine wpAnyH_ready (rs := [4]) (by kernel_rfl) (by simp) ?_
  refine (AllReadyH.cons (by simp only [g8a, g8s, g8z]; rfl) (fun K hK => ?_) AllReadyH.nil)
  rw [if_pos (by rfl)]
  go_simp
  refine (start_any B m d b.per b.inc _ (by omega) (by omega) (by omega)).mono ?_
  rintro e wf ⟨rfl, hb⟩
  replace E := Lib.hid (E.out.below hb)
  try (have T1 := Lib.hid (T1.out.below hb T1.out.lt))
  try (have T2 := Lib.hid (T2.out.below hb T2.out.lt))
  clear hb
  try clear hHeld
  clear f0 f1 f2 g0 g1 g2 p6 h0 h1 h2 hlh
  obtain ⟨⟨f0, f1, f2⟩, ⟨g0, g1, g2⟩, p6, ⟨h0, h1, h2⟩, hlh⟩ := E.out.cells
  refine hK.out _ _ (by exact ⟨f0, f1, f2, g0, g1, g2, p6, h0, h1, h2⟩) (fun hHeld => ?_)
  clear hK K
  (try simp only [Act.put]); (try simp only [g8b]); (try simp only [g8c]); (try simp only [g8d])
  refine wpAnyH_ready (rs := [6]) (by kernel_rfl) (by simp) ?_
  refine (AllReadyH.cons (by simp only [g8a, g8s, g8z]; rfl) (fun K hK => ?_) AllReadyH.nil)
  rw [if_pos (by rfl)]
  go_simp
  refine (start_any C k s h.per h.inc _ (by omega) (by omega) (by omega)).mono ?_
  rintro e wg ⟨rfl, hb⟩
  replace E := Lib.hid (E.out.below hb)
  try (have T1 := Lib.hid (T1.out.below hb T1.out.lt))
  try (have T2 := Lib.hid (T2.out.below hb T2.out.lt))
  clear hb
  try clear hHeld
  clear f0 f1 f2 g0 g1 g2 p6 h0 h1 h2 hlh
  obtain ⟨⟨f0, f1, f2⟩, ⟨g0, g1, g2⟩, p6, ⟨h0, h1, h2⟩, hlh⟩ := E.out.cells
  refine hK.out _ _ (by exact ⟨f0, f1, f2, g0, g1, g2, p6, h0, h1, h2⟩) (fun hHeld => ?_)
  clear hK K
  (try simp only [Act.put]); (try simp only [g8b]); (try simp only [g8c]); (try simp only [g8d])
  refine wpAnyH_ready (rs := [7]) (by kernel_rfl) (by simp) ?_
  refine (AllReadyH.cons (by simp only [g8a, g8s, g8z]; rfl) (fun K hK => ?_) AllReadyH.nil)
  rw [if_pos (by rfl)]
  go_simp
  refine hK.out _ _ (by exact ⟨f0, f1, f2, g0, g1, g2, p6, h0, h1, h2⟩) (fun hHeld => ?_)
  clear hK K
  (try simp only [Act.put]); (try simp only [g8b]); (try simp only [g8c]); (try simp only [g8d])
  refine tkS (i := 10) (v := ?_) ?_ ?_
  rotate_left 1
  · (intro w hSw; (try dsimp only at hSw); go_simp; try with_reducible rfl)
  all_goals ((try simp only [Act.put]); try simp only [g8b, g8c, g8d])
  refine wpAnyH_ready (rs := [11]) (by kernel_rfl) (by simp) ?_
  refine (AllReadyH.cons (by simp only [g8a, g8s, g8z]; rfl) (fun K hK => ?_) AllReadyH.nil)
  rw [if_pos (by rfl)]
  go_simp
  refine (table_any B m d b.per b.inc NG b.vals _ (by exact E.out.jb) (by exact HBO.out) (by omega)).mono ?_
  rintro e wt ⟨q2', rfl, hT, hq, hb⟩
  have T2 := Lib.hid hT
  clear hT hq hmx2 e4 e5 e6
  replace E := Lib.hid (E.out.below hb)
  have T1 := Lib.hid (T1.out.below hb T1.out.lt)
  clear hb hHeld
  clear f0 f1 f2 g0 g1 g2 p6 h0 h1 h2 hlh
  obtain ⟨⟨f0, f1, f2⟩, ⟨g0, g1, g2⟩, p6, ⟨h0, h1, h2⟩, hlh⟩ := E.out.cells
  refine hK.out _ _ (by exact ⟨f0, f1, f2, g0, g1, g2, p6, h0, h1, h2⟩) (fun hHeld => ?_)
  clear hK K
  (try simp only [Act.put]); (try simp only [g8b]); (try simp only [g8c]); (try simp only [g8d])
  refine tkS (i := 12) (v := ?_) ?_ ?_
  rotate_left 1
  · (intro w hSw; (try dsimp only at hSw); go_simp; try with_reducible rfl)
  all_goals ((try simp only [Act.put]); try simp only [g8b, g8c, g8d])
  refine wpAnyH_done (by kernel_rfl) ?_ _
  try clear hHeld
  go_wp2_with fail
  refine (table_any C k s h.per h.inc NV h.vals _ (by exact E.out.jc) (by exact HHO.out) (by omega)).mono ?_
  rintro e wv ⟨q3', rfl, hT, hq, hb⟩
  have T3 := Lib.hid hT
  clear hT hq
  replace E := Lib.hid (E.out.below hb)
  try (have T1 := Lib.hid (T1.out.below hb T1.out.lt))
  try (have T2 := Lib.hid (T2.out.below hb T2.out.lt))
  clear hb
  try clear hHeld
  clear f0 f1 f2 g0 g1 g2 p6 h0 h1 h2 hlh
  obtain ⟨⟨f0, f1, f2⟩, ⟨g0, g1, g2⟩, p6, ⟨h0, h1, h2⟩, hlh⟩ := E.out.cells
  clear hNVi
  clear f0 f1 f2 g0 g1 g2 p6 h0 h1 h2 hlh
  go_wp2_with fail
  go_loopg [8, 9, 10, 11, 45] NF' (fun gg s8 s9 s10 s11 s45 wx => ∃ x : Nat, x + gg = NF' ∧ s45 = .int .i64 x ∧ (∀ x' u, x' < x → u < NG → h.at (x' + u) ≤ pl (a.at x') (b.at u)) ∧ RowI wx q1' (tab a.at 0 NF') ∧ RowI wx q2' (tab b.at 0 NG) ∧ RowI wx q3' (tab h.at 0 NV) ∧ Below w.heap.size w wx)
  case atStart => exact ⟨0, by omega, rfl, (fun x' u hx => by omega), T1.out, T2.out, T3.out, E.out.bw⟩
  case round =>
    clear E T1 T2 T3
    obtain ⟨x, hxg, rfl, hgood, hT1, hT2, hT3, hbw⟩ := hrel
    have T1 := Lib.hid hT1; have T2 := Lib.hid hT2; have T3 := Lib.hid hT3; have BW := Lib.hid hbw; have HG := Lib.hid hgood
    clear hT1 hT2 hT3 hbw hgood
    obtain ⟨go, hgo⟩ : ∃ go : Nat, go = gk := ⟨_, rfl⟩
    subst hgo
    by_cases hx : x < NF'
    · have hxi : (x : Int) < NF' := by omega
      have t1 := T1.out.cell x (by rw [tab_length]; exact hx)
      rw [tab_nth _ _ _ _ hx, Nat.zero_add] at t1
      obtain ⟨av, hav⟩ : ∃ av, av = a.at x := ⟨_, rfl⟩
      rw [← hav] at t1
      have nx := at_near HAO.out (t := x) (by omega)
      rw [← hav] at nx
      have NX := Lib.hid nx; have HAV := Lib.hid hav
      have hl1 := T1.out.lt
      clear nx hav
      go_wp2_with fail
      clear t1 hl1
      go_loopg [10, 11, 52] NG (fun gg s10 s11 s52 wx => ∃ u : Nat, u + gg = NG ∧ s52 = .int .i64 u ∧ (∀ u', u' < u → h.at (x + u') ≤ pl (a.at x) (b.at u')) ∧ RowI wx q1' (tab a.at 0 NF') ∧ RowI wx q2' (tab b.at 0 NG) ∧ RowI wx q3' (tab h.at 0 NV) ∧ Below w.heap.size w wx)
      case atStart => exact ⟨0, by omega, rfl, (fun u' hu => by omega), T1.out, T2.out, T3.out, BW.out⟩
      case round =>
        clear BW T1 T2 T3
        obtain ⟨u, hug, rfl, hgood, hT1, hT2, hT3, hbw⟩ := hrel
        have T1 := Lib.hid hT1; have T2 := Lib.hid hT2; have T3 := Lib.hid hT3; have BW := Lib.hid hbw; have HU := Lib.hid hgood
        clear hT1 hT2 hT3 hbw hgood
        by_cases hu : u < NG
        · have hui : (u : Int) < NG := by omega
          have t2 := T2.out.cell u (by rw [tab_length]; exact hu)
          rw [tab_nth _ _ _ _ hu, Nat.zero_add] at t2
          obtain ⟨bv, hbv⟩ : ∃ bv, bv = b.at u := ⟨_, rfl⟩
          rw [← hbv] at t2
          have ny := at_near HBO.out (t := u) (by omega)
          rw [← hbv] at ny
          have NY := Lib.hid ny; have HBV := Lib.hid hbv
          have hl2 := T2.out.lt
          clear ny hbv
          obtain ⟨y, hy⟩ : ∃ y : Nat, y = x + u := ⟨_, rfl⟩
          have hyV : y < NV := by have := HNV.out; omega
          have hyVi : (y : Int) < NV := by omega
          have hy0 : 0 ≤ (y : Int) := by omega
          have ey1 : IntKind.i64.wrap ((x : Int) + (u : Int)) = (y : Int) := by rw [IntWalk.i64_in _ (by omega)]; omega
          have ey2 : (x : Int) + (u : Int) = (y : Int) := by omega
          have ey3 : IntKind.i64.wrap (y : Int) = (y : Int) := IntWalk.i64_in _ (by omega)
          have HY := Lib.hid hy
          clear hy
          have t3 := T3.out.cell y (by rw [tab_length]; exact hyV)
          rw [tab_nth _ _ _ _ hyV, Nat.zero_add] at t3
          obtain ⟨hv, hhv⟩ : ∃ hv, hv = h.at y := ⟨_, rfl⟩
          rw [← hhv] at t3
          have HHV := Lib.hid hhv
          have hl3 := T3.out.lt
          clear hhv
          obtain ⟨pv, hpv⟩ : ∃ pv, pv = pl av bv := ⟨_, rfl⟩
          have HP := Lib.hid hpv
          clear hpv
          go_upto_region 10 with fail
          have T1 := Lib.hid (RowI.drew T1.out); have T2 := Lib.hid (RowI.drew T2.out); have T3 := Lib.hid (RowI.drew T3.out); have BW := Lib.hid (Below.drew BW.out)
          have t3 := T3.out.cell y (by rw [tab_length]; exact hyV)
          rw [tab_nth _ _ _ _ hyV, Nat.zero_add, ← HHV.out] at t3
          have hl3 := T3.out.lt
          refine wp_region_held_drew (S := (fun w' => w'.cell? ⟨q3', y, none⟩ = some (.int .i64 hv))) (by kernel_rfl) t3 (fun hHeld => ?_)
          clear t2 hl2
          generalize hwd : wr.drew = wd at *
          clear hwd
          refine tkS (i := 0) (v := ?_) ?_ ?_
          rotate_left 1
          · (intro w hSw; (try dsimp only at hSw); go_simp; try with_reducible rfl)
          all_goals ((try simp only [Act.put]); try simp only [g8b, g8c, g8d])
          refine tkS (i := 1) (v := ?_) ?_ ?_
          rotate_left 1
          · (intro w hSw; (try dsimp only at hSw); go_simp; try with_reducible rfl)
          all_goals ((try simp only [Act.put]); try simp only [g8b, g8c, g8d])
          refine tkS (i := 2) (v := ?_) ?_ ?_
          rotate_left 1
          · (intro w hSw; (try dsimp only at hSw); go_simp; try with_reducible rfl)
          all_goals ((try simp only [Act.put]); try simp only [g8b, g8c, g8d])
          refine tkS (i := 3) (v := ?_) ?_ ?_
          rotate_left 1
          · (intro w hSw; (try dsimp only at hSw); go_simp; try with_reducible rfl)
          all_goals ((try simp only [Act.put]); try simp only [g8b, g8c, g8d])
          refine tkS (i := 4) (v := ?_) ?_ ?_
          rotate_left 1
          · (intro w hSw; (try dsimp only at hSw); go_simp; try with_reducible rfl)
          all_goals ((try simp only [Act.put]); try simp only [g8b, g8c, g8d])
          refine tkS (i := 5) (v := ?_) ?_ ?_
          rotate_left 1
          · (intro w hSw; (try dsimp only at hSw); go_simp; try with_reducible rfl)
          all_goals ((try simp only [Act.put]); try simp only [g8b, g8c, g8d])
          refine tkS (i := 6) (v := ?_) ?_ ?_
          rotate_left 1
          · (intro w hSw; (try dsimp only at hSw); go_simp; try with_reducible rfl)
          all_goals ((try simp only [Act.put]); try simp only [g8b, g8c, g8d])
          refine tkS (i := 7) (v := ?_) ?_ ?_
          rotate_left 1
          · (intro w hSw; (try dsimp only at hSw); go_simp; try with_reducible rfl)
          all_goals ((try simp only [Act.put]); try simp only [g8b, g8c, g8d])
          clear ey1 ey2 ey3
          refine wpAnyH_ready (rs := [8]) (by kernel_rfl) (by simp) ?_
          refine (AllReadyH.cons (by simp only [g8a, g8s, g8z]; rfl) (fun K hK => ?_) AllReadyH.nil)
          rw [if_pos (by rfl)]
          go_simp
          refine (plus_any av bv wd (by exact NX.out.1) (by exact NX.out.2) (by exact NY.out.1) (by exact NY.out.2)).mono ?_
          rw [← HP.out]
          rintro e wa ⟨rfl, rfl⟩
          refine hK.out _ _ (by exact t3) (fun hHeld => ?_)
          clear hK K
          (try simp only [Act.put]); (try simp only [g8b]); (try simp only [g8c]); (try simp only [g8d])
          by_cases hgt : pv < hv
          case pos =>
            have dt : decide (hv > pv) = true := by simpa using hgt
            have dt2 : decide (pv < hv) = true := by simpa using hgt
            have HGT := Lib.hid hgt
            clear hgt
            refine tkS (i := 9) (v := ?_) ?_ ?_
            rotate_left 1
            · (intro w hSw; (try dsimp only at hSw); go_simp; try with_reducible rfl)
            all_goals ((try simp only [Act.put]); try simp only [g8b, g8c, g8d])
            refine wpAnyH_done (by kernel_rfl) ?_ _
            clear hHeld t3 hl3
            have FIN := Lib.hid (show ¬ BelowS a b h from fun hc => by
              have h1 := HBS.out.1 hc x u hx hu
              rw [← HY.out, ← HHV.out, ← HAV.out, ← HBV.out, ← HP.out] at h1
              have := HGT.out
              omega)
            have bw := BW.out
            go_wp2_with fail
            try rw [Exit.noGoto_ret]
            go_ret
            exact RetQ.no FIN.out bw
          case neg =>
            have dt : decide (hv > pv) = false := by simpa using hgt
            have dt2 : decide (pv < hv) = false := by simpa using hgt
            have HGT := Lib.hid hgt
            clear hgt
            refine tkS (i := 9) (v := ?_) ?_ ?_
            rotate_left 1
            · (intro w hSw; (try dsimp only at hSw); go_simp; try with_reducible rfl)
            all_goals ((try simp only [Act.put]); try simp only [g8b, g8c, g8d])
            refine wpAnyH_done (by kernel_rfl) ?_ _
            clear hHeld t3 hl3
            have GD := Lib.hid (show ∀ u', u' < u + 1 → h.at (x + u') ≤ pl (a.at x) (b.at u') from fun u' hu' => by
              rcases Nat.lt_or_ge u' u with h1 | h1
              · exact HU.out u' h1
              · have e : u' = u := by omega
                rw [e, ← HY.out, ← HHV.out, ← HAV.out, ← HBV.out, ← HP.out]
                have := HGT.out
                omega)
            go_wp2_with fail
            go_roundg (gk - 1)
            case measure => omega
            case rel => exact ⟨u + 1, by omega, by go_num, GD.out, T1.out, T2.out, T3.out, BW.out⟩
        · have huN : u = NG := by omega
          have GD := Lib.hid (show ∀ x' u', x' < x + 1 → u' < NG → h.at (x' + u') ≤ pl (a.at x') (b.at u') from fun x' u' hx' hu' => by
            rcases Nat.lt_or_ge x' x with h1 | h1
            · exact HG.out x' u' h1 hu'
            · have e : x' = x := by omega
              rw [e]; exact HU.out u' (by omega))
          go_wp2_with fail
          go_roundg (go - 1)
          case measure => omega
          case rel => exact ⟨x + 1, by omega, by go_num, GD.out, T1.out, T2.out, T3.out, BW.out⟩
    · have hxN : x = NF' := by omega
      have FIN := Lib.hid (show BelowS a b h from HBS.out.2 fun x' u' h1 h2 => HG.out x' u' (by omega) h2)
      have bw := BW.out
      go_wp2_with fail
      try rw [Exit.noGoto_ret]
      go_ret
      exact RetQ.yes FIN.out bw
end Go.Proofs.YtaejfleahamapaaGreat

namespace Go.Proofs.YtaejfleahamapaaGreat
open Go.RowKit
set_option linter.unusedVariables false

structure CKE (w : World) (P : Nat) (A : Option Addr) (n c : Nat) (a : Cv) (B : Option Addr) (m d : Nat) (b : Cv) (Q : Nat) (C : Option Addr) (k s : Nat) (h : Cv) (fr : Int) (D : Option Addr) (x y : Nat) (cs : List Int) : Prop where
  pb : Blk w P 91 (cpA A n c a B m d b (ordC a b : Nat))
  qb : Blk w Q 29 #[.slice C k s, .int .i64 h.per, .int .i64 h.inc, .int .i64 fr, .slice D x y]
  ia : Ints w w.heap.size A n a.vals
  ib : Ints w w.heap.size B m b.vals
  ic : Ints w w.heap.size C k h.vals
  id : Ints w w.heap.size D x cs
section
variable {w wx : World} {A B C D : Option Addr} {n c m d k s x y P Q : Nat} {a b h : Cv} {fr : Int} {cs : List Int}
theorem CKE.below (h' : CKE w P A n c a B m d b Q C k s h fr D x y cs) (hb : Below w.heap.size w wx) : CKE wx P A n c a B m d b Q C k s h fr D x y cs :=
  ⟨h'.pb.below hb h'.pb.lt, h'.qb.below hb h'.qb.lt, h'.ia.ext hb, h'.ib.ext hb, h'.ic.ext hb, h'.id.ext hb⟩
theorem CKE.cells (h' : CKE w P A n c a B m d b Q C k s h fr D x y cs) : (w.cell? ⟨P, 0, none⟩ = some (.slice A n c) ∧ w.cell? ⟨P, 1, none⟩ = some (.int .i64 a.per) ∧ w.cell? ⟨P, 2, none⟩ = some (.int .i64 a.inc)) ∧
    (w.cell? ⟨P, 3, none⟩ = some (.slice B m d) ∧ w.cell? ⟨P, 4, none⟩ = some (.int .i64 b.per) ∧ w.cell? ⟨P, 5, none⟩ = some (.int .i64 b.inc)) ∧ w.cell? ⟨P, 6, none⟩ = some (.int .i64 (ordC a b : Nat)) ∧
    (w.cell? ⟨Q, 0, none⟩ = some (.slice C k s) ∧ w.cell? ⟨Q, 1, none⟩ = some (.int .i64 h.per) ∧ w.cell? ⟨Q, 2, none⟩ = some (.int .i64 h.inc)) ∧ (w.cell? ⟨Q, 3, none⟩ = some (.int .i64 fr) ∧ w.cell? ⟨Q, 4, none⟩ = some (.slice D x y)) ∧ P < w.heap.size ∧ Q < w.heap.size := by
  have q := fun i => h'.pb.cell i
  have q0 := q 0; have q1 := q 1; have q2 := q 2; have q3 := q 3; have q4 := q 4; have q5 := q 5; have q6 := q 6
  have r := fun i => h'.qb.cell i
  have r0 := r 0; have r1 := r 1; have r2 := r 2; have r3 := r 3; have r4 := r 4
  simp [cpA] at q0 q1 q2 q3 q4 q5 q6 r0 r1 r2 r3 r4
  exact ⟨⟨q0, q1, q2⟩, ⟨q3, q4, q5⟩, q6, ⟨r0, r1, r2⟩, ⟨r3, r4⟩, h'.pb.lt, h'.qb.lt⟩
end
section
variable {A B C D : Option Addr} {n c m d k s x y P Q : Nat} {a b h : Cv} {fr : Int} {cs : List Int}
set_option maxHeartbeats 1000000 in
theorem cpck1_any (w : World) (hE : CKE w P A n c a B m d b Q C k s h fr D x y cs) (ha : a.Ok) (hb : b.Ok) (hk : (k : Int) ≤ 1000000) (hK : ordC a b ≤ 120) :
    Calls Tryz.prog 52 #[.pointer (some ⟨P, 0, none⟩), .pointer (some ⟨Q, 0, none⟩)] w (RetQ (h.Ok ∧ NF h.at h ∧ RightS a b h) w) := by
  have E := Lib.hid hE
  obtain ⟨KC, hKC⟩ : ∃ KC : Int, KC = ((ordC a b : Nat) : Int) := ⟨_, rfl⟩
  have th := cpright_any A B C n m k c d s a b h w hE.ia hE.ib hE.ic ha hb hk hK
  rw [← hKC] at th
  unfold cpA at th
  have TH := Lib.hid th
  obtain ⟨⟨f0, f1, f2⟩, ⟨g0, g1, g2⟩, p6, ⟨h0, h1, h2⟩, ⟨h3, h4⟩, hlp, hlq⟩ := E.out.cells
  rw [← hKC] at p6
  clear th hE hKC
  go_enter Tryz.func52, Tryz.ntmps52
  go_wp2_with fail
  refine TH.out.mono ?_
  rintro e wq ⟨⟨z, hz, rfl⟩, hb⟩
  have HZ := Lib.hid hz
  clear hz f0 f1 f2 g0 g1 g2 p6 h0 h1 h2 h3 h4
  go_wp2_with fail
  go_ret
  exact ⟨⟨z, HZ.out, rfl⟩, hb⟩
set_option maxHeartbeats 1000000 in
theorem cpck2_any (w : World) (hE : CKE w P A n c a B m d b Q C k s h fr D x y cs) (ha : a.Ok) (hb : b.Ok) (hh : h.Ok) (hx : (x : Int) ≤ 1000000) (hK : ordC a b ≤ 120) :
    Calls Tryz.prog 54 #[.pointer (some ⟨P, 0, none⟩), .pointer (some ⟨Q, 0, none⟩)] w (RetQ (AttS a b h fr cs) w) := by
  have E := Lib.hid hE
  obtain ⟨KC, hKC⟩ : ∃ KC : Int, KC = ((ordC a b : Nat) : Int) := ⟨_, rfl⟩
  have th := cpatt_any A B C D n m k x c d s y a b h fr cs w hE.ia hE.ib hE.ic hE.id ha hb hh hx hK
  rw [← hKC] at th
  unfold cpA at th
  have TH := Lib.hid th
  obtain ⟨⟨f0, f1, f2⟩, ⟨g0, g1, g2⟩, p6, ⟨h0, h1, h2⟩, ⟨h3, h4⟩, hlp, hlq⟩ := E.out.cells
  rw [← hKC] at p6
  clear th hE hKC
  go_enter Tryz.func54, Tryz.ntmps54
  go_wp2_with fail
  refine TH.out.mono ?_
  rintro e wq ⟨⟨z, hz, rfl⟩, hb⟩
  have HZ := Lib.hid hz
  clear hz f0 f1 f2 g0 g1 g2 p6 h0 h1 h2 h3 h4
  go_wp2_with fail
  go_ret
  exact ⟨⟨z, HZ.out, rfl⟩, hb⟩
set_option maxHeartbeats 1000000 in
theorem cpck3_any (w : World) (hE : CKE w P A n c a B m d b Q C k s h fr D x y cs) (ha : a.Ok) (hb : b.Ok) (hh : h.Ok) (hK : ordC a b ≤ 120) :
    Calls Tryz.prog 56 #[.pointer (some ⟨P, 0, none⟩), .pointer (some ⟨Q, 0, none⟩)] w (RetQ (BelowS a b h) w) := by
  have E := Lib.hid hE
  obtain ⟨KC, hKC⟩ : ∃ KC : Int, KC = ((ordC a b : Nat) : Int) := ⟨_, rfl⟩
  have th := cpbel_any A B C n m k c d s a b h w hE.ia hE.ib hE.ic ha hb hh hK
  rw [← hKC] at th
  unfold cpA at th
  have TH := Lib.hid th
  obtain ⟨⟨f0, f1, f2⟩, ⟨g0, g1, g2⟩, p6, ⟨h0, h1, h2⟩, ⟨h3, h4⟩, hlp, hlq⟩ := E.out.cells
  rw [← hKC] at p6
  clear th hE hKC
  go_enter Tryz.func56, Tryz.ntmps56
  go_wp2_with fail
  refine TH.out.mono ?_
  rintro e wq ⟨⟨z, hz, rfl⟩, hb⟩
  have HZ := Lib.hid hz
  clear hz f0 f1 f2 g0 g1 g2 p6 h0 h1 h2 h3 h4
  go_wp2_with fail
  go_ret
  exact ⟨⟨z, HZ.out, rfl⟩, hb⟩
end
set_option maxHeartbeats 4000000 in
set_option maxRecDepth 100000 in
theorem cpchk_any (A B C D : Option Addr) (n m k x c d s y : Nat) (p i q j fr : Int) (xs ys : List Int) (h : Cv) (cs : List Int) (w : World) (hA : Ints w w.heap.size A n xs) (hB : Ints w w.heap.size B m ys) (hC : Ints w w.heap.size C k h.vals) (hD : Ints w w.heap.size D x cs)
    (hn : (n : Int) ≤ 1000000) (hm : (m : Int) ≤ 1000000) (hk : (k : Int) ≤ 1000000) (hx : (x : Int) ≤ 1000000) :
    Calls Tryz.prog 12 #[.agg #[.slice A n c, .int .i64 p, .int .i64 i], .agg #[.slice B m d, .int .i64 q, .int .i64 j], .agg #[.slice C k s, .int .i64 h.per, .int .i64 h.inc, .int .i64 fr, .slice D x y]] w (RetQ (CkS ⟨xs, p, i⟩ ⟨ys, q, j⟩ h fr cs) w) := by
  have P := Lib.hid ((PS.new (c := c) (p := p) (i := i) (d := d) (q := q) (j := j) hA hB).alloc (.cells #[.slice C k s, .int .i64 h.per, .int .i64 h.inc, .int .i64 fr, .slice D x y] 29))
  have cb := Blk.new ((w.alloc (.cells #[.slice A n c, .int .i64 p, .int .i64 i] 26)).alloc (.cells #[.slice B m d, .int .i64 q, .int .i64 j] 26)) 29 #[.slice C k s, .int .i64 h.per, .int .i64 h.inc, .int .i64 fr, .slice D x y]
  rw [World.size_alloc, World.size_alloc] at cb
  have CB := Lib.hid cb
  have IC := Lib.hid (((hC.alloc' (.cells #[.slice A n c, .int .i64 p, .int .i64 i] 26)).alloc' (.cells #[.slice B m d, .int .i64 q, .int .i64 j] 26)).alloc' (.cells #[.slice C k s, .int .i64 h.per, .int .i64 h.inc, .int .i64 fr, .slice D x y] 29))
  have ID := Lib.hid (((hD.alloc' (.cells #[.slice A n c, .int .i64 p, .int .i64 i] 26)).alloc' (.cells #[.slice B m d, .int .i64 q, .int .i64 j] 26)).alloc' (.cells #[.slice C k s, .int .i64 h.per, .int .i64 h.inc, .int .i64 fr, .slice D x y] 29))
  clear hA hB hC hD cb
  go_enter Tryz.func12, Tryz.ntmps12
  obtain ⟨f0, f1, f2, g0, g1, g2, hlf, hlg⟩ := P.out.cells
  go_wp2_with fail
  refine (cvboth_any A B n m c d p i q j xs ys _ P.out.ia P.out.ib hn hm).mono ?_
  rintro e w1 (⟨er, hbad, rfl, hb⟩ | ⟨hfo, hgo, a, b, A1, n1, c1, B1, m1, d1, hna, hnb, hao, hbo, hcm, rfl, hI1, hI2, hA1, hB1, hb⟩)
  · have hne : (er != 0) = true := by simpa using hbad.ne
    have NO := Lib.hid (show ¬ CkS ⟨xs, p, i⟩ ⟨ys, q, j⟩ h fr cs from fun ⟨k1, k2, a, b, k3, k4, k5, _⟩ => by
      rcases hbad with ⟨h1, _⟩ | ⟨_, _, _, a', b', h1, h2, h3⟩
      · exact h1 ⟨k1, k2⟩
      · obtain rfl := NF.unique k3 h1
        obtain rfl := NF.unique k4 h2
        omega)
    have BW := Lib.hid (bthen P.out.bw hb)
    clear hbad hb P f0 f1 f2 g0 g1 g2 hlf hlg
    unfold zero7
    replace BW := Lib.hid (bthen BW.out (balloc _ (.cells #[.slice none 0 0, .int .i64 0, .int .i64 0, .slice none 0 0, .int .i64 0, .int .i64 0, .int .i64 0] 91)))
    go_upto_region 2 with fail
    generalize hwe : w1.alloc (.cells #[.slice none 0 0, .int .i64 0, .int .i64 0, .slice none 0 0, .int .i64 0, .int .i64 0, .int .i64 0] 91) = w2 at *
    clear hwe
    have FIN := Lib.hid (show ¬ CkS ⟨xs, p, i⟩ ⟨ys, q, j⟩ h fr cs from NO.out)
    have bw := BW.out
    go_wp2_with fail
    try rw [Exit.noGoto_ret]
    go_ret
    exact RetQ.no FIN.out bw
  · have CKE0 := Lib.hid (show CKE (w1.alloc (.cells (cpA A1 n1 c1 a B1 m1 d1 b (ordC a b : Nat)) 91)) w1.heap.size A1 n1 c1 a B1 m1 d1 b (w.heap.size + 1 + 1) C k s h fr D x y cs from
      ⟨Blk.new _ _ _, (CB.out.below hb CB.out.lt).alloc _, hI1.alloc' _, hI2.alloc' _, (IC.out.ext hb).alloc' _, (ID.out.ext hb).alloc' _⟩)
    have BW := Lib.hid (bthen (bthen P.out.bw hb) (balloc w1 (.cells (cpA A1 n1 c1 a B1 m1 d1 b (ordC a b : Nat)) 91)))
    have HFO := Lib.hid hfo; have HGO := Lib.hid hgo; have HNA := Lib.hid hna; have HNB := Lib.hid hnb; have HAO := Lib.hid hao; have HBO := Lib.hid hbo; have HCM := Lib.hid hcm
    have CKI := Lib.hid (show CkS ⟨xs, p, i⟩ ⟨ys, q, j⟩ h fr cs ↔ (h.Ok ∧ NF h.at h ∧ RightS a b h) ∧ AttS a b h fr cs ∧ BelowS a b h from by
      constructor
      · rintro ⟨_, _, a', b', h1, h2, h3, h4, h5, h6, h7, h8⟩
        obtain rfl := NF.unique hna h1
        obtain rfl := NF.unique hnb h2
        exact ⟨⟨h4, h5, h6⟩, h7, h8⟩
      · rintro ⟨⟨h4, h5, h6⟩, h7, h8⟩
        exact ⟨hfo, hgo, a, b, hna, hnb, hcm, h4, h5, h6, h7, h8⟩)
    clear hfo hgo hna hnb hao hbo hcm hI1 hI2 hA1 hB1 hb P CB IC ID f0 f1 f2 g0 g1 g2 hlf hlg
    unfold cpA at CKE0 BW ⊢
    go_upto_region 2 with fail
    generalize hwe : w1.alloc (.cells #[.slice A1 n1 c1, .int .i64 a.per, .int .i64 a.inc, .slice B1 m1 d1, .int .i64 b.per, .int .i64 b.inc, .int .i64 (ordC a b : Nat)] 91) = w2 at *
    clear hwe
    generalize w1.heap.size = P1 at *
    have hlp := CKE0.out.pb.lt; have hlq := CKE0.out.qb.lt
    have FB := Lib.hid (Blk.new w2 33 #[.func (.func 52) #[] #[.pointer (some ⟨P1, 0, none⟩), .pointer (some ⟨w.heap.size + 1 + 1, 0, none⟩)], .func (.func 54) #[] #[.pointer (some ⟨P1, 0, none⟩), .pointer (some ⟨w.heap.size + 1 + 1, 0, none⟩)], .func (.func 56) #[] #[.pointer (some ⟨P1, 0, none⟩), .pointer (some ⟨w.heap.size + 1 + 1, 0, none⟩)]])
    have E := Lib.hid (CKE0.out.below (balloc w2 (.cells #[.func (.func 52) #[] #[.pointer (some ⟨P1, 0, none⟩), .pointer (some ⟨w.heap.size + 1 + 1, 0, none⟩)], .func (.func 54) #[] #[.pointer (some ⟨P1, 0, none⟩), .pointer (some ⟨w.heap.size + 1 + 1, 0, none⟩)], .func (.func 56) #[] #[.pointer (some ⟨P1, 0, none⟩), .pointer (some ⟨w.heap.size + 1 + 1, 0, none⟩)]] 33)))
    replace BW := Lib.hid (bthen BW.out (balloc w2 (.cells #[.func (.func 52) #[] #[.pointer (some ⟨P1, 0, none⟩), .pointer (some ⟨w.heap.size + 1 + 1, 0, none⟩)], .func (.func 54) #[] #[.pointer (some ⟨P1, 0, none⟩), .pointer (some ⟨w.heap.size + 1 + 1, 0, none⟩)], .func (.func 56) #[] #[.pointer (some ⟨P1, 0, none⟩), .pointer (some ⟨w.heap.size + 1 + 1, 0, none⟩)]] 33)))
    clear CKE0
    go_upto_region 5 with fail
    generalize hwe : w2.alloc (.cells #[.func (.func 52) #[] #[.pointer (some ⟨P1, 0, none⟩), .pointer (some ⟨w.heap.size + 1 + 1, 0, none⟩)], .func (.func 54) #[] #[.pointer (some ⟨P1, 0, none⟩), .pointer (some ⟨w.heap.size + 1 + 1, 0, none⟩)], .func (.func 56) #[] #[.pointer (some ⟨P1, 0, none⟩), .pointer (some ⟨w.heap.size + 1 + 1, 0, none⟩)]] 33) = w3 at *
    clear hwe
    generalize w2.heap.size = F at *
    generalize w.heap.size + 1 + 1 = Q at *
    go_loopg [10, 24] 3 (fun gg s10 s24 wx => ∃ k' : Nat, k' + gg = 3 ∧ s24 = .int .i64 k' ∧ (1 ≤ k' → h.Ok ∧ NF h.at h ∧ RightS a b h) ∧ (2 ≤ k' → AttS a b h fr cs) ∧ (3 ≤ k' → BelowS a b h) ∧ Below w3.heap.size w3 wx)
    case atStart => exact ⟨0, by omega, rfl, (fun h => by omega), (fun h => by omega), (fun h => by omega), Below.refl _ _⟩
    case round =>
      obtain ⟨k', hg, rfl, hr1, hr2, hr3, hb⟩ := hrel
      have FX := Lib.hid (FB.out.below hb FB.out.lt)
      have EX := Lib.hid (E.out.below hb)
      have R1 := Lib.hid hr1; have R2 := Lib.hid hr2; have R3 := Lib.hid hr3; have BX := Lib.hid hb
      clear hr1 hr2 hr3 hb
      obtain ⟨⟨k0, k1, k2⟩, _, hlf⟩ := FX.out.c3
      have hk' : k' = 0 ∨ k' = 1 ∨ k' = 2 ∨ k' = 3 := by omega
      rcases hk' with rfl | rfl | rfl | rfl
      · go_wp2_with fail
        refine (cpck1_any _ EX.out HAO.out HBO.out hk HCM.out).mono ?_
        rintro e wq ⟨⟨z, hz, rfl⟩, hb⟩
        have HZ := Lib.hid hz; have BY := Lib.hid (bthen BX.out hb)
        clear hz hb k0 k1 k2 hlf
        cases z
        case false =>
          have FIN := Lib.hid (show ¬ CkS ⟨xs, p, i⟩ ⟨ys, q, j⟩ h fr cs from (fun hc => by have := HZ.out.2 (CKI.out.1 hc).1; cases this))
          have bw := (bthen BW.out BY.out)
          go_wp2_with fail
          try rw [Exit.noGoto_ret]
          go_ret
          exact RetQ.no FIN.out bw
        case true =>
          have G := Lib.hid (HZ.out.1 (by first | rfl | trivial))
          go_wp2_with fail
          go_roundg (gk - 1)
          case measure => omega
          case rel => exact ⟨1, by omega, rfl, (fun _ => G.out), (fun h => by omega), (fun h => by omega), BY.out⟩
      · have HHO := Lib.hid (R1.out (by omega)).1
        go_wp2_with fail
        refine (cpck2_any _ EX.out HAO.out HBO.out HHO.out hx HCM.out).mono ?_
        rintro e wq ⟨⟨z, hz, rfl⟩, hb⟩
        have HZ := Lib.hid hz; have BY := Lib.hid (bthen BX.out hb)
        clear hz hb k0 k1 k2 hlf
        cases z
        case false =>
          have FIN := Lib.hid (show ¬ CkS ⟨xs, p, i⟩ ⟨ys, q, j⟩ h fr cs from (fun hc => by have := HZ.out.2 (CKI.out.1 hc).2.1; cases this))
          have bw := (bthen BW.out BY.out)
          go_wp2_with fail
          try rw [Exit.noGoto_ret]
          go_ret
          exact RetQ.no FIN.out bw
        case true =>
          have G := Lib.hid (HZ.out.1 (by first | rfl | trivial))
          go_wp2_with fail
          go_roundg (gk - 1)
          case measure => omega
          case rel => exact ⟨2, by omega, rfl, (fun _ => R1.out (by omega)), (fun _ => G.out), (fun h => by omega), BY.out⟩
      · have HHO := Lib.hid (R1.out (by omega)).1
        go_wp2_with fail
        refine (cpck3_any _ EX.out HAO.out HBO.out HHO.out HCM.out).mono ?_
        rintro e wq ⟨⟨z, hz, rfl⟩, hb⟩
        have HZ := Lib.hid hz; have BY := Lib.hid (bthen BX.out hb)
        clear hz hb k0 k1 k2 hlf
        cases z
        case false =>
          have FIN := Lib.hid (show ¬ CkS ⟨xs, p, i⟩ ⟨ys, q, j⟩ h fr cs from (fun hc => by have := HZ.out.2 (CKI.out.1 hc).2.2; cases this))
          have bw := (bthen BW.out BY.out)
          go_wp2_with fail
          try rw [Exit.noGoto_ret]
          go_ret
          exact RetQ.no FIN.out bw
        case true =>
          have G := Lib.hid (HZ.out.1 (by first | rfl | trivial))
          go_wp2_with fail
          go_roundg (gk - 1)
          case measure => omega
          case rel => exact ⟨3, by omega, rfl, (fun _ => R1.out (by omega)), (fun _ => R2.out (by omega)), (fun _ => G.out), BY.out⟩
      · have FIN := Lib.hid (show CkS ⟨xs, p, i⟩ ⟨ys, q, j⟩ h fr cs from CKI.out.2 ⟨R1.out (by omega), R2.out (by omega), R3.out (by omega)⟩)
        have bw := bthen BW.out BX.out
        go_wp2_with fail
        try rw [Exit.noGoto_ret]
        go_ret
        exact RetQ.yes FIN.out bw
end Go.Proofs.YtaejfleahamapaaGreat

