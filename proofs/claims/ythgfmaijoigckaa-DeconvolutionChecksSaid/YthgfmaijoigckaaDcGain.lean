/- deconvolution: gain and extent. -/
import Derived.Test.YthgfmaijoigckaaDcOf
import Derived.Test.YthgfmaijoigckaaDcPLaw
namespace Go.Proofs.Ythgfmaijoigckaa
open Go.RowKit
set_option linter.unusedVariables false

/-- the block of a pair -/
structure PE (w wx : World) (A : Option Addr) (n c : Nat) (a : Cv) (B : Option Addr) (m d : Nat) (b : Cv) (K : Int) (l : Bool) : Prop where
  pb : Blk wx w.heap.size 105 (dpA A n c a B m d b K l)
  ia : Ints wx w.heap.size A n a.vals
  ib : Ints wx w.heap.size B m b.vals
  bw : Below w.heap.size w wx
section
variable {w wx wy : World} {A B : Option Addr} {n c m d : Nat} {a b : Cv} {K : Int} {l : Bool}
theorem PE.new (hA : Ints w w.heap.size A n a.vals) (hB : Ints w w.heap.size B m b.vals) : PE w (w.alloc (.cells (dpA A n c a B m d b K l) 105)) A n c a B m d b K l :=
  ⟨Blk.new _ _ _, hA.alloc (Nat.le_refl _) _, hB.alloc (Nat.le_refl _) _, balloc _ _⟩
theorem PE.below (h : PE w wx A n c a B m d b K l) (hb : Below wx.heap.size wx wy) : PE w wy A n c a B m d b K l := ⟨h.pb.below hb h.pb.lt, h.ia.below (hb.mono h.bw.size), h.ib.below (hb.mono h.bw.size), bthen h.bw hb⟩
theorem PE.alloc (h : PE w wx A n c a B m d b K l) (o : Obj) : PE w (wx.alloc o) A n c a B m d b K l := h.below (balloc _ o)
theorem PE.drew (h : PE w wx A n c a B m d b K l) : PE w wx.drew A n c a B m d b K l := ⟨h.pb, h.ia, h.ib, Below.drew h.bw⟩
theorem PE.set (h : PE w wx A n c a B m d b K l) {g : Nat} (hg : w.heap.size < g) (i : Nat) (u : Value) : PE w (wx.setCell ⟨g, i, none⟩ u) A n c a B m d b K l :=
  ⟨h.pb.far (by show w.heap.size ≠ g; omega) _, h.ia.keep (fun q hq => World.cell?_setCell_other _ _ _ _ (fun e => by subst e; simp at hq; omega)), h.ib.keep (fun q hq => World.cell?_setCell_other _ _ _ _ (fun e => by subst e; simp at hq; omega)),
    h.bw.setCell (by show w.heap.size ≤ g; omega) _⟩
theorem PE.ja (h : PE w wx A n c a B m d b K l) : Ints wx wx.heap.size A n a.vals := h.ia.more h.bw.size
theorem PE.jb (h : PE w wx A n c a B m d b K l) : Ints wx wx.heap.size B m b.vals := h.ib.more h.bw.size
theorem PE.cells (h : PE w wx A n c a B m d b K l) : (wx.cell? ⟨w.heap.size, 0, none⟩ = some (.slice A n c) ∧ wx.cell? ⟨w.heap.size, 1, none⟩ = some (.int .i64 a.per) ∧ wx.cell? ⟨w.heap.size, 2, none⟩ = some (.int .i64 a.inc)) ∧
    (wx.cell? ⟨w.heap.size, 3, none⟩ = some (.slice B m d) ∧ wx.cell? ⟨w.heap.size, 4, none⟩ = some (.int .i64 b.per) ∧ wx.cell? ⟨w.heap.size, 5, none⟩ = some (.int .i64 b.inc)) ∧ (wx.cell? ⟨w.heap.size, 6, none⟩ = some (.int .i64 K) ∧ wx.cell? ⟨w.heap.size, 7, none⟩ = some (.bool l)) ∧ w.heap.size < wx.heap.size := by
  have q := fun i => h.pb.cell i
  have q0 := q 0; have q1 := q 1; have q2 := q 2; have q3 := q 3; have q4 := q 4; have q5 := q 5; have q6 := q 6; have q7 := q 7
  simp [dpA] at q0 q1 q2 q3 q4 q5 q6 q7
  exact ⟨⟨q0, q1, q2⟩, ⟨q3, q4, q5⟩, ⟨q6, q7⟩, h.pb.lt⟩
end
set_option maxHeartbeats 1000000 in
theorem prgain_any (A B : Option Addr) (n m c d : Nat) (a b : Cv) (K : Int) (l : Bool) (t u : Nat) (w : World) (hA : Ints w w.heap.size A n a.vals) (hB : Ints w w.heap.size B m b.vals) (ha : a.Ok) (hb : b.Ok) (htu : t + u ≤ 4000) :
    Calls Try.prog 89 #[.agg (dpA A n c a B m d b K l), .int .i64 t, .int .i64 u] w (fun e w' => e = .returned (.int .i64 (gn a b t u)) ∧ Below w.heap.size w w') := by
  have a1 := ha.n1; have a2 := ha.n2; have a3 := ha.p1; have a4 := ha.p2; have a5 := ha.pn; have a6 := ha.i1; have a7 := ha.i2
  have b1 := hb.n1; have b2 := hb.n2; have b3 := hb.p1; have b4 := hb.p2; have b5 := hb.pn; have b6 := hb.i1; have b7 := hb.i2
  have hln : a.vals.length = n := hA.1
  have hlm : b.vals.length = m := hB.1
  rw [hln] at a1 a2 a5
  rw [hlm] at b1 b2 b5
  obtain ⟨x, hx⟩ : ∃ x, x = a.at (t + u) := ⟨_, rfl⟩
  obtain ⟨y, hy⟩ : ∃ y, y = b.at u := ⟨_, rfl⟩
  obtain ⟨tu, htu'⟩ : ∃ tu : Nat, tu = t + u := ⟨_, rfl⟩
  have x1 := (ha.at_bd (n := t + u) (by omega)).1; have x2 := (ha.at_bd (n := t + u) (by omega)).2.1
  have y1 := (hb.at_bd (n := u) (by omega)).1; have y2 := (hb.at_bd (n := u) (by omega)).2.1
  rw [← hx] at x1 x2
  rw [← hy] at y1 y2
  have e1 : IntKind.i64.wrap ((t : Int) + (u : Int)) = (tu : Int) := by rw [IntWalk.i64_in _ (by omega)]; omega
  have e2 : (t : Int) + (u : Int) = (tu : Int) := by omega
  have e3 : IntKind.i64.wrap (tu : Int) = (tu : Int) := IntWalk.i64_in _ (by omega)
  have htb : tu ≤ 4000 := by omega
  have hub : u ≤ 4000 := by omega
  unfold inf at x2 y2
  have G : gn a b t u = if x = 4611686018427387904 then 4611686018427387904 else x - y := by unfold gn; rw [← hx, ← hy]; rfl
  rw [G]
  rw [← htu'] at hx
  have HX := Lib.hid hx; have HY := Lib.hid hy
  have E := Lib.hid (PE.new (c := c) (d := d) (K := K) (l := l) hA hB)
  have HA := Lib.hid ha; have HB := Lib.hid hb
  clear hA hB ha hb G hx hy htu' htu hln hlm
  unfold dpA at E
  unfold dpA
  go_enter Try.func89, Try.ntmps89
  go_upto_region 1 with fail
  generalize hwe : w.alloc (.cells #[.slice A n c, .int .i64 a.per, .int .i64 a.inc, .slice B m d, .int .i64 b.per, .int .i64 b.inc, .int .i64 K, .bool l] 105) = we at *
  clear hwe
  have E : Hid (PE w we A n c a B m d b K l) := E
  generalize (Value.agg #[.slice A n c, .int .i64 a.per, .int .i64 a.inc, .slice B m d, .int .i64 b.per, .int .i64 b.inc, .int .i64 K, .bool l]) = v0
  obtain ⟨⟨f0, f1, f2⟩, ⟨g0, g1, g2⟩, ⟨p6, p7⟩, hlf⟩ := E.out.cells
  go_wp2_with fail
  refine (at_any A n c a.per a.inc (tu : Int) a.vals _ (by exact E.out.ja) (by omega) (by omega) (by omega) (by omega) (by omega) HA.out.nn (by omega) (by omega)).mono ?_
  rw [Int.toNat_natCast, ← HX.out]
  rintro e wq ⟨rfl, hb⟩
  replace E := Lib.hid (E.out.below hb)
  clear hb
  clear f0 f1 f2 g0 g1 g2 p6 p7 hlf
  obtain ⟨⟨f0, f1, f2⟩, ⟨g0, g1, g2⟩, ⟨p6, p7⟩, hlf⟩ := E.out.cells
  by_cases hxi : x = 4611686018427387904
  · have dx : (x == 4611686018427387904) = true := by simpa using hxi
    subst hxi
    have bw := E.out.bw
    go_wp2_with fail
    go_ret
    first | exact ⟨rfl, bw⟩ | exact ⟨by rw [if_pos rfl], bw⟩
  · have dx : (x == 4611686018427387904) = false := by simpa using hxi
    have HXI := Lib.hid hxi
    clear hxi
    have e4 : IntKind.i64.wrap (x - y) = x - y := IntWalk.i64_in _ (by omega)
    go_wp2_with fail
    refine (at_any B m d b.per b.inc (u : Int) b.vals _ (by exact E.out.jb) (by omega) (by omega) (by omega) (by omega) (by omega) HB.out.nn (by omega) (by omega)).mono ?_
    rw [Int.toNat_natCast, ← HY.out]
    rintro e wk ⟨rfl, hb⟩
    replace E := Lib.hid (E.out.below hb)
    clear hb
    clear f0 f1 f2 g0 g1 g2 p6 p7 hlf
    obtain ⟨⟨f0, f1, f2⟩, ⟨g0, g1, g2⟩, ⟨p6, p7⟩, hlf⟩ := E.out.cells
    have bw := E.out.bw
    go_wp2_with fail
    go_ret
    first | exact ⟨rfl, bw⟩ | exact ⟨by rw [if_neg HXI.out], bw⟩
set_option maxHeartbeats 1000000 in
set_option maxRecDepth 100000 in
theorem extent_any (A B C : Option Addr) (n m k c d s : Nat) (a b h : Cv) (K : Int) (l : Bool) (w : World) (hA : Ints w w.heap.size A n a.vals) (hB : Ints w w.heap.size B m b.vals) (hC : h.vals.length = k) (ha : a.Ok) (hb : b.Ok) (hh : h.Ok) :
    Calls Try.prog 88 #[.agg (dpA A n c a B m d b K l), .agg #[.slice C k s, .int .i64 h.per, .int .i64 h.inc]] w (fun e w' => e = .returned (.int .i64 (dcExt a h : Nat)) ∧ Below w.heap.size w w') := by
  have a1 := ha.n1; have a2 := ha.n2; have a3 := ha.p1; have a4 := ha.p2; have a5 := ha.pn; have a6 := ha.i1; have a7 := ha.i2
  have b1 := hh.n1; have b2 := hh.n2; have b3 := hh.p1; have b4 := hh.p2; have b5 := hh.pn; have b6 := hh.i1; have b7 := hh.i2
  have hln : a.vals.length = n := hA.1
  have hlm : h.vals.length = k := hC
  rw [hln] at a1 a2 a5
  rw [hlm] at b1 b2 b5
  obtain ⟨X, hX⟩ : ∃ X : Nat, X = dcExt a h := ⟨_, rfl⟩
  obtain ⟨S, hS⟩ : ∃ S : Nat, S = max (a.vals.length - a.per.toNat) (h.vals.length - h.per.toNat) := ⟨_, rfl⟩
  have hSX : (X : Int) = (S : Int) + a.per := by rw [hX, hS]; unfold dcExt; omega
  have hS2 : S ≤ 400 := by rw [hS, hln, hlm]; omega
  have hmx : (if (n : Int) - a.per < (k : Int) - h.per then (k : Int) - h.per else (n : Int) - a.per) = (S : Int) := by
    rw [hS, hln, hlm]; split <;> omega
  have e1 : IntKind.i64.wrap ((S : Int) + a.per) = (X : Int) := by rw [IntWalk.i64_in _ (by omega)]; omega
  have e2 : (S : Int) + a.per = (X : Int) := by omega
  have e3 : IntKind.i64.wrap (X : Int) = (X : Int) := IntWalk.i64_in _ (by omega)
  rw [← hX]
  have E := Lib.hid ((PE.new (c := c) (d := d) (K := K) (l := l) hA hB).alloc (.cells #[.slice C k s, .int .i64 h.per, .int .i64 h.inc] 44))
  have HB := Lib.hid (Blk.new (w.alloc (.cells (dpA A n c a B m d b K l) 105)) 44 #[.slice C k s, .int .i64 h.per, .int .i64 h.inc])
  have hhs := (show (w.alloc (.cells (dpA A n c a B m d b K l) 105)).heap.size = w.heap.size + 1 from World.size_alloc _ _)
  rw [hhs] at HB
  clear hA hB ha hb hh hX hS hln hlm hC hhs hSX
  unfold dpA at E HB
  unfold dpA
  go_enter Try.func88, Try.ntmps88
  go_upto_region 1 with fail
  generalize hwe : (w.alloc (.cells #[.slice A n c, .int .i64 a.per, .int .i64 a.inc, .slice B m d, .int .i64 b.per, .int .i64 b.inc, .int .i64 K, .bool l] 105)).alloc (.cells #[.slice C k s, .int .i64 h.per, .int .i64 h.inc] 44) = we at *
  clear hwe
  have E : Hid (PE w we A n c a B m d b K l) := E
  generalize (Value.agg #[.slice A n c, .int .i64 a.per, .int .i64 a.inc, .slice B m d, .int .i64 b.per, .int .i64 b.inc, .int .i64 K, .bool l]) = v0
  generalize (Value.agg #[.slice C k s, .int .i64 h.per, .int .i64 h.inc]) = v1
  go_cut [4] (fun s4 wx => s4 = .int .i64 X ∧ PE w wx A n c a B m d b K l)
  case first =>
    have E := Lib.hid E.out.drew
    have HB := Lib.hid (Blk.drew HB.out)
    obtain ⟨⟨f0, f1, f2⟩, ⟨g0, g1, g2⟩, ⟨p6, p7⟩, hlf⟩ := E.out.cells
    obtain ⟨⟨h0, h1, h2⟩, _, hlh⟩ := HB.out.c3
    refine wp_region_held_drew (S := (fun w' => w'.cell? ⟨w.heap.size, 0, none⟩ = some (.slice A n c) ∧ w'.cell? ⟨w.heap.size, 1, none⟩ = some (.int .i64 a.per) ∧ w'.cell? ⟨w.heap.size, 2, none⟩ = some (.int .i64 a.inc) ∧ w'.cell? ⟨w.heap.size + 1, 0, none⟩ = some (.slice C k s) ∧ w'.cell? ⟨w.heap.size + 1, 1, none⟩ = some (.int .i64 h.per) ∧ w'.cell? ⟨w.heap.size + 1, 2, none⟩ = some (.int .i64 h.inc))) (by kernel_rfl) (by exact ⟨f0, f1, f2, h0, h1, h2⟩) (fun hHeld => ?_)
    generalize hwd : we.drew = wd at *
    clear hwd
    refine wpAnyH_take (i := 0) (oi := _) (v := ?_) (by simp only [List.getElem?_toArray, List.getElem?_cons_zero]; rfl) (by kernel_rfl) (by kernel_rfl) (by kernel_rfl) (by exact fun _ _ _ h => h) (Or.inl ⟨by rfl, ?_⟩) (by assumption) ?_
    rotate_left 1
    · (intro w hSw; (try dsimp only at hSw); go_simp; try with_reducible rfl)
    all_goals try simp only [Act.put]
    all_goals try simp only [List.setIfInBounds_toArray]
    all_goals try simp only [List.set_cons_succ]
    all_goals try simp only [List.set_cons_zero]
    refine wpAnyH_take (i := 1) (oi := _) (v := ?_) (by simp only [List.getElem?_toArray, List.getElem?_cons_succ, List.getElem?_cons_zero]; rfl) (by kernel_rfl) (by kernel_rfl) (by kernel_rfl) (by exact fun _ _ _ h => h) (Or.inl ⟨by rfl, ?_⟩) (by assumption) ?_
    rotate_left 1
    · (intro w hSw; (try dsimp only at hSw); go_simp; try with_reducible rfl)
    all_goals try simp only [Act.put]
    all_goals try simp only [List.setIfInBounds_toArray]
    all_goals try simp only [List.set_cons_succ]
    all_goals try simp only [List.set_cons_zero]
    refine wpAnyH_take (i := 3) (oi := _) (v := ?_) (by simp only [List.getElem?_toArray, List.getElem?_cons_succ, List.getElem?_cons_zero]; rfl) (by kernel_rfl) (by kernel_rfl) (by kernel_rfl) (by exact fun _ _ _ h => h) (Or.inl ⟨by rfl, ?_⟩) (by assumption) ?_
    rotate_left 1
    · (intro w hSw; (try dsimp only at hSw); go_simp; try with_reducible rfl)
    all_goals try simp only [Act.put]
    all_goals try simp only [List.setIfInBounds_toArray]
    all_goals try simp only [List.set_cons_succ]
    all_goals try simp only [List.set_cons_zero]
    refine wpAnyH_take (i := 6) (oi := _) (v := ?_) (by simp only [List.getElem?_toArray, List.getElem?_cons_succ, List.getElem?_cons_zero]; rfl) (by kernel_rfl) (by kernel_rfl) (by kernel_rfl) (by exact fun _ _ _ h => h) (Or.inl ⟨by rfl, ?_⟩) (by assumption) ?_
    rotate_left 1
    · (intro w hSw; (try dsimp only at hSw); go_simp; try with_reducible rfl)
    all_goals try simp only [Act.put]
    all_goals try simp only [List.setIfInBounds_toArray]
    all_goals try simp only [List.set_cons_succ]
    all_goals try simp only [List.set_cons_zero]
    refine wpAnyH_take (i := 7) (oi := _) (v := ?_) (by simp only [List.getElem?_toArray, List.getElem?_cons_succ, List.getElem?_cons_zero]; rfl) (by kernel_rfl) (by kernel_rfl) (by kernel_rfl) (by exact fun _ _ _ h => h) (Or.inl ⟨by rfl, ?_⟩) (by assumption) ?_
    rotate_left 1
    · (intro w hSw; (try dsimp only at hSw); go_simp; try with_reducible rfl)
    all_goals try simp only [Act.put]
    all_goals try simp only [List.setIfInBounds_toArray]
    all_goals try simp only [List.set_cons_succ]
    all_goals try simp only [List.set_cons_zero]
    refine wpAnyH_take (i := 8) (oi := _) (v := ?_) (by simp only [List.getElem?_toArray, List.getElem?_cons_succ, List.getElem?_cons_zero]; rfl) (by kernel_rfl) (by kernel_rfl) (by kernel_rfl) (by exact fun _ _ _ h => h) (Or.inl ⟨by rfl, ?_⟩) (by assumption) ?_
    rotate_left 1
    · (intro w hSw; (try dsimp only at hSw); go_simp; try with_reducible rfl)
    all_goals try simp only [Act.put]
    all_goals try simp only [List.setIfInBounds_toArray]
    all_goals try simp only [List.set_cons_succ]
    all_goals try simp only [List.set_cons_zero]
    refine wpAnyH_ready (rs := [2]) (by kernel_rfl) (by simp) ?_
    refine (AllReadyH.cons (by simp only [List.getElem?_toArray, List.getElem?_cons_succ, List.getElem?_cons_zero]; rfl) (fun K hK => ?_) AllReadyH.nil)
    rw [if_pos (by rfl)]
    go_simp
    refine (start_any A n c a.per a.inc _ (by omega) (by omega) (by omega)).mono ?_
    rintro e w3 ⟨rfl, hb⟩
    replace HB := Lib.hid (HB.out.below hb HB.out.lt)
    clear h0 h1 h2 hlh
    obtain ⟨⟨h0, h1, h2⟩, _, hlh⟩ := HB.out.c3
    clear hHeld
    replace E := Lib.hid (E.out.below hb)
    clear hb
    clear f0 f1 f2 g0 g1 g2 p6 p7 hlf
    obtain ⟨⟨f0, f1, f2⟩, ⟨g0, g1, g2⟩, ⟨p6, p7⟩, hlf⟩ := E.out.cells
    refine hK.out _ _ (by exact ⟨f0, f1, f2, h0, h1, h2⟩) (fun hHeld => ?_)
    clear hK K
    try simp only [Act.put]
    try simp only [List.setIfInBounds_toArray]
    try simp only [List.set_cons_succ]
    try simp only [List.set_cons_zero]
    refine wpAnyH_ready (rs := [4]) (by kernel_rfl) (by simp) ?_
    refine (AllReadyH.cons (by simp only [List.getElem?_toArray, List.getElem?_cons_succ, List.getElem?_cons_zero]; rfl) (fun K hK => ?_) AllReadyH.nil)
    rw [if_pos (by rfl)]
    go_simp
    refine (start_any C k s h.per h.inc _ (by omega) (by omega) (by omega)).mono ?_
    rintro e w4 ⟨rfl, hb⟩
    replace HB := Lib.hid (HB.out.below hb HB.out.lt)
    clear h0 h1 h2 hlh
    obtain ⟨⟨h0, h1, h2⟩, _, hlh⟩ := HB.out.c3
    clear hHeld
    replace E := Lib.hid (E.out.below hb)
    clear hb
    clear f0 f1 f2 g0 g1 g2 p6 p7 hlf
    obtain ⟨⟨f0, f1, f2⟩, ⟨g0, g1, g2⟩, ⟨p6, p7⟩, hlf⟩ := E.out.cells
    refine hK.out _ _ (by exact ⟨f0, f1, f2, h0, h1, h2⟩) (fun hHeld => ?_)
    clear hK K
    try simp only [Act.put]
    try simp only [List.setIfInBounds_toArray]
    try simp only [List.set_cons_succ]
    try simp only [List.set_cons_zero]
    refine wpAnyH_ready (rs := [5]) (by kernel_rfl) (by simp) ?_
    refine (AllReadyH.cons (by simp only [List.getElem?_toArray, List.getElem?_cons_succ, List.getElem?_cons_zero]; rfl) (fun K hK => ?_) AllReadyH.nil)
    rw [if_pos (by rfl)]
    go_simp
    refine hK.out _ _ (by exact ⟨f0, f1, f2, h0, h1, h2⟩) (fun hHeld => ?_)
    clear hK K
    try simp only [Act.put]
    try simp only [List.setIfInBounds_toArray]
    try simp only [List.set_cons_succ]
    try simp only [List.set_cons_zero]
    refine wpAnyH_take (i := 9) (oi := _) (v := ?_) (by simp only [List.getElem?_toArray, List.getElem?_cons_succ, List.getElem?_cons_zero]; rfl) (by kernel_rfl) (by kernel_rfl) (by kernel_rfl) (by exact fun _ _ _ h => h) (Or.inl ⟨by rfl, ?_⟩) (by assumption) ?_
    rotate_left 1
    · (intro w hSw; (try dsimp only at hSw); go_simp; try with_reducible rfl)
    all_goals try simp only [Act.put]
    all_goals try simp only [List.setIfInBounds_toArray]
    all_goals try simp only [List.set_cons_succ]
    all_goals try simp only [List.set_cons_zero]
    refine wpAnyH_take (i := 10) (oi := _) (v := ?_) (by simp only [List.getElem?_toArray, List.getElem?_cons_succ, List.getElem?_cons_zero]; rfl) (by kernel_rfl) (by kernel_rfl) (by kernel_rfl) (by exact fun _ _ _ h => h) (Or.inl ⟨by rfl, ?_⟩) (by assumption) ?_
    rotate_left 1
    · (intro w hSw; (try dsimp only at hSw); go_simp; try with_reducible rfl)
    all_goals try simp only [Act.put]
    all_goals try simp only [List.setIfInBounds_toArray]
    all_goals try simp only [List.set_cons_succ]
    all_goals try simp only [List.set_cons_zero]
    refine wpAnyH_done (by kernel_rfl) ?_ _
    go_wp2_with fail
    go_meet
    exact ⟨rfl, E.out⟩
  case rest =>
    clear E
    obtain ⟨rfl, hE⟩ := hcut
    have bw := hE.bw
    clear hE
    go_wp2_with fail
    go_ret
    exact ⟨rfl, bw⟩
end Go.Proofs.Ythgfmaijoigckaa
