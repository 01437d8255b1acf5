/- deconvolution: gain and extent. -/
import Derived.Test.YtbkimphcmmmaiaaDcOf
import Derived.Test.YtbkimphcmmmaiaaDcPLaw
import Derived.Test.YtbkimphcmmmaiaaDcFn
namespace Go.Proofs.Ytbkimphcmmmaiaa
open Go.RowKit
set_option linter.unusedVariables false

/-- the block of a pair -/
structure PE (w wx : World) (A : Option Addr) (n c : Nat) (a : Cv) (B : Option Addr) (m d : Nat) (b : Cv) (K : Int) (l : Bool) : Prop where
  pb : Blk wx w.heap.size 101 (dpA A n c a B m d b K l)
  ia : Ints wx w.heap.size A n a.vals
  ib : Ints wx w.heap.size B m b.vals
  bw : Below w.heap.size w wx
section
variable {w wx wy : World} {A B : Option Addr} {n c m d : Nat} {a b : Cv} {K : Int} {l : Bool}
theorem PE.new (hA : Ints w w.heap.size A n a.vals) (hB : Ints w w.heap.size B m b.vals) : PE w (w.alloc (.cells (dpA A n c a B m d b K l) 101)) A n c a B m d b K l :=
  ⟨Blk.new _ _ _, hA.alloc (Nat.le_refl _) _, hB.alloc (Nat.le_refl _) _, balloc _ _⟩
theorem PE.below (h : PE w wx A n c a B m d b K l) (hb : Below wx.heap.size wx wy) : PE w wy A n c a B m d b K l := ⟨h.pb.below hb h.pb.lt, h.ia.below (hb.mono h.bw.size), h.ib.below (hb.mono h.bw.size), bthen h.bw hb⟩
theorem PE.alloc (h : PE w wx A n c a B m d b K l) (o : Obj) : PE w (wx.alloc o) A n c a B m d b K l := h.below (balloc _ o)
theorem PE.drew (h : PE w wx A n c a B m d b K l) : PE w wx.drew A n c a B m d b K l := ⟨h.pb, h.ia, h.ib, Below.drew h.bw⟩
theorem PE.set (h : PE w wx A n c a B m d b K l) {g : Nat} (hg : w.heap.size < g) (i : Nat) (u : Value) : PE w (wx.setCell ⟨g, i, none⟩ u) A n c a B m d b K l :=
  ⟨h.pb.far (by show w.heap.size ≠ g; omega) _, h.ia.keep (fun q hq => World.cell?_setCell_other _ _ _ _ (fun e => by subst e; simp at hq; omega)), h.ib.keep (fun q hq => World.cell?_setCell_other _ _ _ _ (fun e => by subst e; simp at hq; omega)),
    h.bw.setCell (by show w.heap.size ≤ g; omega) _⟩
theorem PE.ja (h : PE w wx A n c a B m d b K l) : Ints wx wx.heap.size A n a.vals := h.ia.more h.bw.size
theorem PE.jb (h : PE w wx A n c a B m d b K l) : Ints wx wx.heap.size B m b.vals := h.ib.more h.bw.size
theorem PE.cells (h : PE w wx A n c a B m d b K l) : (wx.cell? ⟨w.heap.size, 0, none⟩ = some (.slice A n c) ∧ wx.cell? ⟨w.heap.size, 1, none⟩ = some (.int .i64 a.per) ∧ wx.cell? ⟨w.heap.size, 2, none⟩ = some (.int .i64 a.inc)) ∧
    (wx.cell? ⟨w.heap.size, 3, none⟩ = some (.slice B m d) ∧ wx.cell? ⟨w.heap.size, 4, none⟩ = some (.int .i64 b.per) ∧ wx.cell? ⟨w.heap.size, 5, none⟩ = some (.int .i64 b.inc)) ∧ (wx.cell? ⟨w.heap.size, 6, none⟩ = some (.int .i64 K) ∧ wx.cell? ⟨w.heap.size, 7, none⟩ = some (.bool l)) ∧ w.heap.size < wx.heap.size := by
  have q := fun i => h.pb.cell i
  have q0 := q 0; have q1 := q 1; have q2 := q 2; have q3 := q 3; have q4 := q 4; have q5 := q 5; have q6 := q 6; have q7 := q 7
  simp [dpA] at q0 q1 q2 q3 q4 q5 q6 q7
  exact ⟨⟨q0, q1, q2⟩, ⟨q3, q4, q5⟩, ⟨q6, q7⟩, h.pb.lt⟩
end
set_option maxHeartbeats 1000000 in
theorem prgain_any (A B : Option Addr) (n m c d : Nat) (a b : Cv) (K : Int) (l : Bool) (t u : Nat) (w : World) (hA : Ints w w.heap.size A n a.vals) (hB : Ints w w.heap.size B m b.vals) (ha : a.Ok) (hb : b.Ok) (htu : t + u ≤ 4000) :
    Calls Try.prog 141 #[.agg (dpA A n c a B m d b K l), .int .i64 t, .int .i64 u] w (fun e w' => e = .returned (.int .i64 (gn a b t u)) ∧ Below w.heap.size w w') := by
  have a1 := ha.n1; have a2 := ha.n2; have a3 := ha.p1; have a4 := ha.p2; have a5 := ha.pn; have a6 := ha.i1; have a7 := ha.i2
  have b1 := hb.n1; have b2 := hb.n2; have b3 := hb.p1; have b4 := hb.p2; have b5 := hb.pn; have b6 := hb.i1; have b7 := hb.i2
  have hln : a.vals.length = n := hA.1
  have hlm : b.vals.length = m := hB.1
  rw [hln] at a1 a2 a5
  rw [hlm] at b1 b2 b5
  obtain ⟨x, hx⟩ : ∃ x, x = a.at (t + u) := ⟨_, rfl⟩
  obtain ⟨y, hy⟩ : ∃ y, y = b.at u := ⟨_, rfl⟩
  obtain ⟨tu, htu'⟩ : ∃ tu : Nat, tu = t + u := ⟨_, rfl⟩
  have x1 := (ha.at_bd (n := t + u) (by omega)).1; have x2 := (ha.at_bd (n := t + u) (by omega)).2.1
  have y1 := (hb.at_bd (n := u) (by omega)).1; have y2 := (hb.at_bd (n := u) (by omega)).2.1
  rw [← hx] at x1 x2
  rw [← hy] at y1 y2
  have e1 : IntKind.i64.wrap ((t : Int) + (u : Int)) = (tu : Int) := by rw [IntWalk.i64_in _ (by omega)]; omega
  have e2 : (t : Int) + (u : Int) = (tu : Int) := by omega
  have e3 : IntKind.i64.wrap (tu : Int) = (tu : Int) := IntWalk.i64_in _ (by omega)
  have htb : tu ≤ 4000 := by omega
  have hub : u ≤ 4000 := by omega
  unfold inf at x2 y2
  have G : gn a b t u = if x = 4611686018427387904 then 4611686018427387904 else x - y := by unfold gn; rw [← hx, ← hy]; rfl
  rw [G]
  rw [← htu'] at hx
  have HX := Lib.hid hx; have HY := Lib.hid hy
  have E := Lib.hid (PE.new (c := c) (d := d) (K := K) (l := l) hA hB)
  have HA := Lib.hid ha; have HB := Lib.hid hb
  clear hA hB ha hb G hx hy htu' htu hln hlm
  unfold dpA at E
  unfold dpA
  go_enter Try.func141, Try.ntmps141
  go_upto_region 1 with fail
  generalize hwe : w.alloc (.cells #[.slice A n c, .int .i64 a.per, .int .i64 a.inc, .slice B m d, .int .i64 b.per, .int .i64 b.inc, .int .i64 K, .bool l] 101) = we at *
  clear hwe
  have E : Hid (PE w we A n c a B m d b K l) := E
  generalize (Value.agg #[.slice A n c, .int .i64 a.per, .int .i64 a.inc, .slice B m d, .int .i64 b.per, .int .i64 b.inc, .int .i64 K, .bool l]) = v0
  obtain ⟨⟨f0, f1, f2⟩, ⟨g0, g1, g2⟩, ⟨p6, p7⟩, hlf⟩ := E.out.cells
  go_wp2_with fail
  refine (at_any A n c a.per a.inc (tu : Int) a.vals _ (by exact E.out.ja) (by omega) (by omega) (by omega) (by omega) (by omega) HA.out.nn (by omega) (by omega)).mono ?_
  rw [Int.toNat_natCast, ← HX.out]
  rintro e wq ⟨rfl, hb⟩
  replace E := Lib.hid (E.out.below hb)
  clear hb
  clear f0 f1 f2 g0 g1 g2 p6 p7 hlf
  obtain ⟨⟨f0, f1, f2⟩, ⟨g0, g1, g2⟩, ⟨p6, p7⟩, hlf⟩ := E.out.cells
  by_cases hxi : x = 4611686018427387904
  · have dx : (x == 4611686018427387904) = true := by simpa using hxi
    subst hxi
    have bw := E.out.bw
    go_wp2_with fail
    go_ret
    first | exact ⟨rfl, bw⟩ | exact ⟨by rw [if_pos rfl], bw⟩
  · have dx : (x == 4611686018427387904) = false := by simpa using hxi
    have HXI := Lib.hid hxi
    clear hxi
    have e4 : IntKind.i64.wrap (x - y) = x - y := IntWalk.i64_in _ (by omega)
    go_wp2_with fail
    refine (at_any B m d b.per b.inc (u : Int) b.vals _ (by exact E.out.jb) (by omega) (by omega) (by omega) (by omega) (by omega) HB.out.nn (by omega) (by omega)).mono ?_
    rw [Int.toNat_natCast, ← HY.out]
    rintro e wk ⟨rfl, hb⟩
    replace E := Lib.hid (E.out.below hb)
    clear hb
    clear f0 f1 f2 g0 g1 g2 p6 p7 hlf
    obtain ⟨⟨f0, f1, f2⟩, ⟨g0, g1, g2⟩, ⟨p6, p7⟩, hlf⟩ := E.out.cells
    have bw := E.out.bw
    go_wp2_with fail
    go_ret
    first | exact ⟨rfl, bw⟩ | exact ⟨by rw [if_neg HXI.out], bw⟩
set_option maxHeartbeats 1000000 in
set_option maxRecDepth 100000 in
theorem extent_any (A B C : Option Addr) (n m k c d s : Nat) (a b h : Cv) (K : Int) (l : Bool) (w : World) (hA : Ints w w.heap.size A n a.vals) (hB : Ints w w.heap.size B m b.vals) (hC : h.vals.length = k) (ha : a.Ok) (hb : b.Ok) (hh : h.Ok) :
    Calls Try.prog 140 #[.agg (dpA A n c a B m d b K l), .agg #[.slice C k s, .int .i64 h.per, .int .i64 h.inc]] w (fun e w' => e = .returned (.int .i64 (dcExt a h : Nat)) ∧ Below w.heap.size w w') := by
  have a1 := ha.n1; have a2 := ha.n2; have a3 := ha.p1; have a4 := ha.p2; have a5 := ha.pn; have a6 := ha.i1; have a7 := ha.i2
  have b1 := hh.n1; have b2 := hh.n2; have b3 := hh.p1; have b4 := hh.p2; have b5 := hh.pn; have b6 := hh.i1; have b7 := hh.i2
  have hln : a.vals.length = n := hA.1
  have hlm : h.vals.length = k := hC
  rw [hln] at a1 a2 a5
  rw [hlm] at b1 b2 b5
  obtain ⟨X, hX⟩ : ∃ X : Nat, X = dcExt a h := ⟨_, rfl⟩
  obtain ⟨S, hS⟩ : ∃ S : Nat, S = max (a.vals.length - a.per.toNat) (h.vals.length - h.per.toNat) := ⟨_, rfl⟩
  have hSX : (X : Int) = (S : Int) + a.per := by rw [hX, hS]; unfold dcExt; omega
  have hS2 : S ≤ 400 := by rw [hS, hln, hlm]; omega
  have hmx : (if (n : Int) - a.per < (k : Int) - h.per then (k : Int) - h.per else (n : Int) - a.per) = (S : Int) := by
    rw [hS, hln, hlm]; split <;> omega
  have e1 : IntKind.i64.wrap ((S : Int) + a.per) = (X : Int) := by rw [IntWalk.i64_in _ (by omega)]; omega
  have e2 : (S : Int) + a.per = (X : Int) := by omega
  have e3 : IntKind.i64.wrap (X : Int) = (X : Int) := IntWalk.i64_in _ (by omega)
  rw [← hX]
  have E := Lib.hid ((PE.new (c := c) (d := d) (K := K) (l := l) hA hB).alloc (.cells #[.slice C k s, .int .i64 h.per, .int .i64 h.inc] 31))
  have HB := Lib.hid (Blk.new (w.alloc (.cells (dpA A n c a B m d b K l) 101)) 31 #[.slice C k s, .int .i64 h.per, .int .i64 h.inc])
  have hhs := (show (w.alloc (.cells (dpA A n c a B m d b K l) 101)).heap.size = w.heap.size + 1 from World.size_alloc _ _)
  rw [hhs] at HB
  clear hA hB ha hb hh hX hS hln hlm hC hhs hSX
  unfold dpA at E HB
  unfold dpA
  go_enter Try.func140, Try.ntmps140
  go_upto_region 1 with fail
  generalize hwe : (w.alloc (.cells #[.slice A n c, .int .i64 a.per, .int .i64 a.inc, .slice B m d, .int .i64 b.per, .int .i64 b.inc, .int .i64 K, .bool l] 101)).alloc (.cells #[.slice C k s, .int .i64 h.per, .int .i64 h.inc] 31) = we at *
  clear hwe
  have E : Hid (PE w we A n c a B m d b K l) := E
  generalize (Value.agg #[.slice A n c, .int .i64 a.per, .int .i64 a.inc, .slice B m d, .int .i64 b.per, .int .i64 b.inc, .int .i64 K, .bool l]) = v0
  generalize (Value.agg #[.slice C k s, .int .i64 h.per, .int .i64 h.inc]) = v1
  go_cut [4] (fun s4 wx => s4 = .int .i64 X ∧ PE w wx A n c a B m d b K l)
  case first =>
    have E := Lib.hid E.out.drew
    have HB := Lib.hid (Blk.drew HB.out)
    obtain ⟨⟨f0, f1, f2⟩, ⟨g0, g1, g2⟩, ⟨p6, p7⟩, hlf⟩ := E.out.cells
    obtain ⟨⟨h0, h1, h2⟩, _, hlh⟩ := HB.out.c3
    refine wp_region_held_drew (S := (fun w' => w'.cell? ⟨w.heap.size, 0, none⟩ = some (.slice A n c) ∧ w'.cell? ⟨w.heap.size, 1, none⟩ = some (.int .i64 a.per) ∧ w'.cell? ⟨w.heap.size, 2, none⟩ = some (.int .i64 a.inc) ∧ w'.cell? ⟨w.heap.size + 1, 0, none⟩ = some (.slice C k s) ∧ w'.cell? ⟨w.heap.size + 1, 1, none⟩ = some (.int .i64 h.per) ∧ w'.cell? ⟨w.heap.size + 1, 2, none⟩ = some (.int .i64 h.inc))) (by kernel_rfl) (by exact ⟨f0, f1, f2, h0, h1, h2⟩) (fun hHeld => ?_)
    generalize hwd : we.drew = wd at *
    clear hwd
    refine wpAnyH_take (i := 0) (oi := _) (v := ?_) (by simp only [List.getElem?_toArray, List.getElem?_cons_zero]; rfl) (by kernel_rfl) (by kernel_rfl) (by kernel_rfl) (by exact fun _ _ _ h => h) (Or.inl ⟨by rfl, ?_⟩) (by assumption) ?_
    rotate_left 1
    · (intro w hSw; (try dsimp only at hSw); go_simp; try with_reducible rfl)
    all_goals try simp only [Act.put]
    all_goals try simp only [List.setIfInBounds_toArray]
    all_goals try simp only [List.set_cons_succ]
    all_goals try simp only [List.set_cons_zero]
    refine wpAnyH_take (i := 1) (oi := _) (v := ?_) (by simp only [List.getElem?_toArray, List.getElem?_cons_succ, List.getElem?_cons_zero]; rfl) (by kernel_rfl) (by kernel_rfl) (by kernel_rfl) (by exact fun _ _ _ h => h) (Or.inl ⟨by rfl, ?_⟩) (by assumption) ?_
    rotate_left 1
    · (intro w hSw; (try dsimp only at hSw); go_simp; try with_reducible rfl)
    all_goals try simp only [Act.put]
    all_goals try simp only [List.setIfInBounds_toArray]
    all_goals try simp only [List.set_cons_succ]
    all_goals try simp only [List.set_cons_zero]
    refine wpAnyH_take (i := 3) (oi := _) (v := ?_) (by simp only [List.getElem?_toArray, List.getElem?_cons_succ, List.getElem?_cons_zero]; rfl) (by kernel_rfl) (by kernel_rfl) (by kernel_rfl) (by exact fun _ _ _ h => h) (Or.inl ⟨by rfl, ?_⟩) (by assumption) ?_
    rotate_left 1
    · (intro w hSw; (try dsimp only at hSw); go_simp; try with_reducible rfl)
    all_goals try simp only [Act.put]
    all_goals try simp only [List.setIfInBounds_toArray]
    all_goals try simp only [List.set_cons_succ]
    all_goals try simp only [List.set_cons_zero]
    refine wpAnyH_take (i := 6) (oi := _) (v := ?_) (by simp only [List.getElem?_toArray, List.getElem?_cons_succ, List.getElem?_cons_zero]; rfl) (by kernel_rfl) (by kernel_rfl) (by kernel_rfl) (by exact fun _ _ _ h => h) (Or.inl ⟨by rfl, ?_⟩) (by assumption) ?_
    rotate_left 1
    · (intro w hSw; (try dsimp only at hSw); go_simp; try with_reducible rfl)
    all_goals try simp only [Act.put]
    all_goals try simp only [List.setIfInBounds_toArray]
    all_goals try simp only [List.set_cons_succ]
    all_goals try simp only [List.set_cons_zero]
    refine wpAnyH_take (i := 7) (oi := _) (v := ?_) (by simp only [List.getElem?_toArray, List.getElem?_cons_succ, List.getElem?_cons_zero]; rfl) (by kernel_rfl) (by kernel_rfl) (by kernel_rfl) (by exact fun _ _ _ h => h) (Or.inl ⟨by rfl, ?_⟩) (by assumption) ?_
    rotate_left 1
    · (intro w hSw; (try dsimp only at hSw); go_simp; try with_reducible rfl)
    all_goals try simp only [Act.put]
    all_goals try simp only [List.setIfInBounds_toArray]
    all_goals try simp only [List.set_cons_succ]
    all_goals try simp only [List.set_cons_zero]
    refine wpAnyH_take (i := 8) (oi := _) (v := ?_) (by simp only [List.getElem?_toArray, List.getElem?_cons_succ, List.getElem?_cons_zero]; rfl) (by kernel_rfl) (by kernel_rfl) (by kernel_rfl) (by exact fun _ _ _ h => h) (Or.inl ⟨by rfl, ?_⟩) (by assumption) ?_
    rotate_left 1
    · (intro w hSw; (try dsimp only at hSw); go_simp; try with_reducible rfl)
    all_goals try simp only [Act.put]
    all_goals try simp only [List.setIfInBounds_toArray]
    all_goals try simp only [List.set_cons_succ]
    all_goals try simp only [List.set_cons_zero]
    refine wpAnyH_ready (rs := [2]) (by kernel_rfl) (by simp) ?_
    refine (AllReadyH.cons (by simp only [List.getElem?_toArray, List.getElem?_cons_succ, List.getElem?_cons_zero]; rfl) (fun K hK => ?_) AllReadyH.nil)
    rw [if_pos (by rfl)]
    go_simp
    refine (start_any A n c a.per a.inc _ (by omega) (by omega) (by omega)).mono ?_
    rintro e w3 ⟨rfl, hb⟩
    replace HB := Lib.hid (HB.out.below hb HB.out.lt)
    clear h0 h1 h2 hlh
    obtain ⟨⟨h0, h1, h2⟩, _, hlh⟩ := HB.out.c3
    clear hHeld
    replace E := Lib.hid (E.out.below hb)
    clear hb
    clear f0 f1 f2 g0 g1 g2 p6 p7 hlf
    obtain ⟨⟨f0, f1, f2⟩, ⟨g0, g1, g2⟩, ⟨p6, p7⟩, hlf⟩ := E.out.cells
    refine hK.out _ _ (by exact ⟨f0, f1, f2, h0, h1, h2⟩) (fun hHeld => ?_)
    clear hK K
    try simp only [Act.put]
    try simp only [List.setIfInBounds_toArray]
    try simp only [List.set_cons_succ]
    try simp only [List.set_cons_zero]
    refine wpAnyH_ready (rs := [4]) (by kernel_rfl) (by simp) ?_
    refine (AllReadyH.cons (by simp only [List.getElem?_toArray, List.getElem?_cons_succ, List.getElem?_cons_zero]; rfl) (fun K hK => ?_) AllReadyH.nil)
    rw [if_pos (by rfl)]
    go_simp
    refine (start_any C k s h.per h.inc _ (by omega) (by omega) (by omega)).mono ?_
    rintro e w4 ⟨rfl, hb⟩
    replace HB := Lib.hid (HB.out.below hb HB.out.lt)
    clear h0 h1 h2 hlh
    obtain ⟨⟨h0, h1, h2⟩, _, hlh⟩ := HB.out.c3
    clear hHeld
    replace E := Lib.hid (E.out.below hb)
    clear hb
    clear f0 f1 f2 g0 g1 g2 p6 p7 hlf
    obtain ⟨⟨f0, f1, f2⟩, ⟨g0, g1, g2⟩, ⟨p6, p7⟩, hlf⟩ := E.out.cells
    refine hK.out _ _ (by exact ⟨f0, f1, f2, h0, h1, h2⟩) (fun hHeld => ?_)
    clear hK K
    try simp only [Act.put]
    try simp only [List.setIfInBounds_toArray]
    try simp only [List.set_cons_succ]
    try simp only [List.set_cons_zero]
    refine wpAnyH_ready (rs := [5]) (by kernel_rfl) (by simp) ?_
    refine (AllReadyH.cons (by simp only [List.getElem?_toArray, List.getElem?_cons_succ, List.getElem?_cons_zero]; rfl) (fun K hK => ?_) AllReadyH.nil)
    rw [if_pos (by rfl)]
    go_simp
    refine hK.out _ _ (by exact ⟨f0, f1, f2, h0, h1, h2⟩) (fun hHeld => ?_)
    clear hK K
    try simp only [Act.put]
    try simp only [List.setIfInBounds_toArray]
    try simp only [List.set_cons_succ]
    try simp only [List.set_cons_zero]
    refine wpAnyH_take (i := 9) (oi := _) (v := ?_) (by simp only [List.getElem?_toArray, List.getElem?_cons_succ, List.getElem?_cons_zero]; rfl) (by kernel_rfl) (by kernel_rfl) (by kernel_rfl) (by exact fun _ _ _ h => h) (Or.inl ⟨by rfl, ?_⟩) (by assumption) ?_
    rotate_left 1
    · (intro w hSw; (try dsimp only at hSw); go_simp; try with_reducible rfl)
    all_goals try simp only [Act.put]
    all_goals try simp only [List.setIfInBounds_toArray]
    all_goals try simp only [List.set_cons_succ]
    all_goals try simp only [List.set_cons_zero]
    refine wpAnyH_take (i := 10) (oi := _) (v := ?_) (by simp only [List.getElem?_toArray, List.getElem?_cons_succ, List.getElem?_cons_zero]; rfl) (by kernel_rfl) (by kernel_rfl) (by kernel_rfl) (by exact fun _ _ _ h => h) (Or.inl ⟨by rfl, ?_⟩) (by assumption) ?_
    rotate_left 1
    · (intro w hSw; (try dsimp only at hSw); go_simp; try with_reducible rfl)
    all_goals try simp only [Act.put]
    all_goals try simp only [List.setIfInBounds_toArray]
    all_goals try simp only [List.set_cons_succ]
    all_goals try simp only [List.set_cons_zero]
    refine wpAnyH_done (by kernel_rfl) ?_ _
    go_wp2_with fail
    go_meet
    exact ⟨rfl, E.out⟩
  case rest =>
    clear E
    obtain ⟨rfl, hE⟩ := hcut
    have bw := hE.bw
    clear hE
    go_wp2_with fail
    go_ret
    exact ⟨rfl, bw⟩
end Go.Proofs.Ytbkimphcmmmaiaa
namespace Go.Proofs.Ytbkimphcmmmaiaa
open Go.RowKit
set_option linter.unusedVariables false

/-- what a function that returns a certificate and an error returns -/
def RetGn (S : Cv → List Int → Int → Prop) (w : World) (e : Ending) (w' : World) : Prop :=
  ∃ r cs er, S r cs er ∧ ∃ (A : Option Addr) (n c : Nat) (B : Option Addr) (m d : Nat), n ≤ c ∧ m ≤ d ∧ e = .returned (.tuple #[.agg #[.slice A n c, .int .i64 r.per, .int .i64 r.inc, .slice B m d], .int .i64 er]) ∧
    Ints w' w'.heap.size A n r.vals ∧ Ints w' w'.heap.size B m cs ∧ (∀ b off s, A = some ⟨b, off, s⟩ → w.heap.size ≤ b) ∧ (∀ b off s, B = some ⟨b, off, s⟩ → w.heap.size ≤ b) ∧ Below w.heap.size w w'
theorem Blk.c4 {w : World} {g : Nat} {t : TypeId} {x y z u : Value} (h : Blk w g t #[x, y, z, u]) : (w.cell? ⟨g, 0, none⟩ = some x ∧ w.cell? ⟨g, 1, none⟩ = some y ∧ w.cell? ⟨g, 2, none⟩ = some z ∧ w.cell? ⟨g, 3, none⟩ = some u) ∧
    (w.frozen? ⟨g, 0, none⟩ = false ∧ w.frozen? ⟨g, 1, none⟩ = false ∧ w.frozen? ⟨g, 2, none⟩ = false ∧ w.frozen? ⟨g, 3, none⟩ = false) ∧ g < w.heap.size :=
  ⟨⟨h.cell 0, h.cell 1, h.cell 2, h.cell 3⟩, ⟨h.frozen 0, h.frozen 1, h.frozen 2, h.frozen 3⟩, h.lt⟩
theorem Blk.store4 {w : World} {g : Nat} {t : TypeId} {a b c d : Value} (h : Blk w g t #[a, b, c, d]) (x y z u : Value) : Blk ((((w.setCell ⟨g, 0, none⟩ x).setCell ⟨g, 1, none⟩ y).setCell ⟨g, 2, none⟩ z).setCell ⟨g, 3, none⟩ u) g t #[x, y, z, u] :=
  (((h.set_ 0 x).set_ 1 y).set_ 2 z).set_ 3 u
theorem Ints.store4 {w1 : World} {B g0 n : Nat} {A : Option Addr} {zs : List Int} {x y z u : Value} (hI : Ints w1 w1.heap.size A n zs) (hf : ∀ b off s, A = some ⟨b, off, s⟩ → B ≤ b) (hB : g0 < B) :
    Ints ((((w1.setCell ⟨g0, 0, none⟩ x).setCell ⟨g0, 1, none⟩ y).setCell ⟨g0, 2, none⟩ z).setCell ⟨g0, 3, none⟩ u) ((((w1.setCell ⟨g0, 0, none⟩ x).setCell ⟨g0, 1, none⟩ y).setCell ⟨g0, 2, none⟩ z).setCell ⟨g0, 3, none⟩ u).heap.size A n zs := by
  simpa using ((((hI.setCell (fun b off s h => by have := hf b off s h; simp; omega) _).setCell (fun b off s h => by have := hf b off s h; simp; omega) _).setCell (fun b off s h => by have := hf b off s h; simp; omega) _).setCell (fun b off s h => by have := hf b off s h; simp; omega) _)
theorem below_store4 {w w1 : World} {g0 : Nat} (bw : Below w.heap.size w w1) (h0 : w.heap.size ≤ g0) (x y z u : Value) :
    Below w.heap.size w ((((w1.setCell ⟨g0, 0, none⟩ x).setCell ⟨g0, 1, none⟩ y).setCell ⟨g0, 2, none⟩ z).setCell ⟨g0, 3, none⟩ u) :=
  (((bw.setCell (by simpa using h0) _).setCell (by simpa using h0) _).setCell (by simpa using h0) _).setCell (by simpa using h0) _
/-- the first t numbers are found, the number at t is u, those behind are 0 -/
def GoodA (a b h : Cv) (t : Nat) (v : Int) : Prop := ∃ u : Nat, v = u ∧ u < dcK a b ∧ gn a b t u = h.at t ∧ ∀ x, x < u → gn a b t x ≠ h.at t
def MidA (a b h : Cv) (cs : List Int) (X t : Nat) (v : Int) : Prop := cs.length = X ∧ (∀ x, x < t → GoodA a b h x (nth cs x)) ∧ nth cs t = v ∧ ∀ x, t < x → nth cs x = 0
theorem MidA.start (a b h : Cv) (X : Nat) : MidA a b h (List.replicate X 0) X 0 0 := ⟨by simp, fun x hx => by omega, nth_replicate _ _, fun x _ => nth_replicate _ _⟩
theorem MidA.set {a b h : Cv} {cs : List Int} {X t : Nat} {v : Int} (H : MidA a b h cs X t v) (ht : t < X) (u : Int) : MidA a b h (cs.set t u) X t u := by
  obtain ⟨h1, h2, h3, h4⟩ := H
  refine ⟨by rw [List.length_set]; exact h1, fun x hx => ?_, ?_, fun x hx => ?_⟩
  · rw [nth_set _ _ _ _ (by omega), if_neg (by omega)]; exact h2 x hx
  · rw [nth_set _ _ _ _ (by omega), if_pos rfl]
  · rw [nth_set _ _ _ _ (by omega), if_neg (by omega)]; exact h4 x hx
theorem MidA.next {a b h : Cv} {cs : List Int} {X t : Nat} {v : Int} (H : MidA a b h cs X t v) (hv : GoodA a b h t v) : MidA a b h cs X (t + 1) 0 :=
  ⟨H.1, fun x hx => by
    rcases Nat.lt_or_ge x t with h1 | h1
    · exact H.2.1 x h1
    · obtain rfl : x = t := by omega
      rw [H.2.2.1]; exact hv, H.2.2.2 _ (by omega), fun x hx => H.2.2.2 x (by omega)⟩
theorem MidA.done {a b h : Cv} {cs : List Int} {v : Int} (H : MidA a b h cs (dcExt a h) (dcExt a h) v) : AtS a b h cs := ⟨H.1, fun t ht => H.2.1 t (by rw [H.1] at ht; exact ht)⟩
/-- the least tick that gives the value -/
theorem hit_least {a b h : Cv} {t : Nat} (H : ∃ u, u < dcK a b ∧ gn a b t u = h.at t) : ∃ U, U < dcK a b ∧ gn a b t U = h.at t ∧ ∀ x, x < U → gn a b t x ≠ h.at t := by
  obtain ⟨u, h1, h2⟩ := H
  obtain ⟨U, h3, h4⟩ := nat_least (Q := fun u => gn a b t u = h.at t) ⟨u, h2⟩
  refine ⟨U, ?_, h3, h4⟩
  rcases Nat.lt_or_ge u U with h5 | h5
  · exact absurd h2 (h4 u h5)
  · omega
theorem Ints.setG {w1 : World} {B n g : Nat} {A : Option Addr} {zs : List Int} (hI : Ints w1 B A n zs) (hg : B ≤ g) (i : Nat) (u : Value) : Ints (w1.setCell ⟨g, i, none⟩ u) B A n zs :=
  hI.keep (fun q hq => World.cell?_setCell_other _ _ _ _ (fun e => by subst e; simp at hq; omega))
theorem RowI.sto {w w' : World} {g h : Nat} {zs : List Int} (H : RowI w g zs) (s : Sto h w w') (hne : g ≠ h) : RowI w' g zs := by obtain ⟨cur, h1, h2⟩ := H; exact ⟨cur, h1.sto s hne, h2⟩
theorem PE.sto {w wx wy : World} {A B : Option Addr} {n c m d : Nat} {a b : Cv} {K : Int} {l : Bool} (h : PE w wx A n c a B m d b K l) {g : Nat} (s : Sto g wx wy) (hg : w.heap.size < g) : PE w wy A n c a B m d b K l :=
  ⟨h.pb.sto s (by omega), h.ia.stoB s (by omega), h.ib.stoB s (by omega), bsto h.bw s (by omega)⟩
set_option maxHeartbeats 4000000 in
set_option maxRecDepth 100000 in
theorem dcprv_any (A B : Option Addr) (n m c d : Nat) (p i q j : Int) (xs ys : List Int) (w : World) (hA : Ints w w.heap.size A n xs) (hB : Ints w w.heap.size B m ys) (hn : (n : Int) ≤ 1000000) (hm : (m : Int) ≤ 1000000) :
    Calls Try.prog 80 #[.agg #[.slice A n c, .int .i64 p, .int .i64 i], .agg #[.slice B m d, .int .i64 q, .int .i64 j]] w (RetGn (ProveS ⟨xs, p, i⟩ ⟨ys, q, j⟩) w) := by
  have P := Lib.hid ((PS.new (c := c) (p := p) (i := i) (d := d) (q := q) (j := j) hA hB).alloc (.cells #[.slice none 0 0, .int .i64 0, .int .i64 0, .slice none 0 0] 106))
  have rb := Blk.new ((w.alloc (.cells #[.slice A n c, .int .i64 p, .int .i64 i] 31)).alloc (.cells #[.slice B m d, .int .i64 q, .int .i64 j] 31)) 106 #[.slice none 0 0, .int .i64 0, .int .i64 0, .slice none 0 0]
  rw [World.size_alloc, World.size_alloc] at rb
  have RB := Lib.hid rb
  clear hA hB rb
  go_enter Try.func80, Try.ntmps80
  obtain ⟨f0, f1, f2, g0, g1, g2, hlf, hlg⟩ := P.out.cells
  go_wp2_with fail
  refine (dcboth_any A B n m c d p i q j xs ys _ P.out.ia P.out.ib hn hm).mono ?_
  rintro e w1 (⟨er, hbad, rfl, hb⟩ | ⟨hfo, hgo, a, b, A1, n1, c1, B1, m1, d1, l, hna, hnb, hao, hbo, h0, hcm, hl, rfl, hI1, hI2, hA1, hB1, hb⟩)
  · have hne : (er != 0) = true := by
      rcases hbad with ⟨_, rfl⟩ | ⟨_, _, _, rfl⟩ | ⟨_, _, _, rfl, _⟩ <;> rfl
    have FIN := Lib.hid (show ProveS ⟨xs, p, i⟩ ⟨ys, q, j⟩ Cv.none [] er from ⟨.inl ⟨hbad, rfl⟩, .inl ⟨by simpa using hne, rfl⟩⟩)
    have BW := Lib.hid (bthen P.out.bw hb)
    replace RB := Lib.hid (RB.out.below hb RB.out.lt)
    clear hbad hb P f0 f1 f2 g0 g1 g2 hlf hlg
    unfold zero8
    have hs0 : w.heap.size + 1 + 1 < w1.heap.size := RB.out.lt
    replace RB := Lib.hid (RB.out.alloc (.cells #[.slice none 0 0, .int .i64 0, .int .i64 0, .slice none 0 0, .int .i64 0, .int .i64 0, .int .i64 0, .bool false] 101))
    replace BW := Lib.hid (bthen BW.out (balloc _ (.cells #[.slice none 0 0, .int .i64 0, .int .i64 0, .slice none 0 0, .int .i64 0, .int .i64 0, .int .i64 0, .bool false] 101)))
    go_upto_region 2 with fail
    generalize hwe : w1.alloc (.cells #[.slice none 0 0, .int .i64 0, .int .i64 0, .slice none 0 0, .int .i64 0, .int .i64 0, .int .i64 0, .bool false] 101) = w2 at *
    clear hwe
    obtain ⟨⟨r0, r1, r2, r3⟩, ⟨y0, y1, y2, y3⟩, hlr⟩ := RB.out.c4
    go_wp2_with fail
    have rb := RB.out.store4 (.slice none 0 0) (.int .i64 0) (.int .i64 0) (.slice none 0 0)
    exact bodyPost_ret (v := .tuple #[.agg #[.slice none 0 0, .int .i64 0, .int .i64 0, .slice none 0 0], .int .i64 er]) (by simp [results, Try.results80, go_sem, rb.cell]) rfl
      ⟨Cv.none, [], er, FIN.out, none, 0, 0, none, 0, 0, Nat.le_refl 0, Nat.le_refl 0, rfl, Ints.none_, Ints.none_, (fun b off s h => by cases h), (fun b off s h => by cases h), below_store4 BW.out (by omega) _ _ _ _⟩
  · have hsz := RB.out.lt
    have RB0 := Lib.hid (RB.out.below hb RB.out.lt)
    have BW0 := Lib.hid (bthen P.out.bw hb)
    have E := Lib.hid (PE.new (c := c1) (d := d1) (K := (dcK a b : Nat)) (l := l) hI1 hI2)
    have hs1 := RB0.out.lt
    have HFO := Lib.hid hfo; have HGO := Lib.hid hgo; have HNA := Lib.hid hna; have HNB := Lib.hid hnb; have HAO := Lib.hid hao; have HBO := Lib.hid hbo; have H0 := Lib.hid h0; have HCM := Lib.hid hcm; have HL := Lib.hid hl
    have HN1 := Lib.hid (show a.vals.length = n1 from hI1.1); have HM1 := Lib.hid (show b.vals.length = m1 from hI2.1)
    clear hfo hgo hna hnb hao hbo h0 hcm hl hI1 hI2 hA1 hB1 hb P RB f0 f1 f2 g0 g1 g2 hlf hlg
    unfold dpA at E ⊢
    go_upto_region 2 with fail
    generalize hwe : w1.alloc (.cells #[.slice A1 n1 c1, .int .i64 a.per, .int .i64 a.inc, .slice B1 m1 d1, .int .i64 b.per, .int .i64 b.inc, .int .i64 (dcK a b : Nat), .bool l] 101) = w2 at *
    clear hwe
    have E : Hid (PE w1 w2 A1 n1 c1 a B1 m1 d1 b (dcK a b : Nat) l) := E
    have tb := dcof_any A1 B1 n1 m1 c1 d1 a b l w2 (by exact E.out.ja) (by exact E.out.jb) HAO.out HBO.out H0.out HCM.out HL.out (nf_before HNB.out)
    unfold dpA at tb
    have TB := Lib.hid tb
    clear tb
    obtain ⟨⟨f0, f1, f2⟩, ⟨g0, g1, g2⟩, ⟨p6, p7⟩, hlf⟩ := E.out.cells
    go_wp2_with fail
    refine TB.out.mono ?_
    rintro e w5 ⟨f, er, ⟨D, hD, hM⟩, A5, n5, c5, hc5, rfl, hI5, hA5, hbq⟩
    have DS := Lib.hid (show DcS ⟨xs, p, i⟩ ⟨ys, q, j⟩ f er from .inr ⟨HFO.out, HGO.out, by rw [← HNB.out.at]; exact H0.out, ⟨a, b, HNA.out, HNB.out, HCM.out⟩, D, hD.nf HFO.out HGO.out HNA.out HNB.out, hM⟩)
    have HDM := Lib.hid (show DcF a b D ∧ MadeS D f er from ⟨hD, hM⟩)
    have hs2 := E.out.pb.lt
    have HA5 := Lib.hid hA5; have HC5 := Lib.hid hc5
    have E := Lib.hid ((E.out.below hbq).alloc (.cells #[.slice A5 n5 c5, .int .i64 f.per, .int .i64 f.inc] 31))
    have HB := Lib.hid (Blk.new w5 31 #[.slice A5 n5 c5, .int .i64 f.per, .int .i64 f.inc])
    have HI5 := Lib.hid (hI5.alloc (Nat.le_refl _) (.cells #[.slice A5 n5 c5, .int .i64 f.per, .int .i64 f.inc] 31))
    have hbs := hbq.size
    clear hD hM hA5 hc5 hI5 hbq TB
    clear f0 f1 f2 g0 g1 g2 p6 p7 hlf
    go_upto_region 5 with fail
    generalize hwe : w5.alloc (.cells #[.slice A5 n5 c5, .int .i64 f.per, .int .i64 f.inc] 31) = w6 at *
    clear hwe
    generalize w5.heap.size = Hb at *
    by_cases her : er = 0
    case neg =>
      have hne : (er != 0) = true := by simpa using her
      have FIN := Lib.hid (show ProveS ⟨xs, p, i⟩ ⟨ys, q, j⟩ f [] er from ⟨DS.out, .inl ⟨her, rfl⟩⟩)
      clear her
      obtain ⟨⟨f0, f1, f2⟩, ⟨g0, g1, g2⟩, ⟨p6, p7⟩, hlf⟩ := E.out.cells
      obtain ⟨⟨h0, h1, h2⟩, _, hlh⟩ := HB.out.c3
      have RB := Lib.hid (RB0.out.below E.out.bw RB0.out.lt)
      obtain ⟨⟨r0, r1, r2, r3⟩, ⟨y0, y1, y2, y3⟩, hlr⟩ := RB.out.c4
      go_wp2_with fail
      have rb := RB.out.store4 (.slice A5 n5 c5) (.int .i64 f.per) (.int .i64 f.inc) (.slice none 0 0)
      have bwx := bthen BW0.out E.out.bw
      exact bodyPost_ret (v := .tuple #[.agg #[.slice A5 n5 c5, .int .i64 f.per, .int .i64 f.inc, .slice none 0 0], .int .i64 er]) (by simp [results, Try.results80, go_sem, rb.cell]) rfl
        ⟨f, [], er, FIN.out, A5, n5, c5, none, 0, 0, HC5.out, Nat.le_refl 0, rfl, (HI5.out.more (by omega)).store4 HA5.out (by omega), Ints.none_, (fun b off s e => by have := HA5.out b off s e; omega), (fun b off s e => by cases e), below_store4 bwx (by omega) _ _ _ _⟩
    case pos =>
      subst her
      have FR := Lib.hid (show f.Ok ∧ NF D f from by
        obtain ⟨h1, h2⟩ := HDM.out
        rcases h2.get (dc_up0 HAO.out HBO.out (by unfold ordC; exact HCM.out) H0.out h1) with h3 | h3
        · exact h3.2
        · exact absurd h3.1 (by decide))
      cases hlv : l
      case true =>
        have FIN := Lib.hid (show ProveS ⟨xs, p, i⟩ ⟨ys, q, j⟩ f [] 0 from ⟨DS.out, .inr ⟨rfl, a, b, HNA.out, HNB.out, .inl ⟨HL.out.1 hlv, rfl⟩⟩⟩)
        subst hlv
        obtain ⟨⟨f0, f1, f2⟩, ⟨g0, g1, g2⟩, ⟨p6, p7⟩, hlf⟩ := E.out.cells
        obtain ⟨⟨h0, h1, h2⟩, _, hlh⟩ := HB.out.c3
        have RB := Lib.hid (RB0.out.below E.out.bw RB0.out.lt)
        obtain ⟨⟨r0, r1, r2, r3⟩, ⟨y0, y1, y2, y3⟩, hlr⟩ := RB.out.c4
        go_wp2_with fail
        have rb := RB.out.store4 (.slice A5 n5 c5) (.int .i64 f.per) (.int .i64 f.inc) (.slice none 0 0)
        have bwx := bthen BW0.out E.out.bw
        exact bodyPost_ret (v := .tuple #[.agg #[.slice A5 n5 c5, .int .i64 f.per, .int .i64 f.inc, .slice none 0 0], .int .i64 0]) (by simp [results, Try.results80, go_sem, rb.cell]) rfl
          ⟨f, [], 0, FIN.out, A5, n5, c5, none, 0, 0, HC5.out, Nat.le_refl 0, rfl, (HI5.out.more (by omega)).store4 HA5.out (by omega), Ints.none_, (fun b off s e => by have := HA5.out b off s e; omega), (fun b off s e => by cases e), below_store4 bwx (by omega) _ _ _ _⟩
      case false =>
        have NS := Lib.hid (show ¬ Steep a b from fun h => by have := HL.out.2 h; rw [hlv] at this; cases this)
        have HITS := Lib.hid (show ∀ t, t ≤ 1000 → ∃ u, u < dcK a b ∧ gn a b t u = f.at t from fun t ht => by
          rw [FR.out.2.at]
          exact gn_hit HAO.out HBO.out (by unfold ordC; exact HCM.out) NS.out H0.out HDM.out.1 ht)
        have HFR := Lib.hid FR.out.1
        have hK := dcK_le HAO.out HBO.out (by unfold ordC; exact HCM.out)
        subst hlv
        obtain ⟨X, hX⟩ : ∃ X, X = dcExt a f := ⟨_, rfl⟩
        have hX5 : X ≤ 520 := by
          have h1 := HAO.out.n2; have h2 := HAO.out.p2; have h3 := HFR.out.n2; have h4 := HFR.out.p1; have h5 := HAO.out.p1
          rw [hX]; unfold dcExt
          have h6 := HAO.out.pn
          omega
        have HXX := Lib.hid hX
        clear hX
        have ff := HFR.out
        have f1' := ff.n1; have f2' := ff.n2; have f3' := ff.p1; have f4' := ff.p2; have f5' := ff.pn; have f6' := ff.i1; have f7' := ff.i2
        rw [HI5.out.1] at f1' f2' f5'
        clear ff
        obtain ⟨⟨f0, f1, f2⟩, ⟨g0, g1, g2⟩, ⟨p6, p7⟩, hlf⟩ := E.out.cells
        obtain ⟨⟨h0, h1, h2⟩, _, hlh⟩ := HB.out.c3
        go_upto_region 7 with fail
        go_cut [9] (fun s9 wx => ∃ G Q : Nat, s9 = .pointer (some ⟨Q, 0, none⟩) ∧ w1.heap.size < G ∧ Hb < G ∧ w1.heap.size < Q ∧ Hb < Q ∧ G ≠ Q ∧ Blk wx Q 106 #[.slice A5 n5 c5, .int .i64 f.per, .int .i64 f.inc, .slice (some ⟨G, 0, none⟩) X X] ∧ RowI wx G (List.replicate X 0) ∧ PE w1 wx A1 n1 c1 a B1 m1 d1 b (dcK a b : Nat) false ∧ Blk wx Hb 31 #[.slice A5 n5 c5, .int .i64 f.per, .int .i64 f.inc] ∧ Ints wx Hb A5 n5 f.vals)
        case first =>
          have E := Lib.hid E.out.drew; have HB := Lib.hid (Blk.drew HB.out); have HI5 := Lib.hid (Ints.drew HI5.out)
          clear f0 f1 f2 g0 g1 g2 p6 p7 hlf
          clear h0 h1 h2 hlh
          obtain ⟨⟨f0, f1, f2⟩, ⟨g0, g1, g2⟩, ⟨p6, p7⟩, hlf⟩ := E.out.cells
          obtain ⟨⟨h0, h1, h2⟩, _, hlh⟩ := HB.out.c3
          refine wp_region_held_drew (S := fun w' => w'.cell? ⟨w1.heap.size, 0, none⟩ = some (.slice A1 n1 c1) ∧ w'.cell? ⟨w1.heap.size, 1, none⟩ = some (.int .i64 a.per) ∧ w'.cell? ⟨w1.heap.size, 2, none⟩ = some (.int .i64 a.inc) ∧ w'.cell? ⟨w1.heap.size, 3, none⟩ = some (.slice B1 m1 d1) ∧ w'.cell? ⟨w1.heap.size, 4, none⟩ = some (.int .i64 b.per) ∧ w'.cell? ⟨w1.heap.size, 5, none⟩ = some (.int .i64 b.inc) ∧ w'.cell? ⟨w1.heap.size, 6, none⟩ = some (.int .i64 (dcK a b : Nat)) ∧ w'.cell? ⟨w1.heap.size, 7, none⟩ = some (.bool false) ∧ w'.cell? ⟨Hb, 0, none⟩ = some (.slice A5 n5 c5) ∧ w'.cell? ⟨Hb, 1, none⟩ = some (.int .i64 f.per) ∧ w'.cell? ⟨Hb, 2, none⟩ = some (.int .i64 f.inc)) (by kernel_rfl) (by exact ⟨f0, f1, f2, g0, g1, g2, p6, p7, h0, h1, h2⟩) (fun hHeld => ?_)
          generalize hwd : w6.drew = wd at *
          clear hwd
          refine wpAnyH_take (i := 0) (oi := _) (v := ?_) (by simp only [g8a, g8z]; rfl) (by kernel_rfl) (by kernel_rfl) (by kernel_rfl) (by exact fun _ _ _ h => h) (Or.inl ⟨by rfl, ?_⟩) (by assumption) ?_
          rotate_left 1
          · (intro w hSw; (try dsimp only at hSw); go_simp; try with_reducible rfl)
          all_goals ((try simp only [Act.put]); (try simp only [g8b]); (try simp only [g8c]); (try simp only [g8d]))
          refine wpAnyH_take (i := 1) (oi := _) (v := ?_) (by simp only [g8a, g8s, g8z]; rfl) (by kernel_rfl) (by kernel_rfl) (by kernel_rfl) (by exact fun _ _ _ h => h) (Or.inl ⟨by rfl, ?_⟩) (by assumption) ?_
          rotate_left 1
          · (intro w hSw; (try dsimp only at hSw); go_simp; try with_reducible rfl)
          all_goals ((try simp only [Act.put]); (try simp only [g8b]); (try simp only [g8c]); (try simp only [g8d]))
          refine wpAnyH_take (i := 2) (oi := _) (v := ?_) (by simp only [g8a, g8s, g8z]; rfl) (by kernel_rfl) (by kernel_rfl) (by kernel_rfl) (by exact fun _ _ _ h => h) (Or.inl ⟨by rfl, ?_⟩) (by assumption) ?_
          rotate_left 1
          · (intro w hSw; (try dsimp only at hSw); go_simp; try with_reducible rfl)
          all_goals ((try simp only [Act.put]); (try simp only [g8b]); (try simp only [g8c]); (try simp only [g8d]))
          refine wpAnyH_ready (rs := [3, 6]) (by kernel_rfl) (by simp) ?_
          refine (AllReadyH.cons (by simp only [g8a, g8s, g8z]; rfl) (fun K hK => ?_) (AllReadyH.cons (by simp only [g8a, g8s, g8z]; rfl) (fun K hK => ?_) AllReadyH.nil))
          · rw [if_pos (by rfl)]
            go_simp
            refine (extent_any A1 B1 A5 n1 m1 n5 c1 d1 c5 a b f (dcK a b : Nat) false wd (by exact E.out.ja) (by exact E.out.jb) HI5.out.1 HAO.out HBO.out HFR.out).mono ?_
            rw [← HXX.out]
            rintro e wa ⟨rfl, hbq⟩
            have E := Lib.hid (E.out.below hbq); have HI5 := Lib.hid (HI5.out.below (hbq.mono (by have := HB.out.lt; omega))); have HB := Lib.hid (HB.out.below hbq HB.out.lt)
            try (have GB := Lib.hid (GB.out.below hbq GB.out.lt))
            try (have SM := Lib.hid (SM.out.below hbq SM.out.lt))
            try clear hHeld
            clear f0 f1 f2 g0 g1 g2 p6 p7 hlf
            clear h0 h1 h2 hlh
            obtain ⟨⟨f0, f1, f2⟩, ⟨g0, g1, g2⟩, ⟨p6, p7⟩, hlf⟩ := E.out.cells
            obtain ⟨⟨h0, h1, h2⟩, _, hlh⟩ := HB.out.c3
            clear hbq
            refine hK.out _ _ (by exact ⟨f0, f1, f2, g0, g1, g2, p6, p7, h0, h1, h2⟩) (fun hHeld => ?_)
            clear hK K
            (try simp only [Act.put]); (try simp only [g8b]); (try simp only [g8c]); (try simp only [g8d])
            refine wpAnyH_ready (rs := [4, 6]) (by kernel_rfl) (by simp) ?_
            refine (AllReadyH.cons (by simp only [g8a, g8s, g8z]; rfl) (fun K hK => ?_) (AllReadyH.cons (by simp only [g8a, g8s, g8z]; rfl) (fun K hK => ?_) AllReadyH.nil))
            · refine step_make (by rfl) _ _ 22 (by rfl) Try.underlying22 .i64 .i64 _ _ X (by rfl) (by rfl) (by rfl) (by rfl) (by omega) ?_
              intro wb own1 grow1
              have hbq : Below wa.heap.size wa wb := (Below.refl _ _).grown grow1 (by simp) (by simp)
              have SM := Lib.hid (Own.row0 own1)
              have hgx : w1.heap.size < wa.heap.size := E.out.pb.lt
              have hgh : Hb < wa.heap.size := HB.out.lt
              try (have hqg : Q < wa.heap.size := GB.out.lt)
              have E := Lib.hid (E.out.below hbq); have HI5 := Lib.hid (HI5.out.below (hbq.mono (by have := HB.out.lt; omega))); have HB := Lib.hid (HB.out.below hbq HB.out.lt)
              try (have GB := Lib.hid (GB.out.below hbq GB.out.lt))
              clear hbq own1 grow1
              generalize wa.heap.size = G at *
              try clear hHeld
              clear f0 f1 f2 g0 g1 g2 p6 p7 hlf
              clear h0 h1 h2 hlh
              obtain ⟨⟨f0, f1, f2⟩, ⟨g0, g1, g2⟩, ⟨p6, p7⟩, hlf⟩ := E.out.cells
              obtain ⟨⟨h0, h1, h2⟩, _, hlh⟩ := HB.out.c3
              refine hK.out _ _ (by exact ⟨f0, f1, f2, g0, g1, g2, p6, p7, h0, h1, h2⟩) (fun hHeld => ?_)
              clear hK K
              (try simp only [Act.put]); (try simp only [g8b]); (try simp only [g8c]); (try simp only [g8d])
              refine wpAnyH_take (i := 5) (oi := _) (v := ?_) (by simp only [g8a, g8s, g8z]; rfl) (by kernel_rfl) (by kernel_rfl) (by kernel_rfl) (by exact fun _ _ _ h => h) (Or.inl ⟨by rfl, ?_⟩) (by assumption) ?_
              rotate_left 1
              · (intro w hSw; (try dsimp only at hSw); go_simp; try with_reducible rfl)
              all_goals ((try simp only [Act.put]); (try simp only [g8b]); (try simp only [g8c]); (try simp only [g8d]))
              refine wpAnyH_ready (rs := [6]) (by kernel_rfl) (by simp) ?_
              refine (AllReadyH.cons (by simp only [g8a, g8s, g8z]; rfl) (fun K hK => ?_) AllReadyH.nil)
              rw [if_pos (by rfl)]
              go_simp
              have hbq := balloc wb (.cells #[.slice none 0 0, .int .i64 0, .int .i64 0, .slice none 0 0] 106)
              have GB := Lib.hid (Blk.new wb 106 #[.slice none 0 0, .int .i64 0, .int .i64 0, .slice none 0 0])
              have hqx : w1.heap.size < wb.heap.size := E.out.pb.lt
              have hqh : Hb < wb.heap.size := HB.out.lt
              try (have hqg : G < wb.heap.size := SM.out.lt)
              have E := Lib.hid (E.out.below hbq); have HI5 := Lib.hid (HI5.out.below (hbq.mono (by have := HB.out.lt; omega))); have HB := Lib.hid (HB.out.below hbq HB.out.lt)
              try (have SM := Lib.hid (SM.out.below hbq SM.out.lt))
              generalize hwa : wb.alloc (.cells #[.slice none 0 0, .int .i64 0, .int .i64 0, .slice none 0 0] 106) = wc at *
              clear hwa hbq
              generalize wb.heap.size = Q at *
              try clear hHeld
              clear f0 f1 f2 g0 g1 g2 p6 p7 hlf
              clear h0 h1 h2 hlh
              obtain ⟨⟨f0, f1, f2⟩, ⟨g0, g1, g2⟩, ⟨p6, p7⟩, hlf⟩ := E.out.cells
              obtain ⟨⟨h0, h1, h2⟩, _, hlh⟩ := HB.out.c3
              refine hK.out _ _ (by exact ⟨f0, f1, f2, g0, g1, g2, p6, p7, h0, h1, h2⟩) (fun hHeld => ?_)
              clear hK K
              (try simp only [Act.put]); (try simp only [g8b]); (try simp only [g8c]); (try simp only [g8d])
              refine wpAnyH_ready (rs := [7]) (by kernel_rfl) (by simp) ?_
              refine (AllReadyH.cons (by simp only [g8a, g8s, g8z]; rfl) (fun K hK => ?_) AllReadyH.nil)
              refine step_storeN rfl 106 _ _ rfl rfl GB.out rfl rfl (by kernel_rfl) (by simp [Value.oneCell']) ?_
              intro wz hsto rz
              have E := Lib.hid (E.out.sto hsto hqx); have HB := Lib.hid (HB.out.sto hsto (by omega)); have HI5 := Lib.hid (HI5.out.stoB hsto (by omega)); have SM := Lib.hid (SM.out.sto hsto (by omega))
              clear f0 f1 f2 g0 g1 g2 p6 p7 hlf
              clear h0 h1 h2 hlh
              obtain ⟨⟨f0, f1, f2⟩, ⟨g0, g1, g2⟩, ⟨p6, p7⟩, hlf⟩ := E.out.cells
              obtain ⟨⟨h0, h1, h2⟩, _, hlh⟩ := HB.out.c3
              refine hK.out _ _ (by exact ⟨f0, f1, f2, g0, g1, g2, p6, p7, h0, h1, h2⟩) (fun hHeld => ?_)
              clear hK K
              (try simp only [Act.put]); (try simp only [g8b]); (try simp only [g8c]); (try simp only [g8d])
              refine wpAnyH_done (by kernel_rfl) ?_ _
              go_wp2_with fail
              go_meet
              exact ⟨G, Q, rfl, hgx, hgh, hqx, hqh, by omega, rz, SM.out, E.out, HB.out, HI5.out⟩
            · rw [if_pos (by rfl)]
              go_simp
              have hbq := balloc wa (.cells #[.slice none 0 0, .int .i64 0, .int .i64 0, .slice none 0 0] 106)
              have GB := Lib.hid (Blk.new wa 106 #[.slice none 0 0, .int .i64 0, .int .i64 0, .slice none 0 0])
              have hqx : w1.heap.size < wa.heap.size := E.out.pb.lt
              have hqh : Hb < wa.heap.size := HB.out.lt
              try (have hqg : G < wa.heap.size := SM.out.lt)
              have E := Lib.hid (E.out.below hbq); have HI5 := Lib.hid (HI5.out.below (hbq.mono (by have := HB.out.lt; omega))); have HB := Lib.hid (HB.out.below hbq HB.out.lt)
              try (have SM := Lib.hid (SM.out.below hbq SM.out.lt))
              generalize hwa : wa.alloc (.cells #[.slice none 0 0, .int .i64 0, .int .i64 0, .slice none 0 0] 106) = wb at *
              clear hwa hbq
              generalize wa.heap.size = Q at *
              try clear hHeld
              clear f0 f1 f2 g0 g1 g2 p6 p7 hlf
              clear h0 h1 h2 hlh
              obtain ⟨⟨f0, f1, f2⟩, ⟨g0, g1, g2⟩, ⟨p6, p7⟩, hlf⟩ := E.out.cells
              obtain ⟨⟨h0, h1, h2⟩, _, hlh⟩ := HB.out.c3
              refine hK.out _ _ (by exact ⟨f0, f1, f2, g0, g1, g2, p6, p7, h0, h1, h2⟩) (fun hHeld => ?_)
              clear hK K
              (try simp only [Act.put]); (try simp only [g8b]); (try simp only [g8c]); (try simp only [g8d])
              refine wpAnyH_ready (rs := [4]) (by kernel_rfl) (by simp) ?_
              refine (AllReadyH.cons (by simp only [g8a, g8s, g8z]; rfl) (fun K hK => ?_) AllReadyH.nil)
              refine step_make (by rfl) _ _ 22 (by rfl) Try.underlying22 .i64 .i64 _ _ X (by rfl) (by rfl) (by rfl) (by rfl) (by omega) ?_
              intro wc own1 grow1
              have hbq : Below wb.heap.size wb wc := (Below.refl _ _).grown grow1 (by simp) (by simp)
              have SM := Lib.hid (Own.row0 own1)
              have hgx : w1.heap.size < wb.heap.size := E.out.pb.lt
              have hgh : Hb < wb.heap.size := HB.out.lt
              try (have hqg : Q < wb.heap.size := GB.out.lt)
              have E := Lib.hid (E.out.below hbq); have HI5 := Lib.hid (HI5.out.below (hbq.mono (by have := HB.out.lt; omega))); have HB := Lib.hid (HB.out.below hbq HB.out.lt)
              try (have GB := Lib.hid (GB.out.below hbq GB.out.lt))
              clear hbq own1 grow1
              generalize wb.heap.size = G at *
              try clear hHeld
              clear f0 f1 f2 g0 g1 g2 p6 p7 hlf
              clear h0 h1 h2 hlh
              obtain ⟨⟨f0, f1, f2⟩, ⟨g0, g1, g2⟩, ⟨p6, p7⟩, hlf⟩ := E.out.cells
              obtain ⟨⟨h0, h1, h2⟩, _, hlh⟩ := HB.out.c3
              refine hK.out _ _ (by exact ⟨f0, f1, f2, g0, g1, g2, p6, p7, h0, h1, h2⟩) (fun hHeld => ?_)
              clear hK K
              (try simp only [Act.put]); (try simp only [g8b]); (try simp only [g8c]); (try simp only [g8d])
              refine wpAnyH_take (i := 5) (oi := _) (v := ?_) (by simp only [g8a, g8s, g8z]; rfl) (by kernel_rfl) (by kernel_rfl) (by kernel_rfl) (by exact fun _ _ _ h => h) (Or.inl ⟨by rfl, ?_⟩) (by assumption) ?_
              rotate_left 1
              · (intro w hSw; (try dsimp only at hSw); go_simp; try with_reducible rfl)
              all_goals ((try simp only [Act.put]); (try simp only [g8b]); (try simp only [g8c]); (try simp only [g8d]))
              refine wpAnyH_ready (rs := [7]) (by kernel_rfl) (by simp) ?_
              refine (AllReadyH.cons (by simp only [g8a, g8s, g8z]; rfl) (fun K hK => ?_) AllReadyH.nil)
              refine step_storeN rfl 106 _ _ rfl rfl GB.out rfl rfl (by kernel_rfl) (by simp [Value.oneCell']) ?_
              intro wz hsto rz
              have E := Lib.hid (E.out.sto hsto hqx); have HB := Lib.hid (HB.out.sto hsto (by omega)); have HI5 := Lib.hid (HI5.out.stoB hsto (by omega)); have SM := Lib.hid (SM.out.sto hsto (by omega))
              clear f0 f1 f2 g0 g1 g2 p6 p7 hlf
              clear h0 h1 h2 hlh
              obtain ⟨⟨f0, f1, f2⟩, ⟨g0, g1, g2⟩, ⟨p6, p7⟩, hlf⟩ := E.out.cells
              obtain ⟨⟨h0, h1, h2⟩, _, hlh⟩ := HB.out.c3
              refine hK.out _ _ (by exact ⟨f0, f1, f2, g0, g1, g2, p6, p7, h0, h1, h2⟩) (fun hHeld => ?_)
              clear hK K
              (try simp only [Act.put]); (try simp only [g8b]); (try simp only [g8c]); (try simp only [g8d])
              refine wpAnyH_done (by kernel_rfl) ?_ _
              go_wp2_with fail
              go_meet
              exact ⟨G, Q, rfl, hgx, hgh, hqx, hqh, by omega, rz, SM.out, E.out, HB.out, HI5.out⟩
          · rw [if_pos (by rfl)]
            go_simp
            have hbq := balloc wd (.cells #[.slice none 0 0, .int .i64 0, .int .i64 0, .slice none 0 0] 106)
            have GB := Lib.hid (Blk.new wd 106 #[.slice none 0 0, .int .i64 0, .int .i64 0, .slice none 0 0])
            have hqx : w1.heap.size < wd.heap.size := E.out.pb.lt
            have hqh : Hb < wd.heap.size := HB.out.lt
            try (have hqg : G < wd.heap.size := SM.out.lt)
            have E := Lib.hid (E.out.below hbq); have HI5 := Lib.hid (HI5.out.below (hbq.mono (by have := HB.out.lt; omega))); have HB := Lib.hid (HB.out.below hbq HB.out.lt)
            try (have SM := Lib.hid (SM.out.below hbq SM.out.lt))
            generalize hwa : wd.alloc (.cells #[.slice none 0 0, .int .i64 0, .int .i64 0, .slice none 0 0] 106) = wa at *
            clear hwa hbq
            generalize wd.heap.size = Q at *
            try clear hHeld
            clear f0 f1 f2 g0 g1 g2 p6 p7 hlf
            clear h0 h1 h2 hlh
            obtain ⟨⟨f0, f1, f2⟩, ⟨g0, g1, g2⟩, ⟨p6, p7⟩, hlf⟩ := E.out.cells
            obtain ⟨⟨h0, h1, h2⟩, _, hlh⟩ := HB.out.c3
            refine hK.out _ _ (by exact ⟨f0, f1, f2, g0, g1, g2, p6, p7, h0, h1, h2⟩) (fun hHeld => ?_)
            clear hK K
            (try simp only [Act.put]); (try simp only [g8b]); (try simp only [g8c]); (try simp only [g8d])
            refine wpAnyH_ready (rs := [3]) (by kernel_rfl) (by simp) ?_
            refine (AllReadyH.cons (by simp only [g8a, g8s, g8z]; rfl) (fun K hK => ?_) AllReadyH.nil)
            rw [if_pos (by rfl)]
            go_simp
            refine (extent_any A1 B1 A5 n1 m1 n5 c1 d1 c5 a b f (dcK a b : Nat) false wa (by exact E.out.ja) (by exact E.out.jb) HI5.out.1 HAO.out HBO.out HFR.out).mono ?_
            rw [← HXX.out]
            rintro e wb ⟨rfl, hbq⟩
            have E := Lib.hid (E.out.below hbq); have HI5 := Lib.hid (HI5.out.below (hbq.mono (by have := HB.out.lt; omega))); have HB := Lib.hid (HB.out.below hbq HB.out.lt)
            try (have GB := Lib.hid (GB.out.below hbq GB.out.lt))
            try (have SM := Lib.hid (SM.out.below hbq SM.out.lt))
            try clear hHeld
            clear f0 f1 f2 g0 g1 g2 p6 p7 hlf
            clear h0 h1 h2 hlh
            obtain ⟨⟨f0, f1, f2⟩, ⟨g0, g1, g2⟩, ⟨p6, p7⟩, hlf⟩ := E.out.cells
            obtain ⟨⟨h0, h1, h2⟩, _, hlh⟩ := HB.out.c3
            clear hbq
            refine hK.out _ _ (by exact ⟨f0, f1, f2, g0, g1, g2, p6, p7, h0, h1, h2⟩) (fun hHeld => ?_)
            clear hK K
            (try simp only [Act.put]); (try simp only [g8b]); (try simp only [g8c]); (try simp only [g8d])
            refine wpAnyH_ready (rs := [4]) (by kernel_rfl) (by simp) ?_
            refine (AllReadyH.cons (by simp only [g8a, g8s, g8z]; rfl) (fun K hK => ?_) AllReadyH.nil)
            refine step_make (by rfl) _ _ 22 (by rfl) Try.underlying22 .i64 .i64 _ _ X (by rfl) (by rfl) (by rfl) (by rfl) (by omega) ?_
            intro wc own1 grow1
            have hbq : Below wb.heap.size wb wc := (Below.refl _ _).grown grow1 (by simp) (by simp)
            have SM := Lib.hid (Own.row0 own1)
            have hgx : w1.heap.size < wb.heap.size := E.out.pb.lt
            have hgh : Hb < wb.heap.size := HB.out.lt
            try (have hqg : Q < wb.heap.size := GB.out.lt)
            have E := Lib.hid (E.out.below hbq); have HI5 := Lib.hid (HI5.out.below (hbq.mono (by have := HB.out.lt; omega))); have HB := Lib.hid (HB.out.below hbq HB.out.lt)
            try (have GB := Lib.hid (GB.out.below hbq GB.out.lt))
            clear hbq own1 grow1
            generalize wb.heap.size = G at *
            try clear hHeld
            clear f0 f1 f2 g0 g1 g2 p6 p7 hlf
            clear h0 h1 h2 hlh
            obtain ⟨⟨f0, f1, f2⟩, ⟨g0, g1, g2⟩, ⟨p6, p7⟩, hlf⟩ := E.out.cells
            obtain ⟨⟨h0, h1, h2⟩, _, hlh⟩ := HB.out.c3
            refine hK.out _ _ (by exact ⟨f0, f1, f2, g0, g1, g2, p6, p7, h0, h1, h2⟩) (fun hHeld => ?_)
            clear hK K
            (try simp only [Act.put]); (try simp only [g8b]); (try simp only [g8c]); (try simp only [g8d])
            refine wpAnyH_take (i := 5) (oi := _) (v := ?_) (by simp only [g8a, g8s, g8z]; rfl) (by kernel_rfl) (by kernel_rfl) (by kernel_rfl) (by exact fun _ _ _ h => h) (Or.inl ⟨by rfl, ?_⟩) (by assumption) ?_
            rotate_left 1
            · (intro w hSw; (try dsimp only at hSw); go_simp; try with_reducible rfl)
            all_goals ((try simp only [Act.put]); (try simp only [g8b]); (try simp only [g8c]); (try simp only [g8d]))
            refine wpAnyH_ready (rs := [7]) (by kernel_rfl) (by simp) ?_
            refine (AllReadyH.cons (by simp only [g8a, g8s, g8z]; rfl) (fun K hK => ?_) AllReadyH.nil)
            refine step_storeN rfl 106 _ _ rfl rfl GB.out rfl rfl (by kernel_rfl) (by simp [Value.oneCell']) ?_
            intro wz hsto rz
            have E := Lib.hid (E.out.sto hsto hqx); have HB := Lib.hid (HB.out.sto hsto (by omega)); have HI5 := Lib.hid (HI5.out.stoB hsto (by omega)); have SM := Lib.hid (SM.out.sto hsto (by omega))
            clear f0 f1 f2 g0 g1 g2 p6 p7 hlf
            clear h0 h1 h2 hlh
            obtain ⟨⟨f0, f1, f2⟩, ⟨g0, g1, g2⟩, ⟨p6, p7⟩, hlf⟩ := E.out.cells
            obtain ⟨⟨h0, h1, h2⟩, _, hlh⟩ := HB.out.c3
            refine hK.out _ _ (by exact ⟨f0, f1, f2, g0, g1, g2, p6, p7, h0, h1, h2⟩) (fun hHeld => ?_)
            clear hK K
            (try simp only [Act.put]); (try simp only [g8b]); (try simp only [g8c]); (try simp only [g8d])
            refine wpAnyH_done (by kernel_rfl) ?_ _
            go_wp2_with fail
            go_meet
            exact ⟨G, Q, rfl, hgx, hgh, hqx, hqh, by omega, rz, SM.out, E.out, HB.out, HI5.out⟩
        case rest =>
          clear E HB HI5
          clear f0 f1 f2 g0 g1 g2 p6 p7 hlf
          clear h0 h1 h2 hlh
          obtain ⟨G, Q, rfl, hgx, hgh, hqx, hqh, hgq, hG, hR, hE, hH, hI⟩ := hcut
          have GB := Lib.hid hG; have SM := Lib.hid hR; have E := Lib.hid hE; have HB := Lib.hid hH; have HI5 := Lib.hid hI
          clear hG hR hE hH hI
          obtain ⟨⟨q0, q1, q2, q3⟩, _, hlq⟩ := GB.out.c4
          go_wp2_with fail
          clear q0 q1 q2 q3 hlq
          go_loopg [10, 44] X (fun gg s10 s44 wx => ∃ (t : Nat) (cs : List Int), t + gg = X ∧ s44 = .int .i64 t ∧ MidA a b f cs X t 0 ∧ RowI wx G cs ∧ Blk wx Q 106 #[.slice A5 n5 c5, .int .i64 f.per, .int .i64 f.inc, .slice (some ⟨G, 0, none⟩) X X] ∧ PE w1 wx A1 n1 c1 a B1 m1 d1 b (dcK a b : Nat) false ∧ Blk wx Hb 31 #[.slice A5 n5 c5, .int .i64 f.per, .int .i64 f.inc] ∧ Ints wx Hb A5 n5 f.vals)
          case atStart => exact ⟨0, List.replicate X 0, by omega, rfl, MidA.start a b f X, SM.out, GB.out, E.out, HB.out, HI5.out⟩
          case round =>
            clear SM GB E HB HI5
            obtain ⟨t, cs, htg, rfl, hmv, hR, hG, hE, hH, hI⟩ := hrel
            have GB := Lib.hid hG; have SM := Lib.hid hR; have E := Lib.hid hE; have HB := Lib.hid hH; have HI5 := Lib.hid hI; have MV := Lib.hid hmv
            clear hG hR hE hH hI hmv
            obtain ⟨go, hgo⟩ : ∃ go : Nat, go = gk := ⟨_, rfl⟩
            subst hgo
            by_cases ht : t < X
            · have hti : (t : Int) < X := by omega
              obtain ⟨U, hU1, hU2, hU3⟩ := hit_least (HITS.out t (by omega))
              have HU2 := Lib.hid hU2; have HU3 := Lib.hid hU3
              clear hU2 hU3
              go_wp2_with fail
              go_loopg [] U (fun gg wx => ∃ (u : Nat) (cs : List Int), u + gg = U ∧ MidA a b f cs X t u ∧ RowI wx G cs ∧ Blk wx Q 106 #[.slice A5 n5 c5, .int .i64 f.per, .int .i64 f.inc, .slice (some ⟨G, 0, none⟩) X X] ∧ PE w1 wx A1 n1 c1 a B1 m1 d1 b (dcK a b : Nat) false ∧ Blk wx Hb 31 #[.slice A5 n5 c5, .int .i64 f.per, .int .i64 f.inc] ∧ Ints wx Hb A5 n5 f.vals)
              case atStart => exact ⟨0, cs, by omega, MV.out, SM.out, GB.out, E.out, HB.out, HI5.out⟩
              case round =>
                clear SM GB E HB HI5 MV
                obtain ⟨u, cs, hug, hmv, hR, hG, hE, hH, hI⟩ := hrel
                have GB := Lib.hid hG; have SM := Lib.hid hR; have E := Lib.hid hE; have HB := Lib.hid hH; have HI5 := Lib.hid hI; have MV := Lib.hid hmv
                clear hG hR hE hH hI hmv
                obtain ⟨x, hx⟩ : ∃ x, x = gn a b t u := ⟨_, rfl⟩
                obtain ⟨y, hy⟩ : ∃ y, y = f.at t := ⟨_, rfl⟩
                have HX := Lib.hid hx; have HY := Lib.hid hy
                clear hx hy
                have hul : t < cs.length := by rw [MV.out.1]; exact ht
                go_upto_region 11 with fail
                have GB := Lib.hid (Blk.drew GB.out); have SM := Lib.hid (RowI.drew SM.out); have E := Lib.hid E.out.drew; have HB := Lib.hid (Blk.drew HB.out); have HI5 := Lib.hid (Ints.drew HI5.out)
                obtain ⟨⟨f0, f1, f2⟩, ⟨g0, g1, g2⟩, ⟨p6, p7⟩, hlf⟩ := E.out.cells
                obtain ⟨⟨h0, h1, h2⟩, _, hlh⟩ := HB.out.c3
                obtain ⟨⟨q0, q1, q2, q3⟩, _, hlq⟩ := GB.out.c4
                have s0 := SM.out.cell t hul
                rw [MV.out.2.2.1] at s0
                have hls := SM.out.lt
                refine wp_region_held_drew (S := fun w' => w'.cell? ⟨w1.heap.size, 0, none⟩ = some (.slice A1 n1 c1) ∧ w'.cell? ⟨w1.heap.size, 1, none⟩ = some (.int .i64 a.per) ∧ w'.cell? ⟨w1.heap.size, 2, none⟩ = some (.int .i64 a.inc) ∧ w'.cell? ⟨w1.heap.size, 3, none⟩ = some (.slice B1 m1 d1) ∧ w'.cell? ⟨w1.heap.size, 4, none⟩ = some (.int .i64 b.per) ∧ w'.cell? ⟨w1.heap.size, 5, none⟩ = some (.int .i64 b.inc) ∧ w'.cell? ⟨w1.heap.size, 6, none⟩ = some (.int .i64 (dcK a b : Nat)) ∧ w'.cell? ⟨w1.heap.size, 7, none⟩ = some (.bool false) ∧ w'.cell? ⟨Hb, 0, none⟩ = some (.slice A5 n5 c5) ∧ w'.cell? ⟨Hb, 1, none⟩ = some (.int .i64 f.per) ∧ w'.cell? ⟨Hb, 2, none⟩ = some (.int .i64 f.inc) ∧ w'.cell? ⟨Q, 3, none⟩ = some (.slice (some ⟨G, 0, none⟩) X X) ∧ w'.cell? ⟨G, t, none⟩ = some (.int .i64 u)) (by kernel_rfl) (by exact ⟨f0, f1, f2, g0, g1, g2, p6, p7, h0, h1, h2, q3, s0⟩) (fun hHeld => ?_)
                generalize hwd : wr.drew = wd at *
                clear hwd
                refine wpAnyH_take (i := 0) (oi := _) (v := ?_) (by simp only [g8a, g8z]; rfl) (by kernel_rfl) (by kernel_rfl) (by kernel_rfl) (by exact fun _ _ _ h => h) (Or.inl ⟨by rfl, ?_⟩) (by assumption) ?_
                rotate_left 1
                · (intro w hSw; (try dsimp only at hSw); go_simp; try with_reducible rfl)
                all_goals ((try simp only [Act.put]); (try simp only [g8b]); (try simp only [g8c]); (try simp only [g8d]))
                refine wpAnyH_take (i := 1) (oi := _) (v := ?_) (by simp only [g8a, g8s, g8z]; rfl) (by kernel_rfl) (by kernel_rfl) (by kernel_rfl) (by exact fun _ _ _ h => h) (Or.inl ⟨by rfl, ?_⟩) (by assumption) ?_
                rotate_left 1
                · (intro w hSw; (try dsimp only at hSw); go_simp; try with_reducible rfl)
                all_goals ((try simp only [Act.put]); (try simp only [g8b]); (try simp only [g8c]); (try simp only [g8d]))
                refine wpAnyH_take (i := 2) (oi := _) (v := ?_) (by simp only [g8a, g8s, g8z]; rfl) (by kernel_rfl) (by kernel_rfl) (by kernel_rfl) (by exact fun _ _ _ h => h) (Or.inl ⟨by rfl, ?_⟩) (by assumption) ?_
                rotate_left 1
                · (intro w hSw; (try dsimp only at hSw); go_simp; try with_reducible rfl)
                all_goals ((try simp only [Act.put]); (try simp only [g8b]); (try simp only [g8c]); (try simp only [g8d]))
                refine wpAnyH_take (i := 3) (oi := _) (v := ?_) (by simp only [g8a, g8s, g8z]; rfl) (by kernel_rfl) (by kernel_rfl) (by kernel_rfl) (by exact fun _ _ _ h => h) (Or.inl ⟨by rfl, ?_⟩) (by assumption) ?_
                rotate_left 1
                · (intro w hSw; (try dsimp only at hSw); go_simp; try with_reducible rfl)
                all_goals ((try simp only [Act.put]); (try simp only [g8b]); (try simp only [g8c]); (try simp only [g8d]))
                refine wpAnyH_take (i := 4) (oi := _) (v := ?_) (by simp only [g8a, g8s, g8z]; rfl) (by kernel_rfl) (by kernel_rfl) (by kernel_rfl) (by exact fun _ _ _ h => h) (Or.inl ⟨by rfl, ?_⟩) (by assumption) ?_
                rotate_left 1
                · (intro w hSw; (try dsimp only at hSw); go_simp; try with_reducible rfl)
                all_goals ((try simp only [Act.put]); (try simp only [g8b]); (try simp only [g8c]); (try simp only [g8d]))
                refine wpAnyH_take (i := 5) (oi := _) (v := ?_) (by simp only [g8a, g8s, g8z]; rfl) (by kernel_rfl) (by kernel_rfl) (by kernel_rfl) (by exact fun _ _ _ h => h) (Or.inl ⟨by rfl, ?_⟩) (by assumption) ?_
                rotate_left 1
                · (intro w hSw; (try dsimp only at hSw); go_simp; try with_reducible rfl)
                all_goals ((try simp only [Act.put]); (try simp only [g8b]); (try simp only [g8c]); (try simp only [g8d]))
                refine wpAnyH_take (i := 6) (oi := _) (v := ?_) (by simp only [g8a, g8s, g8z]; rfl) (by kernel_rfl) (by kernel_rfl) (by kernel_rfl) (by exact fun _ _ _ h => h) (Or.inl ⟨by rfl, ?_⟩) (by assumption) ?_
                rotate_left 1
                · (intro w hSw; (try dsimp only at hSw); go_simp; try with_reducible rfl)
                all_goals ((try simp only [Act.put]); (try simp only [g8b]); (try simp only [g8c]); (try simp only [g8d]))
                refine wpAnyH_take (i := 8) (oi := _) (v := ?_) (by simp only [g8a, g8s, g8z]; rfl) (by kernel_rfl) (by kernel_rfl) (by kernel_rfl) (by exact fun _ _ _ h => h) (Or.inl ⟨by rfl, ?_⟩) (by assumption) ?_
                rotate_left 1
                · (intro w hSw; (try dsimp only at hSw); go_simp; try with_reducible rfl)
                all_goals ((try simp only [Act.put]); (try simp only [g8b]); (try simp only [g8c]); (try simp only [g8d]))
                refine wpAnyH_take (i := 9) (oi := _) (v := ?_) (by simp only [g8a, g8s, g8z]; rfl) (by kernel_rfl) (by kernel_rfl) (by kernel_rfl) (by exact fun _ _ _ h => h) (Or.inl ⟨by rfl, ?_⟩) (by assumption) ?_
                rotate_left 1
                · (intro w hSw; (try dsimp only at hSw); go_simp; try with_reducible rfl)
                all_goals ((try simp only [Act.put]); (try simp only [g8b]); (try simp only [g8c]); (try simp only [g8d]))
                refine wpAnyH_ready (rs := [7]) (by kernel_rfl) (by simp) ?_
                refine (AllReadyH.cons (by simp only [g8a, g8s, g8z]; rfl) (fun K hK => ?_) AllReadyH.nil)
                rw [if_pos (by rfl)]
                go_simp
                refine (prgain_any A1 B1 n1 m1 c1 d1 a b (dcK a b : Nat) false t u wd (by exact E.out.ja) (by exact E.out.jb) HAO.out HBO.out (by omega)).mono ?_
                rw [← HX.out]
                rintro e wa ⟨rfl, hbq⟩
                have E := Lib.hid (E.out.below hbq); have HI5 := Lib.hid (HI5.out.below (hbq.mono (by have := HB.out.lt; omega))); have HB := Lib.hid (HB.out.below hbq HB.out.lt); have GB := Lib.hid (GB.out.below hbq GB.out.lt); have SM := Lib.hid (SM.out.below hbq SM.out.lt)
                clear hHeld hbq
                clear f0 f1 f2 g0 g1 g2 p6 p7 hlf
                clear h0 h1 h2 hlh
                clear q0 q1 q2 q3 hlq s0 hls
                obtain ⟨⟨f0, f1, f2⟩, ⟨g0, g1, g2⟩, ⟨p6, p7⟩, hlf⟩ := E.out.cells
                obtain ⟨⟨h0, h1, h2⟩, _, hlh⟩ := HB.out.c3
                obtain ⟨⟨q0, q1, q2, q3⟩, _, hlq⟩ := GB.out.c4
                have s0 := SM.out.cell t hul
                rw [MV.out.2.2.1] at s0
                have hls := SM.out.lt
                refine hK.out _ _ (by exact ⟨f0, f1, f2, g0, g1, g2, p6, p7, h0, h1, h2, q3, s0⟩) (fun hHeld => ?_)
                clear hK K
                (try simp only [Act.put]); (try simp only [g8b]); (try simp only [g8c]); (try simp only [g8d])
                refine wpAnyH_ready (rs := [10]) (by kernel_rfl) (by simp) ?_
                refine (AllReadyH.cons (by simp only [g8a, g8s, g8z]; rfl) (fun K hK => ?_) AllReadyH.nil)
                rw [if_pos (by rfl)]
                go_simp
                refine (at_any A5 n5 c5 f.per f.inc (t : Int) f.vals _ (by exact (HI5.out.more (by omega))) (by omega) (by omega) (by omega) (by omega) (by omega) HFR.out.nn (by omega) (by omega)).mono ?_
                rw [Int.toNat_natCast, ← HY.out]
                rintro e wb ⟨rfl, hbq⟩
                have E := Lib.hid (E.out.below hbq); have HI5 := Lib.hid (HI5.out.below (hbq.mono (by have := HB.out.lt; omega))); have HB := Lib.hid (HB.out.below hbq HB.out.lt); have GB := Lib.hid (GB.out.below hbq GB.out.lt); have SM := Lib.hid (SM.out.below hbq SM.out.lt)
                clear hHeld hbq
                clear f0 f1 f2 g0 g1 g2 p6 p7 hlf
                clear h0 h1 h2 hlh
                clear q0 q1 q2 q3 hlq s0 hls
                obtain ⟨⟨f0, f1, f2⟩, ⟨g0, g1, g2⟩, ⟨p6, p7⟩, hlf⟩ := E.out.cells
                obtain ⟨⟨h0, h1, h2⟩, _, hlh⟩ := HB.out.c3
                obtain ⟨⟨q0, q1, q2, q3⟩, _, hlq⟩ := GB.out.c4
                have s0 := SM.out.cell t hul
                rw [MV.out.2.2.1] at s0
                have hls := SM.out.lt
                refine hK.out _ _ (by exact ⟨f0, f1, f2, g0, g1, g2, p6, p7, h0, h1, h2, q3, s0⟩) (fun hHeld => ?_)
                clear hK K
                (try simp only [Act.put]); (try simp only [g8b]); (try simp only [g8c]); (try simp only [g8d])
                by_cases hxy : x = y
                · have dd : (x != y) = false := by simpa using hxy
                  have GD := Lib.hid (MV.out.next (by
                    refine ⟨u, rfl, ?_, by rw [← HX.out, hxy, HY.out], ?_⟩
                    · rcases Nat.lt_or_ge u (dcK a b) with h1 | h1
                      · exact h1
                      · omega
                    · intro z hz; exact HU3.out z (by omega)))
                  clear hxy
                  refine wpAnyH_take (i := 11) (oi := _) (v := ?_) (by simp only [g8a, g8s, g8z]; rfl) (by kernel_rfl) (by kernel_rfl) (by kernel_rfl) (by exact fun _ _ _ h => h) (Or.inl ⟨by rfl, ?_⟩) (by assumption) ?_
                  rotate_left 1
                  · (intro w hSw; (try dsimp only at hSw); go_simp; try with_reducible rfl)
                  all_goals ((try simp only [Act.put]); (try simp only [g8b]); (try simp only [g8c]); (try simp only [g8d]))
                  refine wpAnyH_done (by kernel_rfl) ?_ _
                  clear hHeld
                  clear f0 f1 f2 g0 g1 g2 p6 p7 hlf
                  clear h0 h1 h2 hlh
                  clear q0 q1 q2 q3 hlq s0 hls
                  go_wp2_with fail
                  go_roundg (go - 1)
                  case measure => omega
                  case rel => exact ⟨t + 1, cs, by omega, by go_num, GD.out, SM.out, GB.out, E.out, HB.out, HI5.out⟩
                · have dd : (x != y) = true := by simpa using hxy
                  have huU : u < U := by
                    rcases Nat.lt_or_ge u U with h1 | h1
                    · exact h1
                    · exfalso
                      obtain rfl : u = U := by omega
                      exact hxy (by rw [HX.out, HY.out]; exact HU2.out)
                  clear hxy
                  have e1 : IntKind.i64.wrap ((u : Int) + 1) = ((u + 1 : Nat) : Int) := by rw [IntWalk.i64_in _ (by omega)]; omega
                  refine wpAnyH_take (i := 11) (oi := _) (v := ?_) (by simp only [g8a, g8s, g8z]; rfl) (by kernel_rfl) (by kernel_rfl) (by kernel_rfl) (by exact fun _ _ _ h => h) (Or.inl ⟨by rfl, ?_⟩) (by assumption) ?_
                  rotate_left 1
                  · (intro w hSw; (try dsimp only at hSw); go_simp; try with_reducible rfl)
                  all_goals ((try simp only [Act.put]); (try simp only [g8b]); (try simp only [g8c]); (try simp only [g8d]))
                  refine wpAnyH_done (by kernel_rfl) ?_ _
                  clear hHeld
                  clear f0 f1 f2 g0 g1 g2 p6 p7 hlf
                  clear h0 h1 h2 hlh
                  clear q0 q1 q2 q3 hlq s0 hls
                  obtain ⟨⟨f0, f1, f2⟩, ⟨g0, g1, g2⟩, ⟨p6, p7⟩, hlf⟩ := E.out.cells
                  obtain ⟨⟨h0, h1, h2⟩, _, hlh⟩ := HB.out.c3
                  obtain ⟨⟨q0, q1, q2, q3⟩, _, hlq⟩ := GB.out.c4
                  have s0 := SM.out.cell t hul
                  rw [MV.out.2.2.1] at s0
                  have hls := SM.out.lt
                  have z0 := SM.out.frozen t
                  go_wp2_with fail
                  go_roundg (gk - 1)
                  case measure => omega
                  case rel => exact ⟨u + 1, cs.set t ((u + 1 : Nat) : Int), by omega, MV.out.set ht _, SM.out.set_ t hul _, GB.out.far (by show Q ≠ G; omega) _, E.out.set (by omega) t _, HB.out.far (by show Hb ≠ G; omega) _, HI5.out.setG (by omega) t _⟩
            · have htX : t = X := by omega
              subst htX
              have AT := Lib.hid (show AtS a b f cs from by
                have h1 := MV.out
                rw [HXX.out] at h1
                exact h1.done)
              have FIN := Lib.hid (show ProveS ⟨xs, p, i⟩ ⟨ys, q, j⟩ f cs 0 from ⟨DS.out, .inr ⟨rfl, a, b, HNA.out, HNB.out, .inr ⟨NS.out, AT.out⟩⟩⟩)
              have RB := Lib.hid (RB0.out.below E.out.bw RB0.out.lt)
              have hcl : cs.length = t := MV.out.1
              have CI := Lib.hid (show Ints wr wr.heap.size (some ⟨G, 0, none⟩) t cs from by rw [← hcl]; exact SM.out.ints)
              obtain ⟨⟨r0, r1, r2, r3⟩, ⟨y0, y1, y2, y3⟩, hlr⟩ := RB.out.c4
              obtain ⟨⟨q0, q1, q2, q3⟩, _, hlq⟩ := GB.out.c4
              go_wp2_with fail
              have rb := RB.out.store4 (.slice A5 n5 c5) (.int .i64 f.per) (.int .i64 f.inc) (.slice (some ⟨G, 0, none⟩) t t)
              have bwx := bthen BW0.out E.out.bw
              exact bodyPost_ret (v := .tuple #[.agg #[.slice A5 n5 c5, .int .i64 f.per, .int .i64 f.inc, .slice (some ⟨G, 0, none⟩) t t], .int .i64 0]) (by simp [results, Try.results80, go_sem, rb.cell]) rfl
                ⟨f, cs, 0, FIN.out, A5, n5, c5, some ⟨G, 0, none⟩, t, t, HC5.out, Nat.le_refl _, rfl, (HI5.out.more (by omega)).store4 HA5.out (by omega), CI.out.store4 (B := Hb) (fun b off s e => by injection e with e; injection e with e; omega) (by omega), (fun b off s e => by have := HA5.out b off s e; omega), (fun b off s e => by injection e with e; injection e with e; omega), below_store4 bwx (by omega) _ _ _ _⟩
end Go.Proofs.Ytbkimphcmmmaiaa
