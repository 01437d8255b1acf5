/- netcalculusref08: start, finite, steeper, reach, gain, Most. -/
import Derived.Test.YthgfmaijoigckaaDcPrv
import Derived.Test.YthgfmaijoigckaaRefAt
import Derived.Test.YthgfmaijoigckaaRefPair
import Derived.Test.YthgfmaijoigckaaRefSw
import Derived.Test.YthgfmaijoigckaaRefSame
import Derived.Test.YthgfmaijoigckaaDcMLaw
namespace Go.Proofs.Ythgfmaijoigckaa
open Go.RowKit
set_option linter.unusedVariables false

theorem start8_any (A : Option Addr) (n c : Nat) (p i : Int) (w : World) (hn : n ≤ 1000) (hp : 1 ≤ p) (hp2 : p ≤ n) :
    Calls Try.prog 91 #[.agg #[.slice A n c, .int .i64 p, .int .i64 i]] w fun e w' => e = .returned (.int .i64 (n - p)) ∧ Below w.heap.size w w' := by
  have PB := Blk.new w 44 #[.slice A n c, .int .i64 p, .int .i64 i]
  have q0 := PB.cell 0; have q1 := PB.cell 1
  simp at q0 q1
  have e1 : IntKind.i64.wrap ((n : Int) - p) = (n : Int) - p := IntWalk.i64_in _ (by omega)
  clear PB
  go_enter Try.func91, Try.ntmps91
  go_wp2_with fail
  try (go_quiet (fail); go_wp2_with fail)
  go_ret
  exact ⟨rfl, by first | exact balloc w _ | exact bdrewN (balloc w _)⟩
theorem fin8_any (A : Option Addr) (n c : Nat) (p i : Int) (zs : List Int) (w : World) (hA : Ints w w.heap.size A n zs) (hn0 : 0 < n) (hn : n ≤ 1000) :
    Calls Try.prog 98 #[.agg #[.slice A n c, .int .i64 p, .int .i64 i]] w fun e w' => e = .returned (.bool (nth zs (n - 1) != inf)) ∧ Below w.heap.size w w' := by
  obtain ⟨b, off, rfl, hb, hc⟩ := hA.2 hn0
  obtain ⟨m, rfl⟩ : ∃ m, n = m + 1 := ⟨n - 1, by omega⟩
  have h0 := hc m (by omega)
  rw [show m + 1 - 1 = m by omega]
  obtain ⟨x, hx⟩ : ∃ x, x = nth zs m := ⟨_, rfl⟩
  rw [← hx] at h0
  rw [← hx]
  have PB := Blk.new w 44 #[.slice (some ⟨b, off, none⟩) (m + 1) c, .int .i64 p, .int .i64 i]
  have q0 := PB.cell 0
  simp at q0
  have h1 : (w.alloc (.cells #[.slice (some ⟨b, off, none⟩) (m + 1) c, .int .i64 p, .int .i64 i] 44)).cell? ⟨b, off + m, none⟩ = some (.int .i64 x) := (World.cell?_alloc_lt w _ _ hb).trans h0
  have e1 : IntKind.i64.wrap (((m + 1 : Nat) : Int) - 1) = (m : Int) := by rw [IntWalk.i64_in _ (by omega)]; omega
  have e1' : (((m + 1 : Nat) : Int) - 1) = (m : Int) := by omega
  have hbw := balloc w (.cells #[.slice (some ⟨b, off, none⟩) (m + 1) c, .int .i64 p, .int .i64 i] 44)
  have G : (x != inf) = (x != 4611686018427387904) := rfl
  rw [G]
  clear hc hx hA PB G
  go_enter Try.func98, Try.ntmps98
  go_wp2_with fail
  try (go_quiet (fail); go_wp2_with fail)
  go_ret
  exact ⟨rfl, by first | exact hbw | exact bdrewN hbw⟩
theorem slp8_any (A B : Option Addr) (n c m d : Nat) (p i q j : Int) (C : Nat) (w : World) (hp : 1 ≤ p) (hi : 0 ≤ i) (hi2 : i ≤ 1073741824) (hq : 1 ≤ q) (hj : 0 ≤ j) (hj2 : j ≤ 1073741824) (hC : C ≤ 1000000) :
    Calls Try.prog 138 #[.agg #[.slice A n c, .int .i64 p, .int .i64 i], .agg #[.slice B m d, .int .i64 q, .int .i64 j], .int .i64 C] w fun e w' => e = .returned (.int .i64 ((C / p.toNat : Nat) * i - (C / q.toNat : Nat) * j)) ∧ Below w.heap.size w w' := by
  obtain ⟨p, rfl⟩ := Int.eq_ofNat_of_zero_le (show 0 ≤ p by omega)
  obtain ⟨q, rfl⟩ := Int.eq_ofNat_of_zero_le (show 0 ≤ q by omega)
  simp only [Int.toNat_natCast]
  obtain ⟨u, hu⟩ : ∃ u, u = C / p := ⟨_, rfl⟩
  obtain ⟨v, hv⟩ : ∃ v, v = C / q := ⟨_, rfl⟩
  have hut : u ≤ C := by rw [hu]; exact Nat.div_le_self _ _
  have hvt : v ≤ C := by rw [hv]; exact Nat.div_le_self _ _
  have e1 : ((C : Int).tdiv (p : Int)) = (u : Int) := by rw [hu]; rfl
  have e1' : ((C : Int) / (p : Int)) = (u : Int) := by rw [hu]; rfl
  have e2 : ((C : Int).tdiv (q : Int)) = (v : Int) := by rw [hv]; rfl
  have e2' : ((C : Int) / (q : Int)) = (v : Int) := by rw [hv]; rfl
  have hui : (u : Int) * i ≤ 1000000 * 1073741824 := Int.mul_le_mul (by omega) hi2 hi (by omega)
  have hui0 : 0 ≤ (u : Int) * i := Int.mul_nonneg (by omega) hi
  have hvi : (v : Int) * j ≤ 1000000 * 1073741824 := Int.mul_le_mul (by omega) hj2 hj (by omega)
  have hvi0 : 0 ≤ (v : Int) * j := Int.mul_nonneg (by omega) hj
  rw [← hu, ← hv]
  obtain ⟨X, hX⟩ : ∃ X, X = (u : Int) * i := ⟨_, rfl⟩
  obtain ⟨Y, hY⟩ : ∃ Y, Y = (v : Int) * j := ⟨_, rfl⟩
  rw [← hX] at hui hui0
  rw [← hY] at hvi hvi0
  have e3 : IntKind.i64.wrap (i * (u : Int)) = X := by rw [Int.mul_comm, ← hX]; exact IntWalk.i64_in _ (by omega)
  have e4 : IntKind.i64.wrap (j * (v : Int)) = Y := by rw [Int.mul_comm, ← hY]; exact IntWalk.i64_in _ (by omega)
  have e6 : IntKind.i64.wrap (u : Int) = (u : Int) := IntWalk.i64_in _ (by omega)
  have e7 : IntKind.i64.wrap (v : Int) = (v : Int) := IntWalk.i64_in _ (by omega)
  rw [← hX, ← hY]
  have hpn : (p : Int) ≠ 0 := by omega
  have hpn2 : p ≠ 0 := by omega
  have hqn : (q : Int) ≠ 0 := by omega
  have hqn2 : q ≠ 0 := by omega
  have PB := (Blk.new w 44 #[.slice A n c, .int .i64 p, .int .i64 i]).alloc (.cells #[.slice B m d, .int .i64 q, .int .i64 j] 44)
  have QB := Blk.new (w.alloc (.cells #[.slice A n c, .int .i64 p, .int .i64 i] 44)) 44 #[.slice B m d, .int .i64 q, .int .i64 j]
  have q1 := PB.cell 1
  have q2 := PB.cell 2
  have q3 := QB.cell 1
  have q4 := QB.cell 2
  simp at q1 q2 q3 q4
  clear hu hv hX hY PB QB
  go_enter Try.func138, Try.ntmps138
  go_wp2_with fail
  go_quiet (fail)
  go_wp2_with fail
  go_ret
  exact ⟨rfl, bdrewN (bthen (balloc w _) (balloc _ _))⟩
/-- both finite, and the first is steeper -/
def steepB (a b : Cv) : Bool := (nth a.vals (a.vals.length - 1) != inf) && (nth b.vals (b.vals.length - 1) != inf) && decide (0 < ordD a b)
theorem steepB_iff {a b : Cv} (ha : a.Ok) (hb : b.Ok) : steepB a b = true ↔ Steep a b := by
  unfold steepB Steep
  rw [Bool.and_eq_true, Bool.and_eq_true, bne_iff_ne, bne_iff_ne, decide_eq_true_iff]
  exact ⟨fun ⟨⟨h1, h2⟩, h3⟩ => ⟨⟨hb, h2⟩, ⟨ha, h1⟩, h3⟩, fun ⟨h1, h2, h3⟩ => ⟨⟨h2.2, h1.2⟩, h3⟩⟩
set_option maxHeartbeats 1000000 in
theorem steep8_any (A B : Option Addr) (n m c d : Nat) (a b : Cv) (C : Nat) (w : World) (hA : Ints w w.heap.size A n a.vals) (hB : Ints w w.heap.size B m b.vals) (ha : a.Ok) (hb : b.Ok) (hC : C = comm a.per.toNat b.per.toNat) (hC2 : C ≤ 120) :
    Calls Try.prog 85 #[.agg #[.slice A n c, .int .i64 a.per, .int .i64 a.inc], .agg #[.slice B m d, .int .i64 b.per, .int .i64 b.inc], .int .i64 C] w (fun e w' => e = .returned (.bool (steepB a b)) ∧ Below w.heap.size w w') := by
  have a1 := ha.n1; have a2 := ha.n2; have a3 := ha.p1; have a4 := ha.p2; have a5 := ha.pn; have a6 := ha.i1; have a7 := ha.i2
  have b1 := hb.n1; have b2 := hb.n2; have b3 := hb.p1; have b4 := hb.p2; have b5 := hb.pn; have b6 := hb.i1; have b7 := hb.i2
  have hln : a.vals.length = n := hA.1
  have hlm : b.vals.length = m := hB.1
  rw [hln] at a1 a2 a5
  rw [hlm] at b1 b2 b5
  have P := Lib.hid (PS.new (c := c) (p := a.per) (i := a.inc) (d := d) (q := b.per) (j := b.inc) hA hB)
  obtain ⟨fa, hfa⟩ : ∃ z, z = (nth a.vals (n - 1) != inf) := ⟨_, rfl⟩
  obtain ⟨fb, hfb⟩ : ∃ z, z = (nth b.vals (m - 1) != inf) := ⟨_, rfl⟩
  obtain ⟨X, hX⟩ : ∃ X, X = ordD a b := ⟨_, rfl⟩
  have hXC : X = (C / a.per.toNat : Nat) * a.inc - (C / b.per.toNat : Nat) * b.inc := by rw [hX, hC]; rfl
  have G : steepB a b = (fa && fb && decide (0 < X)) := by unfold steepB; rw [hln, hlm, ← hfa, ← hfb, ← hX]
  rw [G]
  have HFA := Lib.hid hfa; have HFB := Lib.hid hfb; have HX := Lib.hid hXC
  clear hfa hfb hX hXC G hA hB ha hb hC hln hlm
  go_enter Try.func85, Try.ntmps85
  obtain ⟨f0, f1, f2, g0, g1, g2, hlf, hlg⟩ := P.out.cells
  go_wp2_with fail
  refine (fin8_any A n c a.per a.inc a.vals _ (by exact P.out.ia) (by omega) (by omega)).mono ?_
  rw [← HFA.out]
  rintro e w1 ⟨rfl, hb⟩
  replace P := Lib.hid (P.out.below hb)
  clear hb
  clear f0 f1 f2 g0 g1 g2 hlf hlg
  obtain ⟨f0, f1, f2, g0, g1, g2, hlf, hlg⟩ := P.out.cells
  cases fa
  case false =>
    have bw := P.out.bw
    go_wp2_with fail
    go_ret
    exact ⟨rfl, bw⟩
  case true =>
    go_wp2_with fail
    refine (fin8_any B m d b.per b.inc b.vals _ (by exact P.out.ib) (by omega) (by omega)).mono ?_
    rw [← HFB.out]
    rintro e w2 ⟨rfl, hb⟩
    replace P := Lib.hid (P.out.below hb)
    clear hb
    clear f0 f1 f2 g0 g1 g2 hlf hlg
    obtain ⟨f0, f1, f2, g0, g1, g2, hlf, hlg⟩ := P.out.cells
    cases fb
    case false =>
      have bw := P.out.bw
      go_wp2_with fail
      go_ret
      exact ⟨rfl, bw⟩
    case true =>
      go_wp2_with fail
      refine (slp8_any A B n c m d a.per a.inc b.per b.inc C _ (by omega) (by omega) (by omega) (by omega) (by omega) (by omega) (by omega)).mono ?_
      rw [← HX.out]
      rintro e w3 ⟨rfl, hb⟩
      replace P := Lib.hid (P.out.below hb)
      clear hb
      clear f0 f1 f2 g0 g1 g2 hlf hlg
      obtain ⟨f0, f1, f2, g0, g1, g2, hlf, hlg⟩ := P.out.cells
      have bw := P.out.bw
      go_wp2_with fail
      go_ret
      exact ⟨by first | rfl | simp, bw⟩
set_option maxHeartbeats 1000000 in
set_option maxRecDepth 100000 in
theorem reach8_any (A B : Option Addr) (n m c d : Nat) (a b : Cv) (C : Nat) (w : World) (hA : Ints w w.heap.size A n a.vals) (hB : Ints w w.heap.size B m b.vals) (ha : a.Ok) (hb : b.Ok) (hC : C = comm a.per.toNat b.per.toNat) (hC2 : C ≤ 120) :
    Calls Try.prog 99 #[.agg #[.slice A n c, .int .i64 a.per, .int .i64 a.inc], .agg #[.slice B m d, .int .i64 b.per, .int .i64 b.inc], .int .i64 C] w (fun e w' => e = .returned (.int .i64 (dcK a b : Nat)) ∧ Below w.heap.size w w') := by
  have a1 := ha.n1; have a2 := ha.n2; have a3 := ha.p1; have a4 := ha.p2; have a5 := ha.pn; have a6 := ha.i1; have a7 := ha.i2
  have b1 := hb.n1; have b2 := hb.n2; have b3 := hb.p1; have b4 := hb.p2; have b5 := hb.pn; have b6 := hb.i1; have b7 := hb.i2
  have hln : a.vals.length = n := hA.1
  have hlm : b.vals.length = m := hB.1
  rw [hln] at a1 a2 a5
  rw [hlm] at b1 b2 b5
  have P := Lib.hid (PS.new (c := c) (p := a.per) (i := a.inc) (d := d) (q := b.per) (j := b.inc) hA hB)
  obtain ⟨fb, hfb⟩ : ∃ z, z = (nth b.vals (m - 1) != inf) := ⟨_, rfl⟩
  obtain ⟨K, hK⟩ : ∃ K, K = dcK a b := ⟨_, rfl⟩
  have K1 : fb = false → (K : Int) = (m : Int) - b.per := fun h => by
    have h1 : nth b.vals (b.vals.length - 1) = inf := by rw [hlm]; rw [h] at hfb; simpa using hfb.symm
    rw [hK]; unfold dcK; rw [if_pos h1, hlm]; omega
  obtain ⟨S, hS⟩ : ∃ S : Nat, S = ordF a b := ⟨_, rfl⟩
  have K2 : fb = true → K = S + C := fun h => by
    have h1 : ¬ nth b.vals (b.vals.length - 1) = inf := by rw [hlm]; rw [h] at hfb; simpa using hfb.symm
    rw [hK, hS, hC]; unfold dcK; rw [if_neg h1]; rfl
  have hmx : (if (n : Int) - a.per < (m : Int) - b.per then (m : Int) - b.per else (n : Int) - a.per) = (S : Int) := by
    rw [hS]; unfold ordF; rw [hln, hlm]; split <;> omega
  have hSb : S ≤ 400 := by rw [hS]; unfold ordF; rw [hln, hlm]; omega
  have HFB := Lib.hid hfb; have HK1 := Lib.hid K1; have HK2 := Lib.hid K2
  rw [← hK]
  clear hfb hK K1 K2 hS hA hB ha hb hC hln hlm
  go_enter Try.func99, Try.ntmps99
  obtain ⟨f0, f1, f2, g0, g1, g2, hlf, hlg⟩ := P.out.cells
  go_wp2_with fail
  refine (fin8_any B m d b.per b.inc b.vals _ (by exact P.out.ib) (by omega) (by omega)).mono ?_
  rw [← HFB.out]
  rintro e w1 ⟨rfl, hb⟩
  replace P := Lib.hid (P.out.below hb)
  clear hb
  clear f0 f1 f2 g0 g1 g2 hlf hlg
  obtain ⟨f0, f1, f2, g0, g1, g2, hlf, hlg⟩ := P.out.cells
  cases fb
  case false =>
    go_wp2_with fail
    refine (start8_any B m d b.per b.inc _ (by omega) (by omega) (by omega)).mono ?_
    rw [← HK1.out (by first | rfl | trivial)]
    rintro e w2 ⟨rfl, hb⟩
    replace P := Lib.hid (P.out.below hb)
    clear hb
    clear f0 f1 f2 g0 g1 g2 hlf hlg
    obtain ⟨f0, f1, f2, g0, g1, g2, hlf, hlg⟩ := P.out.cells
    have bw := P.out.bw
    go_wp2_with fail
    go_ret
    exact ⟨rfl, bw⟩
  case true =>
    have hKe := HK2.out (by first | rfl | trivial)
    have e1 : IntKind.i64.wrap ((S : Int) + (C : Int)) = (K : Int) := by rw [IntWalk.i64_in _ (by omega)]; omega
    have e2 : (S : Int) + (C : Int) = (K : Int) := by omega
    have e3 : IntKind.i64.wrap (K : Int) = (K : Int) := IntWalk.i64_in _ (by omega)
    clear hKe
    go_upto_region 3 with fail
    have P := Lib.hid P.out.drew
    refine wp_region_held_drew (S := (fun w' => w'.cell? ⟨w.heap.size, 0, none⟩ = some (.slice A n c) ∧ w'.cell? ⟨w.heap.size, 1, none⟩ = some (.int .i64 a.per) ∧ w'.cell? ⟨w.heap.size, 2, none⟩ = some (.int .i64 a.inc) ∧ w'.cell? ⟨w.heap.size + 1, 0, none⟩ = some (.slice B m d) ∧ w'.cell? ⟨w.heap.size + 1, 1, none⟩ = some (.int .i64 b.per) ∧ w'.cell? ⟨w.heap.size + 1, 2, none⟩ = some (.int .i64 b.inc))) (by kernel_rfl) (by exact ⟨f0, f1, f2, g0, g1, g2⟩) (fun hHeld => ?_)
    clear f0 f1 f2 g0 g1 g2 hlf hlg
    generalize hwd : w1.drew = wd at *
    clear hwd
    obtain ⟨f0, f1, f2, g0, g1, g2, hlf, hlg⟩ := P.out.cells
    refine wpAnyH_take (i := 0) (oi := _) (v := ?_) (by simp only [List.getElem?_toArray, List.getElem?_cons_zero]; rfl) (by kernel_rfl) (by kernel_rfl) (by kernel_rfl) (by exact fun _ _ _ h => h) (Or.inl ⟨by rfl, ?_⟩) (by assumption) ?_
    rotate_left 1
    · (intro w hSw; (try dsimp only at hSw); go_simp; try with_reducible rfl)
    all_goals try simp only [Act.put]
    all_goals try simp only [List.setIfInBounds_toArray]
    all_goals try simp only [List.set_cons_succ]
    all_goals try simp only [List.set_cons_zero]
    refine wpAnyH_take (i := 2) (oi := _) (v := ?_) (by simp only [List.getElem?_toArray, List.getElem?_cons_succ, List.getElem?_cons_zero]; rfl) (by kernel_rfl) (by kernel_rfl) (by kernel_rfl) (by exact fun _ _ _ h => h) (Or.inl ⟨by rfl, ?_⟩) (by assumption) ?_
    rotate_left 1
    · (intro w hSw; (try dsimp only at hSw); go_simp; try with_reducible rfl)
    all_goals try simp only [Act.put]
    all_goals try simp only [List.setIfInBounds_toArray]
    all_goals try simp only [List.set_cons_succ]
    all_goals try simp only [List.set_cons_zero]
    refine wpAnyH_take (i := 5) (oi := _) (v := ?_) (by simp only [List.getElem?_toArray, List.getElem?_cons_succ, List.getElem?_cons_zero]; rfl) (by kernel_rfl) (by kernel_rfl) (by kernel_rfl) (by exact fun _ _ _ h => h) (Or.inl ⟨by rfl, ?_⟩) (by assumption) ?_
    rotate_left 1
    · (intro w hSw; (try dsimp only at hSw); go_simp; try with_reducible rfl)
    all_goals try simp only [Act.put]
    all_goals try simp only [List.setIfInBounds_toArray]
    all_goals try simp only [List.set_cons_succ]
    all_goals try simp only [List.set_cons_zero]
    refine wpAnyH_ready (rs := [1]) (by kernel_rfl) (by simp) ?_
    refine (AllReadyH.cons (by simp only [List.getElem?_toArray, List.getElem?_cons_succ, List.getElem?_cons_zero]; rfl) (fun K hK => ?_) AllReadyH.nil)
    rw [if_pos (by rfl)]
    go_simp
    refine (start8_any A n c a.per a.inc _ (by omega) (by omega) (by omega)).mono ?_
    rintro e w2 ⟨rfl, hb⟩
    clear hHeld
    replace P := Lib.hid (P.out.below hb)
    clear hb
    clear f0 f1 f2 g0 g1 g2 hlf hlg
    obtain ⟨f0, f1, f2, g0, g1, g2, hlf, hlg⟩ := P.out.cells
    refine hK.out _ _ (by exact ⟨f0, f1, f2, g0, g1, g2⟩) (fun hHeld => ?_)
    clear hK K
    try simp only [Act.put]
    try simp only [List.setIfInBounds_toArray]
    try simp only [List.set_cons_succ]
    try simp only [List.set_cons_zero]
    refine wpAnyH_ready (rs := [3]) (by kernel_rfl) (by simp) ?_
    refine (AllReadyH.cons (by simp only [List.getElem?_toArray, List.getElem?_cons_succ, List.getElem?_cons_zero]; rfl) (fun K hK => ?_) AllReadyH.nil)
    rw [if_pos (by rfl)]
    go_simp
    refine (start8_any B m d b.per b.inc _ (by omega) (by omega) (by omega)).mono ?_
    rintro e w3 ⟨rfl, hb⟩
    clear hHeld
    replace P := Lib.hid (P.out.below hb)
    clear hb
    clear f0 f1 f2 g0 g1 g2 hlf hlg
    obtain ⟨f0, f1, f2, g0, g1, g2, hlf, hlg⟩ := P.out.cells
    refine hK.out _ _ (by exact ⟨f0, f1, f2, g0, g1, g2⟩) (fun hHeld => ?_)
    clear hK K
    try simp only [Act.put]
    try simp only [List.setIfInBounds_toArray]
    try simp only [List.set_cons_succ]
    try simp only [List.set_cons_zero]
    refine wpAnyH_ready (rs := [4]) (by kernel_rfl) (by simp) ?_
    refine (AllReadyH.cons (by simp only [List.getElem?_toArray, List.getElem?_cons_succ, List.getElem?_cons_zero]; rfl) (fun K hK => ?_) AllReadyH.nil)
    rw [if_pos (by rfl)]
    go_simp
    refine hK.out _ _ (by exact ⟨f0, f1, f2, g0, g1, g2⟩) (fun hHeld => ?_)
    clear hK K
    try simp only [Act.put]
    try simp only [List.setIfInBounds_toArray]
    try simp only [List.set_cons_succ]
    try simp only [List.set_cons_zero]
    refine wpAnyH_take (i := 6) (oi := _) (v := ?_) (by simp only [List.getElem?_toArray, List.getElem?_cons_succ, List.getElem?_cons_zero]; rfl) (by kernel_rfl) (by kernel_rfl) (by kernel_rfl) (by exact fun _ _ _ h => h) (Or.inl ⟨by rfl, ?_⟩) (by assumption) ?_
    rotate_left 1
    · (intro w hSw; (try dsimp only at hSw); go_simp; try with_reducible rfl)
    all_goals try simp only [Act.put]
    all_goals try simp only [List.setIfInBounds_toArray]
    all_goals try simp only [List.set_cons_succ]
    all_goals try simp only [List.set_cons_zero]
    refine wpAnyH_take (i := 7) (oi := _) (v := ?_) (by simp only [List.getElem?_toArray, List.getElem?_cons_succ, List.getElem?_cons_zero]; rfl) (by kernel_rfl) (by kernel_rfl) (by kernel_rfl) (by exact fun _ _ _ h => h) (Or.inl ⟨by rfl, ?_⟩) (by assumption) ?_
    rotate_left 1
    · (intro w hSw; (try dsimp only at hSw); go_simp; try with_reducible rfl)
    all_goals try simp only [Act.put]
    all_goals try simp only [List.setIfInBounds_toArray]
    all_goals try simp only [List.set_cons_succ]
    all_goals try simp only [List.set_cons_zero]
    refine wpAnyH_done (by kernel_rfl) ?_ _
    have bw := P.out.bw
    go_wp2_with fail
    go_ret
    exact ⟨rfl, bw⟩
set_option maxHeartbeats 1000000 in
theorem gain8_any (A B : Option Addr) (n m c d : Nat) (a b : Cv) (t u : Nat) (w : World) (hA : Ints w w.heap.size A n a.vals) (hB : Ints w w.heap.size B m b.vals) (ha : a.Ok) (hb : b.Ok) (htu : t + u ≤ 4000) :
    Calls Try.prog 92 #[.agg #[.slice A n c, .int .i64 a.per, .int .i64 a.inc], .agg #[.slice B m d, .int .i64 b.per, .int .i64 b.inc], .int .i64 t, .int .i64 u] w (fun e w' => e = .returned (.int .i64 (gn a b t u)) ∧ Below w.heap.size w w') := by
  have a1 := ha.n1; have a2 := ha.n2; have a3 := ha.p1; have a4 := ha.p2; have a5 := ha.pn; have a6 := ha.i1; have a7 := ha.i2
  have b1 := hb.n1; have b2 := hb.n2; have b3 := hb.p1; have b4 := hb.p2; have b5 := hb.pn; have b6 := hb.i1; have b7 := hb.i2
  have hln : a.vals.length = n := hA.1
  have hlm : b.vals.length = m := hB.1
  rw [hln] at a1 a2 a5
  rw [hlm] at b1 b2 b5
  obtain ⟨x, hx⟩ : ∃ x, x = a.at (t + u) := ⟨_, rfl⟩
  obtain ⟨y, hy⟩ : ∃ y, y = b.at u := ⟨_, rfl⟩
  obtain ⟨tu, htu'⟩ : ∃ tu : Nat, tu = t + u := ⟨_, rfl⟩
  have x1 := (ha.at_bd (n := t + u) (by omega)).1; have x2 := (ha.at_bd (n := t + u) (by omega)).2.1
  have y1 := (hb.at_bd (n := u) (by omega)).1; have y2 := (hb.at_bd (n := u) (by omega)).2.1
  rw [← hx] at x1 x2
  rw [← hy] at y1 y2
  have e1 : IntKind.i64.wrap ((t : Int) + (u : Int)) = (tu : Int) := by rw [IntWalk.i64_in _ (by omega)]; omega
  have e2 : (t : Int) + (u : Int) = (tu : Int) := by omega
  have e3 : IntKind.i64.wrap (tu : Int) = (tu : Int) := IntWalk.i64_in _ (by omega)
  have htb : tu ≤ 4000 := by omega
  have hub : u ≤ 4000 := by omega
  unfold inf at x2 y2
  have G : gn a b t u = if x = 4611686018427387904 then 4611686018427387904 else x - y := by unfold gn; rw [← hx, ← hy]; rfl
  rw [G]
  rw [← htu'] at hx
  have HX := Lib.hid hx; have HY := Lib.hid hy
  have P := Lib.hid (PS.new (c := c) (p := a.per) (i := a.inc) (d := d) (q := b.per) (j := b.inc) hA hB)
  have HA := Lib.hid ha; have HB := Lib.hid hb
  clear hA hB ha hb G hx hy htu' htu hln hlm
  go_enter Try.func92, Try.ntmps92
  obtain ⟨f0, f1, f2, g0, g1, g2, hlf, hlg⟩ := P.out.cells
  go_wp2_with fail
  refine (refAt_any A n c a.per a.inc (tu : Int) a.vals _ (by exact P.out.ia) (by omega) (by omega) (by omega) (by omega) (by omega) HA.out.nn (by omega) (by omega)).mono ?_
  rw [Int.toNat_natCast, ← HX.out]
  rintro e wq ⟨rfl, hb⟩
  replace P := Lib.hid (P.out.below hb)
  clear hb
  clear f0 f1 f2 g0 g1 g2 hlf hlg
  obtain ⟨f0, f1, f2, g0, g1, g2, hlf, hlg⟩ := P.out.cells
  by_cases hxi : x = 4611686018427387904
  · have dx : (x == 4611686018427387904) = true := by simpa using hxi
    subst hxi
    have bw := P.out.bw
    go_wp2_with fail
    go_ret
    first | exact ⟨rfl, bw⟩ | exact ⟨by rw [if_pos rfl], bw⟩
  · have dx : (x == 4611686018427387904) = false := by simpa using hxi
    have HXI := Lib.hid hxi
    clear hxi
    have e4 : IntKind.i64.wrap (x - y) = x - y := IntWalk.i64_in _ (by omega)
    go_wp2_with fail
    refine (refAt_any B m d b.per b.inc (u : Int) b.vals _ (by exact P.out.ib) (by omega) (by omega) (by omega) (by omega) (by omega) HB.out.nn (by omega) (by omega)).mono ?_
    rw [Int.toNat_natCast, ← HY.out]
    rintro e wk ⟨rfl, hb⟩
    replace P := Lib.hid (P.out.below hb)
    clear hb
    clear f0 f1 f2 g0 g1 g2 hlf hlg
    obtain ⟨f0, f1, f2, g0, g1, g2, hlf, hlg⟩ := P.out.cells
    have bw := P.out.bw
    go_wp2_with fail
    go_ret
    first | exact ⟨rfl, bw⟩ | exact ⟨by rw [if_neg HXI.out], bw⟩
/-- the greatest of the first k gains, and at least 0 -/
def MostI (a b : Cv) (t k : Nat) (v : Int) : Prop := 0 ≤ v ∧ v ≤ inf ∧ (∀ u, u < k → gn a b t u ≤ v) ∧ (v = 0 ∨ ∃ u, u < k ∧ gn a b t u = v)
theorem gn_top {a b : Cv} (ha : a.Ok) (hb : b.Ok) {t u : Nat} (h : t + u ≤ 4000) : gn a b t u ≤ inf ∧ -inf ≤ gn a b t u := by
  have h1 := ha.at_bd (n := t + u) (by omega)
  have h2 := hb.at_bd (n := u) (by omega)
  unfold gn
  split
  · exact ⟨Int.le_refl _, by unfold inf; omega⟩
  · exact ⟨by omega, by omega⟩
theorem MostI.next {a b : Cv} {t k : Nat} {v : Int} (H : MostI a b t k v) (h1 : gn a b t k ≤ inf) : MostI a b t (k + 1) (if v < gn a b t k then gn a b t k else v) := by
  obtain ⟨h0, h2, h3, h4⟩ := H
  split
  · exact ⟨by omega, h1, fun u hu => by
      rcases Nat.lt_or_ge u k with h5 | h5
      · have := h3 u h5; omega
      · rw [show u = k by omega]; exact Int.le_refl _, .inr ⟨k, by omega, rfl⟩⟩
  · refine ⟨h0, h2, fun u hu => ?_, ?_⟩
    · rcases Nat.lt_or_ge u k with h5 | h5
      · exact h3 u h5
      · rw [show u = k by omega]; omega
    · rcases h4 with h4 | ⟨u, h4, h5⟩
      · exact .inl h4
      · exact .inr ⟨u, by omega, h5⟩
theorem MostI.done {a b : Cv} (ha : a.Ok) (hb : b.Ok) (hbn : NF b.at b) (hc : ordC a b ≤ 120) (hs : ¬ Steep a b) (h0 : b.at 0 = 0) {D : Nat → Int} (H : DcF a b D) {t : Nat} (ht : t ≤ 1000) {v : Int} (h : MostI a b t (dcK a b) v) : v = D t := by
  obtain ⟨h1, h2, h3, h4⟩ := h
  obtain ⟨u, hu, hD⟩ := gn_hit ha hb hc hs h0 H ht
  have h5 := h3 u hu
  have h6 := dc_nn H t
  have hK := dcK_le ha hb hc
  rcases h4 with h4 | ⟨x, hx, h4⟩
  · omega
  · have := gn_le ha hb H (t := t) (u := x) (by omega) (dcK_fin (a := a) hb (b_before hbn) hx)
    omega
set_option maxHeartbeats 2000000 in
theorem most8_any (A B : Option Addr) (n m c d : Nat) (a b : Cv) (C t : Nat) (w : World) (hA : Ints w w.heap.size A n a.vals) (hB : Ints w w.heap.size B m b.vals) (ha : a.Ok) (hb : b.Ok) (hC : C = comm a.per.toNat b.per.toNat) (hC2 : C ≤ 120) (ht : t ≤ 1000) (hbn : NF b.at b) (hs : ¬ Steep a b) (h0 : b.at 0 = 0) {D : Nat → Int} (hD : DcF a b D) :
    Calls Try.prog 86 #[.agg #[.slice A n c, .int .i64 a.per, .int .i64 a.inc], .agg #[.slice B m d, .int .i64 b.per, .int .i64 b.inc], .int .i64 C, .int .i64 t] w (fun e w' => e = .returned (.int .i64 (D t)) ∧ Below w.heap.size w w') := by
  have a1 := ha.n1; have a2 := ha.n2; have a3 := ha.p1; have a4 := ha.p2; have a5 := ha.pn; have a6 := ha.i1; have a7 := ha.i2
  have b1 := hb.n1; have b2 := hb.n2; have b3 := hb.p1; have b4 := hb.p2; have b5 := hb.pn; have b6 := hb.i1; have b7 := hb.i2
  have hln : a.vals.length = n := hA.1
  have hlm : b.vals.length = m := hB.1
  rw [hln] at a1 a2 a5
  rw [hlm] at b1 b2 b5
  have hK := dcK_le ha hb (by unfold ordC; rw [← hC]; exact hC2)
  have DONE := Lib.hid (show ∀ v, MostI a b t (dcK a b) v → v = D t from fun v h => h.done ha hb hbn (by unfold ordC; rw [← hC]; exact hC2) hs h0 hD ht)
  have P := Lib.hid (PS.new (c := c) (p := a.per) (i := a.inc) (d := d) (q := b.per) (j := b.inc) hA hB)
  have HA := Lib.hid ha; have HB := Lib.hid hb; have HC := Lib.hid hC
  obtain ⟨K, hKK⟩ : ∃ K, K = dcK a b := ⟨_, rfl⟩
  have HKK := Lib.hid hKK
  rw [← hKK] at hK
  clear hA hB ha hb hC hln hlm hbn hs h0 hD hKK
  go_enter Try.func86, Try.ntmps86
  go_wp2_with fail
  go_loopg [9, 10] K (fun gg s9 s10 wx => ∃ (u : Nat) (v : Int), u + gg = K ∧ s10 = .int .i64 u ∧ s9 = .int .i64 v ∧ MostI a b t u v ∧ PS w wx A n c a.per a.inc a.vals B m d b.per b.inc b.vals)
  case atStart => exact ⟨0, 0, by omega, rfl, rfl, ⟨Int.le_refl _, by unfold inf; omega, fun u hu => by omega, .inl rfl⟩, P.out⟩
  case round =>
    clear P
    obtain ⟨u, v, hug, rfl, rfl, hm, hP⟩ := hrel
    have P := Lib.hid hP; have HM := Lib.hid hm
    clear hP hm
    obtain ⟨f0, f1, f2, g0, g1, g2, hlf, hlg⟩ := P.out.cells
    go_wp2_with fail
    refine (reach8_any A B n m c d a b C _ (by exact P.out.ia) (by exact P.out.ib) HA.out HB.out HC.out hC2).mono ?_
    rw [← HKK.out]
    rintro e wq ⟨rfl, hb⟩
    replace P := Lib.hid (P.out.below hb)
    clear hb
    clear f0 f1 f2 g0 g1 g2 hlf hlg
    obtain ⟨f0, f1, f2, g0, g1, g2, hlf, hlg⟩ := P.out.cells
    by_cases hu : u < K
    · have hui : (u : Int) < K := by omega
      obtain ⟨g, hg⟩ : ∃ g, g = gn a b t u := ⟨_, rfl⟩
      have HG := Lib.hid hg
      have hgt := gn_top HA.out HB.out (t := t) (u := u) (by omega)
      have NX := Lib.hid (HM.out.next hgt.1)
      rw [← hg] at NX
      clear hg hgt
      go_wp2_with fail
      refine (gain8_any A B n m c d a b t u _ (by exact P.out.ia) (by exact P.out.ib) HA.out HB.out (by omega)).mono ?_
      rw [← HG.out]
      rintro e wr ⟨rfl, hb⟩
      replace P := Lib.hid (P.out.below hb)
      clear hb
      clear f0 f1 f2 g0 g1 g2 hlf hlg
      obtain ⟨f0, f1, f2, g0, g1, g2, hlf, hlg⟩ := P.out.cells
      by_cases hgv : v < g
      · have NX := Lib.hid (show MostI a b t (u + 1) g from by have := NX.out; rw [if_pos hgv] at this; exact this)
        go_wp2_with fail
        go_roundg (gk - 1)
        case measure => omega
        case rel => exact ⟨u + 1, g, by omega, by go_num, rfl, NX.out, P.out⟩
      · have NX := Lib.hid (show MostI a b t (u + 1) v from by have := NX.out; rw [if_neg hgv] at this; exact this)
        go_wp2_with fail
        go_roundg (gk - 1)
        case measure => omega
        case rel => exact ⟨u + 1, v, by omega, by go_num, rfl, NX.out, P.out⟩
    · have huK : u = K := by omega
      have FIN := Lib.hid (show v = D t from DONE.out v (by have := HM.out; rw [huK, HKK.out] at this; exact this))
      have hui : ¬ (u : Int) < K := by omega
      have bw := P.out.bw
      clear huK
      go_wp2_with fail
      go_ret
      exact ⟨by rw [← FIN.out]; rfl, bw⟩
end Go.Proofs.Ythgfmaijoigckaa
namespace Go.Proofs.Ythgfmaijoigckaa
open Go.RowKit
set_option linter.unusedVariables false

/-- what pair returns -/
def PairQ (f g a b : Cv) (l er : Int) : Prop :=
  DcBad f g er ∨ (f.Ok ∧ g.Ok ∧ g.at 0 = 0 ∧ NF f.at a ∧ NF g.at b ∧ a.Ok ∧ b.Ok ∧ comm a.per.toNat b.per.toNat ≤ 120 ∧ l = (comm a.per.toNat b.per.toNat : Nat) ∧ er = 0)
def RetPq (f g : Cv) (w : World) (e : Ending) (w' : World) : Prop :=
  ∃ (a b : Cv) (l er : Int) (A : Option Addr) (n c : Nat) (B : Option Addr) (m d : Nat), PairQ f g a b l er ∧
    e = .returned (.tuple #[.agg #[.slice A n c, .int .i64 a.per, .int .i64 a.inc], .agg #[.slice B m d, .int .i64 b.per, .int .i64 b.inc], .int .i64 l, .int .i64 er]) ∧
    Ints w' w'.heap.size A n a.vals ∧ Ints w' w'.heap.size B m b.vals ∧ (∀ b off s, A = some ⟨b, off, s⟩ → w.heap.size ≤ b) ∧ (∀ b off s, B = some ⟨b, off, s⟩ → w.heap.size ≤ b) ∧ Below w.heap.size w w'
set_option maxHeartbeats 2000000 in
set_option maxRecDepth 100000 in
theorem pair8_any (A B : Option Addr) (n m c d : Nat) (p i q j : Int) (xs ys : List Int) (w : World) (hA : Ints w w.heap.size A n xs) (hB : Ints w w.heap.size B m ys) (hn : (n : Int) ≤ 1000000) (hm : (m : Int) ≤ 1000000) (hnc : n ≤ c) (hmd : m ≤ d) :
    Calls Try.prog 84 #[.agg #[.slice A n c, .int .i64 p, .int .i64 i], .agg #[.slice B m d, .int .i64 q, .int .i64 j]] w (RetPq ⟨xs, p, i⟩ ⟨ys, q, j⟩ w) := by
  have P := Lib.hid (((PS.new (c := c) (p := p) (i := i) (d := d) (q := q) (j := j) hA hB).alloc (.cells #[.slice none 0 0, .int .i64 0, .int .i64 0] 44)).alloc (.cells #[.slice none 0 0, .int .i64 0, .int .i64 0] 44))
  have ra := (Blk.new ((w.alloc (.cells #[.slice A n c, .int .i64 p, .int .i64 i] 44)).alloc (.cells #[.slice B m d, .int .i64 q, .int .i64 j] 44)) 44 #[.slice none 0 0, .int .i64 0, .int .i64 0]).alloc (.cells #[.slice none 0 0, .int .i64 0, .int .i64 0] 44)
  have rb := Blk.new (((w.alloc (.cells #[.slice A n c, .int .i64 p, .int .i64 i] 44)).alloc (.cells #[.slice B m d, .int .i64 q, .int .i64 j] 44)).alloc (.cells #[.slice none 0 0, .int .i64 0, .int .i64 0] 44)) 44 #[.slice none 0 0, .int .i64 0, .int .i64 0]
  rw [World.size_alloc, World.size_alloc] at ra
  rw [World.size_alloc, World.size_alloc, World.size_alloc] at rb
  have RR := Lib.hid (show R2 w _ from ⟨ra, rb, P.out.bw⟩)
  have HNC := Lib.hid hnc; have HMD := Lib.hid hmd
  clear hA hB ra rb hnc hmd
  go_enter Try.func84, Try.ntmps84
  go_wp2_with fail
  refine (refPair_any A B n m c d p i q j xs ys _ P.out.ia P.out.ib hn hm HNC.out HMD.out).mono ?_
  rintro e w1 ⟨a, b, l, er, A1, n1, c1, A2, n2, c2, hR, rfl, hI1, hI2, hA1, hA2, hb⟩
  simp only [World.size_alloc] at hA1 hA2
  have HR := Lib.hid hR
  have RR := Lib.hid (((RR.out.below hb).below (balloc _ (.cells #[.slice A1 n1 c1, .int .i64 a.per, .int .i64 a.inc] 44))).below (balloc _ (.cells #[.slice A2 n2 c2, .int .i64 b.per, .int .i64 b.inc] 44)))
  have hs1 : w.heap.size + 1 + 1 + 1 < w1.heap.size := by have := hb.size; simp only [World.size_alloc] at this; omega
  have FA := Lib.hid ((By.new (L := w.heap.size + 1 + 1 + 1 + 1) (c := c1) hI1 hA1 (Nat.le_refl _) (by omega)).alloc (.cells #[.slice A2 n2 c2, .int .i64 b.per, .int .i64 b.inc] 44))
  have fb := By.new (L := w.heap.size + 1 + 1 + 1 + 1) (f := b) (c := c2) (hI2.alloc' (.cells #[.slice A1 n1 c1, .int .i64 a.per, .int .i64 a.inc] 44)) hA2 (Nat.le_refl _) (by simp only [World.size_alloc]; omega)
  simp only [World.size_alloc] at fb
  have FB := Lib.hid fb
  clear hR hI1 hI2 hA1 hA2 hb fb P
  go_upto_region 2 with fail
  generalize hwz : (w1.alloc (.cells #[.slice A1 n1 c1, .int .i64 a.per, .int .i64 a.inc] 44)).alloc (.cells #[.slice A2 n2 c2, .int .i64 b.per, .int .i64 b.inc] 44) = wz at *
  clear hwz
  have hne1 : w.heap.size + 1 + 1 ≠ w1.heap.size := by omega
  have hne2 : w.heap.size + 1 + 1 ≠ w1.heap.size + 1 := by omega
  have hne3 : w.heap.size + 1 + 1 + 1 ≠ w1.heap.size := by omega
  have hne4 : w.heap.size + 1 + 1 + 1 ≠ w1.heap.size + 1 := by omega
  have hne5 : w.heap.size + 1 ≠ w1.heap.size := by omega
  rcases HR.out with ⟨hbad, rfl⟩ | ⟨hf, hg, hna, hnb, hao, hbo, hcc⟩
  · have F := Lib.hid (show PairQ ⟨xs, p, i⟩ ⟨ys, q, j⟩ a b l 1 from .inl (.inl ⟨hbad, rfl⟩))
    clear HR hbad
    -- A2: the address of the second list
    -- a, b, l and the error 1 are returned
    obtain ⟨⟨r0, r1, r2, x0, x1, x2⟩, s0, s1, s2, y0, y1, y2⟩ := RR.out.cells
    obtain ⟨a0, a1, a2, hla⟩ := FA.out.cells
    obtain ⟨b0, b1, b2, hlb⟩ := FB.out.cells
    go_wp2_with fail
    go_region_held3 (fun w' => w'.cell? ⟨w1.heap.size, 0, none⟩ = some (.slice A1 n1 c1) ∧ w'.cell? ⟨w1.heap.size, 1, none⟩ = some (.int .i64 a.per) ∧ w'.cell? ⟨w1.heap.size, 2, none⟩ = some (.int .i64 a.inc) ∧ w'.cell? ⟨w1.heap.size + 1, 0, none⟩ = some (.slice A2 n2 c2) ∧ w'.cell? ⟨w1.heap.size + 1, 1, none⟩ = some (.int .i64 b.per) ∧ w'.cell? ⟨w1.heap.size + 1, 2, none⟩ = some (.int .i64 b.inc)) (first | go_keep) (fail)
    all_goals
      have ra := (((RR.out.a.store3 (.slice A1 n1 c1) (.int .i64 a.per) (.int .i64 a.inc)).far (p := ⟨w.heap.size + 1 + 1 + 1, 0, none⟩) (by simp) (.slice A2 n2 c2)).far (p := ⟨w.heap.size + 1 + 1 + 1, 1, none⟩) (by simp) (.int .i64 b.per)).far (p := ⟨w.heap.size + 1 + 1 + 1, 2, none⟩) (by simp) (.int .i64 b.inc)
      have rb := ((((RR.out.b.far (p := ⟨w.heap.size + 1 + 1, 0, none⟩) (by simp) (.slice A1 n1 c1)).far (p := ⟨w.heap.size + 1 + 1, 1, none⟩) (by simp) (.int .i64 a.per)).far (p := ⟨w.heap.size + 1 + 1, 2, none⟩) (by simp) (.int .i64 a.inc))).store3 (.slice A2 n2 c2) (.int .i64 b.per) (.int .i64 b.inc)
      have FA := Lib.hid ((FA.out.set3 (g := w.heap.size + 1 + 1) (.inr (by omega)) (.slice A1 n1 c1) (.int .i64 a.per) (.int .i64 a.inc)).set3 (g := w.heap.size + 1 + 1 + 1) (.inr (by omega)) (.slice A2 n2 c2) (.int .i64 b.per) (.int .i64 b.inc))
      have FB := Lib.hid ((FB.out.set3 (g := w.heap.size + 1 + 1) (.inr (by omega)) (.slice A1 n1 c1) (.int .i64 a.per) (.int .i64 a.inc)).set3 (g := w.heap.size + 1 + 1 + 1) (.inr (by omega)) (.slice A2 n2 c2) (.int .i64 b.per) (.int .i64 b.inc))
      have bw := b3st (b3st RR.out.bw (g := w.heap.size + 1 + 1) (by omega) (.slice A1 n1 c1) (.int .i64 a.per) (.int .i64 a.inc)) (g := w.heap.size + 1 + 1 + 1) (by omega) (.slice A2 n2 c2) (.int .i64 b.per) (.int .i64 b.inc)
      have ra := Blk.drew ra; have rb := Blk.drew rb; have FA := Lib.hid FA.out.drew; have FB := Lib.hid FB.out.drew; have bw := Below.drew bw
      clear r0 r1 r2 x0 x1 x2 s0 s1 s2 y0 y1 y2 RR
      clear a0 a1 a2 hla b0 b1 b2 hlb
      go_wp2_with fail
      exact bodyPost_ret (v := .tuple #[.agg #[.slice A1 n1 c1, .int .i64 a.per, .int .i64 a.inc], .agg #[.slice A2 n2 c2, .int .i64 b.per, .int .i64 b.inc], .int .i64 l, .int .i64 1]) (by simp [results, Try.results84, go_sem, ra.cell, rb.cell]) rfl
        ⟨a, b, _, _, A1, n1, c1, A2, n2, c2, F.out, rfl, FA.out.ints, FB.out.ints, fun b' off s e => by have := FA.out.lo b' off s e; omega, fun b' off s e => by have := FB.out.lo b' off s e; omega, bw⟩
  · have hb1 := hbo.n1
    have hl2 : b.vals.length = n2 := FB.out.ints.1
    rw [hl2] at hb1
    obtain ⟨ad, of, hAe, hbl, hcell⟩ := FB.out.ints.2 (by omega)
    subst hAe
    have hck := hcell 0 (by omega)
    simp only [Nat.add_zero] at hck
    obtain ⟨z, hz⟩ : ∃ z, z = nth b.vals 0 := ⟨_, rfl⟩
    rw [← hz] at hck
    have HZ := Lib.hid (show z = Cv.at ⟨ys, q, j⟩ 0 from by rw [hz, ← hnb.at, Cv.at_lt (by omega)])
    have her : (er != 1) = true := by
      rcases hcc with ⟨_, rfl⟩ | ⟨_, _, rfl⟩ <;> rfl
    clear hcell hz HR
    have H1 := Lib.hid hf; have H2 := Lib.hid hg; have HNA := Lib.hid hna; have HNB := Lib.hid hnb; have HAO := Lib.hid hao; have HBO := Lib.hid hbo; have HCC := Lib.hid hcc
    clear hf hg hna hnb hao hbo hcc
    by_cases hz0 : z = 0
    · have dz : (z != 0) = false := by simpa using hz0
      have F := Lib.hid (show PairQ ⟨xs, p, i⟩ ⟨ys, q, j⟩ a b l er from by
        rcases HCC.out with ⟨h1, h2⟩ | ⟨h1, h2, h3⟩
        · exact .inl (.inr (.inr ⟨H1.out, H2.out, by rw [← HZ.out]; exact hz0, h2, a, b, HNA.out, HNB.out, h1⟩))
        · exact .inr ⟨H1.out, H2.out, by rw [← HZ.out]; exact hz0, HNA.out, HNB.out, HAO.out, HBO.out, h1, h2, h3⟩)
      clear hz0 HCC
      -- (some ⟨ad, of, none⟩): the address of the second list
      -- a, b, l and the error er are returned
      obtain ⟨⟨r0, r1, r2, x0, x1, x2⟩, s0, s1, s2, y0, y1, y2⟩ := RR.out.cells
      obtain ⟨a0, a1, a2, hla⟩ := FA.out.cells
      obtain ⟨b0, b1, b2, hlb⟩ := FB.out.cells
      go_wp2_with fail
      go_region_held3 (fun w' => w'.cell? ⟨w1.heap.size, 0, none⟩ = some (.slice A1 n1 c1) ∧ w'.cell? ⟨w1.heap.size, 1, none⟩ = some (.int .i64 a.per) ∧ w'.cell? ⟨w1.heap.size, 2, none⟩ = some (.int .i64 a.inc) ∧ w'.cell? ⟨w1.heap.size + 1, 0, none⟩ = some (.slice (some ⟨ad, of, none⟩) n2 c2) ∧ w'.cell? ⟨w1.heap.size + 1, 1, none⟩ = some (.int .i64 b.per) ∧ w'.cell? ⟨w1.heap.size + 1, 2, none⟩ = some (.int .i64 b.inc)) (first | go_keep) (fail)
      all_goals
        have ra := (((RR.out.a.store3 (.slice A1 n1 c1) (.int .i64 a.per) (.int .i64 a.inc)).far (p := ⟨w.heap.size + 1 + 1 + 1, 0, none⟩) (by simp) (.slice (some ⟨ad, of, none⟩) n2 c2)).far (p := ⟨w.heap.size + 1 + 1 + 1, 1, none⟩) (by simp) (.int .i64 b.per)).far (p := ⟨w.heap.size + 1 + 1 + 1, 2, none⟩) (by simp) (.int .i64 b.inc)
        have rb := ((((RR.out.b.far (p := ⟨w.heap.size + 1 + 1, 0, none⟩) (by simp) (.slice A1 n1 c1)).far (p := ⟨w.heap.size + 1 + 1, 1, none⟩) (by simp) (.int .i64 a.per)).far (p := ⟨w.heap.size + 1 + 1, 2, none⟩) (by simp) (.int .i64 a.inc))).store3 (.slice (some ⟨ad, of, none⟩) n2 c2) (.int .i64 b.per) (.int .i64 b.inc)
        have FA := Lib.hid ((FA.out.set3 (g := w.heap.size + 1 + 1) (.inr (by omega)) (.slice A1 n1 c1) (.int .i64 a.per) (.int .i64 a.inc)).set3 (g := w.heap.size + 1 + 1 + 1) (.inr (by omega)) (.slice (some ⟨ad, of, none⟩) n2 c2) (.int .i64 b.per) (.int .i64 b.inc))
        have FB := Lib.hid ((FB.out.set3 (g := w.heap.size + 1 + 1) (.inr (by omega)) (.slice A1 n1 c1) (.int .i64 a.per) (.int .i64 a.inc)).set3 (g := w.heap.size + 1 + 1 + 1) (.inr (by omega)) (.slice (some ⟨ad, of, none⟩) n2 c2) (.int .i64 b.per) (.int .i64 b.inc))
        have bw := b3st (b3st RR.out.bw (g := w.heap.size + 1 + 1) (by omega) (.slice A1 n1 c1) (.int .i64 a.per) (.int .i64 a.inc)) (g := w.heap.size + 1 + 1 + 1) (by omega) (.slice (some ⟨ad, of, none⟩) n2 c2) (.int .i64 b.per) (.int .i64 b.inc)
        have ra := Blk.drew ra; have rb := Blk.drew rb; have FA := Lib.hid FA.out.drew; have FB := Lib.hid FB.out.drew; have bw := Below.drew bw
        clear r0 r1 r2 x0 x1 x2 s0 s1 s2 y0 y1 y2 RR
        clear a0 a1 a2 hla b0 b1 b2 hlb
        go_wp2_with fail
        exact bodyPost_ret (v := .tuple #[.agg #[.slice A1 n1 c1, .int .i64 a.per, .int .i64 a.inc], .agg #[.slice (some ⟨ad, of, none⟩) n2 c2, .int .i64 b.per, .int .i64 b.inc], .int .i64 l, .int .i64 er]) (by simp [results, Try.results84, go_sem, ra.cell, rb.cell]) rfl
          ⟨a, b, _, _, A1, n1, c1, (some ⟨ad, of, none⟩), n2, c2, F.out, rfl, FA.out.ints, FB.out.ints, fun b' off s e => by have := FA.out.lo b' off s e; omega, fun b' off s e => by have := FB.out.lo b' off s e; omega, bw⟩
    · have dz : (z != 0) = true := by simpa using hz0
      have F := Lib.hid (show PairQ ⟨xs, p, i⟩ ⟨ys, q, j⟩ a b l 6 from .inl (.inr (.inl ⟨H1.out, H2.out, by rw [← HZ.out]; exact hz0, rfl⟩)))
      clear hz0 HCC
      -- (some ⟨ad, of, none⟩): the address of the second list
      -- a, b, l and the error 6 are returned
      obtain ⟨⟨r0, r1, r2, x0, x1, x2⟩, s0, s1, s2, y0, y1, y2⟩ := RR.out.cells
      obtain ⟨a0, a1, a2, hla⟩ := FA.out.cells
      obtain ⟨b0, b1, b2, hlb⟩ := FB.out.cells
      go_wp2_with fail
      go_region_held3 (fun w' => w'.cell? ⟨w1.heap.size, 0, none⟩ = some (.slice A1 n1 c1) ∧ w'.cell? ⟨w1.heap.size, 1, none⟩ = some (.int .i64 a.per) ∧ w'.cell? ⟨w1.heap.size, 2, none⟩ = some (.int .i64 a.inc) ∧ w'.cell? ⟨w1.heap.size + 1, 0, none⟩ = some (.slice (some ⟨ad, of, none⟩) n2 c2) ∧ w'.cell? ⟨w1.heap.size + 1, 1, none⟩ = some (.int .i64 b.per) ∧ w'.cell? ⟨w1.heap.size + 1, 2, none⟩ = some (.int .i64 b.inc)) (first | go_keep) (fail)
      all_goals
        have ra := (((RR.out.a.store3 (.slice A1 n1 c1) (.int .i64 a.per) (.int .i64 a.inc)).far (p := ⟨w.heap.size + 1 + 1 + 1, 0, none⟩) (by simp) (.slice (some ⟨ad, of, none⟩) n2 c2)).far (p := ⟨w.heap.size + 1 + 1 + 1, 1, none⟩) (by simp) (.int .i64 b.per)).far (p := ⟨w.heap.size + 1 + 1 + 1, 2, none⟩) (by simp) (.int .i64 b.inc)
        have rb := ((((RR.out.b.far (p := ⟨w.heap.size + 1 + 1, 0, none⟩) (by simp) (.slice A1 n1 c1)).far (p := ⟨w.heap.size + 1 + 1, 1, none⟩) (by simp) (.int .i64 a.per)).far (p := ⟨w.heap.size + 1 + 1, 2, none⟩) (by simp) (.int .i64 a.inc))).store3 (.slice (some ⟨ad, of, none⟩) n2 c2) (.int .i64 b.per) (.int .i64 b.inc)
        have FA := Lib.hid ((FA.out.set3 (g := w.heap.size + 1 + 1) (.inr (by omega)) (.slice A1 n1 c1) (.int .i64 a.per) (.int .i64 a.inc)).set3 (g := w.heap.size + 1 + 1 + 1) (.inr (by omega)) (.slice (some ⟨ad, of, none⟩) n2 c2) (.int .i64 b.per) (.int .i64 b.inc))
        have FB := Lib.hid ((FB.out.set3 (g := w.heap.size + 1 + 1) (.inr (by omega)) (.slice A1 n1 c1) (.int .i64 a.per) (.int .i64 a.inc)).set3 (g := w.heap.size + 1 + 1 + 1) (.inr (by omega)) (.slice (some ⟨ad, of, none⟩) n2 c2) (.int .i64 b.per) (.int .i64 b.inc))
        have bw := b3st (b3st RR.out.bw (g := w.heap.size + 1 + 1) (by omega) (.slice A1 n1 c1) (.int .i64 a.per) (.int .i64 a.inc)) (g := w.heap.size + 1 + 1 + 1) (by omega) (.slice (some ⟨ad, of, none⟩) n2 c2) (.int .i64 b.per) (.int .i64 b.inc)
        have ra := Blk.drew ra; have rb := Blk.drew rb; have FA := Lib.hid FA.out.drew; have FB := Lib.hid FB.out.drew; have bw := Below.drew bw
        clear r0 r1 r2 x0 x1 x2 s0 s1 s2 y0 y1 y2 RR
        clear a0 a1 a2 hla b0 b1 b2 hlb
        go_wp2_with fail
        exact bodyPost_ret (v := .tuple #[.agg #[.slice A1 n1 c1, .int .i64 a.per, .int .i64 a.inc], .agg #[.slice (some ⟨ad, of, none⟩) n2 c2, .int .i64 b.per, .int .i64 b.inc], .int .i64 l, .int .i64 6]) (by simp [results, Try.results84, go_sem, ra.cell, rb.cell]) rfl
          ⟨a, b, _, _, A1, n1, c1, (some ⟨ad, of, none⟩), n2, c2, F.out, rfl, FA.out.ints, FB.out.ints, fun b' off s e => by have := FA.out.lo b' off s e; omega, fun b' off s e => by have := FB.out.lo b' off s e; omega, bw⟩
end Go.Proofs.Ythgfmaijoigckaa
namespace Go.Proofs.Ythgfmaijoigckaa
open Go.RowKit
set_option linter.unusedVariables false

theorem infC_made : MadeS (fun _ => inf) ⟨[4611686018427387904], 1, 0⟩ 0 := inf_made (by
  unfold chk
  rw [if_pos ⟨by decide, fun k hk => by
    have : k = 0 := by simpa using hk
    rw [this]; rfl⟩]
  exact ⟨rfl, rfl⟩)
theorem NF.self {h : Nat → Int} {b : Cv} (H : NF h b) : NF b.at b := by
  have e : b.at = h := funext H.at
  rw [e]; exact H
theorem dc_val {a b : Cv} (ha : a.Ok) (hb : b.Ok) (hc : ordC a b ≤ 120) {D : Nat → Int} (H : DcF a b D) {t : Nat} (ht : t ≤ 1000) : 0 ≤ D t ∧ D t ≤ 4611686018427387904 := by
  refine ⟨dc_nn H t, ?_⟩
  by_cases hl : Loose a b
  · rw [dc_loose ha hl H]; exact (by decide : inf ≤ 4611686018427387904)
  · rcases dc_bd ha hb hc hl H ht with h | h
    · rw [h]; decide
    · omega
theorem dc_later {a b : Cv} (ha : a.Ok) (hb : b.Ok) (hc : ordC a b ≤ 120) {D : Nat → Int} (H : DcF a b D) {t u : Nat} (ht : t ≤ 1000) (htu : t ≤ u) (hi : D t = inf) : D u = inf := by
  by_cases hl : Loose a b
  · rw [dc_loose ha hl H]
  · exact dc_hinf ha hb hc hl H ht htu hi
/-- the curve that Of lists -/
theorem dc_tab {a b : Cv} (ha : a.Ok) (hb : b.Ok) (hc : ordC a b ≤ 120) (h0 : b.at 0 = 0) {D : Nat → Int} (H : DcF a b D) (hs : ¬ Steep a b) (t : Nat) : Cv.at ⟨tab D 0 a.vals.length, a.per, a.inc⟩ t = D t := by
  have hp := ha.p1; have hpn := ha.pn; have hn := ha.n2; have hn1 := ha.n1
  obtain ⟨pn, hpe⟩ := Int.eq_ofNat_of_zero_le (show 0 ≤ a.per by omega)
  have start_inf : ¬ a.Fin → ∀ k, a.vals.length - a.per.toNat ≤ k → D k = inf := fun fa k hk => by
    have ia : nth a.vals (a.vals.length - 1) = inf := ha.fin_or.resolve_left fa
    obtain ⟨i, v, A, h1, h2⟩ := H k
    obtain ⟨rfl, _⟩ := h1.unique (not_ab (t := 0) (dc_zero hb h0) (by rw [Nat.zero_add]; exact ha.infAt_start ia hk))
    rw [h2, if_pos rfl]
  have nofin : a.Fin → ∀ k, k ≤ 1000 → D k ≠ inf := fun fa k hk e => by
    have hl : ¬ Loose a b := fun hl => hs ⟨hl.1, fa, hl.2.resolve_left (fun h => h fa)⟩
    obtain ⟨v', A', h4, _⟩ := ahi_exists (a := a) (b := b) k (dcK a b) (fun x _ => .inr (fa.not_infAt _))
    have h5 := h4.doneK ha hb hl
    obtain ⟨i, w, B, h6, h7⟩ := H k
    obtain ⟨rfl, rfl, _⟩ := h6.unique h5
    rw [if_neg (by simp)] at h7
    have h8 := dc_small ha hb hc hl hk h5
    rw [e] at h7
    unfold inf at h7
    omega
  have key := tab_at (h := D) (N := a.vals.length) (p := pn) (i := a.inc) (by omega) (by omega) (fun m t hm h hmt => dc_later ha hb hc H (by omega) hmt h) (fun m hm h => by
    by_cases fa : a.Fin
    · exact absurd h (nofin fa m (by omega))
    · exact start_inf fa _ (by omega)) (fun hne => by
    by_cases fa : a.Fin
    · have hl : ¬ Loose a b := fun hl => hs ⟨hl.1, fa, hl.2.resolve_left (fun h => h fa)⟩
      have := dc_per ha hb fa hl h0 H
      rw [show a.per.toNat = pn by omega] at this
      exact this
    · exact absurd (start_inf fa (a.vals.length - 1) (by omega)) (hne _ (by omega))) t
  rw [hpe]
  exact key
set_option maxHeartbeats 4000000 in
set_option maxRecDepth 100000 in
theorem refDc_any (A B : Option Addr) (n m c d : Nat) (p i q j : Int) (xs ys : List Int) (w : World) (hA : Ints w w.heap.size A n xs) (hB : Ints w w.heap.size B m ys) (hn : (n : Int) ≤ 1000000) (hm : (m : Int) ≤ 1000000) (hnc : n ≤ c) (hmd : m ≤ d) :
    Calls Try.prog 29 #[.agg #[.slice A n c, .int .i64 p, .int .i64 i], .agg #[.slice B m d, .int .i64 q, .int .i64 j]] w (RetS2 (DcS ⟨xs, p, i⟩ ⟨ys, q, j⟩) w) := by
  have P := Lib.hid ((PS.new (c := c) (p := p) (i := i) (d := d) (q := q) (j := j) hA hB).alloc (.cells #[.slice none 0 0, .int .i64 0, .int .i64 0] 44))
  have rb := Blk.new ((w.alloc (.cells #[.slice A n c, .int .i64 p, .int .i64 i] 44)).alloc (.cells #[.slice B m d, .int .i64 q, .int .i64 j] 44)) 44 #[.slice none 0 0, .int .i64 0, .int .i64 0]
  rw [World.size_alloc, World.size_alloc] at rb
  have RB := Lib.hid rb
  have HNC := Lib.hid hnc; have HMD := Lib.hid hmd
  clear hA hB rb hnc hmd
  go_enter Try.func29, Try.ntmps29
  go_wp2_with fail
  refine (pair8_any A B n m c d p i q j xs ys _ P.out.ia P.out.ib hn hm HNC.out HMD.out).mono ?_
  rintro e w1 ⟨a, b, l, er, A1, n1, c1, A2, n2, c2, hR, rfl, hI1, hI2, hA1, hA2, hb⟩
  simp only [World.size_alloc] at hA1 hA2
  have HR := Lib.hid hR
  have RB := Lib.hid (((RB.out.below hb RB.out.lt).alloc (.cells #[.slice A1 n1 c1, .int .i64 a.per, .int .i64 a.inc] 44)).alloc (.cells #[.slice A2 n2 c2, .int .i64 b.per, .int .i64 b.inc] 44))
  have BW := Lib.hid (bthen (bthen (bthen P.out.bw hb) (balloc _ (.cells #[.slice A1 n1 c1, .int .i64 a.per, .int .i64 a.inc] 44))) (balloc _ (.cells #[.slice A2 n2 c2, .int .i64 b.per, .int .i64 b.inc] 44)))
  have hs1 : w.heap.size + 1 + 1 < w1.heap.size := by have := hb.size; simp only [World.size_alloc] at this; omega
  have FA := Lib.hid ((By.new (L := w.heap.size + 1 + 1 + 1) (c := c1) hI1 hA1 (Nat.le_refl _) (by omega)).alloc (.cells #[.slice A2 n2 c2, .int .i64 b.per, .int .i64 b.inc] 44))
  have fb := By.new (L := w.heap.size + 1 + 1 + 1) (f := b) (c := c2) (hI2.alloc' (.cells #[.slice A1 n1 c1, .int .i64 a.per, .int .i64 a.inc] 44)) hA2 (Nat.le_refl _) (by simp only [World.size_alloc]; omega)
  simp only [World.size_alloc] at fb
  have FB := Lib.hid fb
  clear hR hI1 hI2 hA1 hA2 hb fb P
  go_upto_region 2 with fail
  generalize hwz : (w1.alloc (.cells #[.slice A1 n1 c1, .int .i64 a.per, .int .i64 a.inc] 44)).alloc (.cells #[.slice A2 n2 c2, .int .i64 b.per, .int .i64 b.inc] 44) = wz at *
  clear hwz
  rcases HR.out with hbad | ⟨hf, hg, h0, hna, hnb, hao, hbo, hcc, hle, rfl⟩
  · obtain ⟨⟨r0, r1, r2⟩, ⟨y0, y1, y2⟩, hlr⟩ := RB.out.c3
    have F := Lib.hid (show DcS ⟨xs, p, i⟩ ⟨ys, q, j⟩ Cv.none er from .inl ⟨hbad, rfl⟩)
    have hne : (er != 0) = true := by
      rcases hbad with ⟨_, rfl⟩ | ⟨_, _, _, rfl⟩ | ⟨_, _, _, rfl, _⟩ <;> rfl
    clear HR hbad
    go_wp2_with fail
    have rb := RB.out.store3 (.slice none 0 0) (.int .i64 0) (.int .i64 0)
    exact bodyPost_ret (v := .tuple #[.agg #[.slice none 0 0, .int .i64 0, .int .i64 0], .int .i64 er]) (by simp [results, Try.results29, go_sem, rb.cell]) rfl (retS2_store0 F.out (by omega) BW.out)
  · have hp1 := hao.p1; have hp2 := hao.p2; have hq1 := hbo.p1; have hq2 := hbo.p2; have hi1 := hao.i1; have hi2 := hao.i2; have hj1 := hbo.i1; have hj2 := hbo.i2
    have hna1 := hao.n1; have hna2 := hao.n2; have hnb2 := hbo.n2; have hpn := hao.pn; have hqn := hbo.pn
    have hl1 : a.vals.length = n1 := FA.out.ints.1
    have hl2 : b.vals.length = n2 := FB.out.ints.1
    rw [hl1] at hna1 hna2 hpn
    rw [hl2] at hnb2 hqn
    obtain ⟨C, hC⟩ : ∃ C, C = comm a.per.toNat b.per.toNat := ⟨_, rfl⟩
    rw [← hC] at hle hcc
    obtain rfl := hle
    obtain ⟨D, hD⟩ := dc_exists hao hbo
    have HB0 := Lib.hid (show b.at 0 = 0 from by rw [hnb.at]; exact h0)
    have HOC := Lib.hid (show ordC a b ≤ 120 from by unfold ordC; rw [← hC]; exact hcc)
    have FIN := Lib.hid (show ∀ r er, MadeS D r er → DcS ⟨xs, p, i⟩ ⟨ys, q, j⟩ r er from fun r er hM => .inr ⟨hf, hg, h0, ⟨a, b, hna, hnb, by rw [← hC]; exact hcc⟩, D, hD.nf hf hg hna hnb, hM⟩)
    have HBN := Lib.hid (show NF b.at b from hnb.self)
    have HD := Lib.hid hD; have HAO := Lib.hid hao; have HBO := Lib.hid hbo; have HC := Lib.hid hC; have HL1 := Lib.hid hl1; have HL2 := Lib.hid hl2
    obtain ⟨z, hz⟩ : ∃ z, z = steepB a b := ⟨_, rfl⟩
    have HZ := Lib.hid (show z = true ↔ Steep a b from by rw [hz]; exact steepB_iff hao hbo)
    have HZZ := Lib.hid hz
    clear HR hf hg h0 hna hnb hao hbo hC hD hl1 hl2 hz
    obtain ⟨a0, a1, a2, hla⟩ := FA.out.cells
    obtain ⟨b0, b1, b2, hlb⟩ := FB.out.cells
    go_wp2_with fail
    refine (steep8_any A1 A2 n1 n2 c1 c2 a b C _ (by exact FA.out.ints) (by exact FB.out.ints) HAO.out HBO.out HC.out hcc).mono ?_
    rw [← HZZ.out]
    rintro e w2 ⟨rfl, hbq⟩
    have FA := Lib.hid (FA.out.below hbq); have FB := Lib.hid (FB.out.below hbq); have RB := Lib.hid (RB.out.below hbq RB.out.lt); have BW := Lib.hid (bthen BW.out hbq)
    clear hbq
    clear a0 a1 a2 hla b0 b1 b2 hlb
    obtain ⟨a0, a1, a2, hla⟩ := FA.out.cells
    obtain ⟨b0, b1, b2, hlb⟩ := FB.out.cells
    cases z
    case true =>
      have F := Lib.hid (show DcS ⟨xs, p, i⟩ ⟨ys, q, j⟩ ⟨[4611686018427387904], 1, 0⟩ 0 from FIN.out _ _ (by
        rw [dc_loose HAO.out (HZ.out.1 (by first | rfl | trivial)).loose HD.out]
        exact infC_made))
      have hlr0 := RB.out.lt
      clear a0 a1 a2 hla b0 b1 b2 hlb
      obtain ⟨⟨r0, r1, r2⟩, ⟨y0, y1, y2⟩, hlr⟩ := RB.out.c3
      go_wp2_with fail
      have rb := (RB.out.store3 (.slice (some ⟨w2.heap.size, 0, none⟩) 1 1) (.int .i64 1) (.int .i64 0)).alloc (.cells #[.int .i64 4611686018427387904] 3)
      have bw := bthen (b3st BW.out (g := w.heap.size + 1 + 1) (by omega) (.slice (some ⟨w2.heap.size, 0, none⟩) 1 1) (.int .i64 1) (.int .i64 0)) (balloc _ (.cells #[.int .i64 4611686018427387904] 3))
      have il := ints_litC (((w2.setCell ⟨w.heap.size + 1 + 1, 0, none⟩ (.slice (some ⟨w2.heap.size, 0, none⟩) 1 1)).setCell ⟨w.heap.size + 1 + 1, 1, none⟩ (.int .i64 1)).setCell ⟨w.heap.size + 1 + 1, 2, none⟩ (.int .i64 0)) [4611686018427387904]
      have e : (((w2.setCell ⟨w.heap.size + 1 + 1, 0, none⟩ (.slice (some ⟨w2.heap.size, 0, none⟩) 1 1)).setCell ⟨w.heap.size + 1 + 1, 1, none⟩ (.int .i64 1)).setCell ⟨w.heap.size + 1 + 1, 2, none⟩ (.int .i64 0)).heap.size = w2.heap.size := by simp
      rw [e] at il
      exact bodyPost_ret (v := .tuple #[.agg #[.slice (some ⟨w2.heap.size, 0, none⟩) 1 1, .int .i64 1, .int .i64 0], .int .i64 0]) (by simp [results, Try.results29, go_sem, rb.cell]) rfl
        ⟨⟨[4611686018427387904], 1, 0⟩, 0, some ⟨w2.heap.size, 0, none⟩, 1, 1, F.out, Nat.le_refl _, rfl, il, (fun b off s e => by injection e with e; injection e with e; omega), bw⟩
    case false =>
      have NS := Lib.hid (show ¬ Steep a b from fun h => by have := HZ.out.2 h; cases this)
      go_upto_region 7 with fail
      have OB := Lib.hid (Blk.new w2 44 #[.slice none 0 0, .int .i64 a.per, .int .i64 a.inc])
      have hP : w1.heap.size + 1 < w2.heap.size := FB.out.lt
      have FA := Lib.hid (FA.out.alloc (.cells #[.slice none 0 0, .int .i64 a.per, .int .i64 a.inc] 44)); have FB := Lib.hid (FB.out.alloc (.cells #[.slice none 0 0, .int .i64 a.per, .int .i64 a.inc] 44))
      have RB := Lib.hid (RB.out.alloc (.cells #[.slice none 0 0, .int .i64 a.per, .int .i64 a.inc] 44))
      have BW := Lib.hid (bthen BW.out (balloc _ (.cells #[.slice none 0 0, .int .i64 a.per, .int .i64 a.inc] 44)))
      clear a0 a1 a2 hla b0 b1 b2 hlb
      generalize hwo : w2.alloc (.cells #[.slice none 0 0, .int .i64 a.per, .int .i64 a.inc] 44) = wo at OB FA FB RB BW ⊢
      clear hwo
      generalize w2.heap.size = P at OB hP ⊢
      have hls := FA.out.lf
      go_wp2_with fail
      go_loopg [11] n1 (fun gg s11 wx => ∃ (k : Nat) (Am : Option Addr) (cm : Nat), k + gg = n1 ∧ s11 = .int .i64 k ∧ Blk wx P 44 #[.slice Am k cm, .int .i64 a.per, .int .i64 a.inc] ∧ Own wx (P + 1) (.slice Am k cm) k (tab D 0 k) ∧
        By (w.heap.size + 1 + 1 + 1) wx w1.heap.size A1 n1 c1 a ∧ By (w.heap.size + 1 + 1 + 1) wx (w1.heap.size + 1) A2 n2 c2 b ∧ Blk wx (w.heap.size + 1 + 1) 44 #[.slice none 0 0, .int .i64 0, .int .i64 0] ∧ Below w.heap.size w wx)
      case atStart => exact ⟨0, none, 0, by omega, rfl, OB.out, Own.nil_ _ _, FA.out, FB.out, RB.out, BW.out⟩
      case round =>
        clear OB FA FB RB BW
        obtain ⟨k, Am, cm, hkg, rfl, ob, own, fa, fb, rb, bw⟩ := hrel
        have OB := Lib.hid ob; have OWN := Lib.hid own; have FA := Lib.hid fa; have FB := Lib.hid fb; have RB := Lib.hid rb; have BW := Lib.hid bw
        clear ob own fa fb rb bw
        obtain ⟨a0, a1, a2, hla⟩ := FA.out.cells
        obtain ⟨b0, b1, b2, hlb⟩ := FB.out.cells
        obtain ⟨o0, o1, o2⟩ : _ ∧ _ ∧ _ := ⟨OB.out.cell 0, OB.out.cell 1, OB.out.cell 2⟩
        simp at o0 o1 o2
        have z0 := OB.out.frozen 0
        have hlo := OB.out.lt
        by_cases hk : k < n1
        · have hki : (k : Int) < n1 := by omega
          go_wp2_with fail
          have FA := Lib.hid FA.out.drew; have FB := Lib.hid FB.out.drew; have RB := Lib.hid (Blk.drew RB.out); have BW := Lib.hid (Below.drew BW.out); have OB := Lib.hid (Blk.drew OB.out); have OWN := Lib.hid OWN.out.drew
          clear a0 a1 a2 hla b0 b1 b2 hlb
          clear o0 o1 o2 z0 hlo
          obtain ⟨a0, a1, a2, hla⟩ := FA.out.cells
          obtain ⟨b0, b1, b2, hlb⟩ := FB.out.cells
          obtain ⟨o0, o1, o2⟩ : _ ∧ _ ∧ _ := ⟨OB.out.cell 0, OB.out.cell 1, OB.out.cell 2⟩
          simp at o0 o1 o2
          have z0 := OB.out.frozen 0
          have hlo := OB.out.lt
          have hF := And.intro a0 (And.intro a1 (And.intro a2 (And.intro b0 (And.intro b1 b2))))
          have hG := o0
          refine wp_region_T (fun w' => w'.cell? ⟨w1.heap.size, 0, none⟩ = some (.slice A1 n1 c1) ∧ w'.cell? ⟨w1.heap.size, 1, none⟩ = some (.int .i64 a.per) ∧ w'.cell? ⟨w1.heap.size, 2, none⟩ = some (.int .i64 a.inc) ∧ w'.cell? ⟨w1.heap.size + 1, 0, none⟩ = some (.slice A2 n2 c2) ∧ w'.cell? ⟨w1.heap.size + 1, 1, none⟩ = some (.int .i64 b.per) ∧ w'.cell? ⟨w1.heap.size + 1, 2, none⟩ = some (.int .i64 b.inc)) (fun w' => w'.cell? ⟨P, 0, none⟩ = some (.slice Am k cm)) 8 (by kernel_rfl) (by exact hF) (by exact hG) (fun _ => ?_)
          generalize hwd : wr.drew = wd at *
          clear hwd hF hG
          clear a0 a1 a2 hla b0 b1 b2 hlb
          clear o0 o1 o2 z0 hlo
          obtain ⟨a0, a1, a2, hla⟩ := FA.out.cells
          obtain ⟨b0, b1, b2, hlb⟩ := FB.out.cells
          obtain ⟨o0, o1, o2⟩ : _ ∧ _ ∧ _ := ⟨OB.out.cell 0, OB.out.cell 1, OB.out.cell 2⟩
          simp at o0 o1 o2
          have z0 := OB.out.frozen 0
          have hlo := OB.out.lt
          have hF := And.intro a0 (And.intro a1 (And.intro a2 (And.intro b0 (And.intro b1 b2))))
          have hG := o0
          refine wpAnyT_take (i := 0) (oi := _) (v := ?_) (by simp only [List.getElem?_toArray, List.getElem?_cons_zero]; rfl) (by kernel_rfl) (by kernel_rfl) (by kernel_rfl) (by rfl) (by exact fun _ _ _ h => h) (Or.inl ⟨by rfl, ?_⟩) ⟨(by exact hF), fun _ => (by exact hG)⟩ (fun _ => ?_)
          rotate_left 1
          · (intro w hSw; (try dsimp only at hSw); go_simp; try with_reducible rfl)
          all_goals try simp only [Act.put]
          all_goals try simp only [List.setIfInBounds_toArray]
          all_goals try simp only [List.set_cons_succ]
          all_goals try simp only [List.set_cons_zero]
          refine wpAnyT_takeG (i := 1) (oi := _) (v := ?_) (by simp only [List.getElem?_toArray, List.getElem?_cons_succ, List.getElem?_cons_zero]; rfl) (by kernel_rfl) (by kernel_rfl) (by kernel_rfl) (by rfl) (by kernel_rfl) (by kernel_rfl) (by exact fun _ _ _ h => h) (Or.inl ⟨by rfl, ?_⟩) ⟨(by exact hF), fun _ => (by exact hG)⟩ (fun _ => ?_)
          rotate_left 1
          · (intro w hSw; (try dsimp only at hSw); go_simp; try with_reducible rfl)
          all_goals try simp only [Act.put]
          all_goals try simp only [List.setIfInBounds_toArray]
          all_goals try simp only [List.set_cons_succ]
          all_goals try simp only [List.set_cons_zero]
          refine wpAnyT_take (i := 2) (oi := _) (v := ?_) (by simp only [List.getElem?_toArray, List.getElem?_cons_succ, List.getElem?_cons_zero]; rfl) (by kernel_rfl) (by kernel_rfl) (by kernel_rfl) (by rfl) (by exact fun _ _ _ h => h) (Or.inl ⟨by rfl, ?_⟩) ⟨(by exact hF), fun _ => (by exact hG)⟩ (fun _ => ?_)
          rotate_left 1
          · (intro w hSw; (try dsimp only at hSw); go_simp; try with_reducible rfl)
          all_goals try simp only [Act.put]
          all_goals try simp only [List.setIfInBounds_toArray]
          all_goals try simp only [List.set_cons_succ]
          all_goals try simp only [List.set_cons_zero]
          refine wpAnyT_take (i := 3) (oi := _) (v := ?_) (by simp only [List.getElem?_toArray, List.getElem?_cons_succ, List.getElem?_cons_zero]; rfl) (by kernel_rfl) (by kernel_rfl) (by kernel_rfl) (by rfl) (by exact fun _ _ _ h => h) (Or.inl ⟨by rfl, ?_⟩) ⟨(by exact hF), fun _ => (by exact hG)⟩ (fun _ => ?_)
          rotate_left 1
          · (intro w hSw; (try dsimp only at hSw); go_simp; try with_reducible rfl)
          all_goals try simp only [Act.put]
          all_goals try simp only [List.setIfInBounds_toArray]
          all_goals try simp only [List.set_cons_succ]
          all_goals try simp only [List.set_cons_zero]
          refine wpAnyT_take (i := 4) (oi := _) (v := ?_) (by simp only [List.getElem?_toArray, List.getElem?_cons_succ, List.getElem?_cons_zero]; rfl) (by kernel_rfl) (by kernel_rfl) (by kernel_rfl) (by rfl) (by exact fun _ _ _ h => h) (Or.inl ⟨by rfl, ?_⟩) ⟨(by exact hF), fun _ => (by exact hG)⟩ (fun _ => ?_)
          rotate_left 1
          · (intro w hSw; (try dsimp only at hSw); go_simp; try with_reducible rfl)
          all_goals try simp only [Act.put]
          all_goals try simp only [List.setIfInBounds_toArray]
          all_goals try simp only [List.set_cons_succ]
          all_goals try simp only [List.set_cons_zero]
          refine wpAnyT_take (i := 5) (oi := _) (v := ?_) (by simp only [List.getElem?_toArray, List.getElem?_cons_succ, List.getElem?_cons_zero]; rfl) (by kernel_rfl) (by kernel_rfl) (by kernel_rfl) (by rfl) (by exact fun _ _ _ h => h) (Or.inl ⟨by rfl, ?_⟩) ⟨(by exact hF), fun _ => (by exact hG)⟩ (fun _ => ?_)
          rotate_left 1
          · (intro w hSw; (try dsimp only at hSw); go_simp; try with_reducible rfl)
          all_goals try simp only [Act.put]
          all_goals try simp only [List.setIfInBounds_toArray]
          all_goals try simp only [List.set_cons_succ]
          all_goals try simp only [List.set_cons_zero]
          refine wpAnyT_ready (rs := [6]) (by kernel_rfl) (by simp) ?_
          refine (AllReadyT.cons (by simp only [List.getElem?_toArray, List.getElem?_cons_succ, List.getElem?_cons_zero]; rfl) (fun K hK => ?_) AllReadyT.nil)
          rw [if_pos (by rfl)]
          go_simp
          refine (most8_any A1 A2 n1 n2 c1 c2 a b C k _ (by exact FA.out.ints) (by exact FB.out.ints) HAO.out HBO.out HC.out hcc (by omega) HBN.out NS.out HB0.out HD.out).mono ?_
          obtain ⟨z, hz⟩ : ∃ z, z = D k := ⟨_, rfl⟩
          rw [← hz]
          have HZZ := Lib.hid hz
          clear hz
          rintro e wq ⟨rfl, hbq⟩
          have FA := Lib.hid (FA.out.below hbq); have FB := Lib.hid (FB.out.below hbq); have RB := Lib.hid (RB.out.below hbq RB.out.lt); have BW := Lib.hid (bthen BW.out hbq); have OB := Lib.hid (OB.out.below hbq OB.out.lt); have OWN := Lib.hid (OWN.out.below hbq (fun g hg => (OWN.out.blk_lt g hg).2))
          clear hbq hF hG
          clear a0 a1 a2 hla b0 b1 b2 hlb
          clear o0 o1 o2 z0 hlo
          obtain ⟨a0, a1, a2, hla⟩ := FA.out.cells
          obtain ⟨b0, b1, b2, hlb⟩ := FB.out.cells
          obtain ⟨o0, o1, o2⟩ : _ ∧ _ ∧ _ := ⟨OB.out.cell 0, OB.out.cell 1, OB.out.cell 2⟩
          simp at o0 o1 o2
          have z0 := OB.out.frozen 0
          have hlo := OB.out.lt
          have hF := And.intro a0 (And.intro a1 (And.intro a2 (And.intro b0 (And.intro b1 b2))))
          have hG := o0
          refine hK.out _ _ ⟨(by exact hF), fun _ => (by exact hG)⟩ (fun _ => ?_)
          clear hK K
          try simp only [Act.put]
          try simp only [List.setIfInBounds_toArray]
          try simp only [List.set_cons_succ]
          try simp only [List.set_cons_zero]
          refine wpAnyT_ready (rs := [7]) (by kernel_rfl) (by simp) ?_
          refine (AllReadyT.cons (by simp only [List.getElem?_toArray, List.getElem?_cons_succ, List.getElem?_cons_zero]; rfl) (fun K hK => ?_) AllReadyT.nil)
          rw [if_pos (by rfl)]
          go_simp
          have hlit := ints_litC wq [z]
          have hbq := balloc wq (.cells ([z].map (Value.int .i64)).toArray 3)
          simp only [List.map_cons, List.map_nil] at hlit hbq
          generalize hwl : wq.alloc (.cells [Value.int .i64 z].toArray 3) = wl at *
          clear hwl
          have FA := Lib.hid (FA.out.below hbq); have FB := Lib.hid (FB.out.below hbq); have RB := Lib.hid (RB.out.below hbq RB.out.lt); have BW := Lib.hid (bthen BW.out hbq); have OB := Lib.hid (OB.out.below hbq OB.out.lt); have OWN := Lib.hid (OWN.out.below hbq (fun g hg => (OWN.out.blk_lt g hg).2))
          clear hbq hF hG
          clear a0 a1 a2 hla b0 b1 b2 hlb
          clear o0 o1 o2 z0 hlo
          obtain ⟨a0, a1, a2, hla⟩ := FA.out.cells
          obtain ⟨b0, b1, b2, hlb⟩ := FB.out.cells
          obtain ⟨o0, o1, o2⟩ : _ ∧ _ ∧ _ := ⟨OB.out.cell 0, OB.out.cell 1, OB.out.cell 2⟩
          simp at o0 o1 o2
          have z0 := OB.out.frozen 0
          have hlo := OB.out.lt
          have hF := And.intro a0 (And.intro a1 (And.intro a2 (And.intro b0 (And.intro b1 b2))))
          have hG := o0
          refine hK.out _ _ ⟨(by exact hF), fun _ => (by exact hG)⟩ (fun _ => ?_)
          clear hK K
          try simp only [Act.put]
          try simp only [List.setIfInBounds_toArray]
          try simp only [List.set_cons_succ]
          try simp only [List.set_cons_zero]
          refine wpAnyT_ready (rs := [8]) (by kernel_rfl) (by simp) ?_
          refine (AllReadyT.cons (by simp only [List.getElem?_toArray, List.getElem?_cons_succ, List.getElem?_cons_zero]; rfl) (fun K hK => ?_) AllReadyT.nil)
          refine step_app (by rfl) _ _ 29 (by rfl) Try.underlying29 (P + 1) (.slice Am k cm) k (tab (D) 0 k) (by rfl) OWN.out wl.heap.size (some ⟨wq.heap.size, 0, none⟩) 1 1 [z] (by rfl) hlit (by omega) (by omega) ?_
          intro v2 w2 own2 grow2 at2
          have hb2 : Below (P + 1) wl w2 := Below.grown (Below.refl _ _) grow2 (by omega) (fun g hg => (OWN.out.blk_lt g hg).1)
          clear hF hG at2 grow2 hlit
          clear a0 a1 a2 hla b0 b1 b2 hlb
          clear o0 o1 o2 z0 hlo
          have FA := Lib.hid (FA.out.upto hb2 (by omega)); have FB := Lib.hid (FB.out.upto hb2 (by omega)); have RB := Lib.hid (RB.out.below hb2 (by omega)); have BW := Lib.hid (BW.out.trans (hb2.mono (by omega))); have OB := Lib.hid (OB.out.below hb2 (by omega))
          obtain ⟨A9, c9, rfl, hc9, hI9, hf9⟩ := own2.ints
          rw [HZZ.out, tab_snoc] at own2
          have OWN := Lib.hid own2
          clear own2 hb2 hI9 hf9 hc9
          obtain ⟨a0, a1, a2, hla⟩ := FA.out.cells
          obtain ⟨b0, b1, b2, hlb⟩ := FB.out.cells
          obtain ⟨o0, o1, o2⟩ : _ ∧ _ ∧ _ := ⟨OB.out.cell 0, OB.out.cell 1, OB.out.cell 2⟩
          simp at o0 o1 o2
          have z0 := OB.out.frozen 0
          have hlo := OB.out.lt
          have hF := And.intro a0 (And.intro a1 (And.intro a2 (And.intro b0 (And.intro b1 b2))))
          refine hK.out _ _ ⟨(by exact hF), fun h => Bool.noConfusion (show true = false from h)⟩ (fun _ => ?_)
          clear hK K
          try simp only [Act.put]
          try simp only [List.setIfInBounds_toArray]
          try simp only [List.set_cons_succ]
          try simp only [List.set_cons_zero]
          refine wpAnyT_take (i := 9) (oi := _) (v := ?_) (by simp only [List.getElem?_toArray, List.getElem?_cons_succ, List.getElem?_cons_zero]; rfl) (by kernel_rfl) (by kernel_rfl) (by kernel_rfl) (by rfl) (by exact fun _ _ _ h => h) (Or.inl ⟨by rfl, ?_⟩) ⟨(by exact hF), fun h => Bool.noConfusion (show true = false from h)⟩ (fun _ => ?_)
          rotate_left 1
          · (intro w hSw; (try dsimp only at hSw); go_simp; try with_reducible rfl)
          all_goals try simp only [Act.put]
          all_goals try simp only [List.setIfInBounds_toArray]
          all_goals try simp only [List.set_cons_succ]
          all_goals try simp only [List.set_cons_zero]
          refine wpAnyT_ready (rs := [10]) (by kernel_rfl) (by simp) ?_
          refine (AllReadyT.cons (by simp only [List.getElem?_toArray, List.getElem?_cons_succ, List.getElem?_cons_zero]; rfl) (fun K hK => ?_) AllReadyT.nil)
          rw [if_pos (by rfl)]
          go_simp
          have own3 := OWN.out.far (p := ⟨P, 0, none⟩) (fun e => by have := (OWN.out.blk_lt _ e).1; simp at this; omega) (.slice A9 (k + 1) c9)
          have OWN := Lib.hid own3
          clear own3 hF
          clear a0 a1 a2 hla b0 b1 b2 hlb
          clear o0 o1 o2 z0 hlo
          have FA := Lib.hid (FA.out.set1 (g := P) (.inl (by omega)) 0 (Value.slice A9 (k + 1) c9)); have FB := Lib.hid (FB.out.set1 (g := P) (.inl (by omega)) 0 (Value.slice A9 (k + 1) c9)); have RB := Lib.hid (RB.out.far (p := ⟨P, 0, none⟩) (by simp; omega) (Value.slice A9 (k + 1) c9)); have BW := Lib.hid (BW.out.setCell (p := ⟨P, 0, none⟩) (by simp; omega) (Value.slice A9 (k + 1) c9)); have OB := Lib.hid (OB.out.set_ 0 (Value.slice A9 (k + 1) c9))
          generalize hws : w2.setCell ⟨P, 0, none⟩ (.slice A9 (k + 1) c9) = ws at *
          clear hws
          simp only [List.setIfInBounds_toArray, List.set_cons_zero] at OB
          obtain ⟨a0, a1, a2, hla⟩ := FA.out.cells
          obtain ⟨b0, b1, b2, hlb⟩ := FB.out.cells
          have hF := And.intro a0 (And.intro a1 (And.intro a2 (And.intro b0 (And.intro b1 b2))))
          refine hK.out _ _ ⟨(by exact hF), fun h => Bool.noConfusion (show true = false from h)⟩ (fun _ => ?_)
          clear hK K
          try simp only [Act.put]
          try simp only [List.setIfInBounds_toArray]
          try simp only [List.set_cons_succ]
          try simp only [List.set_cons_zero]
          refine wpAnyT_done (by kernel_rfl) ?_ _
          clear a0 a1 a2 hla b0 b1 b2 hlb
          go_wp2_with fail
          go_roundg (gk - 1)
          case measure => omega
          case rel => exact ⟨k + 1, A9, c9, by omega, by go_num, OB.out, OWN.out, FA.out, FB.out, RB.out, BW.out⟩
        · have hkN : k = n1 := by omega
          subst hkN
          clear hk hkg
          have TAB := Lib.hid (show ∀ t, Cv.at ⟨tab D 0 k, a.per, a.inc⟩ t = D t from fun t => by have := dc_tab HAO.out HBO.out HOC.out HB0.out HD.out NS.out t; rw [HL1.out] at this; exact this)
          have V := Lib.hid (fun t (ht : t ≤ 1000) => dc_val HAO.out HBO.out HOC.out HD.out ht)
          obtain ⟨A9, c9, e', hc9, hI9, hf9⟩ := OWN.out.ints
          injection e' with e1 e2 e3
          subst e1 e3
          have hlk : (tab D 0 k).length = k := tab_length _ _ _
          have PRE := Lib.hid (show Pre ⟨tab D 0 k, a.per, a.inc⟩ from ⟨hp1, by show a.per ≤ ((tab D 0 k).length : Nat); rw [hlk]; omega, hi1, by show a.inc ≤ 1099511627776; omega, by show (tab D 0 k).length ≤ 100000; rw [hlk]; omega, fun r => by
            show 0 ≤ nth (tab D 0 k) r ∧ nth (tab D 0 k) r ≤ 4611686018427387904
            by_cases hr : r < k
            · rw [tab_nth _ _ _ _ hr, Nat.zero_add]; exact V.out r (by omega)
            · rw [nth_out _ _ (by rw [hlk]; omega)]; omega⟩)
          have UP := Lib.hid (Up0.congr (dc_up0 HAO.out HBO.out HOC.out HB0.out HD.out) TAB.out)
          have HINF := Lib.hid (show ∀ m t, m < (tab D 0 k).length → nth (tab D 0 k) m = inf → m ≤ t → Cv.at ⟨tab D 0 k, a.per, a.inc⟩ t = inf from fun m t hm h hmt => by
            rw [hlk] at hm
            rw [tab_nth _ _ _ _ hm, Nat.zero_add] at h
            rw [TAB.out t]
            exact dc_later HAO.out HBO.out HOC.out HD.out (by omega) hmt h)
          have HI9 := Lib.hid hI9; have HC9 := Lib.hid hc9
          clear hI9 hf9 hc9 hlk
          go_wp2_with fail
          refine (refMade_any Am k cm a.per a.inc (tab D 0 k) _ HI9.out HC9.out PRE.out UP.out HINF.out).mono ?_
          rintro e wq ⟨r, er, A5, n5, c5, hS, hc5, rfl, hI5, hA5, hbq⟩
          have F := Lib.hid (show DcS ⟨xs, p, i⟩ ⟨ys, q, j⟩ r er from FIN.out r er (hS.congr TAB.out))
          have RB := Lib.hid (RB.out.below hbq RB.out.lt); have BW := Lib.hid (bthen BW.out hbq)
          have HI5 := Lib.hid hI5; have HA5 := Lib.hid hA5
          have hlw := hlo
          clear hS hI5 hA5 hbq
          clear o0 o1 o2 z0 hlo
          clear a0 a1 a2 hla b0 b1 b2 hlb
          obtain ⟨⟨r0, r1, r2⟩, ⟨y0, y1, y2⟩, hlr2⟩ := RB.out.c3
          go_wp2_with fail
          have rb := RB.out.store3 (.slice A5 n5 c5) (.int .i64 r.per) (.int .i64 r.inc)
          exact bodyPost_ret (v := .tuple #[.agg #[.slice A5 n5 c5, .int .i64 r.per, .int .i64 r.inc], .int .i64 er]) (by simp [results, Try.results29, go_sem, rb.cell]) rfl (retS2_store F.out hc5 HA5.out (by omega) (by omega) HI5.out BW.out)
end Go.Proofs.Ythgfmaijoigckaa
namespace Go.Proofs.Ythgfmaijoigckaa
open Go.RowKit
set_option linter.unusedVariables false

theorem prv_hits {f g r a b : Cv} (H : DcS f g r 0) (hna : NF f.at a) (hnb : NF g.at b) (hs : ¬ Steep a b) : r.Ok ∧ ∀ t, t ≤ 1000 → ∃ u, u < dcK a b ∧ gn a b t u = r.at t := by
  obtain ⟨hr, D, hD, _, hat, _⟩ := dcS_ok H
  refine ⟨hr, fun t ht => ?_⟩
  rcases H with ⟨H, _⟩ | ⟨hf, hg, h0, ⟨a', b', hna', hnb', hc⟩, _⟩
  · exfalso
    rcases H with ⟨_, h⟩ | ⟨_, _, _, h⟩ | ⟨_, _, _, h, _⟩ <;> cases h
  · obtain rfl := NF.unique hna hna'
    obtain rfl := NF.unique hnb hnb'
    obtain ⟨hao, _⟩ := nf_small hf hna
    obtain ⟨hbo, _⟩ := nf_small hg hnb
    obtain ⟨D', hD'⟩ := dc_exists hao hbo
    obtain rfl := hD.unique (hD'.nf hf hg hna hnb)
    rw [hat]
    exact gn_hit hao hbo (by unfold ordC; exact hc) hs (by rw [hnb.at]; exact h0) hD' ht
/-- numbers found so far -/
def SoFar (a b h : Cv) (cs : List Int) (k : Nat) : Prop := cs.length = k ∧ ∀ t, t < k → GoodA a b h t (nth cs t)
theorem SoFar.snoc {a b h : Cv} {cs : List Int} {k : Nat} {v : Int} (H : SoFar a b h cs k) (hv : GoodA a b h k v) : SoFar a b h (cs ++ [v]) (k + 1) := by
  refine ⟨by simp [H.1], fun t ht => ?_⟩
  rw [nth_append, H.1]
  split
  · exact H.2 t (by omega)
  · rw [show t = k by omega, Nat.sub_self]; exact hv
theorem SoFar.done {a b h : Cv} {cs : List Int} (H : SoFar a b h cs (dcExt a h)) : AtS a b h cs := ⟨H.1, fun t ht => H.2 t (by rw [H.1] at ht; exact ht)⟩
set_option maxHeartbeats 4000000 in
set_option maxRecDepth 100000 in
theorem refPrv_any (A B : Option Addr) (n m c d : Nat) (p i q j : Int) (xs ys : List Int) (w : World) (hA : Ints w w.heap.size A n xs) (hB : Ints w w.heap.size B m ys) (hn : (n : Int) ≤ 1000000) (hm : (m : Int) ≤ 1000000) (hnc : n ≤ c) (hmd : m ≤ d) :
    Calls Try.prog 31 #[.agg #[.slice A n c, .int .i64 p, .int .i64 i], .agg #[.slice B m d, .int .i64 q, .int .i64 j]] w (RetGn (ProveS ⟨xs, p, i⟩ ⟨ys, q, j⟩) w) := by
  have PP := Lib.hid ((PS.new (c := c) (p := p) (i := i) (d := d) (q := q) (j := j) hA hB).alloc (.cells #[.slice none 0 0, .int .i64 0, .int .i64 0, .slice none 0 0] 55))
  have rb := Blk.new ((w.alloc (.cells #[.slice A n c, .int .i64 p, .int .i64 i] 44)).alloc (.cells #[.slice B m d, .int .i64 q, .int .i64 j] 44)) 55 #[.slice none 0 0, .int .i64 0, .int .i64 0, .slice none 0 0]
  rw [World.size_alloc, World.size_alloc] at rb
  have RB := Lib.hid rb
  have HNC := Lib.hid hnc; have HMD := Lib.hid hmd
  clear hA hB rb hnc hmd
  go_enter Try.func31, Try.ntmps31
  go_wp2_with fail
  refine (refDc_any A B n m c d p i q j xs ys _ PP.out.ia PP.out.ib hn hm HNC.out HMD.out).mono ?_
  rintro e w1 ⟨r, er, A5, n5, c5, hS, hc5, rfl, hI, hAA, hb⟩
  simp only [World.size_alloc] at hAA
  have HS := Lib.hid hS; have HC5 := Lib.hid hc5
  have hs1 : w.heap.size + 1 + 1 < w1.heap.size := by have := hb.size; simp only [World.size_alloc] at this; omega
  have HB := Lib.hid (By.new (L := w.heap.size + 1 + 1 + 1) (c := c5) hI hAA (Nat.le_refl _) (by omega))
  have PP := Lib.hid ((PP.out.below hb).alloc (.cells #[.slice A5 n5 c5, .int .i64 r.per, .int .i64 r.inc] 44))
  have RB := Lib.hid ((RB.out.below hb RB.out.lt).alloc (.cells #[.slice A5 n5 c5, .int .i64 r.per, .int .i64 r.inc] 44))
  clear hS hc5 hI hAA hb
  go_upto_region 2 with fail
  generalize hwe : w1.alloc (.cells #[.slice A5 n5 c5, .int .i64 r.per, .int .i64 r.inc] 44) = w2 at *
  clear hwe
  generalize hHe : w1.heap.size = H at *
  clear hHe
  have BW := Lib.hid PP.out.bw
  by_cases her : er = 0
  case neg =>
    have hne : (er != 0) = true := by simpa using her
    have FIN := Lib.hid (show ProveS ⟨xs, p, i⟩ ⟨ys, q, j⟩ Cv.none [] er from ⟨by
      rcases HS.out with ⟨h1, h2⟩ | ⟨h1, h2, h3, h4, D, h5, g, h6, h7⟩
      · exact .inl ⟨h1, rfl⟩
      · rcases h7 with ⟨_, _, h7⟩ | ⟨h7, h8, h9⟩
        · exact absurd h7 her
        · exact .inr ⟨h1, h2, h3, h4, D, h5, g, h6, .inr ⟨h7, rfl, h9⟩⟩, .inl ⟨her, rfl⟩⟩)
    clear her HS
    -- the result none 0 0 (the list's slice), the error er; (⟨Cv.none, [], er, FIN.out, none, 0, 0, none, 0, 0, Nat.le_refl 0, Nat.le_refl 0, rfl, Ints.none_, Ints.none_, (fun b off s h => by cases h), (fun b off s h => by cases h), below_store4 BW.out (by omega) _ _ _ _⟩): its list
    obtain ⟨⟨r0, r1, r2, r3⟩, ⟨y0, y1, y2, y3⟩, hlr⟩ := RB.out.c4
    go_wp2_with fail
    have rb := RB.out.store4 (.slice none 0 0) (.int .i64 0) (.int .i64 0) (.slice none 0 0)
    exact bodyPost_ret (v := .tuple #[.agg #[.slice none 0 0, .int .i64 0, .int .i64 0, .slice none 0 0], .int .i64 er]) (by simp [results, Try.results31, go_sem, rb.cell]) rfl (⟨Cv.none, [], er, FIN.out, none, 0, 0, none, 0, 0, Nat.le_refl 0, Nat.le_refl 0, rfl, Ints.none_, Ints.none_, (fun b off s h => by cases h), (fun b off s h => by cases h), below_store4 BW.out (by omega) _ _ _ _⟩)
  case pos =>
    subst her
    obtain ⟨f0, f1, f2, g0, g1, g2, hlf, hlg⟩ := PP.out.cells
    go_wp2_with fail
    refine (pair8_any A B n m c d p i q j xs ys _ PP.out.ia PP.out.ib hn hm HNC.out HMD.out).mono ?_
    rintro e w3 ⟨a, b, l, er, A1, n1, c1, A2, n2, c2, hR, rfl, hI1, hI2, hA1, hA2, hb⟩
    have HR := Lib.hid hR
    have hs3 := hb.size
    have hHl := HB.out.lt
    have RB := Lib.hid (((RB.out.below hb RB.out.lt).alloc (.cells #[.slice A1 n1 c1, .int .i64 a.per, .int .i64 a.inc] 44)).alloc (.cells #[.slice A2 n2 c2, .int .i64 b.per, .int .i64 b.inc] 44))
    have HB := Lib.hid (((HB.out.below hb).alloc (.cells #[.slice A1 n1 c1, .int .i64 a.per, .int .i64 a.inc] 44)).alloc (.cells #[.slice A2 n2 c2, .int .i64 b.per, .int .i64 b.inc] 44))
    have BW := Lib.hid (bthen (bthen (bthen BW.out hb) (balloc _ (.cells #[.slice A1 n1 c1, .int .i64 a.per, .int .i64 a.inc] 44))) (balloc _ (.cells #[.slice A2 n2 c2, .int .i64 b.per, .int .i64 b.inc] 44)))
    have FA := Lib.hid ((By.new (L := w.heap.size + 1 + 1 + 1) (c := c1) hI1 hA1 (by omega) (by omega)).alloc (.cells #[.slice A2 n2 c2, .int .i64 b.per, .int .i64 b.inc] 44))
    have fb := By.new (L := w.heap.size + 1 + 1 + 1) (f := b) (c := c2) (hI2.alloc' (.cells #[.slice A1 n1 c1, .int .i64 a.per, .int .i64 a.inc] 44)) hA2 (by omega) (by simp only [World.size_alloc]; omega)
    simp only [World.size_alloc] at fb
    have FB := Lib.hid fb
    clear hR hI1 hI2 hA1 hA2 hb fb PP f0 f1 f2 g0 g1 g2 hlf hlg
    go_upto_region 5 with fail
    generalize hwz : (w3.alloc (.cells #[.slice A1 n1 c1, .int .i64 a.per, .int .i64 a.inc] 44)).alloc (.cells #[.slice A2 n2 c2, .int .i64 b.per, .int .i64 b.inc] 44) = w4 at *
    clear hwz
    obtain ⟨hf, hg, hg0, hna, hnb, hao, hbo, hcc, hle, _⟩ : Cv.Ok ⟨xs, p, i⟩ ∧ Cv.Ok ⟨ys, q, j⟩ ∧ Cv.at ⟨ys, q, j⟩ 0 = 0 ∧ NF (Cv.at ⟨xs, p, i⟩) a ∧ NF (Cv.at ⟨ys, q, j⟩) b ∧ a.Ok ∧ b.Ok ∧ comm a.per.toNat b.per.toNat ≤ 120 ∧ l = (comm a.per.toNat b.per.toNat : Nat) ∧ er = 0 := by
      rcases HR.out with hbad | h
      · exfalso
        rcases HS.out with ⟨h1, _⟩ | ⟨h1, h2, h3, h4, _⟩
        · rcases h1 with ⟨_, h⟩ | ⟨_, _, _, h⟩ | ⟨_, _, _, h, _⟩ <;> cases h
        · exact hbad.not h1 h2 h3 h4
      · exact h
    have hp1 := hao.p1; have hp2 := hao.p2; have hq1 := hbo.p1; have hq2 := hbo.p2; have hi1 := hao.i1; have hi2 := hao.i2; have hj1 := hbo.i1; have hj2 := hbo.i2
    have hna1 := hao.n1; have hna2 := hao.n2; have hnb2 := hbo.n2; have hpn := hao.pn; have hqn := hbo.pn
    have hl1 : a.vals.length = n1 := FA.out.ints.1
    have hl2 : b.vals.length = n2 := FB.out.ints.1
    rw [hl1] at hna1 hna2 hpn
    rw [hl2] at hnb2 hqn
    obtain ⟨C, hC⟩ : ∃ C, C = comm a.per.toNat b.per.toNat := ⟨_, rfl⟩
    rw [← hC] at hle hcc
    obtain rfl := hle
    have HAO := Lib.hid hao; have HBO := Lib.hid hbo; have HC := Lib.hid hC; have HL1 := Lib.hid hl1; have HL2 := Lib.hid hl2; have HNA := Lib.hid hna; have HNB := Lib.hid hnb
    obtain ⟨z, hz⟩ : ∃ z, z = steepB a b := ⟨_, rfl⟩
    have HZ := Lib.hid (show z = true ↔ Steep a b from by rw [hz]; exact steepB_iff hao hbo)
    have HZZ := Lib.hid hz
    clear HR hf hg hg0 hna hnb hao hbo hC hl1 hl2 hz
    obtain ⟨a0, a1, a2, hla⟩ := FA.out.cells
    obtain ⟨b0, b1, b2, hlb⟩ := FB.out.cells
    obtain ⟨h0, h1, h2, hlh⟩ := HB.out.cells
    go_upto_region 6 with fail
    have OB := Lib.hid (Blk.new w4 55 #[.slice A5 n5 c5, .int .i64 r.per, .int .i64 r.inc, .slice none 0 0])
    have hP : w3.heap.size + 1 < w4.heap.size := FB.out.lt
    have hbq := balloc w4 (.cells #[.slice A5 n5 c5, .int .i64 r.per, .int .i64 r.inc, .slice none 0 0] 55)
    have FA := Lib.hid (FA.out.below hbq); have FB := Lib.hid (FB.out.below hbq); have HB := Lib.hid (HB.out.below hbq); have RB := Lib.hid (RB.out.below hbq RB.out.lt); have BW := Lib.hid (bthen BW.out hbq)
    clear hbq
    clear a0 a1 a2 hla b0 b1 b2 hlb h0 h1 h2 hlh
    generalize hwo : w4.alloc (.cells #[.slice A5 n5 c5, .int .i64 r.per, .int .i64 r.inc, .slice none 0 0] 55) = wo at *
    clear hwo
    generalize hPe : w4.heap.size = P at *
    clear hPe
    obtain ⟨a0, a1, a2, hla⟩ := FA.out.cells
    obtain ⟨b0, b1, b2, hlb⟩ := FB.out.cells
    obtain ⟨h0, h1, h2, hlh⟩ := HB.out.cells
    go_wp2_with fail
    refine (steep8_any A1 A2 n1 n2 c1 c2 a b C _ (by exact FA.out.ints) (by exact FB.out.ints) HAO.out HBO.out HC.out hcc).mono ?_
    rw [← HZZ.out]
    rintro e w5 ⟨rfl, hbq⟩
    try (have OWN := Lib.hid (OWN.out.below hbq (fun g hg => (OWN.out.blk_lt g hg).2)))
    try (have OB := Lib.hid (OB.out.below hbq OB.out.lt))
    have FA := Lib.hid (FA.out.below hbq); have FB := Lib.hid (FB.out.below hbq); have HB := Lib.hid (HB.out.below hbq); have RB := Lib.hid (RB.out.below hbq RB.out.lt); have BW := Lib.hid (bthen BW.out hbq)
    clear hbq
    try clear hHeld
    clear a0 a1 a2 hla b0 b1 b2 hlb h0 h1 h2 hlh
    obtain ⟨a0, a1, a2, hla⟩ := FA.out.cells
    obtain ⟨b0, b1, b2, hlb⟩ := FB.out.cells
    obtain ⟨h0, h1, h2, hlh⟩ := HB.out.cells
    cases z
    case true =>
      have FIN := Lib.hid (show ProveS ⟨xs, p, i⟩ ⟨ys, q, j⟩ r [] 0 from ⟨HS.out, .inr ⟨rfl, a, b, HNA.out, HNB.out, .inl ⟨HZ.out.1 (by first | rfl | trivial), rfl⟩⟩⟩)
      obtain ⟨⟨o0, o1, o2, o3⟩, _, hlo⟩ := OB.out.c4
      have hlo' : ∀ b off s, A5 = some ⟨b, off, s⟩ → w.heap.size + 1 + 1 + 1 ≤ b := HB.out.lo
      -- the result none 0 0 (the list's slice), the error 0; (⟨r, [], 0, FIN.out, A5, n5, c5, none, 0, 0, HC5.out, Nat.le_refl 0, rfl, HB.out.ints.store4 hlo' (by omega), Ints.none_, (fun b off s e => by have := hlo' b off s e; omega), (fun b off s h => by cases h), below_store4 BW.out (by omega) _ _ _ _⟩): its list
      obtain ⟨⟨r0, r1, r2, r3⟩, ⟨y0, y1, y2, y3⟩, hlr⟩ := RB.out.c4
      go_wp2_with fail
      have rb := RB.out.store4 (.slice A5 n5 c5) (.int .i64 r.per) (.int .i64 r.inc) (.slice none 0 0)
      exact bodyPost_ret (v := .tuple #[.agg #[.slice A5 n5 c5, .int .i64 r.per, .int .i64 r.inc, .slice none 0 0], .int .i64 0]) (by simp [results, Try.results31, go_sem, rb.cell]) rfl (⟨r, [], 0, FIN.out, A5, n5, c5, none, 0, 0, HC5.out, Nat.le_refl 0, rfl, HB.out.ints.store4 hlo' (by omega), Ints.none_, (fun b off s e => by have := hlo' b off s e; omega), (fun b off s h => by cases h), below_store4 BW.out (by omega) _ _ _ _⟩)
    case false =>
      have NS := Lib.hid (show ¬ Steep a b from fun h => by have := HZ.out.2 h; cases this)
      obtain ⟨hro, hhits⟩ := prv_hits HS.out HNA.out HNB.out NS.out
      have HRO := Lib.hid hro; have HITS := Lib.hid hhits
      have f1' := hro.n1; have f2' := hro.n2; have f3' := hro.p1; have f4' := hro.p2; have f5' := hro.pn; have f6' := hro.i1; have f7' := hro.i2
      rw [HB.out.ints.1] at f1' f2' f5'
      have hK := dcK_le HAO.out HBO.out (by unfold ordC; rw [← HC.out]; exact hcc)
      obtain ⟨X, hX⟩ : ∃ X, X = dcExt a r := ⟨_, rfl⟩
      obtain ⟨S, hSS⟩ : ∃ S : Nat, S = max (a.vals.length - a.per.toNat) (r.vals.length - r.per.toNat) := ⟨_, rfl⟩
      have hSX : (X : Int) = (S : Int) + a.per := by rw [hX, hSS]; unfold dcExt; omega
      have hS2 : S ≤ 400 := by rw [hSS, HL1.out, HB.out.ints.1]; omega
      have hmx : (if (n1 : Int) - a.per < (n5 : Int) - r.per then (n5 : Int) - r.per else (n1 : Int) - a.per) = (S : Int) := by
        rw [hSS, HL1.out, HB.out.ints.1]; split <;> omega
      have e1 : IntKind.i64.wrap ((S : Int) + a.per) = (X : Int) := by rw [IntWalk.i64_in _ (by omega)]; omega
      have e2 : (S : Int) + a.per = (X : Int) := by omega
      have e3 : IntKind.i64.wrap (X : Int) = (X : Int) := IntWalk.i64_in _ (by omega)
      have hX5 : X ≤ 520 := by omega
      have HXX := Lib.hid hX
      clear hX hSS hSX hro hhits
      go_wp2_with fail
      clear a0 a1 a2 hla b0 b1 b2 hlb h0 h1 h2 hlh
      go_loopg [13, 14] X (fun gg s13 s14 wx => ∃ (k : Nat) (Am : Option Addr) (cm : Nat) (cs : List Int), k + gg = X ∧ s13 = .int .i64 k ∧ Blk wx P 55 #[.slice A5 n5 c5, .int .i64 r.per, .int .i64 r.inc, .slice Am k cm] ∧ Own wx (P + 1) (.slice Am k cm) k cs ∧ SoFar a b r cs k ∧ By (w.heap.size + 1 + 1 + 1) wx w3.heap.size A1 n1 c1 a ∧ By (w.heap.size + 1 + 1 + 1) wx (w3.heap.size + 1) A2 n2 c2 b ∧ By (w.heap.size + 1 + 1 + 1) wx H A5 n5 c5 r ∧ Blk wx (w.heap.size + 1 + 1) 55 #[.slice none 0 0, .int .i64 0, .int .i64 0, .slice none 0 0] ∧ Below w.heap.size w wx)
      case atStart => exact ⟨0, none, 0, [], by omega, rfl, OB.out, Own.nil_ _ _, ⟨rfl, fun t ht => by omega⟩, FA.out, FB.out, HB.out, RB.out, BW.out⟩
      case round =>
        clear OB FA FB HB RB BW
        obtain ⟨k, Am, cm, cs, hkg, rfl, ob, own, sf, fa, fb, hb', rb, bw⟩ := hrel
        have OB := Lib.hid ob; have OWN := Lib.hid own; have SF := Lib.hid sf; have FA := Lib.hid fa; have FB := Lib.hid fb; have HB := Lib.hid hb'; have RB := Lib.hid rb; have BW := Lib.hid bw
        clear ob own sf fa fb hb' rb bw
        obtain ⟨go, hgo⟩ : ∃ go : Nat, go = gk := ⟨_, rfl⟩
        subst hgo
        go_upto_region 9 with fail
        have FA := Lib.hid FA.out.drew; have FB := Lib.hid FB.out.drew; have HB := Lib.hid HB.out.drew; have RB := Lib.hid (Blk.drew RB.out); have BW := Lib.hid (Below.drew BW.out); have OB := Lib.hid (Blk.drew OB.out); have OWN := Lib.hid OWN.out.drew
        obtain ⟨a0, a1, a2, hla⟩ := FA.out.cells
        obtain ⟨b0, b1, b2, hlb⟩ := FB.out.cells
        obtain ⟨h0, h1, h2, hlh⟩ := HB.out.cells
        refine wp_region_held_drew (S := fun w' => w'.cell? ⟨w3.heap.size, 0, none⟩ = some (.slice A1 n1 c1) ∧ w'.cell? ⟨w3.heap.size, 1, none⟩ = some (.int .i64 a.per) ∧ w'.cell? ⟨w3.heap.size, 2, none⟩ = some (.int .i64 a.inc) ∧ w'.cell? ⟨w3.heap.size + 1, 0, none⟩ = some (.slice A2 n2 c2) ∧ w'.cell? ⟨w3.heap.size + 1, 1, none⟩ = some (.int .i64 b.per) ∧ w'.cell? ⟨w3.heap.size + 1, 2, none⟩ = some (.int .i64 b.inc) ∧ w'.cell? ⟨H, 0, none⟩ = some (.slice A5 n5 c5) ∧ w'.cell? ⟨H, 1, none⟩ = some (.int .i64 r.per) ∧ w'.cell? ⟨H, 2, none⟩ = some (.int .i64 r.inc)) (by kernel_rfl) (by exact ⟨a0, a1, a2, b0, b1, b2, h0, h1, h2⟩) (fun hHeld => ?_)
        clear a0 a1 a2 hla b0 b1 b2 hlb h0 h1 h2 hlh
        generalize hwd : wr.drew = wd at *
        clear hwd
        obtain ⟨a0, a1, a2, hla⟩ := FA.out.cells
        obtain ⟨b0, b1, b2, hlb⟩ := FB.out.cells
        obtain ⟨h0, h1, h2, hlh⟩ := HB.out.cells
        refine wpAnyH_take (i := 0) (oi := _) (v := ?_) (by simp only [List.getElem?_toArray, List.getElem?_cons_zero]; rfl) (by kernel_rfl) (by kernel_rfl) (by kernel_rfl) (by exact fun _ _ _ h => h) (Or.inl ⟨by rfl, ?_⟩) (by assumption) ?_
        rotate_left 1
        · (intro w hSw; (try dsimp only at hSw); go_simp; try with_reducible rfl)
        all_goals try simp only [Act.put]
        all_goals try simp only [List.setIfInBounds_toArray]
        all_goals try simp only [List.set_cons_succ]
        all_goals try simp only [List.set_cons_zero]
        refine wpAnyH_take (i := 1) (oi := _) (v := ?_) (by simp only [List.getElem?_toArray, List.getElem?_cons_succ, List.getElem?_cons_zero]; rfl) (by kernel_rfl) (by kernel_rfl) (by kernel_rfl) (by exact fun _ _ _ h => h) (Or.inl ⟨by rfl, ?_⟩) (by assumption) ?_
        rotate_left 1
        · (intro w hSw; (try dsimp only at hSw); go_simp; try with_reducible rfl)
        all_goals try simp only [Act.put]
        all_goals try simp only [List.setIfInBounds_toArray]
        all_goals try simp only [List.set_cons_succ]
        all_goals try simp only [List.set_cons_zero]
        refine wpAnyH_take (i := 3) (oi := _) (v := ?_) (by simp only [List.getElem?_toArray, List.getElem?_cons_succ, List.getElem?_cons_zero]; rfl) (by kernel_rfl) (by kernel_rfl) (by kernel_rfl) (by exact fun _ _ _ h => h) (Or.inl ⟨by rfl, ?_⟩) (by assumption) ?_
        rotate_left 1
        · (intro w hSw; (try dsimp only at hSw); go_simp; try with_reducible rfl)
        all_goals try simp only [Act.put]
        all_goals try simp only [List.setIfInBounds_toArray]
        all_goals try simp only [List.set_cons_succ]
        all_goals try simp only [List.set_cons_zero]
        refine wpAnyH_take (i := 6) (oi := _) (v := ?_) (by simp only [List.getElem?_toArray, List.getElem?_cons_succ, List.getElem?_cons_zero]; rfl) (by kernel_rfl) (by kernel_rfl) (by kernel_rfl) (by exact fun _ _ _ h => h) (Or.inl ⟨by rfl, ?_⟩) (by assumption) ?_
        rotate_left 1
        · (intro w hSw; (try dsimp only at hSw); go_simp; try with_reducible rfl)
        all_goals try simp only [Act.put]
        all_goals try simp only [List.setIfInBounds_toArray]
        all_goals try simp only [List.set_cons_succ]
        all_goals try simp only [List.set_cons_zero]
        refine wpAnyH_take (i := 7) (oi := _) (v := ?_) (by simp only [List.getElem?_toArray, List.getElem?_cons_succ, List.getElem?_cons_zero]; rfl) (by kernel_rfl) (by kernel_rfl) (by kernel_rfl) (by exact fun _ _ _ h => h) (Or.inl ⟨by rfl, ?_⟩) (by assumption) ?_
        rotate_left 1
        · (intro w hSw; (try dsimp only at hSw); go_simp; try with_reducible rfl)
        all_goals try simp only [Act.put]
        all_goals try simp only [List.setIfInBounds_toArray]
        all_goals try simp only [List.set_cons_succ]
        all_goals try simp only [List.set_cons_zero]
        refine wpAnyH_ready (rs := [2]) (by kernel_rfl) (by simp) ?_
        refine (AllReadyH.cons (by simp only [List.getElem?_toArray, List.getElem?_cons_succ, List.getElem?_cons_zero]; rfl) (fun K hK => ?_) AllReadyH.nil)
        rw [if_pos (by rfl)]
        go_simp
        refine (start8_any A1 n1 c1 a.per a.inc _ (by omega) (by omega) (by omega)).mono ?_
        rintro e wa ⟨rfl, hbq⟩
        try (have OWN := Lib.hid (OWN.out.below hbq (fun g hg => (OWN.out.blk_lt g hg).2)))
        try (have OB := Lib.hid (OB.out.below hbq OB.out.lt))
        have FA := Lib.hid (FA.out.below hbq); have FB := Lib.hid (FB.out.below hbq); have HB := Lib.hid (HB.out.below hbq); have RB := Lib.hid (RB.out.below hbq RB.out.lt); have BW := Lib.hid (bthen BW.out hbq)
        clear hbq
        try clear hHeld
        clear a0 a1 a2 hla b0 b1 b2 hlb h0 h1 h2 hlh
        obtain ⟨a0, a1, a2, hla⟩ := FA.out.cells
        obtain ⟨b0, b1, b2, hlb⟩ := FB.out.cells
        obtain ⟨h0, h1, h2, hlh⟩ := HB.out.cells
        refine hK.out _ _ (by exact ⟨a0, a1, a2, b0, b1, b2, h0, h1, h2⟩) (fun hHeld => ?_)
        clear hK K
        try simp only [Act.put]
        try simp only [List.setIfInBounds_toArray]
        try simp only [List.set_cons_succ]
        try simp only [List.set_cons_zero]
        refine wpAnyH_ready (rs := [4]) (by kernel_rfl) (by simp) ?_
        refine (AllReadyH.cons (by simp only [List.getElem?_toArray, List.getElem?_cons_succ, List.getElem?_cons_zero]; rfl) (fun K hK => ?_) AllReadyH.nil)
        rw [if_pos (by rfl)]
        go_simp
        refine (start8_any A5 n5 c5 r.per r.inc _ (by omega) (by omega) (by omega)).mono ?_
        rintro e wb ⟨rfl, hbq⟩
        try (have OWN := Lib.hid (OWN.out.below hbq (fun g hg => (OWN.out.blk_lt g hg).2)))
        try (have OB := Lib.hid (OB.out.below hbq OB.out.lt))
        have FA := Lib.hid (FA.out.below hbq); have FB := Lib.hid (FB.out.below hbq); have HB := Lib.hid (HB.out.below hbq); have RB := Lib.hid (RB.out.below hbq RB.out.lt); have BW := Lib.hid (bthen BW.out hbq)
        clear hbq
        try clear hHeld
        clear a0 a1 a2 hla b0 b1 b2 hlb h0 h1 h2 hlh
        obtain ⟨a0, a1, a2, hla⟩ := FA.out.cells
        obtain ⟨b0, b1, b2, hlb⟩ := FB.out.cells
        obtain ⟨h0, h1, h2, hlh⟩ := HB.out.cells
        refine hK.out _ _ (by exact ⟨a0, a1, a2, b0, b1, b2, h0, h1, h2⟩) (fun hHeld => ?_)
        clear hK K
        try simp only [Act.put]
        try simp only [List.setIfInBounds_toArray]
        try simp only [List.set_cons_succ]
        try simp only [List.set_cons_zero]
        refine wpAnyH_ready (rs := [5]) (by kernel_rfl) (by simp) ?_
        refine (AllReadyH.cons (by simp only [List.getElem?_toArray, List.getElem?_cons_succ, List.getElem?_cons_zero]; rfl) (fun K hK => ?_) AllReadyH.nil)
        rw [if_pos (by rfl)]
        go_simp
        refine hK.out _ _ (by exact ⟨a0, a1, a2, b0, b1, b2, h0, h1, h2⟩) (fun hHeld => ?_)
        clear hK K
        try simp only [Act.put]
        try simp only [List.setIfInBounds_toArray]
        try simp only [List.set_cons_succ]
        try simp only [List.set_cons_zero]
        refine wpAnyH_take (i := 8) (oi := _) (v := ?_) (by simp only [List.getElem?_toArray, List.getElem?_cons_succ, List.getElem?_cons_zero]; rfl) (by kernel_rfl) (by kernel_rfl) (by kernel_rfl) (by exact fun _ _ _ h => h) (Or.inl ⟨by rfl, ?_⟩) (by assumption) ?_
        rotate_left 1
        · (intro w hSw; (try dsimp only at hSw); go_simp; try with_reducible rfl)
        all_goals try simp only [Act.put]
        all_goals try simp only [List.setIfInBounds_toArray]
        all_goals try simp only [List.set_cons_succ]
        all_goals try simp only [List.set_cons_zero]
        by_cases hk : k < X
        case pos =>
          have hki : (k : Int) < X := by omega
          refine wpAnyH_take (i := 9) (oi := _) (v := ?_) (by simp only [List.getElem?_toArray, List.getElem?_cons_succ, List.getElem?_cons_zero]; rfl) (by kernel_rfl) (by kernel_rfl) (by kernel_rfl) (by exact fun _ _ _ h => h) (Or.inl ⟨by rfl, ?_⟩) (by assumption) ?_
          rotate_left 1
          · (intro w hSw; (try dsimp only at hSw); go_simp; try with_reducible rfl)
          all_goals try simp only [Act.put]
          all_goals try simp only [List.setIfInBounds_toArray]
          all_goals try simp only [List.set_cons_succ]
          all_goals try simp only [List.set_cons_zero]
          refine wpAnyH_done (by kernel_rfl) ?_ _
          clear hHeld
          obtain ⟨U, hU1, hU2, hU3⟩ := hit_least (HITS.out k (by omega))
          have HU2 := Lib.hid hU2; have HU3 := Lib.hid hU3
          clear hU2 hU3
          clear a0 a1 a2 hla b0 b1 b2 hlb h0 h1 h2 hlh
          go_wp2_with fail
          go_loopg [14] U (fun gg s14 wx => ∃ u : Nat, u + gg = U ∧ s14 = .int .i64 u ∧ Blk wx P 55 #[.slice A5 n5 c5, .int .i64 r.per, .int .i64 r.inc, .slice Am k cm] ∧ Own wx (P + 1) (.slice Am k cm) k cs ∧ SoFar a b r cs k ∧ By (w.heap.size + 1 + 1 + 1) wx w3.heap.size A1 n1 c1 a ∧ By (w.heap.size + 1 + 1 + 1) wx (w3.heap.size + 1) A2 n2 c2 b ∧ By (w.heap.size + 1 + 1 + 1) wx H A5 n5 c5 r ∧ Blk wx (w.heap.size + 1 + 1) 55 #[.slice none 0 0, .int .i64 0, .int .i64 0, .slice none 0 0] ∧ Below w.heap.size w wx)
          case atStart => exact ⟨0, by omega, rfl, OB.out, OWN.out, SF.out, FA.out, FB.out, HB.out, RB.out, BW.out⟩
          case round =>
            clear OB OWN SF FA FB HB RB BW
            obtain ⟨u, hug, rfl, ob, own, sf, fa, fb, hb', rb, bw⟩ := hrel
            have OB := Lib.hid ob; have OWN := Lib.hid own; have SF := Lib.hid sf; have FA := Lib.hid fa; have FB := Lib.hid fb; have HB := Lib.hid hb'; have RB := Lib.hid rb; have BW := Lib.hid bw
            clear ob own sf fa fb hb' rb bw
            obtain ⟨x, hx⟩ : ∃ x, x = gn a b k u := ⟨_, rfl⟩
            obtain ⟨y, hy⟩ : ∃ y, y = r.at k := ⟨_, rfl⟩
            have HX := Lib.hid hx; have HY := Lib.hid hy
            clear hx hy
            go_upto_region 12 with fail
            have FA := Lib.hid FA.out.drew; have FB := Lib.hid FB.out.drew; have HB := Lib.hid HB.out.drew; have RB := Lib.hid (Blk.drew RB.out); have BW := Lib.hid (Below.drew BW.out); have OB := Lib.hid (Blk.drew OB.out); have OWN := Lib.hid OWN.out.drew
            obtain ⟨a0, a1, a2, hla⟩ := FA.out.cells
            obtain ⟨b0, b1, b2, hlb⟩ := FB.out.cells
            obtain ⟨h0, h1, h2, hlh⟩ := HB.out.cells
            refine wp_region_held_drew (S := fun w' => w'.cell? ⟨w3.heap.size, 0, none⟩ = some (.slice A1 n1 c1) ∧ w'.cell? ⟨w3.heap.size, 1, none⟩ = some (.int .i64 a.per) ∧ w'.cell? ⟨w3.heap.size, 2, none⟩ = some (.int .i64 a.inc) ∧ w'.cell? ⟨w3.heap.size + 1, 0, none⟩ = some (.slice A2 n2 c2) ∧ w'.cell? ⟨w3.heap.size + 1, 1, none⟩ = some (.int .i64 b.per) ∧ w'.cell? ⟨w3.heap.size + 1, 2, none⟩ = some (.int .i64 b.inc) ∧ w'.cell? ⟨H, 0, none⟩ = some (.slice A5 n5 c5) ∧ w'.cell? ⟨H, 1, none⟩ = some (.int .i64 r.per) ∧ w'.cell? ⟨H, 2, none⟩ = some (.int .i64 r.inc)) (by kernel_rfl) (by exact ⟨a0, a1, a2, b0, b1, b2, h0, h1, h2⟩) (fun hHeld => ?_)
            clear a0 a1 a2 hla b0 b1 b2 hlb h0 h1 h2 hlh
            generalize hwd : wr.drew = wd at *
            clear hwd
            obtain ⟨a0, a1, a2, hla⟩ := FA.out.cells
            obtain ⟨b0, b1, b2, hlb⟩ := FB.out.cells
            obtain ⟨h0, h1, h2, hlh⟩ := HB.out.cells
            refine wpAnyH_take (i := 0) (oi := _) (v := ?_) (by simp only [List.getElem?_toArray, List.getElem?_cons_zero]; rfl) (by kernel_rfl) (by kernel_rfl) (by kernel_rfl) (by exact fun _ _ _ h => h) (Or.inl ⟨by rfl, ?_⟩) (by assumption) ?_
            rotate_left 1
            · (intro w hSw; (try dsimp only at hSw); go_simp; try with_reducible rfl)
            all_goals try simp only [Act.put]
            all_goals try simp only [List.setIfInBounds_toArray]
            all_goals try simp only [List.set_cons_succ]
            all_goals try simp only [List.set_cons_zero]
            refine wpAnyH_take (i := 1) (oi := _) (v := ?_) (by simp only [List.getElem?_toArray, List.getElem?_cons_succ, List.getElem?_cons_zero]; rfl) (by kernel_rfl) (by kernel_rfl) (by kernel_rfl) (by exact fun _ _ _ h => h) (Or.inl ⟨by rfl, ?_⟩) (by assumption) ?_
            rotate_left 1
            · (intro w hSw; (try dsimp only at hSw); go_simp; try with_reducible rfl)
            all_goals try simp only [Act.put]
            all_goals try simp only [List.setIfInBounds_toArray]
            all_goals try simp only [List.set_cons_succ]
            all_goals try simp only [List.set_cons_zero]
            refine wpAnyH_take (i := 2) (oi := _) (v := ?_) (by simp only [List.getElem?_toArray, List.getElem?_cons_succ, List.getElem?_cons_zero]; rfl) (by kernel_rfl) (by kernel_rfl) (by kernel_rfl) (by exact fun _ _ _ h => h) (Or.inl ⟨by rfl, ?_⟩) (by assumption) ?_
            rotate_left 1
            · (intro w hSw; (try dsimp only at hSw); go_simp; try with_reducible rfl)
            all_goals try simp only [Act.put]
            all_goals try simp only [List.setIfInBounds_toArray]
            all_goals try simp only [List.set_cons_succ]
            all_goals try simp only [List.set_cons_zero]
            refine wpAnyH_take (i := 3) (oi := _) (v := ?_) (by simp only [List.getElem?_toArray, List.getElem?_cons_succ, List.getElem?_cons_zero]; rfl) (by kernel_rfl) (by kernel_rfl) (by kernel_rfl) (by exact fun _ _ _ h => h) (Or.inl ⟨by rfl, ?_⟩) (by assumption) ?_
            rotate_left 1
            · (intro w hSw; (try dsimp only at hSw); go_simp; try with_reducible rfl)
            all_goals try simp only [Act.put]
            all_goals try simp only [List.setIfInBounds_toArray]
            all_goals try simp only [List.set_cons_succ]
            all_goals try simp only [List.set_cons_zero]
            refine wpAnyH_take (i := 5) (oi := _) (v := ?_) (by simp only [List.getElem?_toArray, List.getElem?_cons_succ, List.getElem?_cons_zero]; rfl) (by kernel_rfl) (by kernel_rfl) (by kernel_rfl) (by exact fun _ _ _ h => h) (Or.inl ⟨by rfl, ?_⟩) (by assumption) ?_
            rotate_left 1
            · (intro w hSw; (try dsimp only at hSw); go_simp; try with_reducible rfl)
            all_goals try simp only [Act.put]
            all_goals try simp only [List.setIfInBounds_toArray]
            all_goals try simp only [List.set_cons_succ]
            all_goals try simp only [List.set_cons_zero]
            refine wpAnyH_take (i := 6) (oi := _) (v := ?_) (by simp only [List.getElem?_toArray, List.getElem?_cons_succ, List.getElem?_cons_zero]; rfl) (by kernel_rfl) (by kernel_rfl) (by kernel_rfl) (by exact fun _ _ _ h => h) (Or.inl ⟨by rfl, ?_⟩) (by assumption) ?_
            rotate_left 1
            · (intro w hSw; (try dsimp only at hSw); go_simp; try with_reducible rfl)
            all_goals try simp only [Act.put]
            all_goals try simp only [List.setIfInBounds_toArray]
            all_goals try simp only [List.set_cons_succ]
            all_goals try simp only [List.set_cons_zero]
            refine wpAnyH_ready (rs := [4]) (by kernel_rfl) (by simp) ?_
            refine (AllReadyH.cons (by simp only [List.getElem?_toArray, List.getElem?_cons_succ, List.getElem?_cons_zero]; rfl) (fun K hK => ?_) AllReadyH.nil)
            rw [if_pos (by rfl)]
            go_simp
            refine (gain8_any A1 A2 n1 n2 c1 c2 a b k u _ (by exact FA.out.ints) (by exact FB.out.ints) HAO.out HBO.out (by omega)).mono ?_
            rw [← HX.out]
            rintro e wa ⟨rfl, hbq⟩
            try (have OWN := Lib.hid (OWN.out.below hbq (fun g hg => (OWN.out.blk_lt g hg).2)))
            try (have OB := Lib.hid (OB.out.below hbq OB.out.lt))
            have FA := Lib.hid (FA.out.below hbq); have FB := Lib.hid (FB.out.below hbq); have HB := Lib.hid (HB.out.below hbq); have RB := Lib.hid (RB.out.below hbq RB.out.lt); have BW := Lib.hid (bthen BW.out hbq)
            clear hbq
            try clear hHeld
            clear a0 a1 a2 hla b0 b1 b2 hlb h0 h1 h2 hlh
            obtain ⟨a0, a1, a2, hla⟩ := FA.out.cells
            obtain ⟨b0, b1, b2, hlb⟩ := FB.out.cells
            obtain ⟨h0, h1, h2, hlh⟩ := HB.out.cells
            refine hK.out _ _ (by exact ⟨a0, a1, a2, b0, b1, b2, h0, h1, h2⟩) (fun hHeld => ?_)
            clear hK K
            try simp only [Act.put]
            try simp only [List.setIfInBounds_toArray]
            try simp only [List.set_cons_succ]
            try simp only [List.set_cons_zero]
            refine wpAnyH_ready (rs := [7]) (by kernel_rfl) (by simp) ?_
            refine (AllReadyH.cons (by simp only [List.getElem?_toArray, List.getElem?_cons_succ, List.getElem?_cons_zero]; rfl) (fun K hK => ?_) AllReadyH.nil)
            rw [if_pos (by rfl)]
            go_simp
            refine (refAt_any A5 n5 c5 r.per r.inc (k : Int) r.vals _ (by exact HB.out.ints) (by omega) (by omega) (by omega) (by omega) (by omega) HRO.out.nn (by omega) (by omega)).mono ?_
            rw [Int.toNat_natCast, ← HY.out]
            rintro e wb ⟨rfl, hbq⟩
            try (have OWN := Lib.hid (OWN.out.below hbq (fun g hg => (OWN.out.blk_lt g hg).2)))
            try (have OB := Lib.hid (OB.out.below hbq OB.out.lt))
            have FA := Lib.hid (FA.out.below hbq); have FB := Lib.hid (FB.out.below hbq); have HB := Lib.hid (HB.out.below hbq); have RB := Lib.hid (RB.out.below hbq RB.out.lt); have BW := Lib.hid (bthen BW.out hbq)
            clear hbq
            try clear hHeld
            clear a0 a1 a2 hla b0 b1 b2 hlb h0 h1 h2 hlh
            obtain ⟨a0, a1, a2, hla⟩ := FA.out.cells
            obtain ⟨b0, b1, b2, hlb⟩ := FB.out.cells
            obtain ⟨h0, h1, h2, hlh⟩ := HB.out.cells
            refine hK.out _ _ (by exact ⟨a0, a1, a2, b0, b1, b2, h0, h1, h2⟩) (fun hHeld => ?_)
            clear hK K
            try simp only [Act.put]
            try simp only [List.setIfInBounds_toArray]
            try simp only [List.set_cons_succ]
            try simp only [List.set_cons_zero]
            by_cases hxy : x = y
            · have dd : (x != y) = false := by simpa using hxy
              have GD := Lib.hid (SF.out.snoc (v := (u : Int)) (by
                refine ⟨u, rfl, by omega, by rw [← HX.out, hxy, HY.out], fun z hz => HU3.out z (by omega)⟩))
              clear hxy
              refine wpAnyH_take (i := 8) (oi := _) (v := ?_) (by simp only [List.getElem?_toArray, List.getElem?_cons_succ, List.getElem?_cons_zero]; rfl) (by kernel_rfl) (by kernel_rfl) (by kernel_rfl) (by exact fun _ _ _ h => h) (Or.inl ⟨by rfl, ?_⟩) (by assumption) ?_
              rotate_left 1
              · (intro w hSw; (try dsimp only at hSw); go_simp; try with_reducible rfl)
              all_goals try simp only [Act.put]
              all_goals try simp only [List.setIfInBounds_toArray]
              all_goals try simp only [List.set_cons_succ]
              all_goals try simp only [List.set_cons_zero]
              refine wpAnyH_done (by kernel_rfl) ?_ _
              clear hHeld
              clear a0 a1 a2 hla b0 b1 b2 hlb h0 h1 h2 hlh
              obtain ⟨⟨o0, o1, o2, o3⟩, ⟨z0, z1, z2, z3⟩, hlo⟩ := OB.out.c4
              have OWNx := Lib.hid (OWN.out.alloc (.cells ([(u : Int)].map (Value.int .i64)).toArray 3))
              have IAy := ints_litC wb [(u : Int)]
              rw [World.size_alloc] at IAy
              have hPb : P + 1 ≤ wb.heap.size := by omega
              go_upto_region 14 with fail
              go_wp2_with (at_builtin; refine wpList_app rfl _ _ 29 rfl Try.underlying29 (P + 1) (.slice Am k cm) k cs rfl OWNx.out (wb.heap.size + 1) (some ⟨wb.heap.size, 0, none⟩) 1 1 [(u : Int)] rfl IAy (by omega) (by simp; omega) ?_)
              intro v2 wn own2 grow2 at2
              have hb5 : Below (P + 1) wb wn := ((Below.refl (P + 1) wb).alloc hPb _).grown grow2 (by simp; omega) (fun g hg => (OWN.out.blk_lt g hg).1)
              obtain ⟨A9, c9, rfl, hc9, hI9, hf9⟩ := own2.ints
              have OWN := Lib.hid own2
              have OB := Lib.hid (OB.out.below hb5 (by omega)); have FA := Lib.hid (FA.out.upto hb5 (by omega)); have FB := Lib.hid (FB.out.upto hb5 (by omega)); have HB := Lib.hid (HB.out.upto hb5 (by omega)); have RB := Lib.hid (RB.out.below hb5 (by omega)); have BW := Lib.hid (BW.out.trans (hb5.mono (by omega)))
              clear own2 grow2 at2 hI9 hf9 hc9 hb5 OWNx IAy o0 o1 o2 o3 z0 z1 z2 z3 hlo
              obtain ⟨⟨o0, o1, o2, o3⟩, ⟨z0, z1, z2, z3⟩, hlo⟩ := OB.out.c4
              go_wp2_with fail
              go_roundg (go - 1)
              case measure => omega
              case rel => exact ⟨k + 1, A9, c9, cs ++ [(u : Int)], by omega, by go_num, OB.out.set_ 3 _, OWN.out.far (p := ⟨P, 3, none⟩) (fun e => by have := (OWN.out.blk_lt _ e).1; simp at this; omega) _, GD.out, FA.out.set1 (g := P) (.inl (by omega)) 3 _, FB.out.set1 (g := P) (.inl (by omega)) 3 _, HB.out.set1 (g := P) (.inl (by omega)) 3 _, RB.out.far (p := ⟨P, 3, none⟩) (by simp; omega) _, BW.out.setCell (p := ⟨P, 3, none⟩) (by simp; omega) _⟩
            · have dd : (x != y) = true := by simpa using hxy
              have huU : u < U := by
                rcases Nat.lt_or_ge u U with h1 | h1
                · exact h1
                · exfalso
                  obtain rfl : u = U := by omega
                  exact hxy (by rw [HX.out, HY.out]; exact HU2.out)
              clear hxy
              refine wpAnyH_take (i := 8) (oi := _) (v := ?_) (by simp only [List.getElem?_toArray, List.getElem?_cons_succ, List.getElem?_cons_zero]; rfl) (by kernel_rfl) (by kernel_rfl) (by kernel_rfl) (by exact fun _ _ _ h => h) (Or.inl ⟨by rfl, ?_⟩) (by assumption) ?_
              rotate_left 1
              · (intro w hSw; (try dsimp only at hSw); go_simp; try with_reducible rfl)
              all_goals try simp only [Act.put]
              all_goals try simp only [List.setIfInBounds_toArray]
              all_goals try simp only [List.set_cons_succ]
              all_goals try simp only [List.set_cons_zero]
              refine wpAnyH_done (by kernel_rfl) ?_ _
              clear hHeld
              clear a0 a1 a2 hla b0 b1 b2 hlb h0 h1 h2 hlh
              go_wp2_with fail
              go_roundg (gk - 1)
              case measure => omega
              case rel => exact ⟨u + 1, by omega, by go_num, OB.out, OWN.out, SF.out, FA.out, FB.out, HB.out, RB.out, BW.out⟩
        case neg =>
          have hkX : k = X := by omega
          have hki : ¬ (k : Int) < X := by omega
          refine wpAnyH_take (i := 9) (oi := _) (v := ?_) (by simp only [List.getElem?_toArray, List.getElem?_cons_succ, List.getElem?_cons_zero]; rfl) (by kernel_rfl) (by kernel_rfl) (by kernel_rfl) (by exact fun _ _ _ h => h) (Or.inl ⟨by rfl, ?_⟩) (by assumption) ?_
          rotate_left 1
          · (intro w hSw; (try dsimp only at hSw); go_simp; try with_reducible rfl)
          all_goals try simp only [Act.put]
          all_goals try simp only [List.setIfInBounds_toArray]
          all_goals try simp only [List.set_cons_succ]
          all_goals try simp only [List.set_cons_zero]
          refine wpAnyH_done (by kernel_rfl) ?_ _
          clear hHeld
          subst hkX
          have FIN := Lib.hid (show ProveS ⟨xs, p, i⟩ ⟨ys, q, j⟩ r cs 0 from ⟨HS.out, .inr ⟨rfl, a, b, HNA.out, HNB.out, .inr ⟨NS.out, by have := SF.out; rw [HXX.out] at this; exact this.done⟩⟩⟩)
          clear a0 a1 a2 hla b0 b1 b2 hlb h0 h1 h2 hlh
          obtain ⟨⟨o0, o1, o2, o3⟩, _, hlo⟩ := OB.out.c4
          have hlo' : ∀ b off s, A5 = some ⟨b, off, s⟩ → w.heap.size + 1 + 1 + 1 ≤ b := HB.out.lo
          obtain ⟨A9, c9, e', hc9, hI9, hf9⟩ := OWN.out.ints
          injection e' with e1 e2 e3
          subst e1 e3
          have HC9 := Lib.hid hc9; have HF9 := Lib.hid hf9; have HI9 := Lib.hid hI9
          clear hc9 hf9 hI9 hk
          -- the result Am k cm (the list's slice), the error 0; (⟨r, cs, 0, FIN.out, A5, n5, c5, Am, k, cm, HC5.out, HC9.out, rfl, HB.out.ints.store4 hlo' (by omega), HI9.out.store4 HF9.out (by omega), (fun b off s e => by have := hlo' b off s e; omega), (fun b off s e => by have := HF9.out b off s e; omega), below_store4 BW.out (by omega) _ _ _ _⟩): its list
          obtain ⟨⟨r0, r1, r2, r3⟩, ⟨y0, y1, y2, y3⟩, hlr⟩ := RB.out.c4
          go_wp2_with fail
          have rb := RB.out.store4 (.slice A5 n5 c5) (.int .i64 r.per) (.int .i64 r.inc) (.slice Am k cm)
          exact bodyPost_ret (v := .tuple #[.agg #[.slice A5 n5 c5, .int .i64 r.per, .int .i64 r.inc, .slice Am k cm], .int .i64 0]) (by simp [results, Try.results31, go_sem, rb.cell]) rfl (⟨r, cs, 0, FIN.out, A5, n5, c5, Am, k, cm, HC5.out, HC9.out, rfl, HB.out.ints.store4 hlo' (by omega), HI9.out.store4 HF9.out (by omega), (fun b off s e => by have := hlo' b off s e; omega), (fun b off s e => by have := HF9.out b off s e; omega), below_store4 BW.out (by omega) _ _ _ _⟩)
end Go.Proofs.Ythgfmaijoigckaa
