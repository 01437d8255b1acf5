/- netcalculusref09: plus, start, common, grows, fits, Adds, Subadditive. -/
import Derived.Test.YthdibkmjoiipgaaClLaw
import Derived.Test.YthdibkmjoiipgaaRefAt
import Derived.Test.YthdibkmjoiipgaaPwKit
import Derived.Test.YthdibkmjoiipgaaCvSame
import Derived.Test.YthdibkmjoiipgaaRefPair
namespace Go.Proofs.Ythdibkmjoiipgaa
open Go.RowKit
set_option linter.unusedVariables false

def RetI9 (x : Int) (w : World) (e : Ending) (w' : World) : Prop := e = .returned (.int .i64 x) ∧ w = w'
theorem plus9_any (x y : Int) (w : World) (hx0 : 0 ≤ x) (hx : x = inf ∨ x ≤ 1152921504606846976) (hy0 : 0 ≤ y) (hy : y = inf ∨ y ≤ 1152921504606846976) :
    Calls Try.prog 102 #[.int .i64 x, .int .i64 y] w (RetI9 (pl x y) w) := by
  by_cases h1 : x = inf
  · have fin : pl x y = inf := by unfold pl; rw [if_pos (.inl h1)]
    rw [fin]
    subst h1
    clear fin hx hx0 hy hy0
    unfold inf
    go_enter Try.func102, Try.ntmps102
    go_wp2_with fail
    go_ret
    exact ⟨rfl, rfl⟩
  · have hx' := hx.resolve_left h1
    have d1 : (x == 4611686018427387904) = false := by simp only [beq_eq_false_iff_ne]; exact h1
    by_cases h2 : y = inf
    · have fin : pl x y = inf := by unfold pl; rw [if_pos (.inr h2)]
      rw [fin]
      have d2 : (y == 4611686018427387904) = true := by rw [h2]; rfl
      clear fin hx hx0 hy hy0 h1 h2 hx'
      unfold inf
      go_enter Try.func102, Try.ntmps102
      go_wp2_with fail
      go_ret
      exact ⟨rfl, rfl⟩
    · have hy' := hy.resolve_left h2
      have d2 : (y == 4611686018427387904) = false := by simp only [beq_eq_false_iff_ne]; exact h2
      have fin : pl x y = x + y := by unfold pl; rw [if_neg (by rintro (h | h); exact h1 h; exact h2 h)]
      rw [fin]
      clear fin hx hy h1 h2
      go_enter Try.func102, Try.ntmps102
      go_wp2_with fail
      go_ret
      exact ⟨rfl, rfl⟩
theorem start9_any (A : Option Addr) (n c : Nat) (p i : Int) (w : World) (hn : n ≤ 1000000) (hp : 1 ≤ p) (hp2 : p ≤ n) :
    Calls Try.prog 139 #[.agg #[.slice A n c, .int .i64 p, .int .i64 i]] w fun e w' => e = .returned (.int .i64 (n - p)) ∧ Below w.heap.size w w' := by
  have PB := Blk.new w 46 #[.slice A n c, .int .i64 p, .int .i64 i]
  have q0 := PB.cell 0; have q1 := PB.cell 1
  simp at q0 q1
  have e1 : IntKind.i64.wrap ((n : Int) - p) = (n : Int) - p := IntWalk.i64_in _ (by omega)
  clear PB
  go_enter Try.func139, Try.ntmps139
  go_wp2_with fail
  try (go_quiet (fail); go_wp2_with fail)
  go_ret
  exact ⟨rfl, by first | exact balloc w _ | exact bdrewN (balloc w _)⟩

theorem gnl_if (h : Cv) (l : Nat) : gnl h l = ((l / h.per.toNat : Nat) : Int) * h.inc := rfl
theorem grows9_any (A : Option Addr) (n c : Nat) (h : Cv) (L : Nat) (w : World) (hA : Ints w w.heap.size A n h.vals) (ho : h.Ok) (hC : L ≤ 1000000) :
    Calls Try.prog 140 #[.agg #[.slice A n c, .int .i64 h.per, .int .i64 h.inc], .int .i64 L] w fun e w' => e = .returned (.tuple #[.int .i64 (gnl h L), .bool (nth h.vals (n - 1) != inf)]) ∧ Below w.heap.size w w' := by
  obtain ⟨zs, p, i⟩ := h
  have hp : 1 ≤ p := ho.p1
  have hi : 0 ≤ i := ho.i1
  have hi2 : i ≤ 1073741824 := ho.i2
  have hn1 : 1 ≤ zs.length := ho.n1
  have hn2 : zs.length ≤ 400 := ho.n2
  have hl : zs.length = n := hA.1
  rw [hl] at hn1 hn2
  obtain ⟨b, off, rfl, hb, hc⟩ := hA.2 (by omega)
  obtain ⟨m, rfl⟩ : ∃ m, n = m + 1 := ⟨n - 1, by omega⟩
  have h0 := hc m (by omega)
  rw [show m + 1 - 1 = m by omega]
  unfold gnl
  dsimp only
  dsimp only at h0
  obtain ⟨x, hx⟩ : ∃ x, x = nth zs m := ⟨_, rfl⟩
  rw [← hx] at h0
  rw [← hx]
  obtain ⟨p, rfl⟩ := Int.eq_ofNat_of_zero_le (show 0 ≤ p by omega)
  simp only [Int.toNat_natCast]
  obtain ⟨u, hu⟩ : ∃ u, u = L / p := ⟨_, rfl⟩
  have hut : u ≤ L := by rw [hu]; exact Nat.div_le_self _ _
  have e1 : ((L : Int).tdiv (p : Int)) = (u : Int) := by rw [hu]; rfl
  have e1' : ((L : Int) / (p : Int)) = (u : Int) := by rw [hu]; rfl
  have hui : (u : Int) * i ≤ 1000000 * 1073741824 := Int.mul_le_mul (by omega) hi2 hi (by omega)
  have hui0 : 0 ≤ (u : Int) * i := Int.mul_nonneg (by omega) hi
  rw [← hu]
  obtain ⟨X, hX⟩ : ∃ X, X = (u : Int) * i := ⟨_, rfl⟩
  rw [← hX] at hui hui0
  have e3 : IntKind.i64.wrap (i * (u : Int)) = X := by rw [Int.mul_comm, ← hX]; exact IntWalk.i64_in _ (by omega)
  have e6 : IntKind.i64.wrap (u : Int) = (u : Int) := IntWalk.i64_in _ (by omega)
  rw [← hX]
  have hpn : (p : Int) ≠ 0 := by omega
  have hpn2 : p ≠ 0 := by omega
  have PB := Blk.new w 46 #[.slice (some ⟨b, off, none⟩) (m + 1) c, .int .i64 p, .int .i64 i]
  have q0 := PB.cell 0
  have q1 := PB.cell 1
  have q2 := PB.cell 2
  simp at q0 q1 q2
  have h1 : (w.alloc (.cells #[.slice (some ⟨b, off, none⟩) (m + 1) c, .int .i64 p, .int .i64 i] 46)).cell? ⟨b, off + m, none⟩ = some (.int .i64 x) := (World.cell?_alloc_lt w _ _ hb).trans h0
  have e4 : IntKind.i64.wrap (((m + 1 : Nat) : Int) - 1) = (m : Int) := by rw [IntWalk.i64_in _ (by omega)]; omega
  have e4' : (((m + 1 : Nat) : Int) - 1) = (m : Int) := by omega
  have hbw := balloc w (.cells #[.slice (some ⟨b, off, none⟩) (m + 1) c, .int .i64 p, .int .i64 i] 46)
  have G : (x != inf) = (x != 4611686018427387904) := rfl
  rw [G]
  clear hc hx hA PB G ho hl hu hX
  go_enter Try.func140, Try.ntmps140
  go_wp2_with fail
  go_region
  all_goals
    go_wp2_with fail
    first | go_ret2 | go_ret
    exact ⟨rfl, by first | exact hbw | exact bdrewN hbw⟩
theorem fin9 {h : Cv} {n : Nat} (ho : h.Ok) (hl : h.vals.length = n) : (nth h.vals (n - 1) != inf) = true ↔ h.Fin := by
  rw [bne_iff_ne, ← hl]
  exact ⟨fun k => ⟨ho, k⟩, fun k => k.2⟩
set_option maxHeartbeats 2000000 in
set_option maxRecDepth 100000 in
theorem common9_any (A B : Option Addr) (n m c d : Nat) (a b : Cv) (w : World) (hA : Ints w w.heap.size A n a.vals) (hB : Ints w w.heap.size B m b.vals) (ha : a.Ok) (hb : b.Ok) :
    Calls Try.prog 97 #[.agg #[.slice A n c, .int .i64 a.per, .int .i64 a.inc], .agg #[.slice B m d, .int .i64 b.per, .int .i64 b.inc]] w fun e w' => e = .returned (.tuple #[.int .i64 (clL a b : Nat), .int .i64 (clF a b : Nat)]) ∧ Below w.heap.size w w' := by
  have a1 := ha.n1; have a2 := ha.n2; have a3 := ha.p1; have a4 := ha.p2; have a5 := ha.pn; have a6 := ha.i1; have a7 := ha.i2
  have b1 := hb.n1; have b2 := hb.n2; have b3 := hb.p1; have b4 := hb.p2; have b5 := hb.pn; have b6 := hb.i1; have b7 := hb.i2
  have hln : a.vals.length = n := hA.1
  have hlm : b.vals.length = m := hB.1
  rw [hln] at a1 a2 a5
  rw [hlm] at b1 b2 b5
  have hcm := comm_facts (p := a.per.toNat) (q := b.per.toNat) (by omega) (by omega)
  have hcm2 : a.per.toNat * b.per.toNat ≤ 120 * 120 := Nat.mul_le_mul (by omega) (by omega)
  obtain ⟨L0, hL0⟩ : ∃ L, L = clL a b := ⟨_, rfl⟩
  have hLb : L0 ≤ 14400 := by rw [hL0]; unfold clL; split <;> omega
  obtain ⟨F0, hF0⟩ : ∃ F, F = clF a b := ⟨_, rfl⟩
  have hF1 : F0 = max (cst a) (2 * cst b) + L0 + 1 := by rw [hF0, hL0]; rfl
  have hca : (cst a : Int) = (n : Int) - a.per := by unfold cst; rw [hln]; omega
  have hcb : (cst b : Int) = (m : Int) - b.per := by unfold cst; rw [hlm]; omega
  obtain ⟨M, hM⟩ : ∃ M : Nat, M = max (cst a) (2 * cst b) := ⟨_, rfl⟩
  rw [← hM] at hF1
  have hmx1 : (if (n : Int) - a.per < 2 * ((m : Int) - b.per) then 2 * ((m : Int) - b.per) else (n : Int) - a.per) = (M : Int) := by rw [hM]; split <;> omega
  have hmw : IntKind.i64.wrap (2 * ((m : Int) - b.per)) = 2 * ((m : Int) - b.per) := IntWalk.i64_in _ (by omega)
  have hM9 : M ≤ 1000 := by omega
  have e1 : IntKind.i64.wrap ((M : Int) + (L0 : Int)) = (M : Int) + (L0 : Int) := IntWalk.i64_in _ (by omega)
  have e2 : IntKind.i64.wrap ((M : Int) + (L0 : Int) + 1) = (F0 : Int) := by rw [IntWalk.i64_in _ (by omega)]; omega
  have e3 : (M : Int) + (L0 : Int) + 1 = (F0 : Int) := by omega
  have e6 : IntKind.i64.wrap (F0 : Int) = (F0 : Int) := IntWalk.i64_in _ (by omega)
  have LC := Lib.hid (show (b.Fin → L0 = comm a.per.toNat b.per.toNat) ∧ (¬ b.Fin → L0 = 1) from ⟨fun h => by rw [hL0]; unfold clL; rw [if_pos h], fun h => by rw [hL0]; unfold clL; rw [if_neg h]⟩)
  rw [← hL0, ← hF0]
  have M1 := Lib.hid hmx1; have M2 := Lib.hid hmw; have E1 := Lib.hid e1; have E2 := Lib.hid e2; have E3 := Lib.hid e3
  clear hL0 hF0 hF1 hca hcb hM hmx1 hmw e1 e2 e3 hcm hcm2
  obtain ⟨bd, ob, hBe, hbd, hcb⟩ := hB.2 (by omega)
  subst hBe
  obtain ⟨M', rfl⟩ : ∃ M', m = M' + 1 := ⟨m - 1, by omega⟩
  have M1 := Lib.hid (show (if (n : Int) - a.per < 2 * ((M' : Int) + 1 - b.per) then 2 * ((M' : Int) + 1 - b.per) else (n : Int) - a.per) = (M : Int) from by have := M1.out; rw [show ((M' + 1 : Nat) : Int) = (M' : Int) + 1 from rfl] at this; exact this)
  have M2 := Lib.hid (show IntKind.i64.wrap (2 * ((M' : Int) + 1 - b.per)) = 2 * ((M' : Int) + 1 - b.per) from by have := M2.out; rw [show ((M' + 1 : Nat) : Int) = (M' : Int) + 1 from rfl] at this; exact this)
  obtain ⟨x, hx⟩ : ∃ x, x = nth b.vals M' := ⟨_, rfl⟩
  have hcx := hcb M' (by omega)
  rw [← hx] at hcx
  have FN := Lib.hid (show b.Fin ↔ x ≠ inf from by
    have := fin9 hb hlm
    rw [bne_iff_ne, show M' + 1 - 1 = M' by omega, ← hx] at this
    exact this.symm)
  clear hcb hx
  have P := Lib.hid (PT.new (c := c) (p := a.per) (i := a.inc) (d := d) (q := b.per) (j := b.inc) hA hB)
  have HAO := Lib.hid ha; have HBO := Lib.hid hb; have HLN := Lib.hid hln; have HLM := Lib.hid hlm
  clear hA hB ha hb hln hlm
  go_enter Try.func97, Try.ntmps97
  go_upto_region 2 with fail
  have hcx2 : ((w.alloc (.cells #[.slice A n c, .int .i64 a.per, .int .i64 a.inc] 46)).alloc (.cells #[.slice (some ⟨bd, ob, none⟩) (M' + 1) d, .int .i64 b.per, .int .i64 b.inc] 46)).cell? ⟨bd, ob + M', none⟩ = some (.int .i64 x) :=
    (World.cell?_alloc_lt _ _ _ (by rw [World.size_alloc]; show bd < _; omega)).trans ((World.cell?_alloc_lt w _ _ hbd).trans hcx)
  generalize hwe : (w.alloc (.cells #[.slice A n c, .int .i64 a.per, .int .i64 a.inc] 46)).alloc (.cells #[.slice (some ⟨bd, ob, none⟩) (M' + 1) d, .int .i64 b.per, .int .i64 b.inc] 46) = we at *
  clear hwe hcx
  have hlt : bd < we.heap.size := by have := P.out.bw.size; omega
  have e4 : IntKind.i64.wrap (((M' + 1 : Nat) : Int) - 1) = (M' : Int) := by rw [IntWalk.i64_in _ (by omega)]; omega
  have e4' : (((M' + 1 : Nat) : Int) - 1) = (M' : Int) := by omega
  obtain ⟨f0, f1, f2, g0, g1, g2, hlf, hlg⟩ := P.out.cells
  by_cases hxi : x = inf
  case pos =>
    have d1 : (x != 4611686018427387904) = false := by subst hxi; rfl
    have LE := Lib.hid (LC.out.2 (fun k => FN.out.1 k hxi))
    have m1 := M1.out; have m2 := M2.out
    have e1 : IntKind.i64.wrap ((M : Int) + 1) = (M : Int) + 1 := IntWalk.i64_in _ (by omega)
    have e2 : IntKind.i64.wrap ((M : Int) + 1 + 1) = (F0 : Int) := by have := E2.out; rw [LE.out] at this; exact this
    have e3 : (M : Int) + 1 + 1 = (F0 : Int) := by have := E3.out; rw [LE.out] at this; exact this
    clear hxi
    go_upto_region 4 with fail
    have P := Lib.hid P.out.drew
    clear f0 f1 f2 g0 g1 g2 hlf hlg
    obtain ⟨f0, f1, f2, g0, g1, g2, hlf, hlg⟩ := P.out.cells
    rename World => wq
    refine wp_region_held_drew (S := (fun w' => w'.cell? ⟨w.heap.size, 0, none⟩ = some (.slice A n c) ∧ w'.cell? ⟨w.heap.size, 1, none⟩ = some (.int .i64 a.per) ∧ w'.cell? ⟨w.heap.size, 2, none⟩ = some (.int .i64 a.inc) ∧ w'.cell? ⟨w.heap.size + 1, 0, none⟩ = some (.slice (some ⟨bd, ob, none⟩) (M' + 1) d) ∧ w'.cell? ⟨w.heap.size + 1, 1, none⟩ = some (.int .i64 b.per) ∧ w'.cell? ⟨w.heap.size + 1, 2, none⟩ = some (.int .i64 b.inc))) (by kernel_rfl) (by exact ⟨f0, f1, f2, g0, g1, g2⟩) (fun hHeld => ?_)
    generalize hwd : wq.drew = wd at *
    clear hwd
    refine wpAnyH_take (i := 0) (oi := _) (v := ?_) (by simp only [g8a, g8z]; rfl) (by kernel_rfl) (by kernel_rfl) (by kernel_rfl) (by exact fun _ _ _ h => h) (Or.inl ⟨by rfl, ?_⟩) (by assumption) ?_
    rotate_left 1
    · (intro w hSw; (try dsimp only at hSw); go_simp; try with_reducible rfl)
    all_goals ((try simp only [Act.put]); try simp only [g8b, g8c, g8d])
    refine wpAnyH_take (i := 1) (oi := _) (v := ?_) (by simp only [g8a, g8s, g8z]; rfl) (by kernel_rfl) (by kernel_rfl) (by kernel_rfl) (by exact fun _ _ _ h => h) (Or.inl ⟨by rfl, ?_⟩) (by assumption) ?_
    rotate_left 1
    · (intro w hSw; (try dsimp only at hSw); go_simp; try with_reducible rfl)
    all_goals ((try simp only [Act.put]); try simp only [g8b, g8c, g8d])
    refine wpAnyH_take (i := 3) (oi := _) (v := ?_) (by simp only [g8a, g8s, g8z]; rfl) (by kernel_rfl) (by kernel_rfl) (by kernel_rfl) (by exact fun _ _ _ h => h) (Or.inl ⟨by rfl, ?_⟩) (by assumption) ?_
    rotate_left 1
    · (intro w hSw; (try dsimp only at hSw); go_simp; try with_reducible rfl)
    all_goals ((try simp only [Act.put]); try simp only [g8b, g8c, g8d])
    refine wpAnyH_take (i := 7) (oi := _) (v := ?_) (by simp only [g8a, g8s, g8z]; rfl) (by kernel_rfl) (by kernel_rfl) (by kernel_rfl) (by exact fun _ _ _ h => h) (Or.inl ⟨by rfl, ?_⟩) (by assumption) ?_
    rotate_left 1
    · (intro w hSw; (try dsimp only at hSw); go_simp; try with_reducible rfl)
    all_goals ((try simp only [Act.put]); try simp only [g8b, g8c, g8d])
    refine wpAnyH_ready (rs := [2]) (by kernel_rfl) (by simp) ?_
    refine (AllReadyH.cons (by simp only [g8a, g8s, g8z]; rfl) (fun K hK => ?_) AllReadyH.nil)
    rw [if_pos (by rfl)]
    go_simp
    refine (start9_any A n c a.per a.inc _ (by omega) (by omega) (by omega)).mono ?_
    rintro e wa ⟨rfl, hb⟩
    replace P := Lib.hid (P.out.below hb)
    clear hb
    try clear hHeld
    clear f0 f1 f2 g0 g1 g2 hlf hlg
    obtain ⟨f0, f1, f2, g0, g1, g2, hlf, hlg⟩ := P.out.cells
    refine hK.out _ _ (by exact ⟨f0, f1, f2, g0, g1, g2⟩) (fun hHeld => ?_)
    clear hK K
    (try simp only [Act.put]); try simp only [g8b, g8c, g8d]
    refine wpAnyH_ready (rs := [4]) (by kernel_rfl) (by simp) ?_
    refine (AllReadyH.cons (by simp only [g8a, g8s, g8z]; rfl) (fun K hK => ?_) AllReadyH.nil)
    rw [if_pos (by rfl)]
    go_simp
    refine (start9_any _ (M' + 1) d b.per b.inc _ (by omega) (by omega) (by omega)).mono ?_
    rintro e wb ⟨rfl, hb⟩
    replace P := Lib.hid (P.out.below hb)
    clear hb
    try clear hHeld
    clear f0 f1 f2 g0 g1 g2 hlf hlg
    obtain ⟨f0, f1, f2, g0, g1, g2, hlf, hlg⟩ := P.out.cells
    refine hK.out _ _ (by exact ⟨f0, f1, f2, g0, g1, g2⟩) (fun hHeld => ?_)
    clear hK K
    (try simp only [Act.put]); try simp only [g8b, g8c, g8d]
    refine wpAnyH_take (i := 5) (oi := _) (v := ?_) (by simp only [g8a, g8s, g8z]; rfl) (by kernel_rfl) (by kernel_rfl) (by kernel_rfl) (by exact fun _ _ _ h => h) (Or.inl ⟨by rfl, ?_⟩) (by assumption) ?_
    rotate_left 1
    · (intro w hSw; (try dsimp only at hSw); go_simp; try with_reducible rfl)
    all_goals ((try simp only [Act.put]); try simp only [g8b, g8c, g8d])
    refine wpAnyH_take (i := 10) (oi := _) (v := ?_) (by simp only [g8a, g8s, g8z]; rfl) (by kernel_rfl) (by kernel_rfl) (by kernel_rfl) (by exact fun _ _ _ h => h) (Or.inl ⟨by rfl, ?_⟩) (by assumption) ?_
    rotate_left 1
    · (intro w hSw; (try dsimp only at hSw); go_simp; try with_reducible rfl)
    all_goals ((try simp only [Act.put]); try simp only [g8b, g8c, g8d])
    refine wpAnyH_ready (rs := [6]) (by kernel_rfl) (by simp) ?_
    refine (AllReadyH.cons (by simp only [g8a, g8s, g8z]; rfl) (fun K hK => ?_) AllReadyH.nil)
    rw [if_pos (by rfl)]
    go_simp
    refine hK.out _ _ (by exact ⟨f0, f1, f2, g0, g1, g2⟩) (fun hHeld => ?_)
    clear hK K
    (try simp only [Act.put]); try simp only [g8b, g8c, g8d]
    refine wpAnyH_take (i := 8) (oi := _) (v := ?_) (by simp only [g8a, g8s, g8z]; rfl) (by kernel_rfl) (by kernel_rfl) (by kernel_rfl) (by exact fun _ _ _ h => h) (Or.inl ⟨by rfl, ?_⟩) (by assumption) ?_
    rotate_left 1
    · (intro w hSw; (try dsimp only at hSw); go_simp; try with_reducible rfl)
    all_goals ((try simp only [Act.put]); try simp only [g8b, g8c, g8d])
    refine wpAnyH_take (i := 9) (oi := _) (v := ?_) (by simp only [g8a, g8s, g8z]; rfl) (by kernel_rfl) (by kernel_rfl) (by kernel_rfl) (by exact fun _ _ _ h => h) (Or.inl ⟨by rfl, ?_⟩) (by assumption) ?_
    rotate_left 1
    · (intro w hSw; (try dsimp only at hSw); go_simp; try with_reducible rfl)
    all_goals ((try simp only [Act.put]); try simp only [g8b, g8c, g8d])
    refine wpAnyH_take (i := 11) (oi := _) (v := ?_) (by simp only [g8a, g8s, g8z]; rfl) (by kernel_rfl) (by kernel_rfl) (by kernel_rfl) (by exact fun _ _ _ h => h) (Or.inl ⟨by rfl, ?_⟩) (by assumption) ?_
    rotate_left 1
    · (intro w hSw; (try dsimp only at hSw); go_simp; try with_reducible rfl)
    all_goals ((try simp only [Act.put]); try simp only [g8b, g8c, g8d])
    refine wpAnyH_done (by kernel_rfl) ?_ _
    clear hHeld
    clear f0 f1 f2 g0 g1 g2 hlf hlg
    have bw := P.out.bw
    go_wp2_with fail
    first | go_ret2 | go_ret
    exact ⟨by rw [LE.out]; rfl, bw⟩
  case neg =>
    have d1 : (x != 4611686018427387904) = true := by rw [bne_iff_ne]; exact hxi
    have LE := Lib.hid (LC.out.1 (FN.out.2 hxi))
    clear hxi
    go_wp2_with fail
    refine (lcm2_any a.per b.per _ (by omega) (by omega) (by omega) (by omega)).mono ?_
    rw [← LE.out]
    rintro e w1 ⟨rfl, hb⟩
    replace P := Lib.hid (P.out.below hb)
    clear hb
    try clear hHeld
    clear f0 f1 f2 g0 g1 g2 hlf hlg
    obtain ⟨f0, f1, f2, g0, g1, g2, hlf, hlg⟩ := P.out.cells
    have m1 := M1.out; have m2 := M2.out; have e1 := E1.out; have e2 := E2.out; have e3 := E3.out
    go_upto_region 4 with fail
    have P := Lib.hid P.out.drew
    clear f0 f1 f2 g0 g1 g2 hlf hlg
    obtain ⟨f0, f1, f2, g0, g1, g2, hlf, hlg⟩ := P.out.cells
    rename World => wq
    refine wp_region_held_drew (S := (fun w' => w'.cell? ⟨w.heap.size, 0, none⟩ = some (.slice A n c) ∧ w'.cell? ⟨w.heap.size, 1, none⟩ = some (.int .i64 a.per) ∧ w'.cell? ⟨w.heap.size, 2, none⟩ = some (.int .i64 a.inc) ∧ w'.cell? ⟨w.heap.size + 1, 0, none⟩ = some (.slice (some ⟨bd, ob, none⟩) (M' + 1) d) ∧ w'.cell? ⟨w.heap.size + 1, 1, none⟩ = some (.int .i64 b.per) ∧ w'.cell? ⟨w.heap.size + 1, 2, none⟩ = some (.int .i64 b.inc))) (by kernel_rfl) (by exact ⟨f0, f1, f2, g0, g1, g2⟩) (fun hHeld => ?_)
    generalize hwd : wq.drew = wd at *
    clear hwd
    refine wpAnyH_take (i := 0) (oi := _) (v := ?_) (by simp only [g8a, g8z]; rfl) (by kernel_rfl) (by kernel_rfl) (by kernel_rfl) (by exact fun _ _ _ h => h) (Or.inl ⟨by rfl, ?_⟩) (by assumption) ?_
    rotate_left 1
    · (intro w hSw; (try dsimp only at hSw); go_simp; try with_reducible rfl)
    all_goals ((try simp only [Act.put]); try simp only [g8b, g8c, g8d])
    refine wpAnyH_take (i := 1) (oi := _) (v := ?_) (by simp only [g8a, g8s, g8z]; rfl) (by kernel_rfl) (by kernel_rfl) (by kernel_rfl) (by exact fun _ _ _ h => h) (Or.inl ⟨by rfl, ?_⟩) (by assumption) ?_
    rotate_left 1
    · (intro w hSw; (try dsimp only at hSw); go_simp; try with_reducible rfl)
    all_goals ((try simp only [Act.put]); try simp only [g8b, g8c, g8d])
    refine wpAnyH_take (i := 3) (oi := _) (v := ?_) (by simp only [g8a, g8s, g8z]; rfl) (by kernel_rfl) (by kernel_rfl) (by kernel_rfl) (by exact fun _ _ _ h => h) (Or.inl ⟨by rfl, ?_⟩) (by assumption) ?_
    rotate_left 1
    · (intro w hSw; (try dsimp only at hSw); go_simp; try with_reducible rfl)
    all_goals ((try simp only [Act.put]); try simp only [g8b, g8c, g8d])
    refine wpAnyH_take (i := 7) (oi := _) (v := ?_) (by simp only [g8a, g8s, g8z]; rfl) (by kernel_rfl) (by kernel_rfl) (by kernel_rfl) (by exact fun _ _ _ h => h) (Or.inl ⟨by rfl, ?_⟩) (by assumption) ?_
    rotate_left 1
    · (intro w hSw; (try dsimp only at hSw); go_simp; try with_reducible rfl)
    all_goals ((try simp only [Act.put]); try simp only [g8b, g8c, g8d])
    refine wpAnyH_ready (rs := [2]) (by kernel_rfl) (by simp) ?_
    refine (AllReadyH.cons (by simp only [g8a, g8s, g8z]; rfl) (fun K hK => ?_) AllReadyH.nil)
    rw [if_pos (by rfl)]
    go_simp
    refine (start9_any A n c a.per a.inc _ (by omega) (by omega) (by omega)).mono ?_
    rintro e wa ⟨rfl, hb⟩
    replace P := Lib.hid (P.out.below hb)
    clear hb
    try clear hHeld
    clear f0 f1 f2 g0 g1 g2 hlf hlg
    obtain ⟨f0, f1, f2, g0, g1, g2, hlf, hlg⟩ := P.out.cells
    refine hK.out _ _ (by exact ⟨f0, f1, f2, g0, g1, g2⟩) (fun hHeld => ?_)
    clear hK K
    (try simp only [Act.put]); try simp only [g8b, g8c, g8d]
    refine wpAnyH_ready (rs := [4]) (by kernel_rfl) (by simp) ?_
    refine (AllReadyH.cons (by simp only [g8a, g8s, g8z]; rfl) (fun K hK => ?_) AllReadyH.nil)
    rw [if_pos (by rfl)]
    go_simp
    refine (start9_any _ (M' + 1) d b.per b.inc _ (by omega) (by omega) (by omega)).mono ?_
    rintro e wb ⟨rfl, hb⟩
    replace P := Lib.hid (P.out.below hb)
    clear hb
    try clear hHeld
    clear f0 f1 f2 g0 g1 g2 hlf hlg
    obtain ⟨f0, f1, f2, g0, g1, g2, hlf, hlg⟩ := P.out.cells
    refine hK.out _ _ (by exact ⟨f0, f1, f2, g0, g1, g2⟩) (fun hHeld => ?_)
    clear hK K
    (try simp only [Act.put]); try simp only [g8b, g8c, g8d]
    refine wpAnyH_take (i := 5) (oi := _) (v := ?_) (by simp only [g8a, g8s, g8z]; rfl) (by kernel_rfl) (by kernel_rfl) (by kernel_rfl) (by exact fun _ _ _ h => h) (Or.inl ⟨by rfl, ?_⟩) (by assumption) ?_
    rotate_left 1
    · (intro w hSw; (try dsimp only at hSw); go_simp; try with_reducible rfl)
    all_goals ((try simp only [Act.put]); try simp only [g8b, g8c, g8d])
    refine wpAnyH_take (i := 10) (oi := _) (v := ?_) (by simp only [g8a, g8s, g8z]; rfl) (by kernel_rfl) (by kernel_rfl) (by kernel_rfl) (by exact fun _ _ _ h => h) (Or.inl ⟨by rfl, ?_⟩) (by assumption) ?_
    rotate_left 1
    · (intro w hSw; (try dsimp only at hSw); go_simp; try with_reducible rfl)
    all_goals ((try simp only [Act.put]); try simp only [g8b, g8c, g8d])
    refine wpAnyH_ready (rs := [6]) (by kernel_rfl) (by simp) ?_
    refine (AllReadyH.cons (by simp only [g8a, g8s, g8z]; rfl) (fun K hK => ?_) AllReadyH.nil)
    rw [if_pos (by rfl)]
    go_simp
    refine hK.out _ _ (by exact ⟨f0, f1, f2, g0, g1, g2⟩) (fun hHeld => ?_)
    clear hK K
    (try simp only [Act.put]); try simp only [g8b, g8c, g8d]
    refine wpAnyH_take (i := 8) (oi := _) (v := ?_) (by simp only [g8a, g8s, g8z]; rfl) (by kernel_rfl) (by kernel_rfl) (by kernel_rfl) (by exact fun _ _ _ h => h) (Or.inl ⟨by rfl, ?_⟩) (by assumption) ?_
    rotate_left 1
    · (intro w hSw; (try dsimp only at hSw); go_simp; try with_reducible rfl)
    all_goals ((try simp only [Act.put]); try simp only [g8b, g8c, g8d])
    refine wpAnyH_take (i := 9) (oi := _) (v := ?_) (by simp only [g8a, g8s, g8z]; rfl) (by kernel_rfl) (by kernel_rfl) (by kernel_rfl) (by exact fun _ _ _ h => h) (Or.inl ⟨by rfl, ?_⟩) (by assumption) ?_
    rotate_left 1
    · (intro w hSw; (try dsimp only at hSw); go_simp; try with_reducible rfl)
    all_goals ((try simp only [Act.put]); try simp only [g8b, g8c, g8d])
    refine wpAnyH_take (i := 11) (oi := _) (v := ?_) (by simp only [g8a, g8s, g8z]; rfl) (by kernel_rfl) (by kernel_rfl) (by kernel_rfl) (by exact fun _ _ _ h => h) (Or.inl ⟨by rfl, ?_⟩) (by assumption) ?_
    rotate_left 1
    · (intro w hSw; (try dsimp only at hSw); go_simp; try with_reducible rfl)
    all_goals ((try simp only [Act.put]); try simp only [g8b, g8c, g8d])
    refine wpAnyH_done (by kernel_rfl) ?_ _
    clear hHeld
    clear f0 f1 f2 g0 g1 g2 hlf hlg
    have bw := P.out.bw
    go_wp2_with fail
    first | go_ret2 | go_ret
    exact ⟨rfl, bw⟩

/-- what fits says -/
def FitQ (a h : Cv) (t : Nat) (s : Int) : Prop := (t = 0 ∧ s = 0) ∨ (1 ≤ t ∧ 0 ≤ s ∧ ClFit a h t s.toNat)
set_option maxHeartbeats 4000000 in
set_option maxRecDepth 100000 in
theorem fits9_any (A B : Option Addr) (n m c d : Nat) (a b : Cv) (L F t : Nat) (s : Int) (w : World) (hA : Ints w w.heap.size A n a.vals) (hB : Ints w w.heap.size B m b.vals) (ha : a.Ok) (hb : b.Ok) (hL : L = clL a b) (hL2 : L ≤ 120) (hF : F = clF a b) (ht : t ≤ 2000) :
    Calls Try.prog 98 #[.agg #[.slice A n c, .int .i64 a.per, .int .i64 a.inc], .agg #[.slice B m d, .int .i64 b.per, .int .i64 b.inc], .int .i64 L, .int .i64 F, .int .i64 t, .int .i64 s] w (RetQ (FitQ a b t s) w) := by
  have a1 := ha.n1; have a2 := ha.n2; have a3 := ha.p1; have a4 := ha.p2; have a5 := ha.pn; have a6 := ha.i1; have a7 := ha.i2
  have b1 := hb.n1; have b2 := hb.n2; have b3 := hb.p1; have b4 := hb.p2; have b5 := hb.pn; have b6 := hb.i1; have b7 := hb.i2
  have hln : a.vals.length = n := hA.1
  have hlm : b.vals.length = m := hB.1
  rw [hln] at a1 a2 a5
  rw [hlm] at b1 b2 b5
  have hF9 : F ≤ 1400 := by
    have h1 := cst_le ha; have h2 := cst_le hb
    rw [hF]; unfold clF; rw [← hL]; omega
  obtain ⟨v, hv⟩ : ∃ v, v = b.at t := ⟨_, rfl⟩
  have HV := Lib.hid hv; have HLL := Lib.hid hL; have HFF := Lib.hid hF
  clear hv hL hF
  have P := Lib.hid (PT.new (c := c) (p := a.per) (i := a.inc) (d := d) (q := b.per) (j := b.inc) hA hB)
  have HAO := Lib.hid ha; have HBO := Lib.hid hb; have HLN := Lib.hid hln; have HLM := Lib.hid hlm
  clear hA hB ha hb hln hlm
  go_enter Try.func98, Try.ntmps98
  obtain ⟨f0, f1, f2, g0, g1, g2, hlf, hlg⟩ := P.out.cells
  go_wp2_with fail
  refine (refAt_any B m d b.per b.inc (t : Int) b.vals _ (by exact P.out.ib) (by omega) (by omega) (by omega) (by omega) (by omega) HBO.out.nn (by omega) (by omega)).mono ?_
  rw [Int.toNat_natCast, ← HV.out]
  rintro e w1 ⟨rfl, hb⟩
  replace P := Lib.hid (P.out.below hb)
  clear hb
  try clear hHeld
  clear f0 f1 f2 g0 g1 g2 hlf hlg
  obtain ⟨f0, f1, f2, g0, g1, g2, hlf, hlg⟩ := P.out.cells
  rcases Nat.eq_zero_or_pos t with ht0 | ht1
  case inl =>
    subst ht0
    by_cases hs : s = 0
    case pos =>
      have FIN := Lib.hid (show FitQ a b 0 s from .inl ⟨rfl, hs⟩)
      have d1 : (s == 0) = true := by simpa using hs
      clear hs
      have bw := P.out.bw
      go_wp2_with fail
      go_ret
      exact RetQ.yes FIN.out bw
    case neg =>
      have FIN := Lib.hid (show ¬ FitQ a b 0 s from by rintro (h | h); exact hs h.2; omega)
      have d1 : (s == 0) = false := by simpa using hs
      clear hs
      have bw := P.out.bw
      go_wp2_with fail
      go_ret
      exact RetQ.no FIN.out bw
  case inr =>
  have dt0 : ((t : Int) == 0) = false := by simp; omega
  have dt1 : (t == 0) = false := by simp; omega
  have T1 := Lib.hid ht1
  clear ht1
  by_cases hs0 : s = 0
  case pos =>
    subst hs0
    have FQ := Lib.hid (show FitQ a b t 0 ↔ a.at t = v ∧ (t < F ∨ v = inf ∨ ClT a b) from by
      rw [HFF.out, HV.out]
      constructor
      · rintro (h | ⟨_, _, h | ⟨h, _⟩⟩)
        · have := T1.out; omega
        · exact ⟨h.2.1, h.2.2⟩
        · have h' : 1 ≤ (0 : Nat) := h
          omega
      · rintro ⟨h1, h2⟩
        exact .inr ⟨T1.out, Int.le_refl 0, .inl ⟨rfl, h1, h2⟩⟩)
    obtain ⟨fa, hfa⟩ : ∃ z, z = (nth a.vals (n - 1) != inf) := ⟨_, rfl⟩
    obtain ⟨fb, hfb⟩ : ∃ z, z = (nth b.vals (m - 1) != inf) := ⟨_, rfl⟩
    have LA := Lib.hid (show fa = true ↔ a.Fin from by rw [hfa]; exact fin9 HAO.out HLN.out)
    have LB := Lib.hid (show fb = true ↔ b.Fin from by rw [hfb]; exact fin9 HBO.out HLM.out)
    obtain ⟨ga, hga⟩ : ∃ z, z = gnl a L := ⟨_, rfl⟩
    obtain ⟨gb, hgb⟩ : ∃ z, z = gnl b L := ⟨_, rfl⟩
    have TT := Lib.hid (show ClT a b ↔ fa = true ∧ fb = true ∧ ga = gb from by unfold ClT; rw [LA.out, LB.out, hga, hgb, HLL.out])
    have FA := Lib.hid hfa; have FB := Lib.hid hfb; have GA := Lib.hid hga; have GB := Lib.hid hgb
    clear hfa hfb hga hgb
    go_wp2_with fail
    refine (grows9_any A n c a L _ (by exact P.out.ia) HAO.out (by omega)).mono ?_
    rw [← FA.out, ← GA.out]
    rintro e w2 ⟨rfl, hb⟩
    replace P := Lib.hid (P.out.below hb)
    clear hb
    try clear hHeld
    clear f0 f1 f2 g0 g1 g2 hlf hlg
    obtain ⟨f0, f1, f2, g0, g1, g2, hlf, hlg⟩ := P.out.cells
    go_wp2_with fail
    refine (grows9_any B m d b L _ (by exact P.out.ib) HBO.out (by omega)).mono ?_
    rw [← FB.out, ← GB.out]
    rintro e w3 ⟨rfl, hb⟩
    replace P := Lib.hid (P.out.below hb)
    clear hb
    try clear hHeld
    clear f0 f1 f2 g0 g1 g2 hlf hlg
    obtain ⟨f0, f1, f2, g0, g1, g2, hlf, hlg⟩ := P.out.cells
    obtain ⟨x, hx⟩ : ∃ x, x = a.at t := ⟨_, rfl⟩
    rw [← hx] at FQ
    go_wp2_with fail
    refine (refAt_any A n c a.per a.inc (t : Int) a.vals _ (by exact P.out.ia) (by omega) (by omega) (by omega) (by omega) (by omega) HAO.out.nn (by omega) (by omega)).mono ?_
    rw [Int.toNat_natCast, ← hx]
    rintro e w4 ⟨rfl, hb⟩
    replace P := Lib.hid (P.out.below hb)
    clear hb
    try clear hHeld
    clear f0 f1 f2 g0 g1 g2 hlf hlg
    obtain ⟨f0, f1, f2, g0, g1, g2, hlf, hlg⟩ := P.out.cells
    clear hx
    by_cases q1 : x = v
    case neg =>
      have d1 : (x == v) = false := by simpa using q1
      have FIN := Lib.hid (show ¬ FitQ a b t 0 from fun h => q1 (FQ.out.1 h).1)
      clear q1
      have bw := P.out.bw
      go_wp2_with fail
      go_ret
      exact RetQ.no FIN.out bw
    case pos =>
      have d1 : (x == v) = true := by simpa using q1
      have Q1 := Lib.hid q1
      clear q1
      by_cases q2 : t < F
      case pos =>
        have d2 : decide ((t : Int) < (F : Int)) = true := by simpa using q2
        have d3 : decide (t < F) = true := by simpa using q2
        have FIN := Lib.hid (FQ.out.2 ⟨Q1.out, .inl q2⟩)
        clear q2
        have bw := P.out.bw
        go_wp2_with fail
        go_ret
        exact RetQ.yes FIN.out bw
      case neg =>
        have d2 : decide ((t : Int) < (F : Int)) = false := by simpa using q2
        have d3 : decide (t < F) = false := by simpa using q2
        have Q2 := Lib.hid q2
        clear q2
        by_cases q3 : v = inf
        case pos =>
          have d4 : (v == 4611686018427387904) = true := by unfold inf at q3; simpa using q3
          have FIN := Lib.hid (FQ.out.2 ⟨Q1.out, .inr (.inl q3)⟩)
          clear q3
          have bw := P.out.bw
          go_wp2_with fail
          go_ret
          exact RetQ.yes FIN.out bw
        case neg =>
          have d4 : (v == 4611686018427387904) = false := by unfold inf at q3; simpa using q3
          have FIN := Lib.hid (show FitQ a b t 0 ↔ fa = true ∧ fb = true ∧ ga = gb from by
            rw [FQ.out, ← TT.out]
            exact ⟨fun h => (h.2.resolve_left Q2.out).resolve_left q3, fun h => ⟨Q1.out, .inr (.inr h)⟩⟩)
          clear q3
          have bw := P.out.bw
          cases fa
          case false =>
            go_wp2_with fail
            go_ret
            exact RetQ.no (fun h => by have := (FIN.out.1 h).1; cases this) bw
          case true =>
            cases fb
            case false =>
              go_wp2_with fail
              go_ret
              exact RetQ.no (fun h => by have := (FIN.out.1 h).2.1; cases this) bw
            case true =>
              by_cases q5 : ga = gb
              case pos =>
                have d5 : (ga == gb) = true := by simpa using q5
                have Q5 := Lib.hid q5
                clear q5
                go_wp2_with fail
                go_ret
                exact RetQ.yes (FIN.out.2 ⟨by first | rfl | trivial, by first | rfl | trivial, Q5.out⟩) bw
              case neg =>
                have d5 : (ga == gb) = false := by simpa using q5
                have Q5 := Lib.hid q5
                clear q5
                go_wp2_with fail
                go_ret
                exact RetQ.no (fun h => Q5.out (FIN.out.1 h).2.2) bw
  case neg =>
    have ds0 : (s == 0) = false := by simpa using hs0
    have S0 := Lib.hid hs0
    clear hs0
    by_cases hs1 : 1 ≤ s
    case neg =>
      have d1 : decide (1 ≤ s) = false := by simpa using hs1
      have d2 : decide (s ≥ 1) = false := by simpa using hs1
      have FIN := Lib.hid (show ¬ FitQ a b t s from by
        rintro (h | h)
        · exact S0.out h.2
        · have h1 := h.2.1; have h2 := S0.out; omega)
      clear hs1
      go_upto_region 8 with fail
      have P := Lib.hid P.out.drew
      rename World => wq
      clear f0 f1 f2 g0 g1 g2 hlf hlg
      obtain ⟨f0, f1, f2, g0, g1, g2, hlf, hlg⟩ := P.out.cells
      refine wp_region_held_drew (S := (fun w' => w'.cell? ⟨w.heap.size, 0, none⟩ = some (.slice A n c) ∧ w'.cell? ⟨w.heap.size, 1, none⟩ = some (.int .i64 a.per) ∧ w'.cell? ⟨w.heap.size, 2, none⟩ = some (.int .i64 a.inc) ∧ w'.cell? ⟨w.heap.size + 1, 0, none⟩ = some (.slice B m d) ∧ w'.cell? ⟨w.heap.size + 1, 1, none⟩ = some (.int .i64 b.per) ∧ w'.cell? ⟨w.heap.size + 1, 2, none⟩ = some (.int .i64 b.inc))) (by kernel_rfl) (by exact ⟨f0, f1, f2, g0, g1, g2⟩) (fun hHeld => ?_)
      generalize hwd : wq.drew = wd at *
      clear hwd
      refine wpAnyH_take (i := 0) (oi := _) (v := ?_) (by simp only [g8a, g8z]; rfl) (by kernel_rfl) (by kernel_rfl) (by kernel_rfl) (by exact fun _ _ _ h => h) (Or.inl ⟨by rfl, ?_⟩) (by assumption) ?_
      rotate_left 1
      · (intro w hSw; (try dsimp only at hSw); go_simp; try with_reducible rfl)
      all_goals ((try simp only [Act.put]); try simp only [g8b, g8c, g8d])
      refine wpAnyH_take (i := 1) (oi := _) (v := ?_) (by simp only [g8a, g8s, g8z]; rfl) (by kernel_rfl) (by kernel_rfl) (by kernel_rfl) (by exact fun _ _ _ h => h) (Or.inl ⟨by rfl, ?_⟩) (by assumption) ?_
      rotate_left 1
      · (intro w hSw; (try dsimp only at hSw); go_simp; try with_reducible rfl)
      all_goals ((try simp only [Act.put]); try simp only [g8b, g8c, g8d])
      refine wpAnyH_take (i := 2) (oi := _) (v := ?_) (by simp only [g8a, g8s, g8z]; rfl) (by kernel_rfl) (by kernel_rfl) (by kernel_rfl) (by exact fun _ _ _ h => h) (Or.inl ⟨by rfl, ?_⟩) (by assumption) ?_
      rotate_left 1
      · (intro w hSw; (try dsimp only at hSw); go_simp; try with_reducible rfl)
      all_goals ((try simp only [Act.put]); try simp only [g8b, g8c, g8d])
      refine wpAnyH_take (i := 3) (oi := _) (v := undef) (by simp only [g8a, g8s, g8z]; rfl) (by kernel_rfl) (by kernel_rfl) (by kernel_rfl) (by exact fun _ _ _ h => h) (Or.inr ⟨by rfl, rfl⟩) (by assumption) ?_
      (try simp only [Act.put]); try simp only [g8b, g8c, g8d]
      refine wpAnyH_take (i := 4) (oi := _) (v := undef) (by simp only [g8a, g8s, g8z]; rfl) (by kernel_rfl) (by kernel_rfl) (by kernel_rfl) (by exact fun _ _ _ h => h) (Or.inr ⟨by rfl, rfl⟩) (by assumption) ?_
      (try simp only [Act.put]); try simp only [g8b, g8c, g8d]
      refine wpAnyH_take (i := 5) (oi := _) (v := undef) (by simp only [g8a, g8s, g8z]; rfl) (by kernel_rfl) (by kernel_rfl) (by kernel_rfl) (by exact fun _ _ _ h => h) (Or.inr ⟨by rfl, rfl⟩) (by assumption) ?_
      (try simp only [Act.put]); try simp only [g8b, g8c, g8d]
      refine wpAnyH_take (i := 6) (oi := _) (v := ?_) (by simp only [g8a, g8s, g8z]; rfl) (by kernel_rfl) (by kernel_rfl) (by kernel_rfl) (by exact fun _ _ _ h => h) (Or.inl ⟨by rfl, ?_⟩) (by assumption) ?_
      rotate_left 1
      · (intro w hSw; (try dsimp only at hSw); go_simp; try with_reducible rfl)
      all_goals ((try simp only [Act.put]); try simp only [g8b, g8c, g8d])
      refine wpAnyH_take (i := 7) (oi := _) (v := ?_) (by simp only [g8a, g8s, g8z]; rfl) (by kernel_rfl) (by kernel_rfl) (by kernel_rfl) (by exact fun _ _ _ h => h) (Or.inl ⟨by rfl, ?_⟩) (by assumption) ?_
      rotate_left 1
      · (intro w hSw; (try dsimp only at hSw); go_simp; try with_reducible rfl)
      all_goals ((try simp only [Act.put]); try simp only [g8b, g8c, g8d])
      refine wpAnyH_take (i := 8) (oi := _) (v := undef) (by simp only [g8a, g8s, g8z]; rfl) (by kernel_rfl) (by kernel_rfl) (by kernel_rfl) (by exact fun _ _ _ h => h) (Or.inr ⟨by rfl, rfl⟩) (by assumption) ?_
      (try simp only [Act.put]); try simp only [g8b, g8c, g8d]
      refine wpAnyH_take (i := 9) (oi := _) (v := undef) (by simp only [g8a, g8s, g8z]; rfl) (by kernel_rfl) (by kernel_rfl) (by kernel_rfl) (by exact fun _ _ _ h => h) (Or.inr ⟨by rfl, rfl⟩) (by assumption) ?_
      (try simp only [Act.put]); try simp only [g8b, g8c, g8d]
      refine wpAnyH_take (i := 10) (oi := _) (v := undef) (by simp only [g8a, g8s, g8z]; rfl) (by kernel_rfl) (by kernel_rfl) (by kernel_rfl) (by exact fun _ _ _ h => h) (Or.inr ⟨by rfl, rfl⟩) (by assumption) ?_
      (try simp only [Act.put]); try simp only [g8b, g8c, g8d]
      refine wpAnyH_take (i := 11) (oi := _) (v := undef) (by simp only [g8a, g8s, g8z]; rfl) (by kernel_rfl) (by kernel_rfl) (by kernel_rfl) (by exact fun _ _ _ h => h) (Or.inr ⟨by rfl, rfl⟩) (by assumption) ?_
      (try simp only [Act.put]); try simp only [g8b, g8c, g8d]
      refine wpAnyH_take (i := 12) (oi := _) (v := undef) (by simp only [g8a, g8s, g8z]; rfl) (by kernel_rfl) (by kernel_rfl) (by kernel_rfl) (by exact fun _ _ _ h => h) (Or.inr ⟨by rfl, rfl⟩) (by assumption) ?_
      (try simp only [Act.put]); try simp only [g8b, g8c, g8d]
      refine wpAnyH_take (i := 13) (oi := _) (v := undef) (by simp only [g8a, g8s, g8z]; rfl) (by kernel_rfl) (by kernel_rfl) (by kernel_rfl) (by exact fun _ _ _ h => h) (Or.inr ⟨by rfl, rfl⟩) (by assumption) ?_
      (try simp only [Act.put]); try simp only [g8b, g8c, g8d]
      refine wpAnyH_take (i := 14) (oi := _) (v := undef) (by simp only [g8a, g8s, g8z]; rfl) (by kernel_rfl) (by kernel_rfl) (by kernel_rfl) (by exact fun _ _ _ h => h) (Or.inr ⟨by rfl, rfl⟩) (by assumption) ?_
      (try simp only [Act.put]); try simp only [g8b, g8c, g8d]
      refine wpAnyH_take (i := 15) (oi := _) (v := undef) (by simp only [g8a, g8s, g8z]; rfl) (by kernel_rfl) (by kernel_rfl) (by kernel_rfl) (by exact fun _ _ _ h => h) (Or.inr ⟨by rfl, rfl⟩) (by assumption) ?_
      (try simp only [Act.put]); try simp only [g8b, g8c, g8d]
      refine wpAnyH_take (i := 16) (oi := _) (v := undef) (by simp only [g8a, g8s, g8z]; rfl) (by kernel_rfl) (by kernel_rfl) (by kernel_rfl) (by exact fun _ _ _ h => h) (Or.inr ⟨by rfl, rfl⟩) (by assumption) ?_
      (try simp only [Act.put]); try simp only [g8b, g8c, g8d]
      refine wpAnyH_take (i := 17) (oi := _) (v := undef) (by simp only [g8a, g8s, g8z]; rfl) (by kernel_rfl) (by kernel_rfl) (by kernel_rfl) (by exact fun _ _ _ h => h) (Or.inr ⟨by rfl, rfl⟩) (by assumption) ?_
      (try simp only [Act.put]); try simp only [g8b, g8c, g8d]
      refine wpAnyH_take (i := 18) (oi := _) (v := undef) (by simp only [g8a, g8s, g8z]; rfl) (by kernel_rfl) (by kernel_rfl) (by kernel_rfl) (by exact fun _ _ _ h => h) (Or.inr ⟨by rfl, rfl⟩) (by assumption) ?_
      (try simp only [Act.put]); try simp only [g8b, g8c, g8d]
      refine wpAnyH_take (i := 19) (oi := _) (v := ?_) (by simp only [g8a, g8s, g8z]; rfl) (by kernel_rfl) (by kernel_rfl) (by kernel_rfl) (by exact fun _ _ _ h => h) (Or.inl ⟨by rfl, ?_⟩) (by assumption) ?_
      rotate_left 1
      · (intro w hSw; (try dsimp only at hSw); go_simp; try with_reducible rfl)
      all_goals ((try simp only [Act.put]); try simp only [g8b, g8c, g8d])
      refine wpAnyH_take (i := 20) (oi := _) (v := ?_) (by simp only [g8a, g8s, g8z]; rfl) (by kernel_rfl) (by kernel_rfl) (by kernel_rfl) (by exact fun _ _ _ h => h) (Or.inl ⟨by rfl, ?_⟩) (by assumption) ?_
      rotate_left 1
      · (intro w hSw; (try dsimp only at hSw); go_simp; try with_reducible rfl)
      all_goals ((try simp only [Act.put]); try simp only [g8b, g8c, g8d])
      refine wpAnyH_take (i := 21) (oi := _) (v := undef) (by simp only [g8a, g8s, g8z]; rfl) (by kernel_rfl) (by kernel_rfl) (by kernel_rfl) (by exact fun _ _ _ h => h) (Or.inr ⟨by rfl, rfl⟩) (by assumption) ?_
      (try simp only [Act.put]); try simp only [g8b, g8c, g8d]
      refine wpAnyH_take (i := 22) (oi := _) (v := undef) (by simp only [g8a, g8s, g8z]; rfl) (by kernel_rfl) (by kernel_rfl) (by kernel_rfl) (by exact fun _ _ _ h => h) (Or.inr ⟨by rfl, rfl⟩) (by assumption) ?_
      (try simp only [Act.put]); try simp only [g8b, g8c, g8d]
      refine wpAnyH_take (i := 23) (oi := _) (v := undef) (by simp only [g8a, g8s, g8z]; rfl) (by kernel_rfl) (by kernel_rfl) (by kernel_rfl) (by exact fun _ _ _ h => h) (Or.inr ⟨by rfl, rfl⟩) (by assumption) ?_
      (try simp only [Act.put]); try simp only [g8b, g8c, g8d]
      refine wpAnyH_take (i := 24) (oi := _) (v := undef) (by simp only [g8a, g8s, g8z]; rfl) (by kernel_rfl) (by kernel_rfl) (by kernel_rfl) (by exact fun _ _ _ h => h) (Or.inr ⟨by rfl, rfl⟩) (by assumption) ?_
      (try simp only [Act.put]); try simp only [g8b, g8c, g8d]
      refine wpAnyH_take (i := 25) (oi := _) (v := undef) (by simp only [g8a, g8s, g8z]; rfl) (by kernel_rfl) (by kernel_rfl) (by kernel_rfl) (by exact fun _ _ _ h => h) (Or.inr ⟨by rfl, rfl⟩) (by assumption) ?_
      (try simp only [Act.put]); try simp only [g8b, g8c, g8d]
      refine wpAnyH_take (i := 26) (oi := _) (v := undef) (by simp only [g8a, g8s, g8z]; rfl) (by kernel_rfl) (by kernel_rfl) (by kernel_rfl) (by exact fun _ _ _ h => h) (Or.inr ⟨by rfl, rfl⟩) (by assumption) ?_
      (try simp only [Act.put]); try simp only [g8b, g8c, g8d]
      refine wpAnyH_take (i := 27) (oi := _) (v := undef) (by simp only [g8a, g8s, g8z]; rfl) (by kernel_rfl) (by kernel_rfl) (by kernel_rfl) (by exact fun _ _ _ h => h) (Or.inr ⟨by rfl, rfl⟩) (by assumption) ?_
      (try simp only [Act.put]); try simp only [g8b, g8c, g8d]
      refine wpAnyH_take (i := 28) (oi := _) (v := undef) (by simp only [g8a, g8s, g8z]; rfl) (by kernel_rfl) (by kernel_rfl) (by kernel_rfl) (by exact fun _ _ _ h => h) (Or.inr ⟨by rfl, rfl⟩) (by assumption) ?_
      (try simp only [Act.put]); try simp only [g8b, g8c, g8d]
      refine wpAnyH_take (i := 29) (oi := _) (v := undef) (by simp only [g8a, g8s, g8z]; rfl) (by kernel_rfl) (by kernel_rfl) (by kernel_rfl) (by exact fun _ _ _ h => h) (Or.inr ⟨by rfl, rfl⟩) (by assumption) ?_
      (try simp only [Act.put]); try simp only [g8b, g8c, g8d]
      refine wpAnyH_take (i := 30) (oi := _) (v := undef) (by simp only [g8a, g8s, g8z]; rfl) (by kernel_rfl) (by kernel_rfl) (by kernel_rfl) (by exact fun _ _ _ h => h) (Or.inr ⟨by rfl, rfl⟩) (by assumption) ?_
      (try simp only [Act.put]); try simp only [g8b, g8c, g8d]
      refine wpAnyH_take (i := 31) (oi := _) (v := undef) (by simp only [g8a, g8s, g8z]; rfl) (by kernel_rfl) (by kernel_rfl) (by kernel_rfl) (by exact fun _ _ _ h => h) (Or.inr ⟨by rfl, rfl⟩) (by assumption) ?_
      (try simp only [Act.put]); try simp only [g8b, g8c, g8d]
      refine wpAnyH_take (i := 32) (oi := _) (v := ?_) (by simp only [g8a, g8s, g8z]; rfl) (by kernel_rfl) (by kernel_rfl) (by kernel_rfl) (by exact fun _ _ _ h => h) (Or.inl ⟨by rfl, ?_⟩) (by assumption) ?_
      rotate_left 1
      · (intro w hSw; (try dsimp only at hSw); go_simp; try with_reducible rfl)
      all_goals ((try simp only [Act.put]); try simp only [g8b, g8c, g8d])
      refine wpAnyH_take (i := 33) (oi := _) (v := ?_) (by simp only [g8a, g8s, g8z]; rfl) (by kernel_rfl) (by kernel_rfl) (by kernel_rfl) (by exact fun _ _ _ h => h) (Or.inl ⟨by rfl, ?_⟩) (by assumption) ?_
      rotate_left 1
      · (intro w hSw; (try dsimp only at hSw); go_simp; try with_reducible rfl)
      all_goals ((try simp only [Act.put]); try simp only [g8b, g8c, g8d])
      refine wpAnyH_done (by kernel_rfl) ?_ _
      clear hHeld
      clear f0 f1 f2 g0 g1 g2 hlf hlg
      have bw := P.out.bw
      go_wp2_with fail
      go_ret
      exact RetQ.no FIN.out bw
    case pos =>
    have d1 : decide (1 ≤ s) = true := by simpa using hs1
    have d2 : decide (s ≥ 1) = true := by simpa using hs1
    by_cases hs2 : s < (t : Int)
    case neg =>
      have d3 : decide (s < (t : Int)) = false := by simpa using hs2
      have FIN := Lib.hid (show ¬ FitQ a b t s from by
        rintro (h | ⟨_, _, h | h⟩)
        · exact S0.out h.2
        · have := h.1; omega
        · have := h.2.1; omega)
      clear hs1 hs2
      go_upto_region 8 with fail
      have P := Lib.hid P.out.drew
      rename World => wq
      clear f0 f1 f2 g0 g1 g2 hlf hlg
      obtain ⟨f0, f1, f2, g0, g1, g2, hlf, hlg⟩ := P.out.cells
      refine wp_region_held_drew (S := (fun w' => w'.cell? ⟨w.heap.size, 0, none⟩ = some (.slice A n c) ∧ w'.cell? ⟨w.heap.size, 1, none⟩ = some (.int .i64 a.per) ∧ w'.cell? ⟨w.heap.size, 2, none⟩ = some (.int .i64 a.inc) ∧ w'.cell? ⟨w.heap.size + 1, 0, none⟩ = some (.slice B m d) ∧ w'.cell? ⟨w.heap.size + 1, 1, none⟩ = some (.int .i64 b.per) ∧ w'.cell? ⟨w.heap.size + 1, 2, none⟩ = some (.int .i64 b.inc))) (by kernel_rfl) (by exact ⟨f0, f1, f2, g0, g1, g2⟩) (fun hHeld => ?_)
      generalize hwd : wq.drew = wd at *
      clear hwd
      refine wpAnyH_take (i := 0) (oi := _) (v := ?_) (by simp only [g8a, g8z]; rfl) (by kernel_rfl) (by kernel_rfl) (by kernel_rfl) (by exact fun _ _ _ h => h) (Or.inl ⟨by rfl, ?_⟩) (by assumption) ?_
      rotate_left 1
      · (intro w hSw; (try dsimp only at hSw); go_simp; try with_reducible rfl)
      all_goals ((try simp only [Act.put]); try simp only [g8b, g8c, g8d])
      refine wpAnyH_take (i := 1) (oi := _) (v := ?_) (by simp only [g8a, g8s, g8z]; rfl) (by kernel_rfl) (by kernel_rfl) (by kernel_rfl) (by exact fun _ _ _ h => h) (Or.inl ⟨by rfl, ?_⟩) (by assumption) ?_
      rotate_left 1
      · (intro w hSw; (try dsimp only at hSw); go_simp; try with_reducible rfl)
      all_goals ((try simp only [Act.put]); try simp only [g8b, g8c, g8d])
      refine wpAnyH_take (i := 2) (oi := _) (v := ?_) (by simp only [g8a, g8s, g8z]; rfl) (by kernel_rfl) (by kernel_rfl) (by kernel_rfl) (by exact fun _ _ _ h => h) (Or.inl ⟨by rfl, ?_⟩) (by assumption) ?_
      rotate_left 1
      · (intro w hSw; (try dsimp only at hSw); go_simp; try with_reducible rfl)
      all_goals ((try simp only [Act.put]); try simp only [g8b, g8c, g8d])
      refine wpAnyH_take (i := 3) (oi := _) (v := ?_) (by simp only [g8a, g8s, g8z]; rfl) (by kernel_rfl) (by kernel_rfl) (by kernel_rfl) (by exact fun _ _ _ h => h) (Or.inl ⟨by rfl, ?_⟩) (by assumption) ?_
      rotate_left 1
      · (intro w hSw; (try dsimp only at hSw); go_simp; try with_reducible rfl)
      all_goals ((try simp only [Act.put]); try simp only [g8b, g8c, g8d])
      refine wpAnyH_take (i := 4) (oi := _) (v := ?_) (by simp only [g8a, g8s, g8z]; rfl) (by kernel_rfl) (by kernel_rfl) (by kernel_rfl) (by exact fun _ _ _ h => h) (Or.inl ⟨by rfl, ?_⟩) (by assumption) ?_
      rotate_left 1
      · (intro w hSw; (try dsimp only at hSw); go_simp; try with_reducible rfl)
      all_goals ((try simp only [Act.put]); try simp only [g8b, g8c, g8d])
      refine wpAnyH_take (i := 5) (oi := _) (v := ?_) (by simp only [g8a, g8s, g8z]; rfl) (by kernel_rfl) (by kernel_rfl) (by kernel_rfl) (by exact fun _ _ _ h => h) (Or.inl ⟨by rfl, ?_⟩) (by assumption) ?_
      rotate_left 1
      · (intro w hSw; (try dsimp only at hSw); go_simp; try with_reducible rfl)
      all_goals ((try simp only [Act.put]); try simp only [g8b, g8c, g8d])
      refine wpAnyH_take (i := 6) (oi := _) (v := ?_) (by simp only [g8a, g8s, g8z]; rfl) (by kernel_rfl) (by kernel_rfl) (by kernel_rfl) (by exact fun _ _ _ h => h) (Or.inl ⟨by rfl, ?_⟩) (by assumption) ?_
      rotate_left 1
      · (intro w hSw; (try dsimp only at hSw); go_simp; try with_reducible rfl)
      all_goals ((try simp only [Act.put]); try simp only [g8b, g8c, g8d])
      refine wpAnyH_take (i := 7) (oi := _) (v := ?_) (by simp only [g8a, g8s, g8z]; rfl) (by kernel_rfl) (by kernel_rfl) (by kernel_rfl) (by exact fun _ _ _ h => h) (Or.inl ⟨by rfl, ?_⟩) (by assumption) ?_
      rotate_left 1
      · (intro w hSw; (try dsimp only at hSw); go_simp; try with_reducible rfl)
      all_goals ((try simp only [Act.put]); try simp only [g8b, g8c, g8d])
      refine wpAnyH_take (i := 8) (oi := _) (v := undef) (by simp only [g8a, g8s, g8z]; rfl) (by kernel_rfl) (by kernel_rfl) (by kernel_rfl) (by exact fun _ _ _ h => h) (Or.inr ⟨by rfl, rfl⟩) (by assumption) ?_
      (try simp only [Act.put]); try simp only [g8b, g8c, g8d]
      refine wpAnyH_take (i := 9) (oi := _) (v := undef) (by simp only [g8a, g8s, g8z]; rfl) (by kernel_rfl) (by kernel_rfl) (by kernel_rfl) (by exact fun _ _ _ h => h) (Or.inr ⟨by rfl, rfl⟩) (by assumption) ?_
      (try simp only [Act.put]); try simp only [g8b, g8c, g8d]
      refine wpAnyH_take (i := 10) (oi := _) (v := undef) (by simp only [g8a, g8s, g8z]; rfl) (by kernel_rfl) (by kernel_rfl) (by kernel_rfl) (by exact fun _ _ _ h => h) (Or.inr ⟨by rfl, rfl⟩) (by assumption) ?_
      (try simp only [Act.put]); try simp only [g8b, g8c, g8d]
      refine wpAnyH_take (i := 11) (oi := _) (v := undef) (by simp only [g8a, g8s, g8z]; rfl) (by kernel_rfl) (by kernel_rfl) (by kernel_rfl) (by exact fun _ _ _ h => h) (Or.inr ⟨by rfl, rfl⟩) (by assumption) ?_
      (try simp only [Act.put]); try simp only [g8b, g8c, g8d]
      refine wpAnyH_take (i := 12) (oi := _) (v := undef) (by simp only [g8a, g8s, g8z]; rfl) (by kernel_rfl) (by kernel_rfl) (by kernel_rfl) (by exact fun _ _ _ h => h) (Or.inr ⟨by rfl, rfl⟩) (by assumption) ?_
      (try simp only [Act.put]); try simp only [g8b, g8c, g8d]
      refine wpAnyH_take (i := 13) (oi := _) (v := undef) (by simp only [g8a, g8s, g8z]; rfl) (by kernel_rfl) (by kernel_rfl) (by kernel_rfl) (by exact fun _ _ _ h => h) (Or.inr ⟨by rfl, rfl⟩) (by assumption) ?_
      (try simp only [Act.put]); try simp only [g8b, g8c, g8d]
      refine wpAnyH_take (i := 14) (oi := _) (v := undef) (by simp only [g8a, g8s, g8z]; rfl) (by kernel_rfl) (by kernel_rfl) (by kernel_rfl) (by exact fun _ _ _ h => h) (Or.inr ⟨by rfl, rfl⟩) (by assumption) ?_
      (try simp only [Act.put]); try simp only [g8b, g8c, g8d]
      refine wpAnyH_take (i := 15) (oi := _) (v := undef) (by simp only [g8a, g8s, g8z]; rfl) (by kernel_rfl) (by kernel_rfl) (by kernel_rfl) (by exact fun _ _ _ h => h) (Or.inr ⟨by rfl, rfl⟩) (by assumption) ?_
      (try simp only [Act.put]); try simp only [g8b, g8c, g8d]
      refine wpAnyH_take (i := 16) (oi := _) (v := undef) (by simp only [g8a, g8s, g8z]; rfl) (by kernel_rfl) (by kernel_rfl) (by kernel_rfl) (by exact fun _ _ _ h => h) (Or.inr ⟨by rfl, rfl⟩) (by assumption) ?_
      (try simp only [Act.put]); try simp only [g8b, g8c, g8d]
      refine wpAnyH_take (i := 17) (oi := _) (v := undef) (by simp only [g8a, g8s, g8z]; rfl) (by kernel_rfl) (by kernel_rfl) (by kernel_rfl) (by exact fun _ _ _ h => h) (Or.inr ⟨by rfl, rfl⟩) (by assumption) ?_
      (try simp only [Act.put]); try simp only [g8b, g8c, g8d]
      refine wpAnyH_take (i := 18) (oi := _) (v := undef) (by simp only [g8a, g8s, g8z]; rfl) (by kernel_rfl) (by kernel_rfl) (by kernel_rfl) (by exact fun _ _ _ h => h) (Or.inr ⟨by rfl, rfl⟩) (by assumption) ?_
      (try simp only [Act.put]); try simp only [g8b, g8c, g8d]
      refine wpAnyH_take (i := 19) (oi := _) (v := ?_) (by simp only [g8a, g8s, g8z]; rfl) (by kernel_rfl) (by kernel_rfl) (by kernel_rfl) (by exact fun _ _ _ h => h) (Or.inl ⟨by rfl, ?_⟩) (by assumption) ?_
      rotate_left 1
      · (intro w hSw; (try dsimp only at hSw); go_simp; try with_reducible rfl)
      all_goals ((try simp only [Act.put]); try simp only [g8b, g8c, g8d])
      refine wpAnyH_take (i := 20) (oi := _) (v := ?_) (by simp only [g8a, g8s, g8z]; rfl) (by kernel_rfl) (by kernel_rfl) (by kernel_rfl) (by exact fun _ _ _ h => h) (Or.inl ⟨by rfl, ?_⟩) (by assumption) ?_
      rotate_left 1
      · (intro w hSw; (try dsimp only at hSw); go_simp; try with_reducible rfl)
      all_goals ((try simp only [Act.put]); try simp only [g8b, g8c, g8d])
      refine wpAnyH_take (i := 21) (oi := _) (v := undef) (by simp only [g8a, g8s, g8z]; rfl) (by kernel_rfl) (by kernel_rfl) (by kernel_rfl) (by exact fun _ _ _ h => h) (Or.inr ⟨by rfl, rfl⟩) (by assumption) ?_
      (try simp only [Act.put]); try simp only [g8b, g8c, g8d]
      refine wpAnyH_take (i := 22) (oi := _) (v := undef) (by simp only [g8a, g8s, g8z]; rfl) (by kernel_rfl) (by kernel_rfl) (by kernel_rfl) (by exact fun _ _ _ h => h) (Or.inr ⟨by rfl, rfl⟩) (by assumption) ?_
      (try simp only [Act.put]); try simp only [g8b, g8c, g8d]
      refine wpAnyH_take (i := 23) (oi := _) (v := undef) (by simp only [g8a, g8s, g8z]; rfl) (by kernel_rfl) (by kernel_rfl) (by kernel_rfl) (by exact fun _ _ _ h => h) (Or.inr ⟨by rfl, rfl⟩) (by assumption) ?_
      (try simp only [Act.put]); try simp only [g8b, g8c, g8d]
      refine wpAnyH_take (i := 24) (oi := _) (v := undef) (by simp only [g8a, g8s, g8z]; rfl) (by kernel_rfl) (by kernel_rfl) (by kernel_rfl) (by exact fun _ _ _ h => h) (Or.inr ⟨by rfl, rfl⟩) (by assumption) ?_
      (try simp only [Act.put]); try simp only [g8b, g8c, g8d]
      refine wpAnyH_take (i := 25) (oi := _) (v := undef) (by simp only [g8a, g8s, g8z]; rfl) (by kernel_rfl) (by kernel_rfl) (by kernel_rfl) (by exact fun _ _ _ h => h) (Or.inr ⟨by rfl, rfl⟩) (by assumption) ?_
      (try simp only [Act.put]); try simp only [g8b, g8c, g8d]
      refine wpAnyH_take (i := 26) (oi := _) (v := undef) (by simp only [g8a, g8s, g8z]; rfl) (by kernel_rfl) (by kernel_rfl) (by kernel_rfl) (by exact fun _ _ _ h => h) (Or.inr ⟨by rfl, rfl⟩) (by assumption) ?_
      (try simp only [Act.put]); try simp only [g8b, g8c, g8d]
      refine wpAnyH_take (i := 27) (oi := _) (v := undef) (by simp only [g8a, g8s, g8z]; rfl) (by kernel_rfl) (by kernel_rfl) (by kernel_rfl) (by exact fun _ _ _ h => h) (Or.inr ⟨by rfl, rfl⟩) (by assumption) ?_
      (try simp only [Act.put]); try simp only [g8b, g8c, g8d]
      refine wpAnyH_take (i := 28) (oi := _) (v := undef) (by simp only [g8a, g8s, g8z]; rfl) (by kernel_rfl) (by kernel_rfl) (by kernel_rfl) (by exact fun _ _ _ h => h) (Or.inr ⟨by rfl, rfl⟩) (by assumption) ?_
      (try simp only [Act.put]); try simp only [g8b, g8c, g8d]
      refine wpAnyH_take (i := 29) (oi := _) (v := undef) (by simp only [g8a, g8s, g8z]; rfl) (by kernel_rfl) (by kernel_rfl) (by kernel_rfl) (by exact fun _ _ _ h => h) (Or.inr ⟨by rfl, rfl⟩) (by assumption) ?_
      (try simp only [Act.put]); try simp only [g8b, g8c, g8d]
      refine wpAnyH_take (i := 30) (oi := _) (v := undef) (by simp only [g8a, g8s, g8z]; rfl) (by kernel_rfl) (by kernel_rfl) (by kernel_rfl) (by exact fun _ _ _ h => h) (Or.inr ⟨by rfl, rfl⟩) (by assumption) ?_
      (try simp only [Act.put]); try simp only [g8b, g8c, g8d]
      refine wpAnyH_take (i := 31) (oi := _) (v := undef) (by simp only [g8a, g8s, g8z]; rfl) (by kernel_rfl) (by kernel_rfl) (by kernel_rfl) (by exact fun _ _ _ h => h) (Or.inr ⟨by rfl, rfl⟩) (by assumption) ?_
      (try simp only [Act.put]); try simp only [g8b, g8c, g8d]
      refine wpAnyH_take (i := 32) (oi := _) (v := ?_) (by simp only [g8a, g8s, g8z]; rfl) (by kernel_rfl) (by kernel_rfl) (by kernel_rfl) (by exact fun _ _ _ h => h) (Or.inl ⟨by rfl, ?_⟩) (by assumption) ?_
      rotate_left 1
      · (intro w hSw; (try dsimp only at hSw); go_simp; try with_reducible rfl)
      all_goals ((try simp only [Act.put]); try simp only [g8b, g8c, g8d])
      refine wpAnyH_take (i := 33) (oi := _) (v := ?_) (by simp only [g8a, g8s, g8z]; rfl) (by kernel_rfl) (by kernel_rfl) (by kernel_rfl) (by exact fun _ _ _ h => h) (Or.inl ⟨by rfl, ?_⟩) (by assumption) ?_
      rotate_left 1
      · (intro w hSw; (try dsimp only at hSw); go_simp; try with_reducible rfl)
      all_goals ((try simp only [Act.put]); try simp only [g8b, g8c, g8d])
      refine wpAnyH_done (by kernel_rfl) ?_ _
      clear hHeld
      clear f0 f1 f2 g0 g1 g2 hlf hlg
      have bw := P.out.bw
      go_wp2_with fail
      go_ret
      exact RetQ.no FIN.out bw
    case pos =>
    have d3 : decide (s < (t : Int)) = true := by simpa using hs2
    obtain ⟨S, rfl⟩ := Int.eq_ofNat_of_zero_le (show 0 ≤ s by omega)
    have d4 : decide (1 ≤ S) = true := by simp; omega
    have d5 : decide (S < t) = true := by simp; omega
    have FQ := Lib.hid (show FitQ a b t (S : Int) ↔ pl (b.at S) (b.at (t - S)) = v ∧ (t < F ∨ cst b ≤ t - S) from by
      rw [HFF.out, HV.out]
      constructor
      · rintro (h | ⟨_, _, h | h⟩)
        · exact absurd h.2 S0.out
        · have := h.1; rw [Int.toNat_natCast] at this; omega
        · rw [Int.toNat_natCast] at h; exact h.2.2
      · rintro ⟨h1, h2⟩
        exact .inr ⟨T1.out, by omega, by rw [Int.toNat_natCast]; exact .inr ⟨by omega, by omega, h1, h2⟩⟩)
    obtain ⟨u, hu⟩ : ∃ u, u = t - S := ⟨_, rfl⟩
    have hu2 : u ≤ 2000 := by omega
    have hS2 : S ≤ 2000 := by omega
    have e1 : IntKind.i64.wrap ((t : Int) - (S : Int)) = (u : Int) := by rw [IntWalk.i64_in _ (by omega)]; omega
    have e2 : (t : Int) - (S : Int) = (u : Int) := by omega
    have e3 : IntKind.i64.wrap (u : Int) = (u : Int) := IntWalk.i64_in _ (by omega)
    obtain ⟨x, hx⟩ : ∃ x, x = b.at S := ⟨_, rfl⟩
    obtain ⟨y, hy⟩ : ∃ y, y = b.at u := ⟨_, rfl⟩
    obtain ⟨pv, hpv⟩ : ∃ pv, pv = pl x y := ⟨_, rfl⟩
    have NX := Lib.hid (show 0 ≤ x ∧ (x = inf ∨ x ≤ 1152921504606846976) from by rw [hx]; exact at_near HBO.out (by omega))
    have NY := Lib.hid (show 0 ≤ y ∧ (y = inf ∨ y ≤ 1152921504606846976) from by rw [hy]; exact at_near HBO.out (by omega))
    rw [← hu, ← hx, ← hy, ← hpv] at FQ
    have HX := Lib.hid hx; have HY := Lib.hid hy; have HP := Lib.hid hpv
    have SB := Lib.hid (show (cst b : Int) = (m : Int) - b.per from by unfold cst; rw [HLM.out]; omega)
    clear hu hx hy hpv hs1 hs2
    go_upto_region 8 with fail
    have P := Lib.hid P.out.drew
    rename World => wq
    clear f0 f1 f2 g0 g1 g2 hlf hlg
    obtain ⟨f0, f1, f2, g0, g1, g2, hlf, hlg⟩ := P.out.cells
    refine wp_region_held_drew (S := (fun w' => w'.cell? ⟨w.heap.size, 0, none⟩ = some (.slice A n c) ∧ w'.cell? ⟨w.heap.size, 1, none⟩ = some (.int .i64 a.per) ∧ w'.cell? ⟨w.heap.size, 2, none⟩ = some (.int .i64 a.inc) ∧ w'.cell? ⟨w.heap.size + 1, 0, none⟩ = some (.slice B m d) ∧ w'.cell? ⟨w.heap.size + 1, 1, none⟩ = some (.int .i64 b.per) ∧ w'.cell? ⟨w.heap.size + 1, 2, none⟩ = some (.int .i64 b.inc))) (by kernel_rfl) (by exact ⟨f0, f1, f2, g0, g1, g2⟩) (fun hHeld => ?_)
    generalize hwd : wq.drew = wd at *
    clear hwd
    refine wpAnyH_take (i := 0) (oi := _) (v := ?_) (by simp only [g8a, g8z]; rfl) (by kernel_rfl) (by kernel_rfl) (by kernel_rfl) (by exact fun _ _ _ h => h) (Or.inl ⟨by rfl, ?_⟩) (by assumption) ?_
    rotate_left 1
    · (intro w hSw; (try dsimp only at hSw); go_simp; try with_reducible rfl)
    all_goals ((try simp only [Act.put]); try simp only [g8b, g8c, g8d])
    refine wpAnyH_take (i := 1) (oi := _) (v := ?_) (by simp only [g8a, g8s, g8z]; rfl) (by kernel_rfl) (by kernel_rfl) (by kernel_rfl) (by exact fun _ _ _ h => h) (Or.inl ⟨by rfl, ?_⟩) (by assumption) ?_
    rotate_left 1
    · (intro w hSw; (try dsimp only at hSw); go_simp; try with_reducible rfl)
    all_goals ((try simp only [Act.put]); try simp only [g8b, g8c, g8d])
    refine wpAnyH_take (i := 2) (oi := _) (v := ?_) (by simp only [g8a, g8s, g8z]; rfl) (by kernel_rfl) (by kernel_rfl) (by kernel_rfl) (by exact fun _ _ _ h => h) (Or.inl ⟨by rfl, ?_⟩) (by assumption) ?_
    rotate_left 1
    · (intro w hSw; (try dsimp only at hSw); go_simp; try with_reducible rfl)
    all_goals ((try simp only [Act.put]); try simp only [g8b, g8c, g8d])
    refine wpAnyH_take (i := 3) (oi := _) (v := ?_) (by simp only [g8a, g8s, g8z]; rfl) (by kernel_rfl) (by kernel_rfl) (by kernel_rfl) (by exact fun _ _ _ h => h) (Or.inl ⟨by rfl, ?_⟩) (by assumption) ?_
    rotate_left 1
    · (intro w hSw; (try dsimp only at hSw); go_simp; try with_reducible rfl)
    all_goals ((try simp only [Act.put]); try simp only [g8b, g8c, g8d])
    refine wpAnyH_take (i := 4) (oi := _) (v := ?_) (by simp only [g8a, g8s, g8z]; rfl) (by kernel_rfl) (by kernel_rfl) (by kernel_rfl) (by exact fun _ _ _ h => h) (Or.inl ⟨by rfl, ?_⟩) (by assumption) ?_
    rotate_left 1
    · (intro w hSw; (try dsimp only at hSw); go_simp; try with_reducible rfl)
    all_goals ((try simp only [Act.put]); try simp only [g8b, g8c, g8d])
    refine wpAnyH_take (i := 5) (oi := _) (v := ?_) (by simp only [g8a, g8s, g8z]; rfl) (by kernel_rfl) (by kernel_rfl) (by kernel_rfl) (by exact fun _ _ _ h => h) (Or.inl ⟨by rfl, ?_⟩) (by assumption) ?_
    rotate_left 1
    · (intro w hSw; (try dsimp only at hSw); go_simp; try with_reducible rfl)
    all_goals ((try simp only [Act.put]); try simp only [g8b, g8c, g8d])
    refine wpAnyH_take (i := 6) (oi := _) (v := ?_) (by simp only [g8a, g8s, g8z]; rfl) (by kernel_rfl) (by kernel_rfl) (by kernel_rfl) (by exact fun _ _ _ h => h) (Or.inl ⟨by rfl, ?_⟩) (by assumption) ?_
    rotate_left 1
    · (intro w hSw; (try dsimp only at hSw); go_simp; try with_reducible rfl)
    all_goals ((try simp only [Act.put]); try simp only [g8b, g8c, g8d])
    refine wpAnyH_take (i := 7) (oi := _) (v := ?_) (by simp only [g8a, g8s, g8z]; rfl) (by kernel_rfl) (by kernel_rfl) (by kernel_rfl) (by exact fun _ _ _ h => h) (Or.inl ⟨by rfl, ?_⟩) (by assumption) ?_
    rotate_left 1
    · (intro w hSw; (try dsimp only at hSw); go_simp; try with_reducible rfl)
    all_goals ((try simp only [Act.put]); try simp only [g8b, g8c, g8d])
    refine wpAnyH_take (i := 8) (oi := _) (v := ?_) (by simp only [g8a, g8s, g8z]; rfl) (by kernel_rfl) (by kernel_rfl) (by kernel_rfl) (by exact fun _ _ _ h => h) (Or.inl ⟨by rfl, ?_⟩) (by assumption) ?_
    rotate_left 1
    · (intro w hSw; (try dsimp only at hSw); go_simp; try with_reducible rfl)
    all_goals ((try simp only [Act.put]); try simp only [g8b, g8c, g8d])
    refine wpAnyH_take (i := 9) (oi := _) (v := ?_) (by simp only [g8a, g8s, g8z]; rfl) (by kernel_rfl) (by kernel_rfl) (by kernel_rfl) (by exact fun _ _ _ h => h) (Or.inl ⟨by rfl, ?_⟩) (by assumption) ?_
    rotate_left 1
    · (intro w hSw; (try dsimp only at hSw); go_simp; try with_reducible rfl)
    all_goals ((try simp only [Act.put]); try simp only [g8b, g8c, g8d])
    refine wpAnyH_take (i := 11) (oi := _) (v := ?_) (by simp only [g8a, g8s, g8z]; rfl) (by kernel_rfl) (by kernel_rfl) (by kernel_rfl) (by exact fun _ _ _ h => h) (Or.inl ⟨by rfl, ?_⟩) (by assumption) ?_
    rotate_left 1
    · (intro w hSw; (try dsimp only at hSw); go_simp; try with_reducible rfl)
    all_goals ((try simp only [Act.put]); try simp only [g8b, g8c, g8d])
    refine wpAnyH_take (i := 12) (oi := _) (v := ?_) (by simp only [g8a, g8s, g8z]; rfl) (by kernel_rfl) (by kernel_rfl) (by kernel_rfl) (by exact fun _ _ _ h => h) (Or.inl ⟨by rfl, ?_⟩) (by assumption) ?_
    rotate_left 1
    · (intro w hSw; (try dsimp only at hSw); go_simp; try with_reducible rfl)
    all_goals ((try simp only [Act.put]); try simp only [g8b, g8c, g8d])
    refine wpAnyH_take (i := 13) (oi := _) (v := ?_) (by simp only [g8a, g8s, g8z]; rfl) (by kernel_rfl) (by kernel_rfl) (by kernel_rfl) (by exact fun _ _ _ h => h) (Or.inl ⟨by rfl, ?_⟩) (by assumption) ?_
    rotate_left 1
    · (intro w hSw; (try dsimp only at hSw); go_simp; try with_reducible rfl)
    all_goals ((try simp only [Act.put]); try simp only [g8b, g8c, g8d])
    refine wpAnyH_take (i := 14) (oi := _) (v := ?_) (by simp only [g8a, g8s, g8z]; rfl) (by kernel_rfl) (by kernel_rfl) (by kernel_rfl) (by exact fun _ _ _ h => h) (Or.inl ⟨by rfl, ?_⟩) (by assumption) ?_
    rotate_left 1
    · (intro w hSw; (try dsimp only at hSw); go_simp; try with_reducible rfl)
    all_goals ((try simp only [Act.put]); try simp only [g8b, g8c, g8d])
    refine wpAnyH_take (i := 17) (oi := _) (v := ?_) (by simp only [g8a, g8s, g8z]; rfl) (by kernel_rfl) (by kernel_rfl) (by kernel_rfl) (by exact fun _ _ _ h => h) (Or.inl ⟨by rfl, ?_⟩) (by assumption) ?_
    rotate_left 1
    · (intro w hSw; (try dsimp only at hSw); go_simp; try with_reducible rfl)
    all_goals ((try simp only [Act.put]); try simp only [g8b, g8c, g8d])
    refine wpAnyH_ready (rs := [10]) (by kernel_rfl) (by simp) ?_
    refine (AllReadyH.cons (by simp only [g8a, g8s, g8z]; rfl) (fun K hK => ?_) AllReadyH.nil)
    rw [if_pos (by rfl)]
    go_simp
    refine (refAt_any B m d b.per b.inc (S : Int) b.vals _ (by exact P.out.ib) (by omega) (by omega) (by omega) (by omega) (by omega) HBO.out.nn (by omega) (by omega)).mono ?_
    rw [Int.toNat_natCast, ← HX.out]
    rintro e wa ⟨rfl, hb⟩
    replace P := Lib.hid (P.out.below hb)
    clear hb
    try clear hHeld
    clear f0 f1 f2 g0 g1 g2 hlf hlg
    obtain ⟨f0, f1, f2, g0, g1, g2, hlf, hlg⟩ := P.out.cells
    refine hK.out _ _ (by exact ⟨f0, f1, f2, g0, g1, g2⟩) (fun hHeld => ?_)
    clear hK K
    (try simp only [Act.put]); try simp only [g8b, g8c, g8d]
    refine wpAnyH_ready (rs := [15]) (by kernel_rfl) (by simp) ?_
    refine (AllReadyH.cons (by simp only [g8a, g8s, g8z]; rfl) (fun K hK => ?_) AllReadyH.nil)
    rw [if_pos (by rfl)]
    go_simp
    refine (refAt_any B m d b.per b.inc (u : Int) b.vals _ (by exact P.out.ib) (by omega) (by omega) (by omega) (by omega) (by omega) HBO.out.nn (by omega) (by omega)).mono ?_
    rw [Int.toNat_natCast, ← HY.out]
    rintro e wb ⟨rfl, hb⟩
    replace P := Lib.hid (P.out.below hb)
    clear hb
    try clear hHeld
    clear f0 f1 f2 g0 g1 g2 hlf hlg
    obtain ⟨f0, f1, f2, g0, g1, g2, hlf, hlg⟩ := P.out.cells
    refine hK.out _ _ (by exact ⟨f0, f1, f2, g0, g1, g2⟩) (fun hHeld => ?_)
    clear hK K
    (try simp only [Act.put]); try simp only [g8b, g8c, g8d]
    refine wpAnyH_ready (rs := [16]) (by kernel_rfl) (by simp) ?_
    refine (AllReadyH.cons (by simp only [g8a, g8s, g8z]; rfl) (fun K hK => ?_) AllReadyH.nil)
    rw [if_pos (by rfl)]
    go_simp
    refine (plus9_any x y wb (by exact NX.out.1) (by exact NX.out.2) (by exact NY.out.1) (by exact NY.out.2)).mono ?_
    rw [← HP.out]
    rintro e wc ⟨rfl, rfl⟩
    refine hK.out _ _ (by exact ⟨f0, f1, f2, g0, g1, g2⟩) (fun hHeld => ?_)
    clear hK K
    (try simp only [Act.put]); try simp only [g8b, g8c, g8d]
    by_cases q1 : pv = v
    case neg =>
      have d6 : (pv == v) = false := by simpa using q1
      have FIN := Lib.hid (show ¬ FitQ a b t (S : Int) from fun h => q1 (FQ.out.1 h).1)
      clear q1
      refine wpAnyH_take (i := 18) (oi := _) (v := ?_) (by simp only [g8a, g8s, g8z]; rfl) (by kernel_rfl) (by kernel_rfl) (by kernel_rfl) (by exact fun _ _ _ h => h) (Or.inl ⟨by rfl, ?_⟩) (by assumption) ?_
      rotate_left 1
      · (intro w hSw; (try dsimp only at hSw); go_simp; try with_reducible rfl)
      all_goals ((try simp only [Act.put]); try simp only [g8b, g8c, g8d])
      refine wpAnyH_take (i := 19) (oi := _) (v := ?_) (by simp only [g8a, g8s, g8z]; rfl) (by kernel_rfl) (by kernel_rfl) (by kernel_rfl) (by exact fun _ _ _ h => h) (Or.inl ⟨by rfl, ?_⟩) (by assumption) ?_
      rotate_left 1
      · (intro w hSw; (try dsimp only at hSw); go_simp; try with_reducible rfl)
      all_goals ((try simp only [Act.put]); try simp only [g8b, g8c, g8d])
      refine wpAnyH_take (i := 20) (oi := _) (v := ?_) (by simp only [g8a, g8s, g8z]; rfl) (by kernel_rfl) (by kernel_rfl) (by kernel_rfl) (by exact fun _ _ _ h => h) (Or.inl ⟨by rfl, ?_⟩) (by assumption) ?_
      rotate_left 1
      · (intro w hSw; (try dsimp only at hSw); go_simp; try with_reducible rfl)
      all_goals ((try simp only [Act.put]); try simp only [g8b, g8c, g8d])
      refine wpAnyH_take (i := 21) (oi := _) (v := undef) (by simp only [g8a, g8s, g8z]; rfl) (by kernel_rfl) (by kernel_rfl) (by kernel_rfl) (by exact fun _ _ _ h => h) (Or.inr ⟨by rfl, rfl⟩) (by assumption) ?_
      (try simp only [Act.put]); try simp only [g8b, g8c, g8d]
      refine wpAnyH_take (i := 22) (oi := _) (v := undef) (by simp only [g8a, g8s, g8z]; rfl) (by kernel_rfl) (by kernel_rfl) (by kernel_rfl) (by exact fun _ _ _ h => h) (Or.inr ⟨by rfl, rfl⟩) (by assumption) ?_
      (try simp only [Act.put]); try simp only [g8b, g8c, g8d]
      refine wpAnyH_take (i := 23) (oi := _) (v := undef) (by simp only [g8a, g8s, g8z]; rfl) (by kernel_rfl) (by kernel_rfl) (by kernel_rfl) (by exact fun _ _ _ h => h) (Or.inr ⟨by rfl, rfl⟩) (by assumption) ?_
      (try simp only [Act.put]); try simp only [g8b, g8c, g8d]
      refine wpAnyH_take (i := 24) (oi := _) (v := undef) (by simp only [g8a, g8s, g8z]; rfl) (by kernel_rfl) (by kernel_rfl) (by kernel_rfl) (by exact fun _ _ _ h => h) (Or.inr ⟨by rfl, rfl⟩) (by assumption) ?_
      (try simp only [Act.put]); try simp only [g8b, g8c, g8d]
      refine wpAnyH_take (i := 25) (oi := _) (v := undef) (by simp only [g8a, g8s, g8z]; rfl) (by kernel_rfl) (by kernel_rfl) (by kernel_rfl) (by exact fun _ _ _ h => h) (Or.inr ⟨by rfl, rfl⟩) (by assumption) ?_
      (try simp only [Act.put]); try simp only [g8b, g8c, g8d]
      refine wpAnyH_take (i := 26) (oi := _) (v := undef) (by simp only [g8a, g8s, g8z]; rfl) (by kernel_rfl) (by kernel_rfl) (by kernel_rfl) (by exact fun _ _ _ h => h) (Or.inr ⟨by rfl, rfl⟩) (by assumption) ?_
      (try simp only [Act.put]); try simp only [g8b, g8c, g8d]
      refine wpAnyH_take (i := 27) (oi := _) (v := undef) (by simp only [g8a, g8s, g8z]; rfl) (by kernel_rfl) (by kernel_rfl) (by kernel_rfl) (by exact fun _ _ _ h => h) (Or.inr ⟨by rfl, rfl⟩) (by assumption) ?_
      (try simp only [Act.put]); try simp only [g8b, g8c, g8d]
      refine wpAnyH_take (i := 28) (oi := _) (v := undef) (by simp only [g8a, g8s, g8z]; rfl) (by kernel_rfl) (by kernel_rfl) (by kernel_rfl) (by exact fun _ _ _ h => h) (Or.inr ⟨by rfl, rfl⟩) (by assumption) ?_
      (try simp only [Act.put]); try simp only [g8b, g8c, g8d]
      refine wpAnyH_take (i := 29) (oi := _) (v := undef) (by simp only [g8a, g8s, g8z]; rfl) (by kernel_rfl) (by kernel_rfl) (by kernel_rfl) (by exact fun _ _ _ h => h) (Or.inr ⟨by rfl, rfl⟩) (by assumption) ?_
      (try simp only [Act.put]); try simp only [g8b, g8c, g8d]
      refine wpAnyH_take (i := 30) (oi := _) (v := undef) (by simp only [g8a, g8s, g8z]; rfl) (by kernel_rfl) (by kernel_rfl) (by kernel_rfl) (by exact fun _ _ _ h => h) (Or.inr ⟨by rfl, rfl⟩) (by assumption) ?_
      (try simp only [Act.put]); try simp only [g8b, g8c, g8d]
      refine wpAnyH_take (i := 31) (oi := _) (v := undef) (by simp only [g8a, g8s, g8z]; rfl) (by kernel_rfl) (by kernel_rfl) (by kernel_rfl) (by exact fun _ _ _ h => h) (Or.inr ⟨by rfl, rfl⟩) (by assumption) ?_
      (try simp only [Act.put]); try simp only [g8b, g8c, g8d]
      refine wpAnyH_take (i := 32) (oi := _) (v := ?_) (by simp only [g8a, g8s, g8z]; rfl) (by kernel_rfl) (by kernel_rfl) (by kernel_rfl) (by exact fun _ _ _ h => h) (Or.inl ⟨by rfl, ?_⟩) (by assumption) ?_
      rotate_left 1
      · (intro w hSw; (try dsimp only at hSw); go_simp; try with_reducible rfl)
      all_goals ((try simp only [Act.put]); try simp only [g8b, g8c, g8d])
      refine wpAnyH_take (i := 33) (oi := _) (v := ?_) (by simp only [g8a, g8s, g8z]; rfl) (by kernel_rfl) (by kernel_rfl) (by kernel_rfl) (by exact fun _ _ _ h => h) (Or.inl ⟨by rfl, ?_⟩) (by assumption) ?_
      rotate_left 1
      · (intro w hSw; (try dsimp only at hSw); go_simp; try with_reducible rfl)
      all_goals ((try simp only [Act.put]); try simp only [g8b, g8c, g8d])
      refine wpAnyH_done (by kernel_rfl) ?_ _
      clear hHeld
      clear f0 f1 f2 g0 g1 g2 hlf hlg
      have bw := P.out.bw
      go_wp2_with fail
      go_ret
      exact RetQ.no FIN.out bw
    case pos =>
      have d6 : (pv == v) = true := by simpa using q1
      have Q1 := Lib.hid q1
      clear q1
      by_cases q2 : t < F
      case pos =>
        have d7 : decide ((t : Int) < (F : Int)) = true := by simpa using q2
        have d8 : decide (t < F) = true := by simpa using q2
        have FIN := Lib.hid (FQ.out.2 ⟨Q1.out, .inl q2⟩)
        clear q2
        refine wpAnyH_take (i := 18) (oi := _) (v := ?_) (by simp only [g8a, g8s, g8z]; rfl) (by kernel_rfl) (by kernel_rfl) (by kernel_rfl) (by exact fun _ _ _ h => h) (Or.inl ⟨by rfl, ?_⟩) (by assumption) ?_
        rotate_left 1
        · (intro w hSw; (try dsimp only at hSw); go_simp; try with_reducible rfl)
        all_goals ((try simp only [Act.put]); try simp only [g8b, g8c, g8d])
        refine wpAnyH_take (i := 19) (oi := _) (v := ?_) (by simp only [g8a, g8s, g8z]; rfl) (by kernel_rfl) (by kernel_rfl) (by kernel_rfl) (by exact fun _ _ _ h => h) (Or.inl ⟨by rfl, ?_⟩) (by assumption) ?_
        rotate_left 1
        · (intro w hSw; (try dsimp only at hSw); go_simp; try with_reducible rfl)
        all_goals ((try simp only [Act.put]); try simp only [g8b, g8c, g8d])
        refine wpAnyH_take (i := 20) (oi := _) (v := ?_) (by simp only [g8a, g8s, g8z]; rfl) (by kernel_rfl) (by kernel_rfl) (by kernel_rfl) (by exact fun _ _ _ h => h) (Or.inl ⟨by rfl, ?_⟩) (by assumption) ?_
        rotate_left 1
        · (intro w hSw; (try dsimp only at hSw); go_simp; try with_reducible rfl)
        all_goals ((try simp only [Act.put]); try simp only [g8b, g8c, g8d])
        refine wpAnyH_take (i := 21) (oi := _) (v := ?_) (by simp only [g8a, g8s, g8z]; rfl) (by kernel_rfl) (by kernel_rfl) (by kernel_rfl) (by exact fun _ _ _ h => h) (Or.inl ⟨by rfl, ?_⟩) (by assumption) ?_
        rotate_left 1
        · (intro w hSw; (try dsimp only at hSw); go_simp; try with_reducible rfl)
        all_goals ((try simp only [Act.put]); try simp only [g8b, g8c, g8d])
        refine wpAnyH_take (i := 22) (oi := _) (v := ?_) (by simp only [g8a, g8s, g8z]; rfl) (by kernel_rfl) (by kernel_rfl) (by kernel_rfl) (by exact fun _ _ _ h => h) (Or.inl ⟨by rfl, ?_⟩) (by assumption) ?_
        rotate_left 1
        · (intro w hSw; (try dsimp only at hSw); go_simp; try with_reducible rfl)
        all_goals ((try simp only [Act.put]); try simp only [g8b, g8c, g8d])
        refine wpAnyH_take (i := 23) (oi := _) (v := ?_) (by simp only [g8a, g8s, g8z]; rfl) (by kernel_rfl) (by kernel_rfl) (by kernel_rfl) (by exact fun _ _ _ h => h) (Or.inl ⟨by rfl, ?_⟩) (by assumption) ?_
        rotate_left 1
        · (intro w hSw; (try dsimp only at hSw); go_simp; try with_reducible rfl)
        all_goals ((try simp only [Act.put]); try simp only [g8b, g8c, g8d])
        refine wpAnyH_take (i := 24) (oi := _) (v := ?_) (by simp only [g8a, g8s, g8z]; rfl) (by kernel_rfl) (by kernel_rfl) (by kernel_rfl) (by exact fun _ _ _ h => h) (Or.inl ⟨by rfl, ?_⟩) (by assumption) ?_
        rotate_left 1
        · (intro w hSw; (try dsimp only at hSw); go_simp; try with_reducible rfl)
        all_goals ((try simp only [Act.put]); try simp only [g8b, g8c, g8d])
        refine wpAnyH_take (i := 25) (oi := _) (v := undef) (by simp only [g8a, g8s, g8z]; rfl) (by kernel_rfl) (by kernel_rfl) (by kernel_rfl) (by exact fun _ _ _ h => h) (Or.inr ⟨by rfl, rfl⟩) (by assumption) ?_
        (try simp only [Act.put]); try simp only [g8b, g8c, g8d]
        refine wpAnyH_take (i := 26) (oi := _) (v := undef) (by simp only [g8a, g8s, g8z]; rfl) (by kernel_rfl) (by kernel_rfl) (by kernel_rfl) (by exact fun _ _ _ h => h) (Or.inr ⟨by rfl, rfl⟩) (by assumption) ?_
        (try simp only [Act.put]); try simp only [g8b, g8c, g8d]
        refine wpAnyH_take (i := 27) (oi := _) (v := undef) (by simp only [g8a, g8s, g8z]; rfl) (by kernel_rfl) (by kernel_rfl) (by kernel_rfl) (by exact fun _ _ _ h => h) (Or.inr ⟨by rfl, rfl⟩) (by assumption) ?_
        (try simp only [Act.put]); try simp only [g8b, g8c, g8d]
        refine wpAnyH_take (i := 28) (oi := _) (v := undef) (by simp only [g8a, g8s, g8z]; rfl) (by kernel_rfl) (by kernel_rfl) (by kernel_rfl) (by exact fun _ _ _ h => h) (Or.inr ⟨by rfl, rfl⟩) (by assumption) ?_
        (try simp only [Act.put]); try simp only [g8b, g8c, g8d]
        refine wpAnyH_take (i := 29) (oi := _) (v := undef) (by simp only [g8a, g8s, g8z]; rfl) (by kernel_rfl) (by kernel_rfl) (by kernel_rfl) (by exact fun _ _ _ h => h) (Or.inr ⟨by rfl, rfl⟩) (by assumption) ?_
        (try simp only [Act.put]); try simp only [g8b, g8c, g8d]
        refine wpAnyH_take (i := 30) (oi := _) (v := undef) (by simp only [g8a, g8s, g8z]; rfl) (by kernel_rfl) (by kernel_rfl) (by kernel_rfl) (by exact fun _ _ _ h => h) (Or.inr ⟨by rfl, rfl⟩) (by assumption) ?_
        (try simp only [Act.put]); try simp only [g8b, g8c, g8d]
        refine wpAnyH_take (i := 31) (oi := _) (v := ?_) (by simp only [g8a, g8s, g8z]; rfl) (by kernel_rfl) (by kernel_rfl) (by kernel_rfl) (by exact fun _ _ _ h => h) (Or.inl ⟨by rfl, ?_⟩) (by assumption) ?_
        rotate_left 1
        · (intro w hSw; (try dsimp only at hSw); go_simp; try with_reducible rfl)
        all_goals ((try simp only [Act.put]); try simp only [g8b, g8c, g8d])
        refine wpAnyH_take (i := 32) (oi := _) (v := ?_) (by simp only [g8a, g8s, g8z]; rfl) (by kernel_rfl) (by kernel_rfl) (by kernel_rfl) (by exact fun _ _ _ h => h) (Or.inl ⟨by rfl, ?_⟩) (by assumption) ?_
        rotate_left 1
        · (intro w hSw; (try dsimp only at hSw); go_simp; try with_reducible rfl)
        all_goals ((try simp only [Act.put]); try simp only [g8b, g8c, g8d])
        refine wpAnyH_take (i := 33) (oi := _) (v := ?_) (by simp only [g8a, g8s, g8z]; rfl) (by kernel_rfl) (by kernel_rfl) (by kernel_rfl) (by exact fun _ _ _ h => h) (Or.inl ⟨by rfl, ?_⟩) (by assumption) ?_
        rotate_left 1
        · (intro w hSw; (try dsimp only at hSw); go_simp; try with_reducible rfl)
        all_goals ((try simp only [Act.put]); try simp only [g8b, g8c, g8d])
        refine wpAnyH_done (by kernel_rfl) ?_ _
        clear hHeld
        clear f0 f1 f2 g0 g1 g2 hlf hlg
        have bw := P.out.bw
        go_wp2_with fail
        go_ret
        exact RetQ.yes FIN.out bw
      case neg =>
        have d7 : decide ((t : Int) < (F : Int)) = false := by simpa using q2
        have d8 : decide (t < F) = false := by simpa using q2
        have Q2 := Lib.hid q2
        clear q2
        refine wpAnyH_take (i := 18) (oi := _) (v := ?_) (by simp only [g8a, g8s, g8z]; rfl) (by kernel_rfl) (by kernel_rfl) (by kernel_rfl) (by exact fun _ _ _ h => h) (Or.inl ⟨by rfl, ?_⟩) (by assumption) ?_
        rotate_left 1
        · (intro w hSw; (try dsimp only at hSw); go_simp; try with_reducible rfl)
        all_goals ((try simp only [Act.put]); try simp only [g8b, g8c, g8d])
        refine wpAnyH_take (i := 19) (oi := _) (v := ?_) (by simp only [g8a, g8s, g8z]; rfl) (by kernel_rfl) (by kernel_rfl) (by kernel_rfl) (by exact fun _ _ _ h => h) (Or.inl ⟨by rfl, ?_⟩) (by assumption) ?_
        rotate_left 1
        · (intro w hSw; (try dsimp only at hSw); go_simp; try with_reducible rfl)
        all_goals ((try simp only [Act.put]); try simp only [g8b, g8c, g8d])
        refine wpAnyH_take (i := 20) (oi := _) (v := ?_) (by simp only [g8a, g8s, g8z]; rfl) (by kernel_rfl) (by kernel_rfl) (by kernel_rfl) (by exact fun _ _ _ h => h) (Or.inl ⟨by rfl, ?_⟩) (by assumption) ?_
        rotate_left 1
        · (intro w hSw; (try dsimp only at hSw); go_simp; try with_reducible rfl)
        all_goals ((try simp only [Act.put]); try simp only [g8b, g8c, g8d])
        refine wpAnyH_take (i := 21) (oi := _) (v := ?_) (by simp only [g8a, g8s, g8z]; rfl) (by kernel_rfl) (by kernel_rfl) (by kernel_rfl) (by exact fun _ _ _ h => h) (Or.inl ⟨by rfl, ?_⟩) (by assumption) ?_
        rotate_left 1
        · (intro w hSw; (try dsimp only at hSw); go_simp; try with_reducible rfl)
        all_goals ((try simp only [Act.put]); try simp only [g8b, g8c, g8d])
        refine wpAnyH_take (i := 22) (oi := _) (v := ?_) (by simp only [g8a, g8s, g8z]; rfl) (by kernel_rfl) (by kernel_rfl) (by kernel_rfl) (by exact fun _ _ _ h => h) (Or.inl ⟨by rfl, ?_⟩) (by assumption) ?_
        rotate_left 1
        · (intro w hSw; (try dsimp only at hSw); go_simp; try with_reducible rfl)
        all_goals ((try simp only [Act.put]); try simp only [g8b, g8c, g8d])
        refine wpAnyH_take (i := 23) (oi := _) (v := ?_) (by simp only [g8a, g8s, g8z]; rfl) (by kernel_rfl) (by kernel_rfl) (by kernel_rfl) (by exact fun _ _ _ h => h) (Or.inl ⟨by rfl, ?_⟩) (by assumption) ?_
        rotate_left 1
        · (intro w hSw; (try dsimp only at hSw); go_simp; try with_reducible rfl)
        all_goals ((try simp only [Act.put]); try simp only [g8b, g8c, g8d])
        refine wpAnyH_take (i := 24) (oi := _) (v := ?_) (by simp only [g8a, g8s, g8z]; rfl) (by kernel_rfl) (by kernel_rfl) (by kernel_rfl) (by exact fun _ _ _ h => h) (Or.inl ⟨by rfl, ?_⟩) (by assumption) ?_
        rotate_left 1
        · (intro w hSw; (try dsimp only at hSw); go_simp; try with_reducible rfl)
        all_goals ((try simp only [Act.put]); try simp only [g8b, g8c, g8d])
        refine wpAnyH_take (i := 25) (oi := _) (v := ?_) (by simp only [g8a, g8s, g8z]; rfl) (by kernel_rfl) (by kernel_rfl) (by kernel_rfl) (by exact fun _ _ _ h => h) (Or.inl ⟨by rfl, ?_⟩) (by assumption) ?_
        rotate_left 1
        · (intro w hSw; (try dsimp only at hSw); go_simp; try with_reducible rfl)
        all_goals ((try simp only [Act.put]); try simp only [g8b, g8c, g8d])
        refine wpAnyH_take (i := 26) (oi := _) (v := ?_) (by simp only [g8a, g8s, g8z]; rfl) (by kernel_rfl) (by kernel_rfl) (by kernel_rfl) (by exact fun _ _ _ h => h) (Or.inl ⟨by rfl, ?_⟩) (by assumption) ?_
        rotate_left 1
        · (intro w hSw; (try dsimp only at hSw); go_simp; try with_reducible rfl)
        all_goals ((try simp only [Act.put]); try simp only [g8b, g8c, g8d])
        refine wpAnyH_take (i := 27) (oi := _) (v := ?_) (by simp only [g8a, g8s, g8z]; rfl) (by kernel_rfl) (by kernel_rfl) (by kernel_rfl) (by exact fun _ _ _ h => h) (Or.inl ⟨by rfl, ?_⟩) (by assumption) ?_
        rotate_left 1
        · (intro w hSw; (try dsimp only at hSw); go_simp; try with_reducible rfl)
        all_goals ((try simp only [Act.put]); try simp only [g8b, g8c, g8d])
        refine wpAnyH_take (i := 28) (oi := _) (v := ?_) (by simp only [g8a, g8s, g8z]; rfl) (by kernel_rfl) (by kernel_rfl) (by kernel_rfl) (by exact fun _ _ _ h => h) (Or.inl ⟨by rfl, ?_⟩) (by assumption) ?_
        rotate_left 1
        · (intro w hSw; (try dsimp only at hSw); go_simp; try with_reducible rfl)
        all_goals ((try simp only [Act.put]); try simp only [g8b, g8c, g8d])
        refine wpAnyH_ready (rs := [29]) (by kernel_rfl) (by simp) ?_
        refine (AllReadyH.cons (by simp only [g8a, g8s, g8z]; rfl) (fun K hK => ?_) AllReadyH.nil)
        rw [if_pos (by rfl)]
        go_simp
        refine (start9_any B m d b.per b.inc _ (by omega) (by omega) (by omega)).mono ?_
        rintro e wd ⟨rfl, hb⟩
        replace P := Lib.hid (P.out.below hb)
        clear hb
        try clear hHeld
        clear f0 f1 f2 g0 g1 g2 hlf hlg
        obtain ⟨f0, f1, f2, g0, g1, g2, hlf, hlg⟩ := P.out.cells
        refine hK.out _ _ (by exact ⟨f0, f1, f2, g0, g1, g2⟩) (fun hHeld => ?_)
        clear hK K
        (try simp only [Act.put]); try simp only [g8b, g8c, g8d]
        by_cases q3 : (m : Int) - b.per ≤ (u : Int)
        case pos =>
          have d9 : decide ((m : Int) - b.per ≤ (u : Int)) = true := by simpa using q3
          have d10 : decide ((u : Int) ≥ (m : Int) - b.per) = true := by simpa using q3
          have FIN := Lib.hid (FQ.out.2 ⟨Q1.out, .inr (by have := SB.out; omega)⟩)
          clear q3
          refine wpAnyH_take (i := 30) (oi := _) (v := ?_) (by simp only [g8a, g8s, g8z]; rfl) (by kernel_rfl) (by kernel_rfl) (by kernel_rfl) (by exact fun _ _ _ h => h) (Or.inl ⟨by rfl, ?_⟩) (by assumption) ?_
          rotate_left 1
          · (intro w hSw; (try dsimp only at hSw); go_simp; try with_reducible rfl)
          all_goals ((try simp only [Act.put]); try simp only [g8b, g8c, g8d])
          refine wpAnyH_take (i := 31) (oi := _) (v := ?_) (by simp only [g8a, g8s, g8z]; rfl) (by kernel_rfl) (by kernel_rfl) (by kernel_rfl) (by exact fun _ _ _ h => h) (Or.inl ⟨by rfl, ?_⟩) (by assumption) ?_
          rotate_left 1
          · (intro w hSw; (try dsimp only at hSw); go_simp; try with_reducible rfl)
          all_goals ((try simp only [Act.put]); try simp only [g8b, g8c, g8d])
          refine wpAnyH_take (i := 32) (oi := _) (v := ?_) (by simp only [g8a, g8s, g8z]; rfl) (by kernel_rfl) (by kernel_rfl) (by kernel_rfl) (by exact fun _ _ _ h => h) (Or.inl ⟨by rfl, ?_⟩) (by assumption) ?_
          rotate_left 1
          · (intro w hSw; (try dsimp only at hSw); go_simp; try with_reducible rfl)
          all_goals ((try simp only [Act.put]); try simp only [g8b, g8c, g8d])
          refine wpAnyH_take (i := 33) (oi := _) (v := ?_) (by simp only [g8a, g8s, g8z]; rfl) (by kernel_rfl) (by kernel_rfl) (by kernel_rfl) (by exact fun _ _ _ h => h) (Or.inl ⟨by rfl, ?_⟩) (by assumption) ?_
          rotate_left 1
          · (intro w hSw; (try dsimp only at hSw); go_simp; try with_reducible rfl)
          all_goals ((try simp only [Act.put]); try simp only [g8b, g8c, g8d])
          refine wpAnyH_done (by kernel_rfl) ?_ _
          clear hHeld
          clear f0 f1 f2 g0 g1 g2 hlf hlg
          have bw := P.out.bw
          go_wp2_with fail
          go_ret
          exact RetQ.yes FIN.out bw
        case neg =>
          have d9 : decide ((m : Int) - b.per ≤ (u : Int)) = false := by simpa using q3
          have d10 : decide ((u : Int) ≥ (m : Int) - b.per) = false := by simpa using q3
          have FIN := Lib.hid (show ¬ FitQ a b t (S : Int) from fun h => by
            rcases (FQ.out.1 h).2 with k | k
            · exact Q2.out k
            · have := SB.out; omega)
          clear q3
          refine wpAnyH_take (i := 30) (oi := _) (v := ?_) (by simp only [g8a, g8s, g8z]; rfl) (by kernel_rfl) (by kernel_rfl) (by kernel_rfl) (by exact fun _ _ _ h => h) (Or.inl ⟨by rfl, ?_⟩) (by assumption) ?_
          rotate_left 1
          · (intro w hSw; (try dsimp only at hSw); go_simp; try with_reducible rfl)
          all_goals ((try simp only [Act.put]); try simp only [g8b, g8c, g8d])
          refine wpAnyH_take (i := 31) (oi := _) (v := ?_) (by simp only [g8a, g8s, g8z]; rfl) (by kernel_rfl) (by kernel_rfl) (by kernel_rfl) (by exact fun _ _ _ h => h) (Or.inl ⟨by rfl, ?_⟩) (by assumption) ?_
          rotate_left 1
          · (intro w hSw; (try dsimp only at hSw); go_simp; try with_reducible rfl)
          all_goals ((try simp only [Act.put]); try simp only [g8b, g8c, g8d])
          refine wpAnyH_take (i := 32) (oi := _) (v := ?_) (by simp only [g8a, g8s, g8z]; rfl) (by kernel_rfl) (by kernel_rfl) (by kernel_rfl) (by exact fun _ _ _ h => h) (Or.inl ⟨by rfl, ?_⟩) (by assumption) ?_
          rotate_left 1
          · (intro w hSw; (try dsimp only at hSw); go_simp; try with_reducible rfl)
          all_goals ((try simp only [Act.put]); try simp only [g8b, g8c, g8d])
          refine wpAnyH_take (i := 33) (oi := _) (v := ?_) (by simp only [g8a, g8s, g8z]; rfl) (by kernel_rfl) (by kernel_rfl) (by kernel_rfl) (by exact fun _ _ _ h => h) (Or.inl ⟨by rfl, ?_⟩) (by assumption) ?_
          rotate_left 1
          · (intro w hSw; (try dsimp only at hSw); go_simp; try with_reducible rfl)
          all_goals ((try simp only [Act.put]); try simp only [g8b, g8c, g8d])
          refine wpAnyH_done (by kernel_rfl) ?_ _
          clear hHeld
          clear f0 f1 f2 g0 g1 g2 hlf hlg
          have bw := P.out.bw
          go_wp2_with fail
          go_ret
          exact RetQ.no FIN.out bw
end Go.Proofs.Ythdibkmjoiipgaa
