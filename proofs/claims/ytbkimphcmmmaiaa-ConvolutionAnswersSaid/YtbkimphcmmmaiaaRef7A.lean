/- netcalculusref07: plus, Least, start, finite, grows, slope, repeats, below, split. -/
import Derived.Test.YtbkimphcmmmaiaaCgLaw
import Derived.Test.YtbkimphcmmmaiaaRefAt
import Derived.Test.YtbkimphcmmmaiaaPwKit
import Derived.Test.YtbkimphcmmmaiaaCvSame
namespace Go.Proofs.Ytbkimphcmmmaiaa
open Go.RowKit
set_option linter.unusedVariables false

def RetI7 (x : Int) (w : World) (e : Ending) (w' : World) : Prop := e = .returned (.int .i64 x) ∧ w = w'
theorem tab_snoc7 (h : Nat → Int) (k : Nat) : tab h 0 k ++ [h k] = tab h 0 (k + 1) := by
  refine list_ext (by simp [tab_length]) (fun q hq => ?_)
  simp [tab_length] at hq
  rw [nth_append, tab_length, tab_nth _ _ _ _ hq, Nat.zero_add]
  by_cases hqj : q < k
  · rw [if_pos hqj, tab_nth _ _ _ _ hqj, Nat.zero_add]
  · rw [if_neg hqj, show q = k by omega, Nat.sub_self]; rfl
theorem plus7_any (x y : Int) (w : World) (hx0 : 0 ≤ x) (hx : x = inf ∨ x ≤ 1152921504606846976) (hy0 : 0 ≤ y) (hy : y = inf ∨ y ≤ 1152921504606846976) :
    Calls Try.prog 100 #[.int .i64 x, .int .i64 y] w (RetI7 (pl x y) w) := by
  by_cases h1 : x = inf
  · have fin : pl x y = inf := by unfold pl; rw [if_pos (.inl h1)]
    rw [fin]
    subst h1
    clear fin hx hx0 hy hy0
    unfold inf
    go_enter Try.func100, Try.ntmps100
    go_wp2_with fail
    go_ret
    exact ⟨rfl, rfl⟩
  · have hx' := hx.resolve_left h1
    have d1 : (x == 4611686018427387904) = false := by simp only [beq_eq_false_iff_ne]; exact h1
    by_cases h2 : y = inf
    · have fin : pl x y = inf := by unfold pl; rw [if_pos (.inr h2)]
      rw [fin]
      have d2 : (y == 4611686018427387904) = true := by rw [h2]; rfl
      clear fin hx hx0 hy hy0 h1 h2 hx'
      unfold inf
      go_enter Try.func100, Try.ntmps100
      go_wp2_with fail
      go_ret
      exact ⟨rfl, rfl⟩
    · have hy' := hy.resolve_left h2
      have d2 : (y == 4611686018427387904) = false := by simp only [beq_eq_false_iff_ne]; exact h2
      have fin : pl x y = x + y := by unfold pl; rw [if_neg (by rintro (h | h); exact h1 h; exact h2 h)]
      rw [fin]
      clear fin hx hy h1 h2
      go_enter Try.func100, Try.ntmps100
      go_wp2_with fail
      go_ret
      exact ⟨rfl, rfl⟩
theorem start7_any (A : Option Addr) (n c : Nat) (p i : Int) (w : World) (hn : n ≤ 1000000) (hp : 1 ≤ p) (hp2 : p ≤ n) :
    Calls Try.prog 83 #[.agg #[.slice A n c, .int .i64 p, .int .i64 i]] w fun e w' => e = .returned (.int .i64 (n - p)) ∧ Below w.heap.size w w' := by
  have PB := Blk.new w 31 #[.slice A n c, .int .i64 p, .int .i64 i]
  have q0 := PB.cell 0; have q1 := PB.cell 1
  simp at q0 q1
  have e1 : IntKind.i64.wrap ((n : Int) - p) = (n : Int) - p := IntWalk.i64_in _ (by omega)
  clear PB
  go_enter Try.func83, Try.ntmps83
  go_wp2_with fail
  try (go_quiet (fail); go_wp2_with fail)
  go_ret
  exact ⟨rfl, by first | exact balloc w _ | exact bdrewN (balloc w _)⟩
theorem fin7_any (A : Option Addr) (n c : Nat) (p i : Int) (zs : List Int) (w : World) (hA : Ints w w.heap.size A n zs) (hn0 : 0 < n) (hn : n ≤ 1000) :
    Calls Try.prog 149 #[.agg #[.slice A n c, .int .i64 p, .int .i64 i]] w fun e w' => e = .returned (.bool (nth zs (n - 1) != inf)) ∧ Below w.heap.size w w' := by
  obtain ⟨b, off, rfl, hb, hc⟩ := hA.2 hn0
  obtain ⟨m, rfl⟩ : ∃ m, n = m + 1 := ⟨n - 1, by omega⟩
  have h0 := hc m (by omega)
  rw [show m + 1 - 1 = m by omega]
  obtain ⟨x, hx⟩ : ∃ x, x = nth zs m := ⟨_, rfl⟩
  rw [← hx] at h0
  rw [← hx]
  have PB := Blk.new w 31 #[.slice (some ⟨b, off, none⟩) (m + 1) c, .int .i64 p, .int .i64 i]
  have q0 := PB.cell 0
  simp at q0
  have h1 : (w.alloc (.cells #[.slice (some ⟨b, off, none⟩) (m + 1) c, .int .i64 p, .int .i64 i] 31)).cell? ⟨b, off + m, none⟩ = some (.int .i64 x) := (World.cell?_alloc_lt w _ _ hb).trans h0
  have e1 : IntKind.i64.wrap (((m + 1 : Nat) : Int) - 1) = (m : Int) := by rw [IntWalk.i64_in _ (by omega)]; omega
  have e1' : (((m + 1 : Nat) : Int) - 1) = (m : Int) := by omega
  have hbw := balloc w (.cells #[.slice (some ⟨b, off, none⟩) (m + 1) c, .int .i64 p, .int .i64 i] 31)
  have G : (x != inf) = (x != 4611686018427387904) := rfl
  rw [G]
  clear hc hx hA PB G
  go_enter Try.func149, Try.ntmps149
  go_wp2_with fail
  try (go_quiet (fail); go_wp2_with fail)
  go_ret
  exact ⟨rfl, by first | exact hbw | exact bdrewN hbw⟩

theorem grows7_any (A : Option Addr) (n c : Nat) (p i : Int) (C : Nat) (w : World) (hp : 1 ≤ p) (hi : 0 ≤ i) (hi2 : i ≤ 1073741824) (hC : C ≤ 1000000) :
    Calls Try.prog 150 #[.agg #[.slice A n c, .int .i64 p, .int .i64 i], .int .i64 C] w fun e w' => e = .returned (.int .i64 ((C / p.toNat : Nat) * i)) ∧ Below w.heap.size w w' := by
  obtain ⟨p, rfl⟩ := Int.eq_ofNat_of_zero_le (show 0 ≤ p by omega)
  simp only [Int.toNat_natCast]
  obtain ⟨u, hu⟩ : ∃ u, u = C / p := ⟨_, rfl⟩
  have hut : u ≤ C := by rw [hu]; exact Nat.div_le_self _ _
  have e1 : ((C : Int).tdiv (p : Int)) = (u : Int) := by rw [hu]; rfl
  have e1' : ((C : Int) / (p : Int)) = (u : Int) := by rw [hu]; rfl
  have hui : (u : Int) * i ≤ 1000000 * 1073741824 := Int.mul_le_mul (by omega) hi2 hi (by omega)
  have hui0 : 0 ≤ (u : Int) * i := Int.mul_nonneg (by omega) hi
  rw [← hu]
  obtain ⟨X, hX⟩ : ∃ X, X = (u : Int) * i := ⟨_, rfl⟩
  rw [← hX] at hui hui0
  have e3 : IntKind.i64.wrap (i * (u : Int)) = X := by rw [Int.mul_comm, ← hX]; exact IntWalk.i64_in _ (by omega)
  have e6 : IntKind.i64.wrap (u : Int) = (u : Int) := IntWalk.i64_in _ (by omega)
  rw [← hX]
  have hpn : (p : Int) ≠ 0 := by omega
  have hpn2 : p ≠ 0 := by omega
  have PB := Blk.new w 31 #[.slice A n c, .int .i64 p, .int .i64 i]
  have q1 := PB.cell 1
  have q2 := PB.cell 2
  simp at q1 q2
  clear hu hX PB
  go_enter Try.func150, Try.ntmps150
  go_wp2_with fail
  go_quiet (fail)
  go_wp2_with fail
  go_ret
  exact ⟨rfl, bdrewN (balloc w _)⟩
/-- the value of the convolution -/
def RetV (a b : Cv) (t : Nat) (w : World) (e : Ending) (w' : World) : Prop := ∃ v, CvT a b t v ∧ e = .returned (.int .i64 v) ∧ Below w.heap.size w w'
theorem cvI_step {a b : Cv} (ha : a.Ok) (hb : b.Ok) {t S : Nat} {v : Int} (ht : t ≤ 2000) (hS : S ≤ t) (h : CvI a b 0 t S v) : CvI a b 0 t (S + 1) (min v (pl (a.at S) (b.at (t - S)))) := by
  have hv := h.bd ha hb ht
  by_cases hc : CSp a b t S
  · have hbd := csp_bd ha hb ht hc
    rw [pl_csp ha hb ht hc]
    rcases (show v ≤ a.at S + b.at (t - S) ∨ a.at S + b.at (t - S) < v by omega) with k | k
    · rw [show min v (a.at S + b.at (t - S)) = v by omega]
      exact h.keep k (by unfold inf; omega)
    · rw [show min v (a.at S + b.at (t - S)) = a.at S + b.at (t - S) by omega]
      exact h.more (Nat.zero_le _) hc (.inr (by omega))
  · rw [pl_not ha hb ht hS hc, show min v inf = v by unfold inf; omega]
    exact h.skip hc
set_option maxHeartbeats 2000000 in
set_option maxRecDepth 100000 in
theorem least7_any (A B : Option Addr) (n m c d : Nat) (a b : Cv) (t : Nat) (w : World) (hA : Ints w w.heap.size A n a.vals) (hB : Ints w w.heap.size B m b.vals) (ha : a.Ok) (hb : b.Ok) (ht : t ≤ 2000) :
    Calls Try.prog 45 #[.agg #[.slice A n c, .int .i64 a.per, .int .i64 a.inc], .agg #[.slice B m d, .int .i64 b.per, .int .i64 b.inc], .int .i64 t] w (RetV a b t w) := by
  have a1 := ha.n1; have a2 := ha.n2; have a3 := ha.p1; have a4 := ha.p2; have a5 := ha.pn; have a6 := ha.i1; have a7 := ha.i2
  have b1 := hb.n1; have b2 := hb.n2; have b3 := hb.p1; have b4 := hb.p2; have b5 := hb.pn; have b6 := hb.i1; have b7 := hb.i2
  have hln : a.vals.length = n := hA.1
  have hlm : b.vals.length = m := hB.1
  rw [hln] at a1 a2 a5
  rw [hlm] at b1 b2 b5
  have P := Lib.hid (PS.new (c := c) (p := a.per) (i := a.inc) (d := d) (q := b.per) (j := b.inc) hA hB)
  have HAO := Lib.hid ha; have HBO := Lib.hid hb; have HLN := Lib.hid hln; have HLM := Lib.hid hlm
  clear hA hB ha hb hln hlm
  go_enter Try.func45, Try.ntmps45
  go_wp2_with fail
  go_loopg [7, 8] (t + 1) (fun gg s7 s8 wx => ∃ (S : Nat) (v : Int), S + gg = t + 1 ∧ s8 = .int .i64 S ∧ s7 = .int .i64 v ∧ CvI a b 0 t S v ∧ PS w wx A n c a.per a.inc a.vals B m d b.per b.inc b.vals)
  case atStart => exact ⟨0, inf, by omega, rfl, rfl, CvI.zero a b 0 t, P.out⟩
  case round =>
    clear P
    obtain ⟨S, v, hgg, rfl, rfl, hI, hP⟩ := hrel
    have P := Lib.hid hP; have HI := Lib.hid hI
    clear hP hI
    have vb := HI.out.bd HAO.out HBO.out (by omega)
    have vb0 := vb.1; have vb1 := vb.2
    clear vb
    by_cases hk : S ≤ t
    · have hki : (S : Int) ≤ t := by omega
      obtain ⟨u, hu⟩ : ∃ u, u = t - S := ⟨_, rfl⟩
      have e1 : IntKind.i64.wrap ((t : Int) - (S : Int)) = (u : Int) := by rw [IntWalk.i64_in _ (by omega)]; omega
      have e2 : (t : Int) - (S : Int) = (u : Int) := by omega
      have e3 : IntKind.i64.wrap (u : Int) = (u : Int) := IntWalk.i64_in _ (by omega)
      have hu9 : u ≤ 2000 := by omega
      obtain ⟨x, hx⟩ : ∃ x, x = a.at S := ⟨_, rfl⟩
      obtain ⟨y, hy⟩ : ∃ y, y = b.at u := ⟨_, rfl⟩
      obtain ⟨pv, hpv⟩ : ∃ pv, pv = pl x y := ⟨_, rfl⟩
      obtain ⟨mv, hmv⟩ : ∃ mv, mv = min v pv := ⟨_, rfl⟩
      have m1 : (if pv < v then pv else v) = mv := by rw [hmv]; split <;> omega
      have m2 : (if v < pv then v else pv) = mv := by rw [hmv]; split <;> omega
      have NX := Lib.hid (show 0 ≤ x ∧ (x = inf ∨ x ≤ 1152921504606846976) from by rw [hx]; exact at_near HAO.out (by omega))
      have NY := Lib.hid (show 0 ≤ y ∧ (y = inf ∨ y ≤ 1152921504606846976) from by rw [hy]; exact at_near HBO.out (by omega))
      have NXT := Lib.hid (show CvI a b 0 t (S + 1) mv from by rw [hmv, hpv, hx, hy, hu]; exact cvI_step HAO.out HBO.out (by omega) hk HI.out)
      have HX := Lib.hid hx; have HY := Lib.hid hy; have HP := Lib.hid hpv
      clear hu hx hy hpv hmv
      go_upto_region 5 with fail
      have P := Lib.hid P.out.drew
      obtain ⟨f0, f1, f2, g0, g1, g2, hlf, hlg⟩ := P.out.cells
      refine wp_region_held_drew (S := (fun w' => w'.cell? ⟨w.heap.size, 0, none⟩ = some (.slice A n c) ∧ w'.cell? ⟨w.heap.size, 1, none⟩ = some (.int .i64 a.per) ∧ w'.cell? ⟨w.heap.size, 2, none⟩ = some (.int .i64 a.inc) ∧ w'.cell? ⟨w.heap.size + 1, 0, none⟩ = some (.slice B m d) ∧ w'.cell? ⟨w.heap.size + 1, 1, none⟩ = some (.int .i64 b.per) ∧ w'.cell? ⟨w.heap.size + 1, 2, none⟩ = some (.int .i64 b.inc))) (by kernel_rfl) (by exact ⟨f0, f1, f2, g0, g1, g2⟩) (fun hHeld => ?_)
      generalize hwd : wr.drew = wd at *
      clear hwd
      refine wpAnyH_take (i := 0) (oi := _) (v := ?_) (by simp only [g8a, g8z]; rfl) (by kernel_rfl) (by kernel_rfl) (by kernel_rfl) (by exact fun _ _ _ h => h) (Or.inl ⟨by rfl, ?_⟩) (by assumption) ?_
      rotate_left 1
      · (intro w hSw; (try dsimp only at hSw); go_simp; try with_reducible rfl)
      all_goals ((try simp only [Act.put]); (try simp only [g8b]); (try simp only [g8c]); (try simp only [g8d]))
      refine wpAnyH_take (i := 1) (oi := _) (v := ?_) (by simp only [g8a, g8s, g8z]; rfl) (by kernel_rfl) (by kernel_rfl) (by kernel_rfl) (by exact fun _ _ _ h => h) (Or.inl ⟨by rfl, ?_⟩) (by assumption) ?_
      rotate_left 1
      · (intro w hSw; (try dsimp only at hSw); go_simp; try with_reducible rfl)
      all_goals ((try simp only [Act.put]); (try simp only [g8b]); (try simp only [g8c]); (try simp only [g8d]))
      refine wpAnyH_take (i := 2) (oi := _) (v := ?_) (by simp only [g8a, g8s, g8z]; rfl) (by kernel_rfl) (by kernel_rfl) (by kernel_rfl) (by exact fun _ _ _ h => h) (Or.inl ⟨by rfl, ?_⟩) (by assumption) ?_
      rotate_left 1
      · (intro w hSw; (try dsimp only at hSw); go_simp; try with_reducible rfl)
      all_goals ((try simp only [Act.put]); (try simp only [g8b]); (try simp only [g8c]); (try simp only [g8d]))
      refine wpAnyH_take (i := 4) (oi := _) (v := ?_) (by simp only [g8a, g8s, g8z]; rfl) (by kernel_rfl) (by kernel_rfl) (by kernel_rfl) (by exact fun _ _ _ h => h) (Or.inl ⟨by rfl, ?_⟩) (by assumption) ?_
      rotate_left 1
      · (intro w hSw; (try dsimp only at hSw); go_simp; try with_reducible rfl)
      all_goals ((try simp only [Act.put]); (try simp only [g8b]); (try simp only [g8c]); (try simp only [g8d]))
      refine wpAnyH_take (i := 5) (oi := _) (v := ?_) (by simp only [g8a, g8s, g8z]; rfl) (by kernel_rfl) (by kernel_rfl) (by kernel_rfl) (by exact fun _ _ _ h => h) (Or.inl ⟨by rfl, ?_⟩) (by assumption) ?_
      rotate_left 1
      · (intro w hSw; (try dsimp only at hSw); go_simp; try with_reducible rfl)
      all_goals ((try simp only [Act.put]); (try simp only [g8b]); (try simp only [g8c]); (try simp only [g8d]))
      refine wpAnyH_take (i := 6) (oi := _) (v := ?_) (by simp only [g8a, g8s, g8z]; rfl) (by kernel_rfl) (by kernel_rfl) (by kernel_rfl) (by exact fun _ _ _ h => h) (Or.inl ⟨by rfl, ?_⟩) (by assumption) ?_
      rotate_left 1
      · (intro w hSw; (try dsimp only at hSw); go_simp; try with_reducible rfl)
      all_goals ((try simp only [Act.put]); (try simp only [g8b]); (try simp only [g8c]); (try simp only [g8d]))
      refine wpAnyH_take (i := 7) (oi := _) (v := ?_) (by simp only [g8a, g8s, g8z]; rfl) (by kernel_rfl) (by kernel_rfl) (by kernel_rfl) (by exact fun _ _ _ h => h) (Or.inl ⟨by rfl, ?_⟩) (by assumption) ?_
      rotate_left 1
      · (intro w hSw; (try dsimp only at hSw); go_simp; try with_reducible rfl)
      all_goals ((try simp only [Act.put]); (try simp only [g8b]); (try simp only [g8c]); (try simp only [g8d]))
      clear e1 e2 e3
      refine wpAnyH_ready (rs := [3]) (by kernel_rfl) (by simp) ?_
      refine (AllReadyH.cons (by simp only [g8a, g8s, g8z]; rfl) (fun K hK => ?_) AllReadyH.nil)
      rw [if_pos (by rfl)]
      go_simp
      refine (refAt_any A n c a.per a.inc (S : Int) a.vals _ (by exact P.out.ia) (by omega) (by omega) (by omega) (by omega) (by omega) HAO.out.nn (by omega) (by omega)).mono ?_
      rw [Int.toNat_natCast, ← HX.out]
      rintro e wa ⟨rfl, hb⟩
      replace P := Lib.hid (P.out.below hb)
      clear hb
      try clear hHeld
      clear f0 f1 f2 g0 g1 g2 hlf hlg
      obtain ⟨f0, f1, f2, g0, g1, g2, hlf, hlg⟩ := P.out.cells
      refine hK.out _ _ (by exact ⟨f0, f1, f2, g0, g1, g2⟩) (fun hHeld => ?_)
      clear hK K
      (try simp only [Act.put]); (try simp only [g8b]); (try simp only [g8c]); (try simp only [g8d])
      refine wpAnyH_ready (rs := [8]) (by kernel_rfl) (by simp) ?_
      refine (AllReadyH.cons (by simp only [g8a, g8s, g8z]; rfl) (fun K hK => ?_) AllReadyH.nil)
      rw [if_pos (by rfl)]
      go_simp
      refine (refAt_any B m d b.per b.inc (u : Int) b.vals _ (by exact P.out.ib) (by omega) (by omega) (by omega) (by omega) (by omega) HBO.out.nn (by omega) (by omega)).mono ?_
      rw [Int.toNat_natCast, ← HY.out]
      rintro e wb ⟨rfl, hb⟩
      replace P := Lib.hid (P.out.below hb)
      clear hb
      try clear hHeld
      clear f0 f1 f2 g0 g1 g2 hlf hlg
      obtain ⟨f0, f1, f2, g0, g1, g2, hlf, hlg⟩ := P.out.cells
      refine hK.out _ _ (by exact ⟨f0, f1, f2, g0, g1, g2⟩) (fun hHeld => ?_)
      clear hK K
      (try simp only [Act.put]); (try simp only [g8b]); (try simp only [g8c]); (try simp only [g8d])
      refine wpAnyH_ready (rs := [9]) (by kernel_rfl) (by simp) ?_
      refine (AllReadyH.cons (by simp only [g8a, g8s, g8z]; rfl) (fun K hK => ?_) AllReadyH.nil)
      rw [if_pos (by rfl)]
      go_simp
      refine (plus7_any x y wb (by exact NX.out.1) (by exact NX.out.2) (by exact NY.out.1) (by exact NY.out.2)).mono ?_
      rw [← HP.out]
      rintro e wc ⟨rfl, rfl⟩
      refine hK.out _ _ (by exact ⟨f0, f1, f2, g0, g1, g2⟩) (fun hHeld => ?_)
      clear hK K
      (try simp only [Act.put]); (try simp only [g8b]); (try simp only [g8c]); (try simp only [g8d])
      refine wpAnyH_ready (rs := [10]) (by kernel_rfl) (by simp) ?_
      refine (AllReadyH.cons (by simp only [g8a, g8s, g8z]; rfl) (fun K hK => ?_) AllReadyH.nil)
      rw [if_pos (by rfl)]
      go_simp
      refine hK.out _ _ (by exact ⟨f0, f1, f2, g0, g1, g2⟩) (fun hHeld => ?_)
      clear hK K
      (try simp only [Act.put]); (try simp only [g8b]); (try simp only [g8c]); (try simp only [g8d])
      refine wpAnyH_take (i := 11) (oi := _) (v := ?_) (by simp only [g8a, g8s, g8z]; rfl) (by kernel_rfl) (by kernel_rfl) (by kernel_rfl) (by exact fun _ _ _ h => h) (Or.inl ⟨by rfl, ?_⟩) (by assumption) ?_
      rotate_left 1
      · (intro w hSw; (try dsimp only at hSw); go_simp; try with_reducible rfl)
      all_goals ((try simp only [Act.put]); (try simp only [g8b]); (try simp only [g8c]); (try simp only [g8d]))
      refine wpAnyH_done (by kernel_rfl) ?_ _
      clear hHeld m1 m2
      clear f0 f1 f2 g0 g1 g2 hlf hlg
      go_wp2_with fail
      go_roundg (gk - 1)
      case measure => omega
      case rel => exact ⟨S + 1, mv, by omega, by go_num, rfl, NXT.out, P.out⟩
    · have hki : ¬ (S : Int) ≤ t := by omega
      have bw := P.out.bw
      have FIN := Lib.hid (show CvT a b t v from by
        have e : S = t + 1 := by omega
        have h := HI.out
        rw [e] at h
        exact h)
      go_wp2_with fail
      go_ret
      exact ⟨v, FIN.out, rfl, bw⟩
theorem Ints.first7 {w : World} {B ad of n : Nat} {zs : List Int} (h : Ints w B (some ⟨ad, of, none⟩) n zs) (hn : 0 < n) : w.cell? ⟨ad, of, none⟩ = some (.int .i64 (nth zs 0)) ∧ ad < B := by
  obtain ⟨b, o, he, hb, hc⟩ := h.2 hn
  injection he with he
  injection he with h1 h2
  subst h1 h2
  have := hc 0 hn
  rw [Nat.add_zero] at this
  exact ⟨this, hb⟩
/-- what slope returns -/
def RetSl (a b : Cv) (w : World) (e : Ending) (w' : World) : Prop := ∃ (q : Int) (z : Bool), q = slopeQ a b ∧ (z = true ↔ (a.Fin ∨ b.Fin) ∧ nth a.vals 0 ≠ inf ∧ nth b.vals 0 ≠ inf) ∧ e = .returned (.tuple #[.int .i64 q, .bool z]) ∧ Below w.heap.size w w'
set_option maxHeartbeats 4000000 in
set_option maxRecDepth 100000 in
theorem slope7_any (A B : Option Addr) (n m c d : Nat) (a b : Cv) (C : Nat) (w : World) (hA : Ints w w.heap.size A n a.vals) (hB : Ints w w.heap.size B m b.vals) (ha : a.Ok) (hb : b.Ok) (hC : C = ordC a b) (hC2 : C ≤ 120) :
    Calls Try.prog 102 #[.agg #[.slice A n c, .int .i64 a.per, .int .i64 a.inc], .agg #[.slice B m d, .int .i64 b.per, .int .i64 b.inc], .int .i64 C] w (RetSl a b w) := by
  have a1 := ha.n1; have a2 := ha.n2; have a3 := ha.p1; have a4 := ha.p2; have a5 := ha.pn; have a6 := ha.i1; have a7 := ha.i2
  have b1 := hb.n1; have b2 := hb.n2; have b3 := hb.p1; have b4 := hb.p2; have b5 := hb.pn; have b6 := hb.i1; have b7 := hb.i2
  have hln : a.vals.length = n := hA.1
  have hlm : b.vals.length = m := hB.1
  rw [hln] at a1 a2 a5
  rw [hlm] at b1 b2 b5
  obtain ⟨ad, oa, hAe, _⟩ := hA.2 (by omega)
  subst hAe
  obtain ⟨bd, ob, hBe, _⟩ := hB.2 (by omega)
  subst hBe
  obtain ⟨fa, hfa⟩ : ∃ z, z = (nth a.vals (n - 1) != inf) := ⟨_, rfl⟩
  obtain ⟨fb, hfb⟩ : ∃ z, z = (nth b.vals (m - 1) != inf) := ⟨_, rfl⟩
  have LA := Lib.hid (show fa = true ↔ a.Fin from by rw [hfa, bne_iff_ne, ← hln]; exact ⟨fun h => ⟨ha, h⟩, fun h => h.2⟩)
  have LB := Lib.hid (show fb = true ↔ b.Fin from by rw [hfb, bne_iff_ne, ← hlm]; exact ⟨fun h => ⟨hb, h⟩, fun h => h.2⟩)
  obtain ⟨ga, hga⟩ : ∃ z, z = ((C / a.per.toNat : Nat) : Int) * a.inc := ⟨_, rfl⟩
  obtain ⟨gb, hgb⟩ : ∃ z, z = ((C / b.per.toNat : Nat) : Int) * b.inc := ⟨_, rfl⟩
  have HA1 := Lib.hid (show ga = gnA a b from by rw [hga, hC]; rfl)
  have HB1 := Lib.hid (show gb = gnB a b from by rw [hgb, hC]; rfl)
  have HFA := Lib.hid hfa; have HFB := Lib.hid hfb; have HGA := Lib.hid hga; have HGB := Lib.hid hgb; have HCC := Lib.hid hC
  clear hfa hfb hga hgb hC
  obtain ⟨a0, ha0⟩ : ∃ z, z = nth a.vals 0 := ⟨_, rfl⟩
  obtain ⟨b0, hb0⟩ : ∃ z, z = nth b.vals 0 := ⟨_, rfl⟩
  have HA0 := Lib.hid ha0; have HB0 := Lib.hid hb0
  obtain ⟨zz, hzz⟩ : ∃ zz, zz = ((!fa && !fb) || (a0 == inf) || (b0 == inf)) := ⟨_, rfl⟩
  have ZL := Lib.hid (show zz = false ↔ ((a.Fin ∨ b.Fin) ∧ nth a.vals 0 ≠ inf ∧ nth b.vals 0 ≠ inf) from by
    rw [hzz, ← LA.out, ← LB.out, ← HA0.out, ← HB0.out]
    by_cases i1 : a0 = inf <;> by_cases i2 : b0 = inf <;> cases fa <;> cases fb <;> simp [i1, i2])
  have HZZ := Lib.hid hzz
  clear ha0 hb0 hzz
  have P := Lib.hid (PS.new (c := c) (p := a.per) (i := a.inc) (d := d) (q := b.per) (j := b.inc) hA hB)
  have HAO := Lib.hid ha; have HBO := Lib.hid hb; have HLN := Lib.hid hln; have HLM := Lib.hid hlm
  clear hA hB ha hb hln hlm
  go_enter Try.func102, Try.ntmps102
  go_upto_region 1 with fail
  generalize hwe : (w.alloc (.cells #[.slice (some ⟨ad, oa, none⟩) n c, .int .i64 a.per, .int .i64 a.inc] 31)).alloc (.cells #[.slice (some ⟨bd, ob, none⟩) m d, .int .i64 b.per, .int .i64 b.inc] 31) = we at *
  clear hwe
  go_cut [8] (fun s8 wx => s8 = .bool zz ∧ PS w wx (some ⟨ad, oa, none⟩) n c a.per a.inc a.vals (some ⟨bd, ob, none⟩) m d b.per b.inc b.vals)
  case first =>
    obtain ⟨f0, f1, f2, g0, g1, g2, hlf, hlg⟩ := P.out.cells
    go_wp2_with fail
    refine (fin7_any _ n c a.per a.inc a.vals _ (by exact P.out.ia) (by omega) (by omega)).mono ?_
    rw [← HFA.out]
    rintro e w1 ⟨rfl, hb⟩
    replace P := Lib.hid (P.out.below hb)
    clear hb
    try clear hHeld
    clear f0 f1 f2 g0 g1 g2 hlf hlg
    obtain ⟨f0, f1, f2, g0, g1, g2, hlf, hlg⟩ := P.out.cells
    cases fa
    case false =>
      go_wp2_with fail
      refine (fin7_any _ m d b.per b.inc b.vals _ (by exact P.out.ib) (by omega) (by omega)).mono ?_
      rw [← HFB.out]
      rintro e w2 ⟨rfl, hb⟩
      replace P := Lib.hid (P.out.below hb)
      clear hb
      try clear hHeld
      clear f0 f1 f2 g0 g1 g2 hlf hlg
      obtain ⟨f0, f1, f2, g0, g1, g2, hlf, hlg⟩ := P.out.cells
      cases fb
      case false =>
        go_wp2_with fail
        go_meet
        exact ⟨congrArg Value.bool (by rw [HZZ.out]; rfl), P.out⟩
      case true =>
        obtain ⟨k0, kl0⟩ := P.out.ia.first7 (by omega)
        obtain ⟨k1, kl1⟩ := P.out.ib.first7 (by omega)
        rw [← HA0.out] at k0
        rw [← HB0.out] at k1
        by_cases ia : a0 = inf
        · have da : (a0 == 4611686018427387904) = true := by unfold inf at ia; simpa using ia
          have DA := Lib.hid (show (a0 == inf) = true from by simpa using ia)
          clear ia
          go_wp2_with fail
          go_meet
          exact ⟨congrArg Value.bool (by rw [HZZ.out]; (rw [DA.out]; simp)), P.out⟩
        · have da : (a0 == 4611686018427387904) = false := by unfold inf at ia; simpa using ia
          have DA := Lib.hid (show (a0 == inf) = false from by simpa using ia)
          clear ia
          by_cases ib : b0 = inf
          · have db : (b0 == 4611686018427387904) = true := by unfold inf at ib; simpa using ib
            have DB := Lib.hid (show (b0 == inf) = true from by simpa using ib)
            clear ib
            go_wp2_with fail
            go_meet
            exact ⟨congrArg Value.bool (by rw [HZZ.out]; (rw [DA.out, DB.out]; simp)), P.out⟩
          · have db : (b0 == 4611686018427387904) = false := by unfold inf at ib; simpa using ib
            have DB := Lib.hid (show (b0 == inf) = false from by simpa using ib)
            clear ib
            go_wp2_with fail
            go_meet
            exact ⟨congrArg Value.bool (by rw [HZZ.out]; (rw [DA.out, DB.out]; simp)), P.out⟩
    case true =>
      obtain ⟨k0, kl0⟩ := P.out.ia.first7 (by omega)
      obtain ⟨k1, kl1⟩ := P.out.ib.first7 (by omega)
      rw [← HA0.out] at k0
      rw [← HB0.out] at k1
      by_cases ia : a0 = inf
      · have da : (a0 == 4611686018427387904) = true := by unfold inf at ia; simpa using ia
        have DA := Lib.hid (show (a0 == inf) = true from by simpa using ia)
        clear ia
        go_wp2_with fail
        go_meet
        exact ⟨congrArg Value.bool (by rw [HZZ.out]; (rw [DA.out]; simp)), P.out⟩
      · have da : (a0 == 4611686018427387904) = false := by unfold inf at ia; simpa using ia
        have DA := Lib.hid (show (a0 == inf) = false from by simpa using ia)
        clear ia
        by_cases ib : b0 = inf
        · have db : (b0 == 4611686018427387904) = true := by unfold inf at ib; simpa using ib
          have DB := Lib.hid (show (b0 == inf) = true from by simpa using ib)
          clear ib
          go_wp2_with fail
          go_meet
          exact ⟨congrArg Value.bool (by rw [HZZ.out]; (rw [DA.out, DB.out]; simp)), P.out⟩
        · have db : (b0 == 4611686018427387904) = false := by unfold inf at ib; simpa using ib
          have DB := Lib.hid (show (b0 == inf) = false from by simpa using ib)
          clear ib
          go_wp2_with fail
          go_meet
          exact ⟨congrArg Value.bool (by rw [HZZ.out]; (rw [DA.out, DB.out]; simp)), P.out⟩
  case rest =>
    clear P
    obtain ⟨rfl, hP⟩ := hcut
    have P := Lib.hid hP
    clear hP
    cases zz
    case true =>
      have NZ := Lib.hid (show ¬ ((a.Fin ∨ b.Fin) ∧ nth a.vals 0 ≠ inf ∧ nth b.vals 0 ≠ inf) from fun h => by have := ZL.out.2 h; cases this)
      have bw := P.out.bw
      go_wp2_with fail
      first | go_ret2 | go_ret
      exact ⟨_, _, (slopeQ_no NZ.out).symm, (by constructor <;> intro h; cases h; exact absurd h NZ.out), rfl, bw⟩
    case false =>
      have ZF := Lib.hid (ZL.out.1 rfl)
      obtain ⟨f0, f1, f2, g0, g1, g2, hlf, hlg⟩ := P.out.cells
      go_wp2_with fail
      refine (fin7_any _ n c a.per a.inc a.vals _ (by exact P.out.ia) (by omega) (by omega)).mono ?_
      rw [← HFA.out]
      rintro e w1 ⟨rfl, hb⟩
      replace P := Lib.hid (P.out.below hb)
      clear hb
      try clear hHeld
      clear f0 f1 f2 g0 g1 g2 hlf hlg
      obtain ⟨f0, f1, f2, g0, g1, g2, hlf, hlg⟩ := P.out.cells
      cases fa
      case false =>
        have NA := Lib.hid (show ¬ a.Fin from fun h => by have := LA.out.2 h; cases this)
        have GB := Lib.hid (ZF.out.1.resolve_left NA.out)
        go_wp2_with fail
        refine (grows7_any _ m d b.per b.inc C _ (by omega) (by omega) (by omega) (by omega)).mono ?_
        rw [← HGB.out]
        rintro e w2 ⟨rfl, hb⟩
        replace P := Lib.hid (P.out.below hb)
        clear hb
        try clear hHeld
        clear f0 f1 f2 g0 g1 g2 hlf hlg
        obtain ⟨f0, f1, f2, g0, g1, g2, hlf, hlg⟩ := P.out.cells
        have bw := P.out.bw
        go_wp2_with fail
        first | go_ret2 | go_ret
        exact ⟨_, _, (by rw [slopeQ_yes ZF.out, slopeC_if NA.out GB.out, HB1.out]), ⟨fun _ => ZF.out, fun _ => rfl⟩, rfl, bw⟩
      case true =>
        have GA := Lib.hid (LA.out.1 (by first | rfl | trivial))
        go_wp2_with fail
        refine (fin7_any _ m d b.per b.inc b.vals _ (by exact P.out.ib) (by omega) (by omega)).mono ?_
        rw [← HFB.out]
        rintro e w2 ⟨rfl, hb⟩
        replace P := Lib.hid (P.out.below hb)
        clear hb
        try clear hHeld
        clear f0 f1 f2 g0 g1 g2 hlf hlg
        obtain ⟨f0, f1, f2, g0, g1, g2, hlf, hlg⟩ := P.out.cells
        cases fb
        case false =>
          have NB := Lib.hid (show ¬ b.Fin from fun h => by have := LB.out.2 h; cases this)
          go_wp2_with fail
          refine (grows7_any _ n c a.per a.inc C _ (by omega) (by omega) (by omega) (by omega)).mono ?_
          rw [← HGA.out]
          rintro e w3 ⟨rfl, hb⟩
          replace P := Lib.hid (P.out.below hb)
          clear hb
          try clear hHeld
          clear f0 f1 f2 g0 g1 g2 hlf hlg
          obtain ⟨f0, f1, f2, g0, g1, g2, hlf, hlg⟩ := P.out.cells
          have bw := P.out.bw
          go_wp2_with fail
          first | go_ret2 | go_ret
          exact ⟨_, _, (by rw [slopeQ_yes ZF.out, slopeC_fi GA.out NB.out, HA1.out]), ⟨fun _ => ZF.out, fun _ => rfl⟩, rfl, bw⟩
        case true =>
          have GB := Lib.hid (LB.out.1 (by first | rfl | trivial))
          obtain ⟨sl, hsl⟩ : ∃ sl, sl = min ga gb := ⟨_, rfl⟩
          have HSL := Lib.hid hsl
          have em1 : (if ga < gb then ga else gb) = sl := by rw [hsl]; split <;> omega
          have em2 : (if gb < ga then gb else ga) = sl := by rw [hsl]; split <;> omega
          clear hsl
          go_upto_region 7 with fail
          have P := Lib.hid P.out.drew
          clear f0 f1 f2 g0 g1 g2 hlf hlg
          obtain ⟨f0, f1, f2, g0, g1, g2, hlf, hlg⟩ := P.out.cells
          refine wp_region_held_drew (S := (fun w' => w'.cell? ⟨w.heap.size, 0, none⟩ = some (.slice (some ⟨ad, oa, none⟩) n c) ∧ w'.cell? ⟨w.heap.size, 1, none⟩ = some (.int .i64 a.per) ∧ w'.cell? ⟨w.heap.size, 2, none⟩ = some (.int .i64 a.inc) ∧ w'.cell? ⟨w.heap.size + 1, 0, none⟩ = some (.slice (some ⟨bd, ob, none⟩) m d) ∧ w'.cell? ⟨w.heap.size + 1, 1, none⟩ = some (.int .i64 b.per) ∧ w'.cell? ⟨w.heap.size + 1, 2, none⟩ = some (.int .i64 b.inc))) (by kernel_rfl) (by exact ⟨f0, f1, f2, g0, g1, g2⟩) (fun hHeld => ?_)
          generalize hwd : w2.drew = wd at *
          clear hwd
          refine wpAnyH_take (i := 0) (oi := _) (v := ?_) (by simp only [g8a, g8z]; rfl) (by kernel_rfl) (by kernel_rfl) (by kernel_rfl) (by exact fun _ _ _ h => h) (Or.inl ⟨by rfl, ?_⟩) (by assumption) ?_
          rotate_left 1
          · (intro w hSw; (try dsimp only at hSw); go_simp; try with_reducible rfl)
          all_goals ((try simp only [Act.put]); (try simp only [g8b]); (try simp only [g8c]); (try simp only [g8d]))
          refine wpAnyH_take (i := 1) (oi := _) (v := ?_) (by simp only [g8a, g8s, g8z]; rfl) (by kernel_rfl) (by kernel_rfl) (by kernel_rfl) (by exact fun _ _ _ h => h) (Or.inl ⟨by rfl, ?_⟩) (by assumption) ?_
          rotate_left 1
          · (intro w hSw; (try dsimp only at hSw); go_simp; try with_reducible rfl)
          all_goals ((try simp only [Act.put]); (try simp only [g8b]); (try simp only [g8c]); (try simp only [g8d]))
          refine wpAnyH_take (i := 3) (oi := _) (v := ?_) (by simp only [g8a, g8s, g8z]; rfl) (by kernel_rfl) (by kernel_rfl) (by kernel_rfl) (by exact fun _ _ _ h => h) (Or.inl ⟨by rfl, ?_⟩) (by assumption) ?_
          rotate_left 1
          · (intro w hSw; (try dsimp only at hSw); go_simp; try with_reducible rfl)
          all_goals ((try simp only [Act.put]); (try simp only [g8b]); (try simp only [g8c]); (try simp only [g8d]))
          refine wpAnyH_take (i := 4) (oi := _) (v := ?_) (by simp only [g8a, g8s, g8z]; rfl) (by kernel_rfl) (by kernel_rfl) (by kernel_rfl) (by exact fun _ _ _ h => h) (Or.inl ⟨by rfl, ?_⟩) (by assumption) ?_
          rotate_left 1
          · (intro w hSw; (try dsimp only at hSw); go_simp; try with_reducible rfl)
          all_goals ((try simp only [Act.put]); (try simp only [g8b]); (try simp only [g8c]); (try simp only [g8d]))
          refine wpAnyH_ready (rs := [2]) (by kernel_rfl) (by simp) ?_
          refine (AllReadyH.cons (by simp only [g8a, g8s, g8z]; rfl) (fun K hK => ?_) AllReadyH.nil)
          rw [if_pos (by rfl)]
          go_simp
          refine (grows7_any _ n c a.per a.inc C _ (by omega) (by omega) (by omega) (by omega)).mono ?_
          rw [← HGA.out]
          rintro e w3 ⟨rfl, hb⟩
          replace P := Lib.hid (P.out.below hb)
          clear hb
          try clear hHeld
          clear f0 f1 f2 g0 g1 g2 hlf hlg
          obtain ⟨f0, f1, f2, g0, g1, g2, hlf, hlg⟩ := P.out.cells
          refine hK.out _ _ (by exact ⟨f0, f1, f2, g0, g1, g2⟩) (fun hHeld => ?_)
          clear hK K
          (try simp only [Act.put]); (try simp only [g8b]); (try simp only [g8c]); (try simp only [g8d])
          refine wpAnyH_ready (rs := [5]) (by kernel_rfl) (by simp) ?_
          refine (AllReadyH.cons (by simp only [g8a, g8s, g8z]; rfl) (fun K hK => ?_) AllReadyH.nil)
          rw [if_pos (by rfl)]
          go_simp
          refine (grows7_any _ m d b.per b.inc C _ (by omega) (by omega) (by omega) (by omega)).mono ?_
          rw [← HGB.out]
          rintro e w4 ⟨rfl, hb⟩
          replace P := Lib.hid (P.out.below hb)
          clear hb
          try clear hHeld
          clear f0 f1 f2 g0 g1 g2 hlf hlg
          obtain ⟨f0, f1, f2, g0, g1, g2, hlf, hlg⟩ := P.out.cells
          refine hK.out _ _ (by exact ⟨f0, f1, f2, g0, g1, g2⟩) (fun hHeld => ?_)
          clear hK K
          (try simp only [Act.put]); (try simp only [g8b]); (try simp only [g8c]); (try simp only [g8d])
          refine wpAnyH_ready (rs := [6]) (by kernel_rfl) (by simp) ?_
          refine (AllReadyH.cons (by simp only [g8a, g8s, g8z]; rfl) (fun K hK => ?_) AllReadyH.nil)
          rw [if_pos (by rfl)]
          go_simp
          refine hK.out _ _ (by exact ⟨f0, f1, f2, g0, g1, g2⟩) (fun hHeld => ?_)
          clear hK K
          (try simp only [Act.put]); (try simp only [g8b]); (try simp only [g8c]); (try simp only [g8d])
          refine wpAnyH_take (i := 7) (oi := _) (v := ?_) (by simp only [g8a, g8s, g8z]; rfl) (by kernel_rfl) (by kernel_rfl) (by kernel_rfl) (by exact fun _ _ _ h => h) (Or.inl ⟨by rfl, ?_⟩) (by assumption) ?_
          rotate_left 1
          · (intro w hSw; (try dsimp only at hSw); go_simp; try with_reducible rfl)
          all_goals ((try simp only [Act.put]); (try simp only [g8b]); (try simp only [g8c]); (try simp only [g8d]))
          refine wpAnyH_take (i := 8) (oi := _) (v := ?_) (by simp only [g8a, g8s, g8z]; rfl) (by kernel_rfl) (by kernel_rfl) (by kernel_rfl) (by exact fun _ _ _ h => h) (Or.inl ⟨by rfl, ?_⟩) (by assumption) ?_
          rotate_left 1
          · (intro w hSw; (try dsimp only at hSw); go_simp; try with_reducible rfl)
          all_goals ((try simp only [Act.put]); (try simp only [g8b]); (try simp only [g8c]); (try simp only [g8d]))
          refine wpAnyH_done (by kernel_rfl) ?_ _
          clear hHeld
          have bw := P.out.bw
          go_wp2_with fail
          first | go_ret2 | go_ret
          exact ⟨_, _, (by rw [slopeQ_yes ZF.out, slopeC_ff GA.out GB.out, HSL.out, HA1.out, HB1.out]), ⟨fun _ => ZF.out, fun _ => rfl⟩, rfl, bw⟩
set_option maxHeartbeats 4000000 in
set_option maxRecDepth 100000 in
theorem rep7_any (A B : Option Addr) (n m c d : Nat) (a b : Cv) (C t u : Nat) (q : Int) (w : World) (hA : Ints w w.heap.size A n a.vals) (hB : Ints w w.heap.size B m b.vals) (ha : a.Ok) (hb : b.Ok) (hC : C = ordC a b) (hC2 : C ≤ 120) (hut : u ≤ t) (ht : t ≤ 4000) :
    Calls Try.prog 151 #[.agg #[.slice A n c, .int .i64 a.per, .int .i64 a.inc], .agg #[.slice B m d, .int .i64 b.per, .int .i64 b.inc], .int .i64 q, .int .i64 C, .int .i64 t, .int .i64 u] w (RetQ (RepQ a b q t u) w) := by
  have a1 := ha.n1; have a2 := ha.n2; have a3 := ha.p1; have a4 := ha.p2; have a5 := ha.pn; have a6 := ha.i1; have a7 := ha.i2
  have b1 := hb.n1; have b2 := hb.n2; have b3 := hb.p1; have b4 := hb.p2; have b5 := hb.pn; have b6 := hb.i1; have b7 := hb.i2
  have hln : a.vals.length = n := hA.1
  have hlm : b.vals.length = m := hB.1
  rw [hln] at a1 a2 a5
  rw [hlm] at b1 b2 b5
  obtain ⟨fa, hfa⟩ : ∃ z, z = (nth a.vals (n - 1) != inf) := ⟨_, rfl⟩
  obtain ⟨fb, hfb⟩ : ∃ z, z = (nth b.vals (m - 1) != inf) := ⟨_, rfl⟩
  have LA := Lib.hid (show fa = true ↔ a.Fin from by rw [hfa, bne_iff_ne, ← hln]; exact ⟨fun h => ⟨ha, h⟩, fun h => h.2⟩)
  have LB := Lib.hid (show fb = true ↔ b.Fin from by rw [hfb, bne_iff_ne, ← hlm]; exact ⟨fun h => ⟨hb, h⟩, fun h => h.2⟩)
  obtain ⟨ga, hga⟩ : ∃ z, z = ((C / a.per.toNat : Nat) : Int) * a.inc := ⟨_, rfl⟩
  obtain ⟨gb, hgb⟩ : ∃ z, z = ((C / b.per.toNat : Nat) : Int) * b.inc := ⟨_, rfl⟩
  have HA1 := Lib.hid (show ga = gnA a b from by rw [hga, hC]; rfl)
  have HB1 := Lib.hid (show gb = gnB a b from by rw [hgb, hC]; rfl)
  have HFA := Lib.hid hfa; have HFB := Lib.hid hfb; have HGA := Lib.hid hga; have HGB := Lib.hid hgb; have HCC := Lib.hid hC
  clear hfa hfb hga hgb hC
  have SA := Lib.hid (show (cst a : Int) = (n : Int) - a.per from by unfold cst; rw [hln]; omega)
  have SB := Lib.hid (show (cst b : Int) = (m : Int) - b.per from by unfold cst; rw [hlm]; omega)
  have P := Lib.hid (PS.new (c := c) (p := a.per) (i := a.inc) (d := d) (q := b.per) (j := b.inc) hA hB)
  have HAO := Lib.hid ha; have HBO := Lib.hid hb; have HLN := Lib.hid hln; have HLM := Lib.hid hlm
  clear hA hB ha hb hln hlm
  go_enter Try.func151, Try.ntmps151
  obtain ⟨f0, f1, f2, g0, g1, g2, hlf, hlg⟩ := P.out.cells
  go_wp2_with fail
  refine (fin7_any _ n c a.per a.inc a.vals _ (by exact P.out.ia) (by omega) (by omega)).mono ?_
  rw [← HFA.out]
  rintro e w2 ⟨rfl, hb⟩
  replace P := Lib.hid (P.out.below hb)
  clear hb
  try clear hHeld
  clear f0 f1 f2 g0 g1 g2 hlf hlg
  obtain ⟨f0, f1, f2, g0, g1, g2, hlf, hlg⟩ := P.out.cells
  cases fa
  case false =>
    have N1 := Lib.hid (show ¬ (a.Fin ∧ gnA a b = q ∧ cst a ≤ u) from fun hr => by have := LA.out.2 hr.1; cases this)
    go_wp2_with fail
    refine (fin7_any _ m d b.per b.inc b.vals _ (by exact P.out.ib) (by omega) (by omega)).mono ?_
    rw [← HFB.out]
    rintro e wb ⟨rfl, hb⟩
    replace P := Lib.hid (P.out.below hb)
    clear hb
    try clear hHeld
    clear f0 f1 f2 g0 g1 g2 hlf hlg
    obtain ⟨f0, f1, f2, g0, g1, g2, hlf, hlg⟩ := P.out.cells
    cases fb
    case false =>
      have FIN := Lib.hid (show ¬ RepQ a b q t u from fun hr => hr.elim N1.out (fun hr => by have := LB.out.2 hr.1; cases this))
      have bw := P.out.bw
      go_wp2_with fail
      go_ret
      exact RetQ.no FIN.out bw
    case true =>
      go_wp2_with fail
      refine (grows7_any B m d b.per b.inc C _ (by omega) (by omega) (by omega) (by omega)).mono ?_
      rw [← HGB.out]
      rintro e wc ⟨rfl, hb⟩
      replace P := Lib.hid (P.out.below hb)
      clear hb
      try clear hHeld
      clear f0 f1 f2 g0 g1 g2 hlf hlg
      obtain ⟨f0, f1, f2, g0, g1, g2, hlf, hlg⟩ := P.out.cells
      by_cases q1 : gb = q
      case neg =>
        have d1 : (gb == q) = false := by simpa using q1
        have Q1 := Lib.hid q1
        clear q1
        have FIN := Lib.hid (show ¬ RepQ a b q t u from fun hr => hr.elim N1.out (fun hr => Q1.out (by rw [HB1.out]; exact hr.2.1)))
        have bw := P.out.bw
        go_wp2_with fail
        go_ret
        exact RetQ.no FIN.out bw
      case pos =>
        have d1 : (gb == q) = true := by simpa using q1
        have Q1 := Lib.hid q1
        clear q1
        go_wp2_with fail
        refine (start7_any B m d b.per b.inc _ (by omega) (by omega) (by omega)).mono ?_
        rintro e wd ⟨rfl, hb⟩
        replace P := Lib.hid (P.out.below hb)
        clear hb
        try clear hHeld
        clear f0 f1 f2 g0 g1 g2 hlf hlg
        obtain ⟨f0, f1, f2, g0, g1, g2, hlf, hlg⟩ := P.out.cells
        by_cases q2 : (m : Int) - b.per ≤ (t : Int) - (u : Int)
        case neg =>
          have d2 : decide ((m : Int) - b.per ≤ (t : Int) - (u : Int)) = false := by simpa using q2
          have Q2 := Lib.hid q2
          clear q2
          have FIN := Lib.hid (show ¬ RepQ a b q t u from fun hr => hr.elim N1.out (fun hr => Q2.out (by have := hr.2.2; have := SB.out; omega)))
          have bw := P.out.bw
          go_wp2_with fail
          go_ret
          exact RetQ.no FIN.out bw
        case pos =>
          have d2 : decide ((m : Int) - b.per ≤ (t : Int) - (u : Int)) = true := by simpa using q2
          have FIN := Lib.hid (show RepQ a b q t u from .inr ⟨LB.out.1 (by first | rfl | trivial), by rw [← HB1.out]; exact Q1.out, by have := SB.out; omega⟩)
          clear q2
          have bw := P.out.bw
          go_wp2_with fail
          go_ret
          exact RetQ.yes FIN.out bw
  case true =>
    go_wp2_with fail
    refine (grows7_any A n c a.per a.inc C _ (by omega) (by omega) (by omega) (by omega)).mono ?_
    rw [← HGA.out]
    rintro e w3 ⟨rfl, hb⟩
    replace P := Lib.hid (P.out.below hb)
    clear hb
    try clear hHeld
    clear f0 f1 f2 g0 g1 g2 hlf hlg
    obtain ⟨f0, f1, f2, g0, g1, g2, hlf, hlg⟩ := P.out.cells
    by_cases r1 : ga = q
    case neg =>
      have dr : (ga == q) = false := by simpa using r1
      have N1 := Lib.hid (show ¬ (a.Fin ∧ gnA a b = q ∧ cst a ≤ u) from fun hr => r1 (by rw [HA1.out]; exact hr.2.1))
      clear r1
      go_wp2_with fail
      refine (fin7_any _ m d b.per b.inc b.vals _ (by exact P.out.ib) (by omega) (by omega)).mono ?_
      rw [← HFB.out]
      rintro e wb ⟨rfl, hb⟩
      replace P := Lib.hid (P.out.below hb)
      clear hb
      try clear hHeld
      clear f0 f1 f2 g0 g1 g2 hlf hlg
      obtain ⟨f0, f1, f2, g0, g1, g2, hlf, hlg⟩ := P.out.cells
      cases fb
      case false =>
        have FIN := Lib.hid (show ¬ RepQ a b q t u from fun hr => hr.elim N1.out (fun hr => by have := LB.out.2 hr.1; cases this))
        have bw := P.out.bw
        go_wp2_with fail
        go_ret
        exact RetQ.no FIN.out bw
      case true =>
        go_wp2_with fail
        refine (grows7_any B m d b.per b.inc C _ (by omega) (by omega) (by omega) (by omega)).mono ?_
        rw [← HGB.out]
        rintro e wc ⟨rfl, hb⟩
        replace P := Lib.hid (P.out.below hb)
        clear hb
        try clear hHeld
        clear f0 f1 f2 g0 g1 g2 hlf hlg
        obtain ⟨f0, f1, f2, g0, g1, g2, hlf, hlg⟩ := P.out.cells
        by_cases q1 : gb = q
        case neg =>
          have d1 : (gb == q) = false := by simpa using q1
          have Q1 := Lib.hid q1
          clear q1
          have FIN := Lib.hid (show ¬ RepQ a b q t u from fun hr => hr.elim N1.out (fun hr => Q1.out (by rw [HB1.out]; exact hr.2.1)))
          have bw := P.out.bw
          go_wp2_with fail
          go_ret
          exact RetQ.no FIN.out bw
        case pos =>
          have d1 : (gb == q) = true := by simpa using q1
          have Q1 := Lib.hid q1
          clear q1
          go_wp2_with fail
          refine (start7_any B m d b.per b.inc _ (by omega) (by omega) (by omega)).mono ?_
          rintro e wd ⟨rfl, hb⟩
          replace P := Lib.hid (P.out.below hb)
          clear hb
          try clear hHeld
          clear f0 f1 f2 g0 g1 g2 hlf hlg
          obtain ⟨f0, f1, f2, g0, g1, g2, hlf, hlg⟩ := P.out.cells
          by_cases q2 : (m : Int) - b.per ≤ (t : Int) - (u : Int)
          case neg =>
            have d2 : decide ((m : Int) - b.per ≤ (t : Int) - (u : Int)) = false := by simpa using q2
            have Q2 := Lib.hid q2
            clear q2
            have FIN := Lib.hid (show ¬ RepQ a b q t u from fun hr => hr.elim N1.out (fun hr => Q2.out (by have := hr.2.2; have := SB.out; omega)))
            have bw := P.out.bw
            go_wp2_with fail
            go_ret
            exact RetQ.no FIN.out bw
          case pos =>
            have d2 : decide ((m : Int) - b.per ≤ (t : Int) - (u : Int)) = true := by simpa using q2
            have FIN := Lib.hid (show RepQ a b q t u from .inr ⟨LB.out.1 (by first | rfl | trivial), by rw [← HB1.out]; exact Q1.out, by have := SB.out; omega⟩)
            clear q2
            have bw := P.out.bw
            go_wp2_with fail
            go_ret
            exact RetQ.yes FIN.out bw
    case pos =>
      have dr : (ga == q) = true := by simpa using r1
      have R1 := Lib.hid r1
      clear r1
      go_wp2_with fail
      refine (start7_any A n c a.per a.inc _ (by omega) (by omega) (by omega)).mono ?_
      rintro e w4 ⟨rfl, hb⟩
      replace P := Lib.hid (P.out.below hb)
      clear hb
      try clear hHeld
      clear f0 f1 f2 g0 g1 g2 hlf hlg
      obtain ⟨f0, f1, f2, g0, g1, g2, hlf, hlg⟩ := P.out.cells
      by_cases r2 : (n : Int) - a.per ≤ (u : Int)
      case neg =>
        have d9 : decide ((n : Int) - a.per ≤ (u : Int)) = false := by simpa using r2
        have N1 := Lib.hid (show ¬ (a.Fin ∧ gnA a b = q ∧ cst a ≤ u) from fun hr => r2 (by have := hr.2.2; have := SA.out; omega))
        clear r2
        go_wp2_with fail
        refine (fin7_any _ m d b.per b.inc b.vals _ (by exact P.out.ib) (by omega) (by omega)).mono ?_
        rw [← HFB.out]
        rintro e wb ⟨rfl, hb⟩
        replace P := Lib.hid (P.out.below hb)
        clear hb
        try clear hHeld
        clear f0 f1 f2 g0 g1 g2 hlf hlg
        obtain ⟨f0, f1, f2, g0, g1, g2, hlf, hlg⟩ := P.out.cells
        cases fb
        case false =>
          have FIN := Lib.hid (show ¬ RepQ a b q t u from fun hr => hr.elim N1.out (fun hr => by have := LB.out.2 hr.1; cases this))
          have bw := P.out.bw
          go_wp2_with fail
          go_ret
          exact RetQ.no FIN.out bw
        case true =>
          go_wp2_with fail
          refine (grows7_any B m d b.per b.inc C _ (by omega) (by omega) (by omega) (by omega)).mono ?_
          rw [← HGB.out]
          rintro e wc ⟨rfl, hb⟩
          replace P := Lib.hid (P.out.below hb)
          clear hb
          try clear hHeld
          clear f0 f1 f2 g0 g1 g2 hlf hlg
          obtain ⟨f0, f1, f2, g0, g1, g2, hlf, hlg⟩ := P.out.cells
          by_cases q1 : gb = q
          case neg =>
            have d1 : (gb == q) = false := by simpa using q1
            have Q1 := Lib.hid q1
            clear q1
            have FIN := Lib.hid (show ¬ RepQ a b q t u from fun hr => hr.elim N1.out (fun hr => Q1.out (by rw [HB1.out]; exact hr.2.1)))
            have bw := P.out.bw
            go_wp2_with fail
            go_ret
            exact RetQ.no FIN.out bw
          case pos =>
            have d1 : (gb == q) = true := by simpa using q1
            have Q1 := Lib.hid q1
            clear q1
            go_wp2_with fail
            refine (start7_any B m d b.per b.inc _ (by omega) (by omega) (by omega)).mono ?_
            rintro e wd ⟨rfl, hb⟩
            replace P := Lib.hid (P.out.below hb)
            clear hb
            try clear hHeld
            clear f0 f1 f2 g0 g1 g2 hlf hlg
            obtain ⟨f0, f1, f2, g0, g1, g2, hlf, hlg⟩ := P.out.cells
            by_cases q2 : (m : Int) - b.per ≤ (t : Int) - (u : Int)
            case neg =>
              have d2 : decide ((m : Int) - b.per ≤ (t : Int) - (u : Int)) = false := by simpa using q2
              have Q2 := Lib.hid q2
              clear q2
              have FIN := Lib.hid (show ¬ RepQ a b q t u from fun hr => hr.elim N1.out (fun hr => Q2.out (by have := hr.2.2; have := SB.out; omega)))
              have bw := P.out.bw
              go_wp2_with fail
              go_ret
              exact RetQ.no FIN.out bw
            case pos =>
              have d2 : decide ((m : Int) - b.per ≤ (t : Int) - (u : Int)) = true := by simpa using q2
              have FIN := Lib.hid (show RepQ a b q t u from .inr ⟨LB.out.1 (by first | rfl | trivial), by rw [← HB1.out]; exact Q1.out, by have := SB.out; omega⟩)
              clear q2
              have bw := P.out.bw
              go_wp2_with fail
              go_ret
              exact RetQ.yes FIN.out bw
      case pos =>
        have d9 : decide ((n : Int) - a.per ≤ (u : Int)) = true := by simpa using r2
        have FIN := Lib.hid (show RepQ a b q t u from .inl ⟨LA.out.1 (by first | rfl | trivial), by rw [← HA1.out]; exact R1.out, by have := SA.out; omega⟩)
        clear r2
        have bw := P.out.bw
        go_wp2_with fail
        go_ret
        exact RetQ.yes FIN.out bw
/-- what split returns -/
def RetSi (a b : Cv) (v q : Int) (t : Nat) (must : Bool) (w : World) (e : Ending) (w' : World) : Prop := ∃ r, SplitR a b v q t must r ∧ e = .returned (.int .i64 r) ∧ Below w.heap.size w w'
set_option maxHeartbeats 4000000 in
set_option maxRecDepth 100000 in
theorem split7_any (A B : Option Addr) (n m c d : Nat) (a b : Cv) (C t : Nat) (v q : Int) (must : Bool) (w : World) (hA : Ints w w.heap.size A n a.vals) (hB : Ints w w.heap.size B m b.vals) (ha : a.Ok) (hb : b.Ok) (hC : C = ordC a b) (hC2 : C ≤ 120) (ht : t ≤ 4000) :
    Calls Try.prog 104 #[.agg #[.slice A n c, .int .i64 a.per, .int .i64 a.inc], .agg #[.slice B m d, .int .i64 b.per, .int .i64 b.inc], .int .i64 v, .int .i64 q, .int .i64 C, .int .i64 t, .bool must] w (RetSi a b v q t must w) := by
  have a1 := ha.n1; have a2 := ha.n2; have a3 := ha.p1; have a4 := ha.p2; have a5 := ha.pn; have a6 := ha.i1; have a7 := ha.i2
  have b1 := hb.n1; have b2 := hb.n2; have b3 := hb.p1; have b4 := hb.p2; have b5 := hb.pn; have b6 := hb.i1; have b7 := hb.i2
  have hln : a.vals.length = n := hA.1
  have hlm : b.vals.length = m := hB.1
  rw [hln] at a1 a2 a5
  rw [hlm] at b1 b2 b5
  have HCC := Lib.hid hC
  clear hC
  have P := Lib.hid (PS.new (c := c) (p := a.per) (i := a.inc) (d := d) (q := b.per) (j := b.inc) hA hB)
  have HAO := Lib.hid ha; have HBO := Lib.hid hb; have HLN := Lib.hid hln; have HLM := Lib.hid hlm
  clear hA hB ha hb hln hlm
  go_enter Try.func104, Try.ntmps104
  go_wp2_with fail
  go_loopg [15] (t + 1) (fun gg s15 wx => ∃ u : Nat, u + gg = t + 1 ∧ s15 = .int .i64 u ∧ (∀ x, x < u → ¬ (pl (a.at x) (b.at (t - x)) = v ∧ (must = false ∨ v = inf ∨ RepQ a b q t x))) ∧ PS w wx A n c a.per a.inc a.vals B m d b.per b.inc b.vals)
  case atStart => exact ⟨0, by omega, rfl, (fun x hx => by omega), P.out⟩
  case round =>
    clear P
    obtain ⟨u, hgg, rfl, hno, hP⟩ := hrel
    have P := Lib.hid hP; have HN := Lib.hid hno
    clear hP hno
    by_cases hk : u ≤ t
    · have hki : (u : Int) ≤ t := by omega
      obtain ⟨z, hz⟩ : ∃ z, z = t - u := ⟨_, rfl⟩
      have e1 : IntKind.i64.wrap ((t : Int) - (u : Int)) = (z : Int) := by rw [IntWalk.i64_in _ (by omega)]; omega
      have e2 : (t : Int) - (u : Int) = (z : Int) := by omega
      have e3 : IntKind.i64.wrap (z : Int) = (z : Int) := IntWalk.i64_in _ (by omega)
      have hz9 : z ≤ 4000 := by omega
      obtain ⟨x, hx⟩ : ∃ x, x = a.at u := ⟨_, rfl⟩
      obtain ⟨y, hy⟩ : ∃ y, y = b.at z := ⟨_, rfl⟩
      obtain ⟨pv, hpv⟩ : ∃ pv, pv = pl x y := ⟨_, rfl⟩
      have NX := Lib.hid (show 0 ≤ x ∧ (x = inf ∨ x ≤ 1152921504606846976) from by rw [hx]; exact at_near HAO.out (by omega))
      have NY := Lib.hid (show 0 ≤ y ∧ (y = inf ∨ y ≤ 1152921504606846976) from by rw [hy]; exact at_near HBO.out (by omega))
      have PQ := Lib.hid (show pl (a.at u) (b.at (t - u)) = pv from by rw [hpv, hx, hy, hz])
      have HX := Lib.hid hx; have HY := Lib.hid hy; have HP := Lib.hid hpv
      clear hz hx hy hpv
      go_upto_region 4 with fail
      have P := Lib.hid P.out.drew
      obtain ⟨f0, f1, f2, g0, g1, g2, hlf, hlg⟩ := P.out.cells
      refine wp_region_held_drew (S := (fun w' => w'.cell? ⟨w.heap.size, 0, none⟩ = some (.slice A n c) ∧ w'.cell? ⟨w.heap.size, 1, none⟩ = some (.int .i64 a.per) ∧ w'.cell? ⟨w.heap.size, 2, none⟩ = some (.int .i64 a.inc) ∧ w'.cell? ⟨w.heap.size + 1, 0, none⟩ = some (.slice B m d) ∧ w'.cell? ⟨w.heap.size + 1, 1, none⟩ = some (.int .i64 b.per) ∧ w'.cell? ⟨w.heap.size + 1, 2, none⟩ = some (.int .i64 b.inc))) (by kernel_rfl) (by exact ⟨f0, f1, f2, g0, g1, g2⟩) (fun hHeld => ?_)
      generalize hwd : wr.drew = wd at *
      clear hwd
      refine wpAnyH_take (i := 0) (oi := _) (v := ?_) (by simp only [g8a, g8z]; rfl) (by kernel_rfl) (by kernel_rfl) (by kernel_rfl) (by exact fun _ _ _ h => h) (Or.inl ⟨by rfl, ?_⟩) (by assumption) ?_
      rotate_left 1
      · (intro w hSw; (try dsimp only at hSw); go_simp; try with_reducible rfl)
      all_goals ((try simp only [Act.put]); (try simp only [g8b]); (try simp only [g8c]); (try simp only [g8d]))
      refine wpAnyH_take (i := 1) (oi := _) (v := ?_) (by simp only [g8a, g8s, g8z]; rfl) (by kernel_rfl) (by kernel_rfl) (by kernel_rfl) (by exact fun _ _ _ h => h) (Or.inl ⟨by rfl, ?_⟩) (by assumption) ?_
      rotate_left 1
      · (intro w hSw; (try dsimp only at hSw); go_simp; try with_reducible rfl)
      all_goals ((try simp only [Act.put]); (try simp only [g8b]); (try simp only [g8c]); (try simp only [g8d]))
      refine wpAnyH_take (i := 3) (oi := _) (v := ?_) (by simp only [g8a, g8s, g8z]; rfl) (by kernel_rfl) (by kernel_rfl) (by kernel_rfl) (by exact fun _ _ _ h => h) (Or.inl ⟨by rfl, ?_⟩) (by assumption) ?_
      rotate_left 1
      · (intro w hSw; (try dsimp only at hSw); go_simp; try with_reducible rfl)
      all_goals ((try simp only [Act.put]); (try simp only [g8b]); (try simp only [g8c]); (try simp only [g8d]))
      refine wpAnyH_take (i := 4) (oi := _) (v := ?_) (by simp only [g8a, g8s, g8z]; rfl) (by kernel_rfl) (by kernel_rfl) (by kernel_rfl) (by exact fun _ _ _ h => h) (Or.inl ⟨by rfl, ?_⟩) (by assumption) ?_
      rotate_left 1
      · (intro w hSw; (try dsimp only at hSw); go_simp; try with_reducible rfl)
      all_goals ((try simp only [Act.put]); (try simp only [g8b]); (try simp only [g8c]); (try simp only [g8d]))
      refine wpAnyH_take (i := 5) (oi := _) (v := ?_) (by simp only [g8a, g8s, g8z]; rfl) (by kernel_rfl) (by kernel_rfl) (by kernel_rfl) (by exact fun _ _ _ h => h) (Or.inl ⟨by rfl, ?_⟩) (by assumption) ?_
      rotate_left 1
      · (intro w hSw; (try dsimp only at hSw); go_simp; try with_reducible rfl)
      all_goals ((try simp only [Act.put]); (try simp only [g8b]); (try simp only [g8c]); (try simp only [g8d]))
      refine wpAnyH_take (i := 6) (oi := _) (v := ?_) (by simp only [g8a, g8s, g8z]; rfl) (by kernel_rfl) (by kernel_rfl) (by kernel_rfl) (by exact fun _ _ _ h => h) (Or.inl ⟨by rfl, ?_⟩) (by assumption) ?_
      rotate_left 1
      · (intro w hSw; (try dsimp only at hSw); go_simp; try with_reducible rfl)
      all_goals ((try simp only [Act.put]); (try simp only [g8b]); (try simp only [g8c]); (try simp only [g8d]))
      refine wpAnyH_take (i := 9) (oi := _) (v := ?_) (by simp only [g8a, g8s, g8z]; rfl) (by kernel_rfl) (by kernel_rfl) (by kernel_rfl) (by exact fun _ _ _ h => h) (Or.inl ⟨by rfl, ?_⟩) (by assumption) ?_
      rotate_left 1
      · (intro w hSw; (try dsimp only at hSw); go_simp; try with_reducible rfl)
      all_goals ((try simp only [Act.put]); (try simp only [g8b]); (try simp only [g8c]); (try simp only [g8d]))
      clear e1 e2 e3
      refine wpAnyH_ready (rs := [2]) (by kernel_rfl) (by simp) ?_
      refine (AllReadyH.cons (by simp only [g8a, g8s, g8z]; rfl) (fun K hK => ?_) AllReadyH.nil)
      rw [if_pos (by rfl)]
      go_simp
      refine (refAt_any A n c a.per a.inc (u : Int) a.vals _ (by exact P.out.ia) (by omega) (by omega) (by omega) (by omega) (by omega) HAO.out.nn (by omega) (by omega)).mono ?_
      rw [Int.toNat_natCast, ← HX.out]
      rintro e wa ⟨rfl, hb⟩
      replace P := Lib.hid (P.out.below hb)
      clear hb
      try clear hHeld
      clear f0 f1 f2 g0 g1 g2 hlf hlg
      obtain ⟨f0, f1, f2, g0, g1, g2, hlf, hlg⟩ := P.out.cells
      refine hK.out _ _ (by exact ⟨f0, f1, f2, g0, g1, g2⟩) (fun hHeld => ?_)
      clear hK K
      (try simp only [Act.put]); (try simp only [g8b]); (try simp only [g8c]); (try simp only [g8d])
      refine wpAnyH_ready (rs := [7]) (by kernel_rfl) (by simp) ?_
      refine (AllReadyH.cons (by simp only [g8a, g8s, g8z]; rfl) (fun K hK => ?_) AllReadyH.nil)
      rw [if_pos (by rfl)]
      go_simp
      refine (refAt_any B m d b.per b.inc (z : Int) b.vals _ (by exact P.out.ib) (by omega) (by omega) (by omega) (by omega) (by omega) HBO.out.nn (by omega) (by omega)).mono ?_
      rw [Int.toNat_natCast, ← HY.out]
      rintro e wb ⟨rfl, hb⟩
      replace P := Lib.hid (P.out.below hb)
      clear hb
      try clear hHeld
      clear f0 f1 f2 g0 g1 g2 hlf hlg
      obtain ⟨f0, f1, f2, g0, g1, g2, hlf, hlg⟩ := P.out.cells
      refine hK.out _ _ (by exact ⟨f0, f1, f2, g0, g1, g2⟩) (fun hHeld => ?_)
      clear hK K
      (try simp only [Act.put]); (try simp only [g8b]); (try simp only [g8c]); (try simp only [g8d])
      refine wpAnyH_ready (rs := [8]) (by kernel_rfl) (by simp) ?_
      refine (AllReadyH.cons (by simp only [g8a, g8s, g8z]; rfl) (fun K hK => ?_) AllReadyH.nil)
      rw [if_pos (by rfl)]
      go_simp
      refine (plus7_any x y wb (by exact NX.out.1) (by exact NX.out.2) (by exact NY.out.1) (by exact NY.out.2)).mono ?_
      rw [← HP.out]
      rintro e wc ⟨rfl, rfl⟩
      refine hK.out _ _ (by exact ⟨f0, f1, f2, g0, g1, g2⟩) (fun hHeld => ?_)
      clear hK K
      (try simp only [Act.put]); (try simp only [g8b]); (try simp only [g8c]); (try simp only [g8d])
      by_cases hpe : pv = v
      case neg =>
        have dp : (pv == v) = false := by simpa using hpe
        have NG := Lib.hid (show ¬ (pl (a.at u) (b.at (t - u)) = v ∧ (must = false ∨ v = inf ∨ RepQ a b q t u)) from fun h => hpe (by rw [← PQ.out]; exact h.1))
        clear hpe
        refine wpAnyH_take (i := 10) (oi := _) (v := ?_) (by simp only [g8a, g8s, g8z]; rfl) (by kernel_rfl) (by kernel_rfl) (by kernel_rfl) (by exact fun _ _ _ h => h) (Or.inl ⟨by rfl, ?_⟩) (by assumption) ?_
        rotate_left 1
        · (intro w hSw; (try dsimp only at hSw); go_simp; try with_reducible rfl)
        all_goals ((try simp only [Act.put]); (try simp only [g8b]); (try simp only [g8c]); (try simp only [g8d]))
        refine wpAnyH_take (i := 11) (oi := _) (v := ?_) (by simp only [g8a, g8s, g8z]; rfl) (by kernel_rfl) (by kernel_rfl) (by kernel_rfl) (by exact fun _ _ _ h => h) (Or.inl ⟨by rfl, ?_⟩) (by assumption) ?_
        rotate_left 1
        · (intro w hSw; (try dsimp only at hSw); go_simp; try with_reducible rfl)
        all_goals ((try simp only [Act.put]); (try simp only [g8b]); (try simp only [g8c]); (try simp only [g8d]))
        refine wpAnyH_take (i := 12) (oi := _) (v := undef) (by simp only [g8a, g8s, g8z]; rfl) (by kernel_rfl) (by kernel_rfl) (by kernel_rfl) (by exact fun _ _ _ h => h) (Or.inr ⟨by rfl, rfl⟩) (by assumption) ?_
        (try simp only [Act.put]); (try simp only [g8b]); (try simp only [g8c]); (try simp only [g8d])
        refine wpAnyH_take (i := 13) (oi := _) (v := undef) (by simp only [g8a, g8s, g8z]; rfl) (by kernel_rfl) (by kernel_rfl) (by kernel_rfl) (by exact fun _ _ _ h => h) (Or.inr ⟨by rfl, rfl⟩) (by assumption) ?_
        (try simp only [Act.put]); (try simp only [g8b]); (try simp only [g8c]); (try simp only [g8d])
        refine wpAnyH_take (i := 14) (oi := _) (v := undef) (by simp only [g8a, g8s, g8z]; rfl) (by kernel_rfl) (by kernel_rfl) (by kernel_rfl) (by exact fun _ _ _ h => h) (Or.inr ⟨by rfl, rfl⟩) (by assumption) ?_
        (try simp only [Act.put]); (try simp only [g8b]); (try simp only [g8c]); (try simp only [g8d])
        refine wpAnyH_take (i := 15) (oi := _) (v := undef) (by simp only [g8a, g8s, g8z]; rfl) (by kernel_rfl) (by kernel_rfl) (by kernel_rfl) (by exact fun _ _ _ h => h) (Or.inr ⟨by rfl, rfl⟩) (by assumption) ?_
        (try simp only [Act.put]); (try simp only [g8b]); (try simp only [g8c]); (try simp only [g8d])
        refine wpAnyH_take (i := 16) (oi := _) (v := undef) (by simp only [g8a, g8s, g8z]; rfl) (by kernel_rfl) (by kernel_rfl) (by kernel_rfl) (by exact fun _ _ _ h => h) (Or.inr ⟨by rfl, rfl⟩) (by assumption) ?_
        (try simp only [Act.put]); (try simp only [g8b]); (try simp only [g8c]); (try simp only [g8d])
        refine wpAnyH_take (i := 17) (oi := _) (v := undef) (by simp only [g8a, g8s, g8z]; rfl) (by kernel_rfl) (by kernel_rfl) (by kernel_rfl) (by exact fun _ _ _ h => h) (Or.inr ⟨by rfl, rfl⟩) (by assumption) ?_
        (try simp only [Act.put]); (try simp only [g8b]); (try simp only [g8c]); (try simp only [g8d])
        refine wpAnyH_take (i := 18) (oi := _) (v := undef) (by simp only [g8a, g8s, g8z]; rfl) (by kernel_rfl) (by kernel_rfl) (by kernel_rfl) (by exact fun _ _ _ h => h) (Or.inr ⟨by rfl, rfl⟩) (by assumption) ?_
        (try simp only [Act.put]); (try simp only [g8b]); (try simp only [g8c]); (try simp only [g8d])
        refine wpAnyH_take (i := 19) (oi := _) (v := undef) (by simp only [g8a, g8s, g8z]; rfl) (by kernel_rfl) (by kernel_rfl) (by kernel_rfl) (by exact fun _ _ _ h => h) (Or.inr ⟨by rfl, rfl⟩) (by assumption) ?_
        (try simp only [Act.put]); (try simp only [g8b]); (try simp only [g8c]); (try simp only [g8d])
        refine wpAnyH_take (i := 20) (oi := _) (v := undef) (by simp only [g8a, g8s, g8z]; rfl) (by kernel_rfl) (by kernel_rfl) (by kernel_rfl) (by exact fun _ _ _ h => h) (Or.inr ⟨by rfl, rfl⟩) (by assumption) ?_
        (try simp only [Act.put]); (try simp only [g8b]); (try simp only [g8c]); (try simp only [g8d])
        refine wpAnyH_take (i := 21) (oi := _) (v := undef) (by simp only [g8a, g8s, g8z]; rfl) (by kernel_rfl) (by kernel_rfl) (by kernel_rfl) (by exact fun _ _ _ h => h) (Or.inr ⟨by rfl, rfl⟩) (by assumption) ?_
        (try simp only [Act.put]); (try simp only [g8b]); (try simp only [g8c]); (try simp only [g8d])
        refine wpAnyH_take (i := 22) (oi := _) (v := undef) (by simp only [g8a, g8s, g8z]; rfl) (by kernel_rfl) (by kernel_rfl) (by kernel_rfl) (by exact fun _ _ _ h => h) (Or.inr ⟨by rfl, rfl⟩) (by assumption) ?_
        (try simp only [Act.put]); (try simp only [g8b]); (try simp only [g8c]); (try simp only [g8d])
        refine wpAnyH_take (i := 23) (oi := _) (v := undef) (by simp only [g8a, g8s, g8z]; rfl) (by kernel_rfl) (by kernel_rfl) (by kernel_rfl) (by exact fun _ _ _ h => h) (Or.inr ⟨by rfl, rfl⟩) (by assumption) ?_
        (try simp only [Act.put]); (try simp only [g8b]); (try simp only [g8c]); (try simp only [g8d])
        refine wpAnyH_take (i := 24) (oi := _) (v := undef) (by simp only [g8a, g8s, g8z]; rfl) (by kernel_rfl) (by kernel_rfl) (by kernel_rfl) (by exact fun _ _ _ h => h) (Or.inr ⟨by rfl, rfl⟩) (by assumption) ?_
        (try simp only [Act.put]); (try simp only [g8b]); (try simp only [g8c]); (try simp only [g8d])
        refine wpAnyH_take (i := 25) (oi := _) (v := undef) (by simp only [g8a, g8s, g8z]; rfl) (by kernel_rfl) (by kernel_rfl) (by kernel_rfl) (by exact fun _ _ _ h => h) (Or.inr ⟨by rfl, rfl⟩) (by assumption) ?_
        (try simp only [Act.put]); (try simp only [g8b]); (try simp only [g8c]); (try simp only [g8d])
        refine wpAnyH_take (i := 26) (oi := _) (v := undef) (by simp only [g8a, g8s, g8z]; rfl) (by kernel_rfl) (by kernel_rfl) (by kernel_rfl) (by exact fun _ _ _ h => h) (Or.inr ⟨by rfl, rfl⟩) (by assumption) ?_
        (try simp only [Act.put]); (try simp only [g8b]); (try simp only [g8c]); (try simp only [g8d])
        refine wpAnyH_take (i := 27) (oi := _) (v := ?_) (by simp only [g8a, g8s, g8z]; rfl) (by kernel_rfl) (by kernel_rfl) (by kernel_rfl) (by exact fun _ _ _ h => h) (Or.inl ⟨by rfl, ?_⟩) (by assumption) ?_
        rotate_left 1
        · (intro w hSw; (try dsimp only at hSw); go_simp; try with_reducible rfl)
        all_goals ((try simp only [Act.put]); (try simp only [g8b]); (try simp only [g8c]); (try simp only [g8d]))
        refine wpAnyH_done (by kernel_rfl) ?_ _
        clear hHeld
        clear f0 f1 f2 g0 g1 g2 hlf hlg
        go_wp2_with fail
        go_roundg (gk - 1)
        case measure => omega
        case rel => exact ⟨u + 1, by omega, by go_num, (fun x hx => by
          rcases Nat.lt_or_ge x u with h1 | h1
          · exact HN.out x h1
          · obtain rfl : x = u := by omega
            exact NG.out), P.out⟩
      case pos =>
        have dp : (pv == v) = true := by simpa using hpe
        have HPE := Lib.hid hpe
        clear hpe
        refine wpAnyH_take (i := 10) (oi := _) (v := ?_) (by simp only [g8a, g8s, g8z]; rfl) (by kernel_rfl) (by kernel_rfl) (by kernel_rfl) (by exact fun _ _ _ h => h) (Or.inl ⟨by rfl, ?_⟩) (by assumption) ?_
        rotate_left 1
        · (intro w hSw; (try dsimp only at hSw); go_simp; try with_reducible rfl)
        all_goals ((try simp only [Act.put]); (try simp only [g8b]); (try simp only [g8c]); (try simp only [g8d]))
        refine wpAnyH_take (i := 11) (oi := _) (v := ?_) (by simp only [g8a, g8s, g8z]; rfl) (by kernel_rfl) (by kernel_rfl) (by kernel_rfl) (by exact fun _ _ _ h => h) (Or.inl ⟨by rfl, ?_⟩) (by assumption) ?_
        rotate_left 1
        · (intro w hSw; (try dsimp only at hSw); go_simp; try with_reducible rfl)
        all_goals ((try simp only [Act.put]); (try simp only [g8b]); (try simp only [g8c]); (try simp only [g8d]))
        cases must
        case false =>
          have FIN := Lib.hid (show SplitR a b v q t false (u : Int) from .inl ⟨u, rfl, hk, ⟨by rw [PQ.out, HPE.out], .inl rfl⟩, HN.out⟩)
          refine wpAnyH_take (i := 12) (oi := _) (v := ?_) (by simp only [g8a, g8s, g8z]; rfl) (by kernel_rfl) (by kernel_rfl) (by kernel_rfl) (by exact fun _ _ _ h => h) (Or.inl ⟨by rfl, ?_⟩) (by assumption) ?_
          rotate_left 1
          · (intro w hSw; (try dsimp only at hSw); go_simp; try with_reducible rfl)
          all_goals ((try simp only [Act.put]); (try simp only [g8b]); (try simp only [g8c]); (try simp only [g8d]))
          refine wpAnyH_take (i := 13) (oi := _) (v := ?_) (by simp only [g8a, g8s, g8z]; rfl) (by kernel_rfl) (by kernel_rfl) (by kernel_rfl) (by exact fun _ _ _ h => h) (Or.inl ⟨by rfl, ?_⟩) (by assumption) ?_
          rotate_left 1
          · (intro w hSw; (try dsimp only at hSw); go_simp; try with_reducible rfl)
          all_goals ((try simp only [Act.put]); (try simp only [g8b]); (try simp only [g8c]); (try simp only [g8d]))
          refine wpAnyH_take (i := 14) (oi := _) (v := ?_) (by simp only [g8a, g8s, g8z]; rfl) (by kernel_rfl) (by kernel_rfl) (by kernel_rfl) (by exact fun _ _ _ h => h) (Or.inl ⟨by rfl, ?_⟩) (by assumption) ?_
          rotate_left 1
          · (intro w hSw; (try dsimp only at hSw); go_simp; try with_reducible rfl)
          all_goals ((try simp only [Act.put]); (try simp only [g8b]); (try simp only [g8c]); (try simp only [g8d]))
          refine wpAnyH_take (i := 15) (oi := _) (v := undef) (by simp only [g8a, g8s, g8z]; rfl) (by kernel_rfl) (by kernel_rfl) (by kernel_rfl) (by exact fun _ _ _ h => h) (Or.inr ⟨by rfl, rfl⟩) (by assumption) ?_
          (try simp only [Act.put]); (try simp only [g8b]); (try simp only [g8c]); (try simp only [g8d])
          refine wpAnyH_take (i := 16) (oi := _) (v := undef) (by simp only [g8a, g8s, g8z]; rfl) (by kernel_rfl) (by kernel_rfl) (by kernel_rfl) (by exact fun _ _ _ h => h) (Or.inr ⟨by rfl, rfl⟩) (by assumption) ?_
          (try simp only [Act.put]); (try simp only [g8b]); (try simp only [g8c]); (try simp only [g8d])
          refine wpAnyH_take (i := 17) (oi := _) (v := ?_) (by simp only [g8a, g8s, g8z]; rfl) (by kernel_rfl) (by kernel_rfl) (by kernel_rfl) (by exact fun _ _ _ h => h) (Or.inl ⟨by rfl, ?_⟩) (by assumption) ?_
          rotate_left 1
          · (intro w hSw; (try dsimp only at hSw); go_simp; try with_reducible rfl)
          all_goals ((try simp only [Act.put]); (try simp only [g8b]); (try simp only [g8c]); (try simp only [g8d]))
          refine wpAnyH_take (i := 18) (oi := _) (v := ?_) (by simp only [g8a, g8s, g8z]; rfl) (by kernel_rfl) (by kernel_rfl) (by kernel_rfl) (by exact fun _ _ _ h => h) (Or.inl ⟨by rfl, ?_⟩) (by assumption) ?_
          rotate_left 1
          · (intro w hSw; (try dsimp only at hSw); go_simp; try with_reducible rfl)
          all_goals ((try simp only [Act.put]); (try simp only [g8b]); (try simp only [g8c]); (try simp only [g8d]))
          refine wpAnyH_take (i := 19) (oi := _) (v := undef) (by simp only [g8a, g8s, g8z]; rfl) (by kernel_rfl) (by kernel_rfl) (by kernel_rfl) (by exact fun _ _ _ h => h) (Or.inr ⟨by rfl, rfl⟩) (by assumption) ?_
          (try simp only [Act.put]); (try simp only [g8b]); (try simp only [g8c]); (try simp only [g8d])
          refine wpAnyH_take (i := 20) (oi := _) (v := undef) (by simp only [g8a, g8s, g8z]; rfl) (by kernel_rfl) (by kernel_rfl) (by kernel_rfl) (by exact fun _ _ _ h => h) (Or.inr ⟨by rfl, rfl⟩) (by assumption) ?_
          (try simp only [Act.put]); (try simp only [g8b]); (try simp only [g8c]); (try simp only [g8d])
          refine wpAnyH_take (i := 21) (oi := _) (v := undef) (by simp only [g8a, g8s, g8z]; rfl) (by kernel_rfl) (by kernel_rfl) (by kernel_rfl) (by exact fun _ _ _ h => h) (Or.inr ⟨by rfl, rfl⟩) (by assumption) ?_
          (try simp only [Act.put]); (try simp only [g8b]); (try simp only [g8c]); (try simp only [g8d])
          refine wpAnyH_take (i := 22) (oi := _) (v := undef) (by simp only [g8a, g8s, g8z]; rfl) (by kernel_rfl) (by kernel_rfl) (by kernel_rfl) (by exact fun _ _ _ h => h) (Or.inr ⟨by rfl, rfl⟩) (by assumption) ?_
          (try simp only [Act.put]); (try simp only [g8b]); (try simp only [g8c]); (try simp only [g8d])
          refine wpAnyH_take (i := 23) (oi := _) (v := undef) (by simp only [g8a, g8s, g8z]; rfl) (by kernel_rfl) (by kernel_rfl) (by kernel_rfl) (by exact fun _ _ _ h => h) (Or.inr ⟨by rfl, rfl⟩) (by assumption) ?_
          (try simp only [Act.put]); (try simp only [g8b]); (try simp only [g8c]); (try simp only [g8d])
          refine wpAnyH_take (i := 24) (oi := _) (v := undef) (by simp only [g8a, g8s, g8z]; rfl) (by kernel_rfl) (by kernel_rfl) (by kernel_rfl) (by exact fun _ _ _ h => h) (Or.inr ⟨by rfl, rfl⟩) (by assumption) ?_
          (try simp only [Act.put]); (try simp only [g8b]); (try simp only [g8c]); (try simp only [g8d])
          refine wpAnyH_take (i := 25) (oi := _) (v := undef) (by simp only [g8a, g8s, g8z]; rfl) (by kernel_rfl) (by kernel_rfl) (by kernel_rfl) (by exact fun _ _ _ h => h) (Or.inr ⟨by rfl, rfl⟩) (by assumption) ?_
          (try simp only [Act.put]); (try simp only [g8b]); (try simp only [g8c]); (try simp only [g8d])
          refine wpAnyH_take (i := 26) (oi := _) (v := ?_) (by simp only [g8a, g8s, g8z]; rfl) (by kernel_rfl) (by kernel_rfl) (by kernel_rfl) (by exact fun _ _ _ h => h) (Or.inl ⟨by rfl, ?_⟩) (by assumption) ?_
          rotate_left 1
          · (intro w hSw; (try dsimp only at hSw); go_simp; try with_reducible rfl)
          all_goals ((try simp only [Act.put]); (try simp only [g8b]); (try simp only [g8c]); (try simp only [g8d]))
          refine wpAnyH_take (i := 27) (oi := _) (v := ?_) (by simp only [g8a, g8s, g8z]; rfl) (by kernel_rfl) (by kernel_rfl) (by kernel_rfl) (by exact fun _ _ _ h => h) (Or.inl ⟨by rfl, ?_⟩) (by assumption) ?_
          rotate_left 1
          · (intro w hSw; (try dsimp only at hSw); go_simp; try with_reducible rfl)
          all_goals ((try simp only [Act.put]); (try simp only [g8b]); (try simp only [g8c]); (try simp only [g8d]))
          refine wpAnyH_done (by kernel_rfl) ?_ _
          clear hHeld
          clear f0 f1 f2 g0 g1 g2 hlf hlg
          have bw := P.out.bw
          go_wp2_with fail
          try rw [Exit.noGoto_ret]
          go_ret
          exact ⟨_, FIN.out, rfl, bw⟩
        case true =>
          refine wpAnyH_take (i := 12) (oi := _) (v := ?_) (by simp only [g8a, g8s, g8z]; rfl) (by kernel_rfl) (by kernel_rfl) (by kernel_rfl) (by exact fun _ _ _ h => h) (Or.inl ⟨by rfl, ?_⟩) (by assumption) ?_
          rotate_left 1
          · (intro w hSw; (try dsimp only at hSw); go_simp; try with_reducible rfl)
          all_goals ((try simp only [Act.put]); (try simp only [g8b]); (try simp only [g8c]); (try simp only [g8d]))
          refine wpAnyH_take (i := 13) (oi := _) (v := ?_) (by simp only [g8a, g8s, g8z]; rfl) (by kernel_rfl) (by kernel_rfl) (by kernel_rfl) (by exact fun _ _ _ h => h) (Or.inl ⟨by rfl, ?_⟩) (by assumption) ?_
          rotate_left 1
          · (intro w hSw; (try dsimp only at hSw); go_simp; try with_reducible rfl)
          all_goals ((try simp only [Act.put]); (try simp only [g8b]); (try simp only [g8c]); (try simp only [g8d]))
          refine wpAnyH_take (i := 14) (oi := _) (v := ?_) (by simp only [g8a, g8s, g8z]; rfl) (by kernel_rfl) (by kernel_rfl) (by kernel_rfl) (by exact fun _ _ _ h => h) (Or.inl ⟨by rfl, ?_⟩) (by assumption) ?_
          rotate_left 1
          · (intro w hSw; (try dsimp only at hSw); go_simp; try with_reducible rfl)
          all_goals ((try simp only [Act.put]); (try simp only [g8b]); (try simp only [g8c]); (try simp only [g8d]))
          refine wpAnyH_take (i := 15) (oi := _) (v := ?_) (by simp only [g8a, g8s, g8z]; rfl) (by kernel_rfl) (by kernel_rfl) (by kernel_rfl) (by exact fun _ _ _ h => h) (Or.inl ⟨by rfl, ?_⟩) (by assumption) ?_
          rotate_left 1
          · (intro w hSw; (try dsimp only at hSw); go_simp; try with_reducible rfl)
          all_goals ((try simp only [Act.put]); (try simp only [g8b]); (try simp only [g8c]); (try simp only [g8d]))
          by_cases hvi : v = inf
          case pos =>
            have FIN := Lib.hid (show SplitR a b v q t true (u : Int) from .inl ⟨u, rfl, hk, ⟨by rw [PQ.out, HPE.out], .inr (.inl hvi)⟩, HN.out⟩)
            have di : (v == 4611686018427387904) = true := by unfold inf at hvi; simpa using hvi
            clear hvi
            refine wpAnyH_take (i := 16) (oi := _) (v := ?_) (by simp only [g8a, g8s, g8z]; rfl) (by kernel_rfl) (by kernel_rfl) (by kernel_rfl) (by exact fun _ _ _ h => h) (Or.inl ⟨by rfl, ?_⟩) (by assumption) ?_
            rotate_left 1
            · (intro w hSw; (try dsimp only at hSw); go_simp; try with_reducible rfl)
            all_goals ((try simp only [Act.put]); (try simp only [g8b]); (try simp only [g8c]); (try simp only [g8d]))
            refine wpAnyH_take (i := 17) (oi := _) (v := ?_) (by simp only [g8a, g8s, g8z]; rfl) (by kernel_rfl) (by kernel_rfl) (by kernel_rfl) (by exact fun _ _ _ h => h) (Or.inl ⟨by rfl, ?_⟩) (by assumption) ?_
            rotate_left 1
            · (intro w hSw; (try dsimp only at hSw); go_simp; try with_reducible rfl)
            all_goals ((try simp only [Act.put]); (try simp only [g8b]); (try simp only [g8c]); (try simp only [g8d]))
            refine wpAnyH_take (i := 18) (oi := _) (v := ?_) (by simp only [g8a, g8s, g8z]; rfl) (by kernel_rfl) (by kernel_rfl) (by kernel_rfl) (by exact fun _ _ _ h => h) (Or.inl ⟨by rfl, ?_⟩) (by assumption) ?_
            rotate_left 1
            · (intro w hSw; (try dsimp only at hSw); go_simp; try with_reducible rfl)
            all_goals ((try simp only [Act.put]); (try simp only [g8b]); (try simp only [g8c]); (try simp only [g8d]))
            refine wpAnyH_take (i := 19) (oi := _) (v := undef) (by simp only [g8a, g8s, g8z]; rfl) (by kernel_rfl) (by kernel_rfl) (by kernel_rfl) (by exact fun _ _ _ h => h) (Or.inr ⟨by rfl, rfl⟩) (by assumption) ?_
            (try simp only [Act.put]); (try simp only [g8b]); (try simp only [g8c]); (try simp only [g8d])
            refine wpAnyH_take (i := 20) (oi := _) (v := undef) (by simp only [g8a, g8s, g8z]; rfl) (by kernel_rfl) (by kernel_rfl) (by kernel_rfl) (by exact fun _ _ _ h => h) (Or.inr ⟨by rfl, rfl⟩) (by assumption) ?_
            (try simp only [Act.put]); (try simp only [g8b]); (try simp only [g8c]); (try simp only [g8d])
            refine wpAnyH_take (i := 21) (oi := _) (v := undef) (by simp only [g8a, g8s, g8z]; rfl) (by kernel_rfl) (by kernel_rfl) (by kernel_rfl) (by exact fun _ _ _ h => h) (Or.inr ⟨by rfl, rfl⟩) (by assumption) ?_
            (try simp only [Act.put]); (try simp only [g8b]); (try simp only [g8c]); (try simp only [g8d])
            refine wpAnyH_take (i := 22) (oi := _) (v := undef) (by simp only [g8a, g8s, g8z]; rfl) (by kernel_rfl) (by kernel_rfl) (by kernel_rfl) (by exact fun _ _ _ h => h) (Or.inr ⟨by rfl, rfl⟩) (by assumption) ?_
            (try simp only [Act.put]); (try simp only [g8b]); (try simp only [g8c]); (try simp only [g8d])
            refine wpAnyH_take (i := 23) (oi := _) (v := undef) (by simp only [g8a, g8s, g8z]; rfl) (by kernel_rfl) (by kernel_rfl) (by kernel_rfl) (by exact fun _ _ _ h => h) (Or.inr ⟨by rfl, rfl⟩) (by assumption) ?_
            (try simp only [Act.put]); (try simp only [g8b]); (try simp only [g8c]); (try simp only [g8d])
            refine wpAnyH_take (i := 24) (oi := _) (v := undef) (by simp only [g8a, g8s, g8z]; rfl) (by kernel_rfl) (by kernel_rfl) (by kernel_rfl) (by exact fun _ _ _ h => h) (Or.inr ⟨by rfl, rfl⟩) (by assumption) ?_
            (try simp only [Act.put]); (try simp only [g8b]); (try simp only [g8c]); (try simp only [g8d])
            refine wpAnyH_take (i := 25) (oi := _) (v := undef) (by simp only [g8a, g8s, g8z]; rfl) (by kernel_rfl) (by kernel_rfl) (by kernel_rfl) (by exact fun _ _ _ h => h) (Or.inr ⟨by rfl, rfl⟩) (by assumption) ?_
            (try simp only [Act.put]); (try simp only [g8b]); (try simp only [g8c]); (try simp only [g8d])
            refine wpAnyH_take (i := 26) (oi := _) (v := ?_) (by simp only [g8a, g8s, g8z]; rfl) (by kernel_rfl) (by kernel_rfl) (by kernel_rfl) (by exact fun _ _ _ h => h) (Or.inl ⟨by rfl, ?_⟩) (by assumption) ?_
            rotate_left 1
            · (intro w hSw; (try dsimp only at hSw); go_simp; try with_reducible rfl)
            all_goals ((try simp only [Act.put]); (try simp only [g8b]); (try simp only [g8c]); (try simp only [g8d]))
            refine wpAnyH_take (i := 27) (oi := _) (v := ?_) (by simp only [g8a, g8s, g8z]; rfl) (by kernel_rfl) (by kernel_rfl) (by kernel_rfl) (by exact fun _ _ _ h => h) (Or.inl ⟨by rfl, ?_⟩) (by assumption) ?_
            rotate_left 1
            · (intro w hSw; (try dsimp only at hSw); go_simp; try with_reducible rfl)
            all_goals ((try simp only [Act.put]); (try simp only [g8b]); (try simp only [g8c]); (try simp only [g8d]))
            refine wpAnyH_done (by kernel_rfl) ?_ _
            clear hHeld
            clear f0 f1 f2 g0 g1 g2 hlf hlg
            have bw := P.out.bw
            go_wp2_with fail
            try rw [Exit.noGoto_ret]
            go_ret
            exact ⟨_, FIN.out, rfl, bw⟩
          case neg =>
            have di : (v == 4611686018427387904) = false := by unfold inf at hvi; simpa using hvi
            have HVI := Lib.hid hvi
            clear hvi
            refine wpAnyH_take (i := 16) (oi := _) (v := ?_) (by simp only [g8a, g8s, g8z]; rfl) (by kernel_rfl) (by kernel_rfl) (by kernel_rfl) (by exact fun _ _ _ h => h) (Or.inl ⟨by rfl, ?_⟩) (by assumption) ?_
            rotate_left 1
            · (intro w hSw; (try dsimp only at hSw); go_simp; try with_reducible rfl)
            all_goals ((try simp only [Act.put]); (try simp only [g8b]); (try simp only [g8c]); (try simp only [g8d]))
            refine wpAnyH_take (i := 17) (oi := _) (v := ?_) (by simp only [g8a, g8s, g8z]; rfl) (by kernel_rfl) (by kernel_rfl) (by kernel_rfl) (by exact fun _ _ _ h => h) (Or.inl ⟨by rfl, ?_⟩) (by assumption) ?_
            rotate_left 1
            · (intro w hSw; (try dsimp only at hSw); go_simp; try with_reducible rfl)
            all_goals ((try simp only [Act.put]); (try simp only [g8b]); (try simp only [g8c]); (try simp only [g8d]))
            refine wpAnyH_take (i := 18) (oi := _) (v := ?_) (by simp only [g8a, g8s, g8z]; rfl) (by kernel_rfl) (by kernel_rfl) (by kernel_rfl) (by exact fun _ _ _ h => h) (Or.inl ⟨by rfl, ?_⟩) (by assumption) ?_
            rotate_left 1
            · (intro w hSw; (try dsimp only at hSw); go_simp; try with_reducible rfl)
            all_goals ((try simp only [Act.put]); (try simp only [g8b]); (try simp only [g8c]); (try simp only [g8d]))
            refine wpAnyH_take (i := 19) (oi := _) (v := ?_) (by simp only [g8a, g8s, g8z]; rfl) (by kernel_rfl) (by kernel_rfl) (by kernel_rfl) (by exact fun _ _ _ h => h) (Or.inl ⟨by rfl, ?_⟩) (by assumption) ?_
            rotate_left 1
            · (intro w hSw; (try dsimp only at hSw); go_simp; try with_reducible rfl)
            all_goals ((try simp only [Act.put]); (try simp only [g8b]); (try simp only [g8c]); (try simp only [g8d]))
            refine wpAnyH_take (i := 20) (oi := _) (v := ?_) (by simp only [g8a, g8s, g8z]; rfl) (by kernel_rfl) (by kernel_rfl) (by kernel_rfl) (by exact fun _ _ _ h => h) (Or.inl ⟨by rfl, ?_⟩) (by assumption) ?_
            rotate_left 1
            · (intro w hSw; (try dsimp only at hSw); go_simp; try with_reducible rfl)
            all_goals ((try simp only [Act.put]); (try simp only [g8b]); (try simp only [g8c]); (try simp only [g8d]))
            refine wpAnyH_take (i := 21) (oi := _) (v := ?_) (by simp only [g8a, g8s, g8z]; rfl) (by kernel_rfl) (by kernel_rfl) (by kernel_rfl) (by exact fun _ _ _ h => h) (Or.inl ⟨by rfl, ?_⟩) (by assumption) ?_
            rotate_left 1
            · (intro w hSw; (try dsimp only at hSw); go_simp; try with_reducible rfl)
            all_goals ((try simp only [Act.put]); (try simp only [g8b]); (try simp only [g8c]); (try simp only [g8d]))
            refine wpAnyH_take (i := 22) (oi := _) (v := ?_) (by simp only [g8a, g8s, g8z]; rfl) (by kernel_rfl) (by kernel_rfl) (by kernel_rfl) (by exact fun _ _ _ h => h) (Or.inl ⟨by rfl, ?_⟩) (by assumption) ?_
            rotate_left 1
            · (intro w hSw; (try dsimp only at hSw); go_simp; try with_reducible rfl)
            all_goals ((try simp only [Act.put]); (try simp only [g8b]); (try simp only [g8c]); (try simp only [g8d]))
            refine wpAnyH_take (i := 23) (oi := _) (v := ?_) (by simp only [g8a, g8s, g8z]; rfl) (by kernel_rfl) (by kernel_rfl) (by kernel_rfl) (by exact fun _ _ _ h => h) (Or.inl ⟨by rfl, ?_⟩) (by assumption) ?_
            rotate_left 1
            · (intro w hSw; (try dsimp only at hSw); go_simp; try with_reducible rfl)
            all_goals ((try simp only [Act.put]); (try simp only [g8b]); (try simp only [g8c]); (try simp only [g8d]))
            refine wpAnyH_take (i := 24) (oi := _) (v := ?_) (by simp only [g8a, g8s, g8z]; rfl) (by kernel_rfl) (by kernel_rfl) (by kernel_rfl) (by exact fun _ _ _ h => h) (Or.inl ⟨by rfl, ?_⟩) (by assumption) ?_
            rotate_left 1
            · (intro w hSw; (try dsimp only at hSw); go_simp; try with_reducible rfl)
            all_goals ((try simp only [Act.put]); (try simp only [g8b]); (try simp only [g8c]); (try simp only [g8d]))
            refine wpAnyH_ready (rs := [25]) (by kernel_rfl) (by simp) ?_
            refine (AllReadyH.cons (by simp only [g8a, g8s, g8z]; rfl) (fun K hK => ?_) AllReadyH.nil)
            rw [if_pos (by rfl)]
            go_simp
            refine (rep7_any A B n m c d a b C t u q _ (by exact P.out.ia) (by exact P.out.ib) HAO.out HBO.out HCC.out (by omega) (by omega) (by omega)).mono ?_
            rintro e wg ⟨⟨rz, hrz, rfl⟩, hb⟩
            have RZ := Lib.hid hrz
            clear hrz
            replace P := Lib.hid (P.out.below hb)
            clear hb
            try clear hHeld
            clear f0 f1 f2 g0 g1 g2 hlf hlg
            obtain ⟨f0, f1, f2, g0, g1, g2, hlf, hlg⟩ := P.out.cells
            refine hK.out _ _ (by exact ⟨f0, f1, f2, g0, g1, g2⟩) (fun hHeld => ?_)
            clear hK K
            (try simp only [Act.put]); (try simp only [g8b]); (try simp only [g8c]); (try simp only [g8d])
            cases rz
            case false =>
              have NG := Lib.hid (show ¬ (pl (a.at u) (b.at (t - u)) = v ∧ (true = false ∨ v = inf ∨ RepQ a b q t u)) from fun h => by
                rcases h.2 with h | h | h
                · cases h
                · exact HVI.out h
                · have := RZ.out.2 h
                  cases this)
              refine wpAnyH_take (i := 26) (oi := _) (v := ?_) (by simp only [g8a, g8s, g8z]; rfl) (by kernel_rfl) (by kernel_rfl) (by kernel_rfl) (by exact fun _ _ _ h => h) (Or.inl ⟨by rfl, ?_⟩) (by assumption) ?_
              rotate_left 1
              · (intro w hSw; (try dsimp only at hSw); go_simp; try with_reducible rfl)
              all_goals ((try simp only [Act.put]); (try simp only [g8b]); (try simp only [g8c]); (try simp only [g8d]))
              refine wpAnyH_take (i := 27) (oi := _) (v := ?_) (by simp only [g8a, g8s, g8z]; rfl) (by kernel_rfl) (by kernel_rfl) (by kernel_rfl) (by exact fun _ _ _ h => h) (Or.inl ⟨by rfl, ?_⟩) (by assumption) ?_
              rotate_left 1
              · (intro w hSw; (try dsimp only at hSw); go_simp; try with_reducible rfl)
              all_goals ((try simp only [Act.put]); (try simp only [g8b]); (try simp only [g8c]); (try simp only [g8d]))
              refine wpAnyH_done (by kernel_rfl) ?_ _
              clear hHeld
              clear f0 f1 f2 g0 g1 g2 hlf hlg
              go_wp2_with fail
              go_roundg (gk - 1)
              case measure => omega
              case rel => exact ⟨u + 1, by omega, by go_num, (fun x hx => by
                rcases Nat.lt_or_ge x u with h1 | h1
                · exact HN.out x h1
                · obtain rfl : x = u := by omega
                  exact NG.out), P.out⟩
            case true =>
              have FIN := Lib.hid (show SplitR a b v q t true (u : Int) from .inl ⟨u, rfl, hk, ⟨by rw [PQ.out, HPE.out], .inr (.inr (RZ.out.1 (by first | rfl | trivial)))⟩, HN.out⟩)
              refine wpAnyH_take (i := 26) (oi := _) (v := ?_) (by simp only [g8a, g8s, g8z]; rfl) (by kernel_rfl) (by kernel_rfl) (by kernel_rfl) (by exact fun _ _ _ h => h) (Or.inl ⟨by rfl, ?_⟩) (by assumption) ?_
              rotate_left 1
              · (intro w hSw; (try dsimp only at hSw); go_simp; try with_reducible rfl)
              all_goals ((try simp only [Act.put]); (try simp only [g8b]); (try simp only [g8c]); (try simp only [g8d]))
              refine wpAnyH_take (i := 27) (oi := _) (v := ?_) (by simp only [g8a, g8s, g8z]; rfl) (by kernel_rfl) (by kernel_rfl) (by kernel_rfl) (by exact fun _ _ _ h => h) (Or.inl ⟨by rfl, ?_⟩) (by assumption) ?_
              rotate_left 1
              · (intro w hSw; (try dsimp only at hSw); go_simp; try with_reducible rfl)
              all_goals ((try simp only [Act.put]); (try simp only [g8b]); (try simp only [g8c]); (try simp only [g8d]))
              refine wpAnyH_done (by kernel_rfl) ?_ _
              clear hHeld
              clear f0 f1 f2 g0 g1 g2 hlf hlg
              have bw := P.out.bw
              go_wp2_with fail
              try rw [Exit.noGoto_ret]
              go_ret
              exact ⟨_, FIN.out, rfl, bw⟩
    · have hki : ¬ (u : Int) ≤ t := by omega
      have bw := P.out.bw
      have FIN := Lib.hid (show SplitR a b v q t must (-1) from .inr ⟨rfl, fun x hx => HN.out x (by omega)⟩)
      go_wp2_with fail
      go_ret
      exact ⟨_, FIN.out, rfl, bw⟩
end Go.Proofs.Ytbkimphcmmmaiaa
