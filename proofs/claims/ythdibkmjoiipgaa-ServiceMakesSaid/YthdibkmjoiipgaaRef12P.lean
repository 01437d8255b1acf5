/- The pace curve as the reference reckons it, in plain words. -/
import Derived.Test.YthdibkmjoiipgaaTokLaw
import Derived.Test.YthdibkmjoiipgaaArith
import Derived.Test.YthdibkmjoiipgaaRefFr
import Derived.Test.YthdibkmjoiipgaaRefFlat
import Derived.Test.YthdibkmjoiipgaaPace
import Derived.Test.YthdibkmjoiipgaaRefMade
import Derived.Test.YthdibkmjoiipgaaRefSame
import Derived.StillTailTactics
import Derived.Deep.QuietTactic
import Derived.BigQuiet
import Derived.BigRegion
import Derived.Outline
import Derived.Deep.DeepCutAuto
namespace Go.Proofs.Ythdibkmjoiipgaa
set_option linter.unusedVariables false

theorem cdiv_up {x d : Int} (hd : 1 ≤ d) : cdiv x d = (x + d - 1) / d := by
  have a : ∀ m, cdiv x d ≤ m ↔ (x + d - 1) / d ≤ m := fun m => by
    rw [cdiv_le hd]
    have h1 := Int.mul_ediv_add_emod (x + d - 1) d
    have h2 := Int.emod_nonneg (x + d - 1) (show d ≠ 0 by omega)
    have h3 := Int.emod_lt_of_pos (x + d - 1) (show 0 < d by omega)
    generalize (x + d - 1) / d = q at *
    generalize (x + d - 1) % d = r at *
    constructor
    · intro h
      rcases Int.lt_or_le m q with e | e
      · exfalso
        have : d * (m + 1) ≤ d * q := Int.mul_le_mul_of_nonneg_left (by omega) (by omega)
        rw [Int.mul_add, Int.mul_one, Int.mul_comm d m] at this
        omega
      · exact e
    · intro h
      have : d * q ≤ d * m := Int.mul_le_mul_of_nonneg_left h (by omega)
      rw [Int.mul_comm d m] at this
      omega
  have b := (a (cdiv x d)).1 (Int.le_refl _)
  have c := (a ((x + d - 1) / d)).2 (Int.le_refl _)
  omega
section
variable {R r L l : Int}
/-- what the reference adds up of the whole parts, and of the rests -/
def prQ (R r l W P : Int) : Int := W / r + R / r * P / l
def prR (R r l W P : Int) : Int := W % r * l + R % r * P + R / r * P % l * r
theorem pc_ref (hR : 0 ≤ R) (hr : 1 ≤ r) (hL : 0 ≤ L) (hl : 1 ≤ l) {F j : Nat} (hF : L ≤ (F : Int) * l) :
    pcV R r L l (F + j) = prQ R r l (R * j) (F * l - L) + (prR R r l (R * j) (F * l - L) + r * l - 1) / (r * l) := by
  have hd := rl_pos hr hl
  have h1 : L ≤ ((F + j : Nat) : Int) * l := by
    have : (F : Int) * l ≤ ((F + j : Nat) : Int) * l := Int.mul_le_mul_of_nonneg_right (by omega) (by omega)
    omega
  rw [pc_late hR hr hl h1, ← cdiv_up hd]
  obtain ⟨P, hP⟩ : ∃ P, P = (F : Int) * l - L := ⟨_, rfl⟩
  obtain ⟨W, hW⟩ : ∃ W, W = R * (j : Int) := ⟨_, rfl⟩
  have e : R * ((F + j : Nat) : Int) * l - R * L = W * l + R * P := by
    rw [hP, hW, Int.natCast_add, Int.mul_add, Int.add_mul, Int.mul_sub, Int.mul_assoc R (F : Int) l]
    omega
  rw [e, ← hP, ← hW]
  unfold prQ prR
  have a1 := Int.mul_ediv_add_emod W r
  have b1 := Int.mul_ediv_add_emod R r
  have c1 := Int.mul_ediv_add_emod (R / r * P) l
  generalize W / r = wq at *
  generalize W % r = wr at *
  generalize R / r = Rq at *
  generalize R % r = Rr at *
  generalize Rq * P / l = pq at *
  generalize Rq * P % l = pr at *
  have e2 : W * l + R * P = (wr * l + Rr * P + pr * r) + (wq + pq) * (r * l) := by
    rw [← a1, ← b1, Int.add_mul, Int.add_mul, Int.add_mul wq pq]
    have q1 : r * wq * l = wq * (r * l) := by rw [Int.mul_comm r wq, Int.mul_assoc]
    have q2 : r * Rq * P = r * (Rq * P) := Int.mul_assoc _ _ _
    have q3 : r * (l * pq + pr) = pq * (r * l) + pr * r := by
      rw [Int.mul_add, Int.mul_comm r pr, ← Int.mul_assoc, Int.mul_comm (r * l) pq]
    rw [q1, q2, ← c1, q3]
    omega
  rw [e2, cdiv_add hd]
  omega
end
end Go.Proofs.Ythdibkmjoiipgaa
namespace Go.Proofs.Ythdibkmjoiipgaa
open Go.RowKit
set_option linter.unusedVariables false

theorem gok_split (n d : Int) : gokB n d = (fokB n d && decide (0 ≤ n)) := by
  unfold gokB fokB GOk
  by_cases h1 : FOk n d <;> by_cases h2 : 0 ≤ n <;> simp [h1, h2]
theorem good12_any (a b c d : Int) (w : World) :
    Calls Try.prog 68 #[.agg #[.int .i64 a, .int .i64 b], .agg #[.int .i64 c, .int .i64 d]] w fun e w' => e = .returned (.bool (gokB a b && gokB c d)) ∧ Below w.heap.size w w' := by
  have E := Lib.hid (FE.new w a b c d)
  rw [gok_split, gok_split]
  obtain ⟨z1, hz1⟩ : ∃ z, z = fokB a b := ⟨_, rfl⟩
  obtain ⟨z2, hz2⟩ : ∃ z, z = fokB c d := ⟨_, rfl⟩
  obtain ⟨y1, hy1⟩ : ∃ z, z = decide (0 ≤ a) := ⟨_, rfl⟩
  obtain ⟨y2, hy2⟩ : ∃ z, z = decide (0 ≤ c) := ⟨_, rfl⟩
  have HZ1 := Lib.hid hz1; have HZ2 := Lib.hid hz2
  rw [← hz1, ← hz2, ← hy1, ← hy2]
  have e1 := hy1.symm; have e2 := hy2.symm
  have e3 : decide (a ≥ 0) = y1 := e1
  have e4 : decide (c ≥ 0) = y2 := e2
  clear hz1 hz2 hy1 hy2
  go_enter Try.func68, Try.ntmps68
  obtain ⟨f0, f1, f2, f3, hlf⟩ := E.out.cells
  go_wp2_with fail
  refine (rvalid_any a b _).mono ?_
  rw [← HZ1.out]
  rintro e w1 ⟨rfl, hb⟩
  replace E := Lib.hid (E.out.below hb)
  clear hb f0 f1 f2 f3 hlf
  obtain ⟨f0, f1, f2, f3, hlf⟩ := E.out.cells
  cases z1
  case false =>
    have bw := E.out.bw
    go_wp2_with fail
    go_ret
    exact ⟨rfl, bw⟩
  case true =>
  cases y1
  case false =>
    have bw := E.out.bw
    go_wp2_with fail
    go_ret
    exact ⟨rfl, bw⟩
  case true =>
  go_wp2_with fail
  refine (rvalid_any c d _).mono ?_
  rw [← HZ2.out]
  rintro e w2 ⟨rfl, hb⟩
  replace E := Lib.hid (E.out.below hb)
  clear hb f0 f1 f2 f3 hlf
  obtain ⟨f0, f1, f2, f3, hlf⟩ := E.out.cells
  have bw := E.out.bw
  cases z2
  case false =>
    go_wp2_with fail
    go_ret
    exact ⟨rfl, bw⟩
  case true =>
    go_wp2_with fail
    go_ret
    exact ⟨by simp, bw⟩
end Go.Proofs.Ythdibkmjoiipgaa
namespace Go.Proofs.Ythdibkmjoiipgaa
open Go.RowKit
set_option linter.unusedVariables false
theorem floor_eq' {n d : Int} (hd : 1 ≤ d) : (if n < n.tdiv d * d then n.tdiv d - 1 else n.tdiv d) = n / d := by
  have h1 := Int.mul_tdiv_add_tmod n d
  have h2 := Int.tmod_lt_of_pos n (show 0 < d by omega)
  have h3 := Int.lt_tmod_of_pos n (show 0 < d by omega)
  rw [Int.mul_comm] at h1
  obtain ⟨q, hq⟩ : ∃ q, q = n.tdiv d := ⟨_, rfl⟩
  rw [← hq] at h1 ⊢
  generalize n.tmod d = m at *
  have u : ∀ X : Int, X * d ≤ n → n < (X + 1) * d → X = n / d := fun X h4 h5 => by
    have a1 := (Int.le_ediv_iff_mul_le (show 0 < d by omega)).2 h4
    have a2 := (Int.ediv_lt_iff_lt_mul (show 0 < d by omega)).2 h5
    omega
  split
  · refine u _ ?_ ?_
    · rw [Int.sub_mul]; omega
    · rw [Int.sub_add_cancel]; omega
  · refine u _ (by omega) ?_
    rw [Int.add_mul]; omega

theorem rfloor_any (n d : Int) (w : World) (hg : FOk n d) :
    Calls Try.prog 150 #[.agg #[.int .i64 n, .int .i64 d]] w fun e w' => e = .returned (.int .i64 (n / d)) ∧ Below w.heap.size w w' := by
  have FB := Lib.hid (Blk.new w 23 #[.int .i64 n, .int .i64 d])
  have BW := Lib.hid (balloc w (.cells #[.int .i64 n, .int .i64 d] 23))
  obtain ⟨f0, f1⟩ : _ ∧ _ := ⟨FB.out.cell 0, FB.out.cell 1⟩
  simp at f0 f1
  have hlf := FB.out.lt
  have F := Lib.hid (fokB_t hg)
  have hn0 := hg.2.2.1; have hn1 := hg.2.2.2.1; have hd0 := hg.1; have hd1 := hg.2.1
  rw [← floor_eq' hd0]
  obtain ⟨q, hq⟩ : ∃ q, q = n.tdiv d := ⟨_, rfl⟩
  have h1 := Int.mul_tdiv_add_tmod n d
  have h2 := Int.tmod_lt_of_pos n (show 0 < d by omega)
  have h3 := Int.lt_tmod_of_pos n (show 0 < d by omega)
  rw [Int.mul_comm, ← hq] at h1
  rw [← hq]
  have hqd0 : -2147483648 ≤ q * d := by omega
  have hqd1 : q * d ≤ 2147483648 := by omega
  have hq1 : q.natAbs ≤ n.natAbs := by rw [hq, Int.natAbs_tdiv]; exact Nat.div_le_self _ _
  have hq2 : -1073741824 ≤ q := by omega
  have hq3 : q ≤ 1073741824 := by omega
  have e1 : n.tdiv d = q := hq.symm
  have hdn : d ≠ 0 := by omega
  clear hq hg h1 h2 h3 hq1
  by_cases hc : n < q * d
  · rw [if_pos hc]
    go_enter Try.func150, Try.ntmps150
    go_wp2_with fail
    refine (rvalid_any n d _).mono ?_
    rw [F.out]
    rintro e w1 ⟨rfl, hb⟩
    replace FB := Lib.hid (FB.out.below hb FB.out.lt); replace BW := Lib.hid (bthen BW.out hb)
    clear hb f0 f1 hlf
    obtain ⟨f0, f1⟩ : _ ∧ _ := ⟨FB.out.cell 0, FB.out.cell 1⟩
    simp at f0 f1
    have hlf := FB.out.lt
    go_wp2_with fail
    go_ret
    exact ⟨rfl, BW.out⟩
  · rw [if_neg hc]
    go_enter Try.func150, Try.ntmps150
    go_wp2_with fail
    refine (rvalid_any n d _).mono ?_
    rw [F.out]
    rintro e w1 ⟨rfl, hb⟩
    replace FB := Lib.hid (FB.out.below hb FB.out.lt); replace BW := Lib.hid (bthen BW.out hb)
    clear hb f0 f1 hlf
    obtain ⟨f0, f1⟩ : _ ∧ _ := ⟨FB.out.cell 0, FB.out.cell 1⟩
    simp at f0 f1
    have hlf := FB.out.lt
    go_wp2_with fail
    go_ret
    exact ⟨rfl, BW.out⟩
theorem fok_neg' {n d : Int} (h : FOk n d) : FOk (-n) d := ⟨h.1, h.2.1, by have := h.2.2.2.1; omega, by have := h.2.2.1; omega, by rw [Int.natAbs_neg]; exact h.2.2.2.2⟩
theorem rceil_any (n d : Int) (w : World) (hg : GOk n d) :
    Calls Try.prog 116 #[.agg #[.int .i64 n, .int .i64 d]] w fun e w' => e = .returned (.int .i64 (cdiv n d)) ∧ Below w.heap.size w w' := by
  have FB := Lib.hid (Blk.new w 23 #[.int .i64 n, .int .i64 d])
  have BW := Lib.hid (balloc w (.cells #[.int .i64 n, .int .i64 d] 23))
  obtain ⟨f0, f1⟩ : _ ∧ _ := ⟨FB.out.cell 0, FB.out.cell 1⟩
  simp at f0 f1
  have hlf := FB.out.lt
  have F := Lib.hid (fokB_t hg.1)
  have hn0 := hg.2; have hn1 := hg.1.2.2.2.1; have hd0 := hg.1.1; have hd1 := hg.1.2.1
  have HN := Lib.hid (fok_neg' hg.1)
  have hcd : cdiv n d = -((-n) / d) := rfl
  rw [hcd]
  obtain ⟨q, hq⟩ : ∃ q, q = (-n) / d := ⟨_, rfl⟩
  have hq1 : -n ≤ q := by
    rw [hq]
    refine (Int.le_ediv_iff_mul_le (show 0 < d by omega)).2 ?_
    have : n * 1 ≤ n * d := Int.mul_le_mul_of_nonneg_left hd0 hn0
    rw [Int.neg_mul]; omega
  have hq2 : q ≤ 0 := by
    have := (Int.ediv_lt_iff_lt_mul (show 0 < d by omega) (a := -n) (b := 1)).2 (by omega)
    omega
  rw [← hq]
  have HQ := Lib.hid hq
  clear hq hcd hg
  go_enter Try.func116, Try.ntmps116
  go_wp2_with fail
  refine (rvalid_any n d _).mono ?_
  rw [F.out]
  rintro e w1 ⟨rfl, hb⟩
  replace FB := Lib.hid (FB.out.below hb FB.out.lt); replace BW := Lib.hid (bthen BW.out hb)
  clear hb f0 f1 hlf
  obtain ⟨f0, f1⟩ : _ ∧ _ := ⟨FB.out.cell 0, FB.out.cell 1⟩
  simp at f0 f1
  have hlf := FB.out.lt
  go_wp2_with fail
  refine (rfloor_any (-n) d _ HN.out).mono ?_
  rw [← HQ.out]
  rintro e w1 ⟨rfl, hb⟩
  replace FB := Lib.hid (FB.out.below hb FB.out.lt); replace BW := Lib.hid (bthen BW.out hb)
  clear hb f0 f1 hlf
  obtain ⟨f0, f1⟩ : _ ∧ _ := ⟨FB.out.cell 0, FB.out.cell 1⟩
  simp at f0 f1
  have hlf := FB.out.lt
  go_wp2_with fail
  go_ret
  exact ⟨rfl, BW.out⟩
end Go.Proofs.Ythdibkmjoiipgaa
namespace Go.Proofs.Ythdibkmjoiipgaa
open Go.RowKit
set_option linter.unusedVariables false
attribute [local go_sem ↓] app_fold

theorem pc_all {R r L l : Int} (hR : GOk R r) (hL : GOk L l) (hr : r ≤ 120) (hc : cdiv L l ≤ 400) {F : Nat} (hF : (F : Int) = cdiv L l) : Pre ⟨tab (pcV R r L l) 0 (F + r.toNat), r, R⟩ ∧ Up0 (Cv.at ⟨tab (pcV R r L l) 0 (F + r.toNat), r, R⟩) ∧
    (∀ m t, m < (tab (pcV R r L l) 0 (F + r.toNat)).length → nth (tab (pcV R r L l) 0 (F + r.toNat)) m = inf → m ≤ t → Cv.at ⟨tab (pcV R r L l) 0 (F + r.toNat), r, R⟩ t = inf) ∧ Cv.at ⟨tab (pcV R r L l) 0 (F + r.toNat), r, R⟩ = pcV R r L l := by
  have hr0 := hR.1.1; have hR1 := hR.1.2.2.2.1; have hR0 := hR.2
  have TAB : ∀ t, Cv.at ⟨tab (pcV R r L l) 0 (F + r.toNat), r, R⟩ t = pcV R r L l t := fun t => by
    have e : r = ((r.toNat : Nat) : Int) := by omega
    have := tab_at (h := pcV R r L l) (N := F + r.toNat) (p := r.toNat) (i := R) (by omega) (by omega) (fun m t hm h _ => absurd h (small_ne (by have := pc_bd hR hL (k := m) (by omega); omega)))
      (fun m hm h => absurd h (small_ne (by have := pc_bd hR hL (k := m) (by omega); omega))) (fun _ => (pc_per (s := F) hR0 hr0 hL.1.1 (by omega)).mono (by omega)) t
    rwa [← e] at this
  obtain ⟨h1, h2, h3⟩ := tab_pre (pc_up hR0 hr0 hL.1.1) hr0 (by omega) hR0 (by omega) (by omega) (fun k hk => by have := pc_bd hR hL (k := k) (by omega); omega)
    (fun m t hm h _ => absurd h (small_ne (by have := pc_bd hR hL (k := m) (by omega); omega))) TAB
  exact ⟨h1, h2, h3, funext TAB⟩
theorem tab_snoc12 (h : Nat → Int) (k : Nat) : tab h 0 k ++ [h k] = tab h 0 (k + 1) := by simp [tab, List.range_succ]
theorem tab_zero {h : Nat → Int} {F : Nat} (h0 : ∀ t, t < F → h t = 0) : List.replicate F 0 = tab h 0 F :=
  list_ext (by simp [tab_length]) (fun k hk => by
    simp at hk
    rw [tab_nth _ _ _ _ hk, Nat.zero_add, nth_replicate, h0 k hk])
theorem Own.low {w : World} {base b : Nat} {v : Value} {n : Nat} {xs : List Int} (h : Own w base v n xs) (hb : b ≤ base) : Own w b v n xs := by
  obtain ⟨h1, h2⟩ := h
  refine ⟨h1, h2.imp id ?_⟩
  rintro ⟨g, cap, cur, e, h3, h4⟩
  exact ⟨g, cap, cur, e, by omega, h4⟩
set_option maxHeartbeats 4000000 in
set_option maxRecDepth 100000 in
theorem rpace_any (R r L l : Int) (w : World) :
    Calls Try.prog 57 #[.agg #[.int .i64 R, .int .i64 r, .int .i64 L, .int .i64 l]] w (RetS2 (PcS R r L l) w) := by
  have PB := Lib.hid ((Blk.new w 25 #[.int .i64 R, .int .i64 r, .int .i64 L, .int .i64 l]).alloc (.cells #[.slice none 0 0, .int .i64 0, .int .i64 0] 46))
  have rb := Blk.new (w.alloc (.cells #[.int .i64 R, .int .i64 r, .int .i64 L, .int .i64 l] 25)) 46 #[.slice none 0 0, .int .i64 0, .int .i64 0]
  rw [World.size_alloc] at rb
  have RB := Lib.hid rb
  have BW := Lib.hid (bthen (balloc w (.cells #[.int .i64 R, .int .i64 r, .int .i64 L, .int .i64 l] 25)) (balloc _ (.cells #[.slice none 0 0, .int .i64 0, .int .i64 0] 46)))
  clear rb
  go_enter Try.func57, Try.ntmps57
  go_upto_region 1 with fail
  generalize hwe : (w.alloc (.cells #[.int .i64 R, .int .i64 r, .int .i64 L, .int .i64 l] 25)).alloc (.cells #[.slice none 0 0, .int .i64 0, .int .i64 0] 46) = w1 at *
  clear hwe
  obtain ⟨f0, f1, f2, f3⟩ : _ ∧ _ ∧ _ ∧ _ := ⟨PB.out.cell 0, PB.out.cell 1, PB.out.cell 2, PB.out.cell 3⟩
  simp at f0 f1 f2 f3
  have hlf := PB.out.lt
  go_wp2_with fail
  refine (good12_any R r L l _).mono ?_
  by_cases hok : GOk R r ∧ GOk L l
  case neg =>
    have hg : (gokB R r && gokB L l) = false := by
      by_cases h1 : GOk R r
      · rw [gokB_f (fun h => hok ⟨h1, h⟩), Bool.and_false]
      · rw [gokB_f h1, Bool.false_and]
    rw [hg]
    rintro e w2 ⟨rfl, hb⟩
    -- hb Below
    replace PB := Lib.hid (PB.out.below hb PB.out.lt); replace RB := Lib.hid (RB.out.below hb RB.out.lt); replace BW := Lib.hid (bthen BW.out hb)
    have F := Lib.hid (show PcS R r L l Cv.none 2 from .inl ⟨hok, rfl, rfl⟩)
    clear hb hok hg
    clear f0 f1 f2 f3 hlf
    obtain ⟨f0, f1, f2, f3⟩ : _ ∧ _ ∧ _ ∧ _ := ⟨PB.out.cell 0, PB.out.cell 1, PB.out.cell 2, PB.out.cell 3⟩
    simp at f0 f1 f2 f3
    have hlf := PB.out.lt
    -- 2 the error
    obtain ⟨⟨r0, r1, r2⟩, ⟨y0, y1, y2⟩, hlr⟩ := RB.out.c3
    go_wp2_with fail
    have rb := RB.out.store3 (.slice none 0 0) (.int .i64 0) (.int .i64 0)
    exact bodyPost_ret (v := .tuple #[.agg #[.slice none 0 0, .int .i64 0, .int .i64 0], .int .i64 2]) (by simp [results, Try.results57, go_sem, rb.cell]) rfl (retS2_store0 F.out (by omega) BW.out)
  case pos =>
  obtain ⟨hR, hL⟩ := hok
  rw [gokB_t hR, gokB_t hL, Bool.and_self]
  rintro e w2 ⟨rfl, hb⟩
  -- hb Below
  replace PB := Lib.hid (PB.out.below hb PB.out.lt); replace RB := Lib.hid (RB.out.below hb RB.out.lt); replace BW := Lib.hid (bthen BW.out hb)
  have hR0 := hR.2; have hR1 := hR.1.2.2.2.1; have hr0 := hR.1.1; have hr1 := hR.1.2.1
  have hL0 := hL.2; have hL1 := hL.1.2.2.2.1; have hl0 := hL.1.1; have hl1 := hL.1.2.1
  have HR := Lib.hid hR; have HL := Lib.hid hL
  clear hb hR hL
  clear f0 f1 f2 f3 hlf
  obtain ⟨f0, f1, f2, f3⟩ : _ ∧ _ ∧ _ ∧ _ := ⟨PB.out.cell 0, PB.out.cell 1, PB.out.cell 2, PB.out.cell 3⟩
  simp at f0 f1 f2 f3
  have hlf := PB.out.lt
  go_wp2_with fail
  refine (rceil_any L l _ HL.out).mono ?_
  have hs00 : 0 ≤ cdiv L l := by
    have : ¬ cdiv L l ≤ -1 := by rw [cdiv_le hl0]; omega
    omega
  have hfl : L ≤ cdiv L l * l := (cdiv_le hl0).1 (Int.le_refl _)
  have hfl2 : cdiv L l * l ≤ L + l - 1 := by
    have h : ¬ cdiv L l ≤ cdiv L l - 1 := by omega
    rw [cdiv_le hl0, Int.sub_mul, Int.one_mul] at h
    omega
  obtain ⟨fn, hfn⟩ := Int.eq_ofNat_of_zero_le hs00
  rw [hfn] at hfl hfl2 ⊢
  have HF := Lib.hid hfn.symm
  clear hfn hs00
  rintro e w3 ⟨rfl, hb⟩
  -- hb Below
  replace PB := Lib.hid (PB.out.below hb PB.out.lt); replace RB := Lib.hid (RB.out.below hb RB.out.lt); replace BW := Lib.hid (bthen BW.out hb)
  clear hb
  clear f0 f1 f2 f3 hlf
  obtain ⟨f0, f1, f2, f3⟩ : _ ∧ _ ∧ _ ∧ _ := ⟨PB.out.cell 0, PB.out.cell 1, PB.out.cell 2, PB.out.cell 3⟩
  simp at f0 f1 f2 f3
  have hlf := PB.out.lt
  by_cases h0 : R = 0
  · have d1 : (R == 0) = true := by simpa using h0
    have F := Lib.hid (show PcS R r L l cvZ 0 from .inr (.inr ⟨HR.out, HL.out, .inl h0, by rw [h0, pc_none]; exact ⟨_, zero_nf, .inl ⟨cvZ_lim, rfl, rfl⟩⟩⟩))
    have hrw := RB.out.lt
    clear h0
    go_wp2_with fail
    refine (refFlat0_any _).mono ?_
    rintro e w5 ⟨f, er, A5, n5, c5, ⟨rfl, rfl⟩, hc5, rfl, hI5, hA5, hb⟩
    -- hb Below
    replace PB := Lib.hid (PB.out.below hb PB.out.lt); replace RB := Lib.hid (RB.out.below hb RB.out.lt); replace BW := Lib.hid (bthen BW.out hb)
    have HI5 := Lib.hid hI5; have HA5 := Lib.hid hA5
    clear hI5 hA5 hb
    clear f0 f1 f2 f3 hlf
    obtain ⟨⟨r0, r1, r2⟩, ⟨y0, y1, y2⟩, hlr⟩ := RB.out.c3
    go_wp2_with fail
    have rb := RB.out.store3 (.slice A5 n5 c5) (.int .i64 cvZ.per) (.int .i64 cvZ.inc)
    exact bodyPost_ret (v := .tuple #[.agg #[.slice A5 n5 c5, .int .i64 cvZ.per, .int .i64 cvZ.inc], .int .i64 0]) (by simp [results, Try.results57, go_sem, rb.cell]) rfl (retS2_store F.out hc5 HA5.out (by omega) (by omega) HI5.out BW.out)
  · have d1 : (R == 0) = false := by simpa using h0
    have HN0 := Lib.hid h0
    clear h0
    by_cases h2 : 120 < r ∨ 400 < fn
    · have F := Lib.hid (show PcS R r L l Cv.none 3 from .inr (.inl ⟨HR.out, HL.out, HN0.out, by rw [← HF.out]; omega, rfl, rfl⟩))
      by_cases h3 : 120 < r
      · have c1 : decide ((120 : Int) < r) = true := by simpa using h3
        clear h2
        -- 3 the error
        obtain ⟨⟨r0, r1, r2⟩, ⟨y0, y1, y2⟩, hlr⟩ := RB.out.c3
        go_wp2_with fail
        have rb := RB.out.store3 (.slice none 0 0) (.int .i64 0) (.int .i64 0)
        exact bodyPost_ret (v := .tuple #[.agg #[.slice none 0 0, .int .i64 0, .int .i64 0], .int .i64 3]) (by simp [results, Try.results57, go_sem, rb.cell]) rfl (retS2_store0 F.out (by omega) BW.out)
      · have c1 : decide ((120 : Int) < r) = false := by simpa using h3
        have c2 : decide ((400 : Int) < (fn : Int)) = true := by simp; omega
        have c2' : decide (400 < fn) = true := by simp; omega
        clear h2
        -- 3 the error
        obtain ⟨⟨r0, r1, r2⟩, ⟨y0, y1, y2⟩, hlr⟩ := RB.out.c3
        go_wp2_with fail
        have rb := RB.out.store3 (.slice none 0 0) (.int .i64 0) (.int .i64 0)
        exact bodyPost_ret (v := .tuple #[.agg #[.slice none 0 0, .int .i64 0, .int .i64 0], .int .i64 3]) (by simp [results, Try.results57, go_sem, rb.cell]) rfl (retS2_store0 F.out (by omega) BW.out)
    have h3 : r ≤ 120 := by omega
    have h4 : fn ≤ 400 := by omega
    have c1 : decide ((120 : Int) < r) = false := by simp; omega
    have c2 : decide ((400 : Int) < (fn : Int)) = false := by simp; omega
    have c2' : decide (400 < fn) = false := by simp; omega
    clear h2
    go_upto_region 8 with fail
    clear c1 c2 c2' d1
    go_cut [5] (fun s5 wx => ∃ (P LB : Nat), s5 = .pointer (some ⟨P, 0, none⟩) ∧ w.heap.size + 1 < P ∧ Blk wx P 46 #[.slice (some ⟨LB, 0, none⟩) fn fn, .int .i64 r, .int .i64 R] ∧ Own wx (w.heap.size + 2) (.slice (some ⟨LB, 0, none⟩) fn fn) fn (List.replicate fn 0) ∧ Blk wx w.heap.size 25 #[.int .i64 R, .int .i64 r, .int .i64 L, .int .i64 l] ∧ Blk wx (w.heap.size + 1) 46 #[.slice none 0 0, .int .i64 0, .int .i64 0] ∧ Below w.heap.size w wx)
    case first =>
      replace PB := Lib.hid (Blk.drew PB.out); replace RB := Lib.hid (Blk.drew RB.out); replace BW := Lib.hid (Below.drew BW.out)
      refine wp_region_held_drew (S := (fun w' => w'.cell? ⟨w.heap.size, 0, none⟩ = some (.int .i64 R) ∧ w'.cell? ⟨w.heap.size, 1, none⟩ = some (.int .i64 r) ∧ w'.cell? ⟨w.heap.size, 2, none⟩ = some (.int .i64 L) ∧ w'.cell? ⟨w.heap.size, 3, none⟩ = some (.int .i64 l))) (by kernel_rfl) (by exact ⟨f0, f1, f2, f3⟩) (fun hHeld => ?_)
      clear f0 f1 f2 f3 hlf
      generalize hwd : w3.drew = wd at *
      clear hwd
      obtain ⟨f0, f1, f2, f3⟩ : _ ∧ _ ∧ _ ∧ _ := ⟨PB.out.cell 0, PB.out.cell 1, PB.out.cell 2, PB.out.cell 3⟩
      simp at f0 f1 f2 f3
      have hlf := PB.out.lt
      refine wpAnyH_take (i := 0) (oi := _) (v := ?_) (by simp only [List.getElem?_toArray, List.getElem?_cons_zero]; rfl) (by kernel_rfl) (by kernel_rfl) (by kernel_rfl) (by exact fun _ _ _ h => h) (Or.inl ⟨by rfl, ?_⟩) (by assumption) ?_
      rotate_left 1
      · (intro w hSw; (try dsimp only at hSw); go_simp; try with_reducible rfl)
      all_goals try simp only [Act.put]
      all_goals try simp only [List.setIfInBounds_toArray]
      all_goals try simp only [List.set_cons_succ]
      all_goals try simp only [List.set_cons_zero]
      refine wpAnyH_take (i := 2) (oi := _) (v := ?_) (by simp only [List.getElem?_toArray, List.getElem?_cons_succ, List.getElem?_cons_zero]; rfl) (by kernel_rfl) (by kernel_rfl) (by kernel_rfl) (by exact fun _ _ _ h => h) (Or.inl ⟨by rfl, ?_⟩) (by assumption) ?_
      rotate_left 1
      · (intro w hSw; (try dsimp only at hSw); go_simp; try with_reducible rfl)
      all_goals try simp only [Act.put]
      all_goals try simp only [List.setIfInBounds_toArray]
      all_goals try simp only [List.set_cons_succ]
      all_goals try simp only [List.set_cons_zero]
      refine wpAnyH_take (i := 3) (oi := _) (v := ?_) (by simp only [List.getElem?_toArray, List.getElem?_cons_succ, List.getElem?_cons_zero]; rfl) (by kernel_rfl) (by kernel_rfl) (by kernel_rfl) (by exact fun _ _ _ h => h) (Or.inl ⟨by rfl, ?_⟩) (by assumption) ?_
      rotate_left 1
      · (intro w hSw; (try dsimp only at hSw); go_simp; try with_reducible rfl)
      all_goals try simp only [Act.put]
      all_goals try simp only [List.setIfInBounds_toArray]
      all_goals try simp only [List.set_cons_succ]
      all_goals try simp only [List.set_cons_zero]
      refine wpAnyH_take (i := 4) (oi := _) (v := ?_) (by simp only [List.getElem?_toArray, List.getElem?_cons_succ, List.getElem?_cons_zero]; rfl) (by kernel_rfl) (by kernel_rfl) (by kernel_rfl) (by exact fun _ _ _ h => h) (Or.inl ⟨by rfl, ?_⟩) (by assumption) ?_
      rotate_left 1
      · (intro w hSw; (try dsimp only at hSw); go_simp; try with_reducible rfl)
      all_goals try simp only [Act.put]
      all_goals try simp only [List.setIfInBounds_toArray]
      all_goals try simp only [List.set_cons_succ]
      all_goals try simp only [List.set_cons_zero]
      refine wpAnyH_take (i := 5) (oi := _) (v := ?_) (by simp only [List.getElem?_toArray, List.getElem?_cons_succ, List.getElem?_cons_zero]; rfl) (by kernel_rfl) (by kernel_rfl) (by kernel_rfl) (by exact fun _ _ _ h => h) (Or.inl ⟨by rfl, ?_⟩) (by assumption) ?_
      rotate_left 1
      · (intro w hSw; (try dsimp only at hSw); go_simp; try with_reducible rfl)
      all_goals try simp only [Act.put]
      all_goals try simp only [List.setIfInBounds_toArray]
      all_goals try simp only [List.set_cons_succ]
      all_goals try simp only [List.set_cons_zero]
      refine wpAnyH_take (i := 6) (oi := _) (v := ?_) (by simp only [List.getElem?_toArray, List.getElem?_cons_succ, List.getElem?_cons_zero]; rfl) (by kernel_rfl) (by kernel_rfl) (by kernel_rfl) (by exact fun _ _ _ h => h) (Or.inl ⟨by rfl, ?_⟩) (by assumption) ?_
      rotate_left 1
      · (intro w hSw; (try dsimp only at hSw); go_simp; try with_reducible rfl)
      all_goals try simp only [Act.put]
      all_goals try simp only [List.setIfInBounds_toArray]
      all_goals try simp only [List.set_cons_succ]
      all_goals try simp only [List.set_cons_zero]
      refine wpAnyH_take (i := 7) (oi := _) (v := ?_) (by simp only [List.getElem?_toArray, List.getElem?_cons_succ, List.getElem?_cons_zero]; rfl) (by kernel_rfl) (by kernel_rfl) (by kernel_rfl) (by exact fun _ _ _ h => h) (Or.inl ⟨by rfl, ?_⟩) (by assumption) ?_
      rotate_left 1
      · (intro w hSw; (try dsimp only at hSw); go_simp; try with_reducible rfl)
      all_goals try simp only [Act.put]
      all_goals try simp only [List.setIfInBounds_toArray]
      all_goals try simp only [List.set_cons_succ]
      all_goals try simp only [List.set_cons_zero]
      refine wpAnyH_ready (rs := [1, 9]) (by kernel_rfl) (by simp) ?_
      refine (AllReadyH.cons (by simp only [List.getElem?_toArray, List.getElem?_cons_succ, List.getElem?_cons_zero]; rfl) (fun K hK => ?_) (AllReadyH.cons (by simp only [List.getElem?_toArray, List.getElem?_cons_succ, List.getElem?_cons_zero]; rfl) (fun K hK => ?_) AllReadyH.nil))
      · -- the list: wd the world before, wa behind
        refine step_make (by rfl) _ _ 29 (by rfl) Try.underlying29 .i64 .i64 _ _ fn (by rfl) (by rfl) (by rfl) (by rfl) (by omega) ?_
        intro wa own1 grow1
        have hbq : Below wd.heap.size wd wa := (Below.refl _ _).grown grow1 (by simp) (by simp)
        have OWN := Lib.hid (own1.low (b := w.heap.size + 2) (by have := RB.out.lt; omega))
        try (replace OB := Lib.hid (OB.out.below hbq OB.out.lt))
        have hpw0 := RB.out.lt
        -- hbq Below
        replace PB := Lib.hid (PB.out.below hbq PB.out.lt); replace RB := Lib.hid (RB.out.below hbq RB.out.lt); replace BW := Lib.hid (bthen BW.out hbq)
        have hsz := hbq.size
        obtain ⟨LB, hLB⟩ : ∃ LB, LB = wd.heap.size := ⟨_, rfl⟩
        rw [← hLB] at OWN hpw0 hsz
        try rw [← hLB]
        clear own1 grow1 hbq hHeld hLB
        clear f0 f1 f2 f3 hlf
        obtain ⟨f0, f1, f2, f3⟩ : _ ∧ _ ∧ _ ∧ _ := ⟨PB.out.cell 0, PB.out.cell 1, PB.out.cell 2, PB.out.cell 3⟩
        simp at f0 f1 f2 f3
        have hlf := PB.out.lt
        refine hK.out _ _ (by exact ⟨f0, f1, f2, f3⟩) (fun hHeld => ?_)
        clear hK K
        try simp only [Act.put]
        try simp only [List.setIfInBounds_toArray]
        try simp only [List.set_cons_succ]
        try simp only [List.set_cons_zero]
        refine wpAnyH_take (i := 8) (oi := _) (v := ?_) (by simp only [List.getElem?_toArray, List.getElem?_cons_succ, List.getElem?_cons_zero]; rfl) (by kernel_rfl) (by kernel_rfl) (by kernel_rfl) (by exact fun _ _ _ h => h) (Or.inl ⟨by rfl, ?_⟩) (by assumption) ?_
        rotate_left 1
        · (intro w hSw; (try dsimp only at hSw); go_simp; try with_reducible rfl)
        all_goals try simp only [Act.put]
        all_goals try simp only [List.setIfInBounds_toArray]
        all_goals try simp only [List.set_cons_succ]
        all_goals try simp only [List.set_cons_zero]
        refine wpAnyH_ready (rs := [9]) (by kernel_rfl) (by simp) ?_
        refine (AllReadyH.cons (by simp only [List.getElem?_toArray, List.getElem?_cons_succ, List.getElem?_cons_zero]; rfl) (fun K hK => ?_) AllReadyH.nil)
        -- the variable: wa the world before, wb behind
        rw [if_pos (by rfl)]
        go_simp
        have hbq := balloc wa (.cells #[.slice none 0 0, .int .i64 0, .int .i64 0] 46)
        have OB := Lib.hid (Blk.new wa 46 #[.slice none 0 0, .int .i64 0, .int .i64 0])
        have hPw := RB.out.lt
        try (replace OWN := Lib.hid (OWN.out.alloc (.cells #[.slice none 0 0, .int .i64 0, .int .i64 0] 46)))
        generalize hwa : wa.alloc (.cells #[.slice none 0 0, .int .i64 0, .int .i64 0] 46) = wb at *
        clear hwa
        -- hbq Below
        replace PB := Lib.hid (PB.out.below hbq PB.out.lt); replace RB := Lib.hid (RB.out.below hbq RB.out.lt); replace BW := Lib.hid (bthen BW.out hbq)
        have hsa := hbq.size
        generalize wa.heap.size = P at *
        clear hbq hHeld
        clear f0 f1 f2 f3 hlf
        obtain ⟨f0, f1, f2, f3⟩ : _ ∧ _ ∧ _ ∧ _ := ⟨PB.out.cell 0, PB.out.cell 1, PB.out.cell 2, PB.out.cell 3⟩
        simp at f0 f1 f2 f3
        have hlf := PB.out.lt
        refine hK.out _ _ (by exact ⟨f0, f1, f2, f3⟩) (fun hHeld => ?_)
        clear hK K
        try simp only [Act.put]
        try simp only [List.setIfInBounds_toArray]
        try simp only [List.set_cons_succ]
        try simp only [List.set_cons_zero]
        refine wpAnyH_ready (rs := [10]) (by kernel_rfl) (by simp) ?_
        refine (AllReadyH.cons (by simp only [List.getElem?_toArray, List.getElem?_cons_succ, List.getElem?_cons_zero]; rfl) (fun K hK => ?_) AllReadyH.nil)
        obtain ⟨⟨o0, o1, o2⟩, ⟨z0, z1, z2⟩, hlo⟩ := OB.out.c3
        rw [if_pos (by rfl)]
        go_simp
        clear o0 o1 o2 z0 z1 z2 hlo
        have nb := OWN.out.ne_blk OB.out (by decide)
        have own3 := ((OWN.out.far (p := ⟨P, 0, none⟩) nb (.slice (some ⟨LB, 0, none⟩) fn fn)).far (p := ⟨P, 1, none⟩) nb (.int .i64 r)).far (p := ⟨P, 2, none⟩) nb (.int .i64 R)
        replace OWN := Lib.hid own3
        have ST := Lib.hid (Sto.three P wb (.slice (some ⟨LB, 0, none⟩) fn fn) (.int .i64 r) (.int .i64 R))
        replace OB := Lib.hid (OB.out.store3 (.slice (some ⟨LB, 0, none⟩) fn fn) (.int .i64 r) (.int .i64 R))
        replace PB := Lib.hid (PB.out.sto ST.out (by omega)); replace RB := Lib.hid (RB.out.sto ST.out (by omega)); replace BW := Lib.hid (bst3 BW.out (show w.heap.size ≤ P by omega) (.slice (some ⟨LB, 0, none⟩) fn fn) (.int .i64 r) (.int .i64 R))
        clear own3 nb ST hHeld
        clear f0 f1 f2 f3 hlf
        generalize hws : ((wb.setCell ⟨P, 0, none⟩ (.slice (some ⟨LB, 0, none⟩) fn fn)).setCell ⟨P, 1, none⟩ (.int .i64 r)).setCell ⟨P, 2, none⟩ (.int .i64 R) = ws at *
        clear hws
        obtain ⟨f0, f1, f2, f3⟩ : _ ∧ _ ∧ _ ∧ _ := ⟨PB.out.cell 0, PB.out.cell 1, PB.out.cell 2, PB.out.cell 3⟩
        simp at f0 f1 f2 f3
        have hlf := PB.out.lt
        refine hK.out _ _ (by exact ⟨f0, f1, f2, f3⟩) (fun hHeld => ?_)
        clear hK K
        try simp only [Act.put]
        try simp only [List.setIfInBounds_toArray]
        try simp only [List.set_cons_succ]
        try simp only [List.set_cons_zero]
        refine wpAnyH_done (by kernel_rfl) ?_ _
        go_wp2_with fail
        go_meet
        exact ⟨P, LB, rfl, by omega, OB.out, OWN.out, PB.out, RB.out, BW.out⟩
      · -- the variable: wd the world before, wa behind
        rw [if_pos (by rfl)]
        go_simp
        have hbq := balloc wd (.cells #[.slice none 0 0, .int .i64 0, .int .i64 0] 46)
        have OB := Lib.hid (Blk.new wd 46 #[.slice none 0 0, .int .i64 0, .int .i64 0])
        have hPw := RB.out.lt
        try (replace OWN := Lib.hid (OWN.out.alloc (.cells #[.slice none 0 0, .int .i64 0, .int .i64 0] 46)))
        generalize hwa : wd.alloc (.cells #[.slice none 0 0, .int .i64 0, .int .i64 0] 46) = wa at *
        clear hwa
        -- hbq Below
        replace PB := Lib.hid (PB.out.below hbq PB.out.lt); replace RB := Lib.hid (RB.out.below hbq RB.out.lt); replace BW := Lib.hid (bthen BW.out hbq)
        have hsa := hbq.size
        generalize wd.heap.size = P at *
        clear hbq hHeld
        clear f0 f1 f2 f3 hlf
        obtain ⟨f0, f1, f2, f3⟩ : _ ∧ _ ∧ _ ∧ _ := ⟨PB.out.cell 0, PB.out.cell 1, PB.out.cell 2, PB.out.cell 3⟩
        simp at f0 f1 f2 f3
        have hlf := PB.out.lt
        refine hK.out _ _ (by exact ⟨f0, f1, f2, f3⟩) (fun hHeld => ?_)
        clear hK K
        try simp only [Act.put]
        try simp only [List.setIfInBounds_toArray]
        try simp only [List.set_cons_succ]
        try simp only [List.set_cons_zero]
        refine wpAnyH_ready (rs := [1]) (by kernel_rfl) (by simp) ?_
        refine (AllReadyH.cons (by simp only [List.getElem?_toArray, List.getElem?_cons_succ, List.getElem?_cons_zero]; rfl) (fun K hK => ?_) AllReadyH.nil)
        -- the list: wa the world before, wb behind
        refine step_make (by rfl) _ _ 29 (by rfl) Try.underlying29 .i64 .i64 _ _ fn (by rfl) (by rfl) (by rfl) (by rfl) (by omega) ?_
        intro wb own1 grow1
        have hbq : Below wa.heap.size wa wb := (Below.refl _ _).grown grow1 (by simp) (by simp)
        have OWN := Lib.hid (own1.low (b := w.heap.size + 2) (by have := RB.out.lt; omega))
        try (replace OB := Lib.hid (OB.out.below hbq OB.out.lt))
        have hpw0 := RB.out.lt
        -- hbq Below
        replace PB := Lib.hid (PB.out.below hbq PB.out.lt); replace RB := Lib.hid (RB.out.below hbq RB.out.lt); replace BW := Lib.hid (bthen BW.out hbq)
        have hsz := hbq.size
        obtain ⟨LB, hLB⟩ : ∃ LB, LB = wa.heap.size := ⟨_, rfl⟩
        rw [← hLB] at OWN hpw0 hsz
        try rw [← hLB]
        clear own1 grow1 hbq hHeld hLB
        clear f0 f1 f2 f3 hlf
        obtain ⟨f0, f1, f2, f3⟩ : _ ∧ _ ∧ _ ∧ _ := ⟨PB.out.cell 0, PB.out.cell 1, PB.out.cell 2, PB.out.cell 3⟩
        simp at f0 f1 f2 f3
        have hlf := PB.out.lt
        refine hK.out _ _ (by exact ⟨f0, f1, f2, f3⟩) (fun hHeld => ?_)
        clear hK K
        try simp only [Act.put]
        try simp only [List.setIfInBounds_toArray]
        try simp only [List.set_cons_succ]
        try simp only [List.set_cons_zero]
        refine wpAnyH_take (i := 8) (oi := _) (v := ?_) (by simp only [List.getElem?_toArray, List.getElem?_cons_succ, List.getElem?_cons_zero]; rfl) (by kernel_rfl) (by kernel_rfl) (by kernel_rfl) (by exact fun _ _ _ h => h) (Or.inl ⟨by rfl, ?_⟩) (by assumption) ?_
        rotate_left 1
        · (intro w hSw; (try dsimp only at hSw); go_simp; try with_reducible rfl)
        all_goals try simp only [Act.put]
        all_goals try simp only [List.setIfInBounds_toArray]
        all_goals try simp only [List.set_cons_succ]
        all_goals try simp only [List.set_cons_zero]
        refine wpAnyH_ready (rs := [10]) (by kernel_rfl) (by simp) ?_
        refine (AllReadyH.cons (by simp only [List.getElem?_toArray, List.getElem?_cons_succ, List.getElem?_cons_zero]; rfl) (fun K hK => ?_) AllReadyH.nil)
        obtain ⟨⟨o0, o1, o2⟩, ⟨z0, z1, z2⟩, hlo⟩ := OB.out.c3
        rw [if_pos (by rfl)]
        go_simp
        clear o0 o1 o2 z0 z1 z2 hlo
        have nb := OWN.out.ne_blk OB.out (by decide)
        have own3 := ((OWN.out.far (p := ⟨P, 0, none⟩) nb (.slice (some ⟨LB, 0, none⟩) fn fn)).far (p := ⟨P, 1, none⟩) nb (.int .i64 r)).far (p := ⟨P, 2, none⟩) nb (.int .i64 R)
        replace OWN := Lib.hid own3
        have ST := Lib.hid (Sto.three P wb (.slice (some ⟨LB, 0, none⟩) fn fn) (.int .i64 r) (.int .i64 R))
        replace OB := Lib.hid (OB.out.store3 (.slice (some ⟨LB, 0, none⟩) fn fn) (.int .i64 r) (.int .i64 R))
        replace PB := Lib.hid (PB.out.sto ST.out (by omega)); replace RB := Lib.hid (RB.out.sto ST.out (by omega)); replace BW := Lib.hid (bst3 BW.out (show w.heap.size ≤ P by omega) (.slice (some ⟨LB, 0, none⟩) fn fn) (.int .i64 r) (.int .i64 R))
        clear own3 nb ST hHeld
        clear f0 f1 f2 f3 hlf
        generalize hws : ((wb.setCell ⟨P, 0, none⟩ (.slice (some ⟨LB, 0, none⟩) fn fn)).setCell ⟨P, 1, none⟩ (.int .i64 r)).setCell ⟨P, 2, none⟩ (.int .i64 R) = ws at *
        clear hws
        obtain ⟨f0, f1, f2, f3⟩ : _ ∧ _ ∧ _ ∧ _ := ⟨PB.out.cell 0, PB.out.cell 1, PB.out.cell 2, PB.out.cell 3⟩
        simp at f0 f1 f2 f3
        have hlf := PB.out.lt
        refine hK.out _ _ (by exact ⟨f0, f1, f2, f3⟩) (fun hHeld => ?_)
        clear hK K
        try simp only [Act.put]
        try simp only [List.setIfInBounds_toArray]
        try simp only [List.set_cons_succ]
        try simp only [List.set_cons_zero]
        refine wpAnyH_done (by kernel_rfl) ?_ _
        go_wp2_with fail
        go_meet
        exact ⟨P, LB, rfl, by omega, OB.out, OWN.out, PB.out, RB.out, BW.out⟩
    case rest =>
    clear PB RB BW
    clear f0 f1 f2 f3 hlf
    obtain ⟨P, LB, rfl, hPw, ob, own, pb, rb, bw⟩ := hcut
    rw [tab_zero (h := pcV R r L l) (F := fn) (fun t ht => pc_early hR0 hr0 hl0 (by
      have h5 : ¬ cdiv L l ≤ (t : Int) := by rw [← HF.out]; omega
      rw [cdiv_le hl0] at h5; omega))] at own
    have OB := Lib.hid ob; have OWN := Lib.hid own; have PB := Lib.hid pb; have RB := Lib.hid rb; have BW := Lib.hid bw
    clear ob own pb rb bw
    obtain ⟨rn, rfl⟩ := Int.eq_ofNat_of_zero_le (show 0 ≤ r by omega)
    have hrnn : (rn : Int) ≠ 0 := by omega
    have hlnn : l ≠ 0 := by omega
    obtain ⟨Rq, hRq⟩ : ∃ Rq, Rq = R / (rn : Int) := ⟨_, rfl⟩
    have hRq0 : 0 ≤ Rq := by rw [hRq]; exact Int.ediv_nonneg hR0 (by omega)
    have hRq1 : Rq ≤ R := by rw [hRq]; exact Int.ediv_le_self _ hR0
    have g1 : R.tdiv (rn : Int) = Rq := by rw [Int.tdiv_eq_ediv_of_nonneg hR0]; exact hRq.symm
    have g2 : IntKind.i64.wrap Rq = Rq := IntWalk.i64_in _ (by omega)
    obtain ⟨Rm, hRm⟩ : ∃ Rm, Rm = R % (rn : Int) := ⟨_, rfl⟩
    have hRm0 : 0 ≤ Rm := by rw [hRm]; exact Int.emod_nonneg _ (by omega)
    have hRm1 : Rm < rn := by rw [hRm]; exact Int.emod_lt_of_pos _ (by omega)
    have g3 : R.tmod (rn : Int) = Rm := by rw [Int.tmod_eq_emod_of_nonneg hR0]; exact hRm.symm
    have g3' : IntKind.i64.wrap Rm = Rm := IntWalk.i64_in _ (by omega)
    obtain ⟨fl, hfl'⟩ : ∃ fl, fl = (fn : Int) * l := ⟨_, rfl⟩
    obtain ⟨Q, hQ⟩ : ∃ Q, Q = fl - L := ⟨_, rfl⟩
    rw [← hfl'] at hfl hfl2
    have hQ0 : 0 ≤ Q := by omega
    have hQ1 : Q < l := by omega
    have g4 : IntKind.i64.wrap ((fn : Int) * l) = fl := by rw [← hfl']; exact IntWalk.i64_in _ (by omega)
    have g5 : IntKind.i64.wrap (fl - L) = Q := by rw [← hQ]; exact IntWalk.i64_in _ (by omega)
    obtain ⟨B2, hB2⟩ : ∃ B2, B2 = Rm * Q := ⟨_, rfl⟩
    have hB20 : 0 ≤ B2 := by rw [hB2]; exact Int.mul_nonneg hRm0 hQ0
    have hB21 : B2 ≤ 120 * 1073741824 := by rw [hB2]; exact Int.mul_le_mul (by omega) (by omega) (by omega) (by omega)
    have g6 : IntKind.i64.wrap (Rm * Q) = B2 := by rw [← hB2]; exact IntWalk.i64_in _ (by omega)
    obtain ⟨C1, hC1⟩ : ∃ C1, C1 = Rq * Q := ⟨_, rfl⟩
    have hC10 : 0 ≤ C1 := by rw [hC1]; exact Int.mul_nonneg hRq0 hQ0
    have hC11 : C1 ≤ 1073741824 * 1073741824 := by rw [hC1]; exact Int.mul_le_mul (by omega) (by omega) (by omega) (by omega)
    have g7 : IntKind.i64.wrap (Rq * Q) = C1 := by rw [← hC1]; exact IntWalk.i64_in _ (by omega)
    obtain ⟨C2, hC2⟩ : ∃ C2, C2 = C1 / l := ⟨_, rfl⟩
    have hC20 : 0 ≤ C2 := by rw [hC2]; exact Int.ediv_nonneg hC10 (by omega)
    have hC21 : C2 ≤ C1 := by rw [hC2]; exact Int.ediv_le_self _ hC10
    have g8 : C1.tdiv l = C2 := by rw [Int.tdiv_eq_ediv_of_nonneg hC10]; exact hC2.symm
    have g8' : IntKind.i64.wrap C2 = C2 := IntWalk.i64_in _ (by omega)
    obtain ⟨C3, hC3⟩ : ∃ C3, C3 = C1 % l := ⟨_, rfl⟩
    have hC30 : 0 ≤ C3 := by rw [hC3]; exact Int.emod_nonneg _ (by omega)
    have hC31 : C3 < l := by rw [hC3]; exact Int.emod_lt_of_pos _ (by omega)
    have g9 : C1.tmod l = C3 := by rw [Int.tmod_eq_emod_of_nonneg hC10]; exact hC3.symm
    have g9' : IntKind.i64.wrap C3 = C3 := IntWalk.i64_in _ (by omega)
    obtain ⟨C4, hC4⟩ : ∃ C4, C4 = C3 * (rn : Int) := ⟨_, rfl⟩
    have hC40 : 0 ≤ C4 := by rw [hC4]; exact Int.mul_nonneg hC30 (by omega)
    have hC41 : C4 ≤ 1073741824 * 120 := by rw [hC4]; exact Int.mul_le_mul (by omega) (by omega) (by omega) (by omega)
    have g10 : IntKind.i64.wrap (C3 * (rn : Int)) = C4 := by rw [← hC4]; exact IntWalk.i64_in _ (by omega)
    obtain ⟨D, hD⟩ : ∃ D, D = (rn : Int) * l := ⟨_, rfl⟩
    have hD0 : 1 * 1 ≤ D := by rw [hD]; exact Int.mul_le_mul hr0 hl0 (by omega) (by omega)
    have hD1 : D ≤ 120 * 1073741824 := by rw [hD]; exact Int.mul_le_mul (by omega) hl1 (by omega) (by omega)
    have g11 : IntKind.i64.wrap ((rn : Int) * l) = D := by rw [← hD]; exact IntWalk.i64_in _ (by omega)
    have hDn : D ≠ 0 := by omega
    have EQS := Lib.hid (show Rq = R / (rn : Int) ∧ Rm = R % (rn : Int) ∧ Q = (fn : Int) * l - L ∧ B2 = Rm * Q ∧ C1 = Rq * Q ∧ C2 = C1 / l ∧ C3 = C1 % l ∧ C4 = C3 * (rn : Int) ∧ D = (rn : Int) * l ∧ L ≤ (fn : Int) * l from ⟨hRq, hRm, by rw [hQ, hfl'], hB2, hC1, hC2, hC3, hC4, hD, by rw [← hfl']; exact hfl⟩)
    obtain ⟨lim, hlim⟩ : ∃ lim : Nat, lim = fn + rn := ⟨_, rfl⟩
    have g12 : IntKind.i64.wrap ((fn : Int) + (rn : Int)) = (lim : Int) := by rw [IntWalk.i64_in _ (by omega), hlim]; omega
    have HLIM := Lib.hid hlim
    have hlm2 : lim ≤ 520 := by omega
    have hlm3 : lim ≤ fn + 120 := by omega
    clear hRq hRm hfl' hQ hB2 hC1 hC2 hC3 hC4 hD hfl2
    go_wp2_with fail
    go_loopg [6] rn (fun gg s6 wx => ∃ (k : Nat) (Am : Option Addr) (cm : Nat), fn ≤ k ∧ k + gg = lim ∧ s6 = .int .i64 k ∧ Blk wx P 46 #[.slice Am k cm, .int .i64 rn, .int .i64 R] ∧ Own wx (w.heap.size + 2) (.slice Am k cm) k (tab (pcV R rn L l) 0 k) ∧ Blk wx w.heap.size 25 #[.int .i64 R, .int .i64 rn, .int .i64 L, .int .i64 l] ∧ Blk wx (w.heap.size + 1) 46 #[.slice none 0 0, .int .i64 0, .int .i64 0] ∧ Below w.heap.size w wx)
    case atStart => exact ⟨fn, _, _, Nat.le_refl _, hlim.symm, rfl, OB.out, OWN.out, PB.out, RB.out, BW.out⟩
    case round =>
      clear OB PB RB BW OWN hlim
      obtain ⟨k, Am, cm, hk1, hkg, rfl, ob, own, pb, rb, bw⟩ := hrel
      have OB := Lib.hid ob; have OWN := Lib.hid own; have PB := Lib.hid pb; have RB := Lib.hid rb; have BW := Lib.hid bw
      clear ob own pb rb bw
      obtain ⟨f0, f1, f2, f3⟩ : _ ∧ _ ∧ _ ∧ _ := ⟨PB.out.cell 0, PB.out.cell 1, PB.out.cell 2, PB.out.cell 3⟩
      simp at f0 f1 f2 f3
      have hlf := PB.out.lt
      by_cases hk : k < lim
      · have hki : (k : Int) < lim := by omega
        go_upto_block 1 with fail
        go_cut [] (fun wx => ∃ (A' : Option Addr) (c' : Nat), Blk wx P 46 #[.slice A' (k + 1) c', .int .i64 rn, .int .i64 R] ∧ Own wx (w.heap.size + 2) (.slice A' (k + 1) c') (k + 1) (tab (pcV R rn L l) 0 (k + 1)) ∧ Blk wx w.heap.size 25 #[.int .i64 R, .int .i64 rn, .int .i64 L, .int .i64 l] ∧ Blk wx (w.heap.size + 1) 46 #[.slice none 0 0, .int .i64 0, .int .i64 0] ∧ Below w.heap.size w wx)
        case first =>
          obtain ⟨j, hj⟩ : ∃ j : Nat, j = k - fn := ⟨_, rfl⟩
          have hjl : j ≤ 120 := by omega
          have e1 : IntKind.i64.wrap ((k : Int) - (fn : Int)) = (j : Int) := by rw [IntWalk.i64_in _ (by omega)]; omega
          obtain ⟨W, hW⟩ : ∃ W, W = R * (j : Int) := ⟨_, rfl⟩
          have hW0 : 0 ≤ W := by rw [hW]; exact Int.mul_nonneg hR0 (by omega)
          have hW1 : W ≤ 1073741824 * 120 := by rw [hW]; exact Int.mul_le_mul hR1 (by omega) (by omega) (by omega)
          have e2 : IntKind.i64.wrap (R * (j : Int)) = W := by rw [← hW]; exact IntWalk.i64_in _ (by omega)
          obtain ⟨q0, hq0⟩ : ∃ q0, q0 = W / (rn : Int) := ⟨_, rfl⟩
          have hq00 : 0 ≤ q0 := by rw [hq0]; exact Int.ediv_nonneg hW0 (by omega)
          have hq01 : q0 ≤ W := by rw [hq0]; exact Int.ediv_le_self _ hW0
          have e3 : W.tdiv (rn : Int) = q0 := by rw [Int.tdiv_eq_ediv_of_nonneg hW0]; exact hq0.symm
          have e3' : IntKind.i64.wrap q0 = q0 := IntWalk.i64_in _ (by omega)
          obtain ⟨m0, hm0⟩ : ∃ m0, m0 = W % (rn : Int) := ⟨_, rfl⟩
          have hm00 : 0 ≤ m0 := by rw [hm0]; exact Int.emod_nonneg _ (by omega)
          have hm01 : m0 < rn := by rw [hm0]; exact Int.emod_lt_of_pos _ (by omega)
          have e4 : W.tmod (rn : Int) = m0 := by rw [Int.tmod_eq_emod_of_nonneg hW0]; exact hm0.symm
          have e4' : IntKind.i64.wrap m0 = m0 := IntWalk.i64_in _ (by omega)
          obtain ⟨a1, ha1⟩ : ∃ a1, a1 = m0 * l := ⟨_, rfl⟩
          have ha10 : 0 ≤ a1 := by rw [ha1]; exact Int.mul_nonneg hm00 (by omega)
          have ha11 : a1 ≤ 120 * 1073741824 := by rw [ha1]; exact Int.mul_le_mul (by omega) hl1 (by omega) (by omega)
          have e5 : IntKind.i64.wrap (m0 * l) = a1 := by rw [← ha1]; exact IntWalk.i64_in _ (by omega)
          obtain ⟨a3, ha3⟩ : ∃ a3, a3 = a1 + B2 := ⟨_, rfl⟩
          have e6 : IntKind.i64.wrap (a1 + B2) = a3 := by rw [ha3]; exact IntWalk.i64_in _ (by omega)
          obtain ⟨q1, hq1⟩ : ∃ q1, q1 = q0 + C2 := ⟨_, rfl⟩
          have e7 : IntKind.i64.wrap (q0 + C2) = q1 := by rw [hq1]; exact IntWalk.i64_in _ (by omega)
          obtain ⟨a4, ha4⟩ : ∃ a4, a4 = a3 + C4 := ⟨_, rfl⟩
          have e8 : IntKind.i64.wrap (a3 + C4) = a4 := by rw [ha4]; exact IntWalk.i64_in _ (by omega)
          obtain ⟨d1, hd1⟩ : ∃ d1, d1 = a4 + D := ⟨_, rfl⟩
          have e9 : IntKind.i64.wrap (a4 + D) = d1 := by rw [hd1]; exact IntWalk.i64_in _ (by omega)
          obtain ⟨d2, hd2⟩ : ∃ d2, d2 = d1 - 1 := ⟨_, rfl⟩
          have e10 : IntKind.i64.wrap (d1 - 1) = d2 := by rw [hd2]; exact IntWalk.i64_in _ (by omega)
          obtain ⟨G, hG⟩ : ∃ G, G = d2 / D := ⟨_, rfl⟩
          have hG0 : 0 ≤ G := by rw [hG]; exact Int.ediv_nonneg (by omega) (by omega)
          have hG1 : G ≤ d2 := by rw [hG]; exact Int.ediv_le_self _ (by omega)
          have e11 : d2.tdiv D = G := by rw [Int.tdiv_eq_ediv_of_nonneg (by omega)]; exact hG.symm
          have e11' : IntKind.i64.wrap G = G := IntWalk.i64_in _ (by omega)
          obtain ⟨T, hT⟩ : ∃ T, T = q1 + G := ⟨_, rfl⟩
          have e12 : IntKind.i64.wrap (q1 + G) = T := by rw [hT]; exact IntWalk.i64_in _ (by omega)
          have HT := Lib.hid (show T = pcV R rn L l k from by
            obtain ⟨x1, x2, x3, x4, x5, x6, x7, x8, x9, x10⟩ := EQS.out
            rw [show k = fn + j by omega, pc_ref hR0 hr0 hL0 hl0 x10]
            unfold prQ prR
            rw [← x3, ← x1, ← x2, ← x5, ← x6, ← x7, ← x8, ← x4, ← x9, ← hW, ← hq0, ← hm0, ← ha1, ← ha3, ← hq1, ← ha4, ← hd1, ← hd2, ← hG, hT])
          clear hW hq0 hm0 ha1 hT hj ha3 hq1 ha4 hd1 hd2 hG
          go_wp2_with fail
          go_quiet (fail)
          have hdq := wr.drewN nq
          replace PB := Lib.hid (PB.out.drewN nq); replace RB := Lib.hid (RB.out.drewN nq); replace OB := Lib.hid (OB.out.drewN nq); replace OWN := Lib.hid (show Own (wr.drewN nq) _ _ _ _ from OWN.out); replace BW := Lib.hid (show Below _ _ (wr.drewN nq) from bdrewN BW.out)
          clear hdq
          clear f0 f1 f2 f3 hlf
          try clear o0 o1 o2 z0 z1 z2 hlo
          generalize wr.drewN nq = w9 at *
          obtain ⟨f0, f1, f2, f3⟩ : _ ∧ _ ∧ _ ∧ _ := ⟨PB.out.cell 0, PB.out.cell 1, PB.out.cell 2, PB.out.cell 3⟩
          simp at f0 f1 f2 f3
          have hlf := PB.out.lt
          go_wp2_with fail
          go_quiet (fail)
          have hdq := w9.drewN nq
          replace PB := Lib.hid (PB.out.drewN nq); replace RB := Lib.hid (RB.out.drewN nq); replace OB := Lib.hid (OB.out.drewN nq); replace OWN := Lib.hid (show Own (w9.drewN nq) _ _ _ _ from OWN.out); replace BW := Lib.hid (show Below _ _ (w9.drewN nq) from bdrewN BW.out)
          clear hdq
          clear f0 f1 f2 f3 hlf
          try clear o0 o1 o2 z0 z1 z2 hlo
          generalize w9.drewN nq = w10 at *
          obtain ⟨f0, f1, f2, f3⟩ : _ ∧ _ ∧ _ ∧ _ := ⟨PB.out.cell 0, PB.out.cell 1, PB.out.cell 2, PB.out.cell 3⟩
          simp at f0 f1 f2 f3
          have hlf := PB.out.lt
          go_wp2_with fail
          go_quiet (fail)
          have hdq := w10.drewN nq
          replace PB := Lib.hid (PB.out.drewN nq); replace RB := Lib.hid (RB.out.drewN nq); replace OB := Lib.hid (OB.out.drewN nq); replace OWN := Lib.hid (show Own (w10.drewN nq) _ _ _ _ from OWN.out); replace BW := Lib.hid (show Below _ _ (w10.drewN nq) from bdrewN BW.out)
          clear hdq
          clear f0 f1 f2 f3 hlf
          try clear o0 o1 o2 z0 z1 z2 hlo
          generalize w10.drewN nq = w11 at *
          obtain ⟨f0, f1, f2, f3⟩ : _ ∧ _ ∧ _ ∧ _ := ⟨PB.out.cell 0, PB.out.cell 1, PB.out.cell 2, PB.out.cell 3⟩
          simp at f0 f1 f2 f3
          have hlf := PB.out.lt
          obtain ⟨⟨o0, o1, o2⟩, ⟨z0, z1, z2⟩, hlo⟩ := OB.out.c3
          have HOB := Lib.hid (fun g hg => (OWN.out.blk_lt g hg).1); have NBO := Lib.hid (OWN.out.ne_blk OB.out (by decide)); have NBP := Lib.hid (OWN.out.ne_blk PB.out (by decide)); have NBR := Lib.hid (OWN.out.ne_blk RB.out (by decide))
          have hL10 : w.heap.size + 2 ≤ w11.heap.size := by have := RB.out.lt; omega
          have hlit := ints_litC w11 [T]
          obtain ⟨v2, w2, hrun, own2, grow2, at2⟩ := run_appSem (w := (w11.alloc (.cells #[.int .i64 T] 3)).drew) (base := w.heap.size + 2) (OWN.out.alloc _).drew 1 (A := some ⟨w11.heap.size, 0, none⟩) (m := 1) (zs := [T]) hlit (by omega) (by simp; omega)
          have b2 : Below w.heap.size w w2 := Below.grown (BW.out.alloc BW.out.size _).drew grow2 (by simp; have := BW.out.size; omega) (fun g hg => by have := HOB.out g hg; omega)
          have ob2 := Blk.grown (Blk.drew (OB.out.alloc _)) grow2 (fun e => NBO.out e.symm)
          have pb2 := Blk.grown (Blk.drew (PB.out.alloc _)) grow2 (fun e => NBP.out e.symm)
          have rb2 := Blk.grown (Blk.drew (RB.out.alloc _)) grow2 (fun e => NBR.out e.symm)
          have o20 := ob2.cell 0; have y20 := ob2.frozen 0
          simp at o20
          have hlo2 := ob2.lt
          obtain ⟨A2, c2, rfl, hc2, hI2, hf2⟩ := own2.ints
          rw [HT.out, tab_snoc12] at own2
          have OB2 := Lib.hid ob2; have OWN2 := Lib.hid own2; have B2' := Lib.hid b2; have PB2 := Lib.hid pb2; have RB2 := Lib.hid rb2
          clear at2 own2 b2 ob2 pb2 rb2 hI2 hf2 grow2 hlit
          go_wp2_with fail
          go_region
          all_goals
            go_wp2_with fail
            go_meet
            exact ⟨A2, c2, OB2.out.set_ 0 _, OWN2.out.far (OWN2.out.ne_blk OB2.out (by decide)) _, PB2.out.far (by show w.heap.size ≠ P; omega) _, RB2.out.far (by show w.heap.size + 1 ≠ P; omega) _, B2'.out.setCell (by show w.heap.size ≤ P; omega) _⟩
        case rest =>
          clear OB OWN PB RB BW
          clear f0 f1 f2 f3 hlf
          obtain ⟨A', c', ob, own, pb, rb, bw⟩ := hcut
          go_wp2_with fail
          go_roundg (gk - 1)
          case measure => omega
          case rel => exact ⟨k + 1, A', c', by omega, by omega, by go_num, ob, own, pb, rb, bw⟩
      · have hkn : k = lim := by omega
        have hki : ¬ (k : Int) < lim := by omega
        subst hkn
        obtain ⟨p1, p2, p3, p4⟩ := pc_all HR.out HL.out h3 (by rw [← HF.out]; omega) HF.out
        rw [Int.toNat_natCast, ← HLIM.out] at p1 p2 p3 p4
        have P1 := Lib.hid p1; have P2 := Lib.hid p2; have P3 := Lib.hid p3; have P4 := Lib.hid p4
        clear p1 p2 p3 p4
        obtain ⟨A9, c9, e9, hc9, hI9, hf9⟩ := OWN.out.ints
        injection e9 with e91 e92 e93
        subst e91 e93
        have HI9 := Lib.hid hI9; have HC9 := Lib.hid hc9
        clear hI9 hf9 hc9 hk e92
        obtain ⟨⟨o0, o1, o2⟩, ⟨z0, z1, z2⟩, hlo⟩ := OB.out.c3
        go_wp2_with fail
        refine (refMade_any Am k cm rn R (tab (pcV R rn L l) 0 k) _ HI9.out HC9.out P1.out P2.out P3.out).mono ?_
        rintro e wq ⟨f, er, A5, n5, c5, hS, hc5, rfl, hI5, hA5, hbq⟩
        have F := Lib.hid (show PcS R rn L l f er from .inr (.inr ⟨HR.out, HL.out, .inr ⟨h3, by rw [← HF.out]; omega⟩, by rw [P4.out] at hS; exact hS⟩))
        have hrw := RB.out.lt
        replace RB := Lib.hid (RB.out.below hbq RB.out.lt); replace BW := Lib.hid (bthen BW.out hbq)
        have HI5 := Lib.hid hI5; have HA5 := Lib.hid hA5
        clear hS hI5 hA5 hbq
        clear f0 f1 f2 f3 hlf
        clear o0 o1 o2 z0 z1 z2 hlo
        obtain ⟨⟨r0, r1, r2⟩, ⟨y0, y1, y2⟩, hlr⟩ := RB.out.c3
        go_wp2_with fail
        have rb := RB.out.store3 (.slice A5 n5 c5) (.int .i64 f.per) (.int .i64 f.inc)
        exact bodyPost_ret (v := .tuple #[.agg #[.slice A5 n5 c5, .int .i64 f.per, .int .i64 f.inc], .int .i64 er]) (by simp [results, Try.results57, go_sem, rb.cell]) rfl (retS2_store F.out hc5 HA5.out (by omega) (by omega) HI5.out BW.out)
end Go.Proofs.Ythdibkmjoiipgaa
