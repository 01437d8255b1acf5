/- service.Pace: what it returns. -/
import Derived.Test.YthdibkmjoiipgaaTok
import Derived.Test.YthdibkmjoiipgaaTokLaw
import Derived.Test.YthdibkmjoiipgaaRefFr
import Derived.BigRegion
import Derived.Deep.DeepCutAuto
namespace Go.Proofs.Ythdibkmjoiipgaa
open Go.RowKit
set_option linter.unusedVariables false

theorem right_any (n d : Int) (w : World) :
    Calls Try.prog 71 #[.agg #[.int .i64 n, .int .i64 d]] w fun e w' => e = .returned (.bool (gokB n d)) ∧ Below w.heap.size w w' := by
  have FB := Lib.hid (Blk.new w 23 #[.int .i64 n, .int .i64 d])
  have BW := Lib.hid (balloc w (.cells #[.int .i64 n, .int .i64 d] 23))
  by_cases h1 : FOk n d
  · by_cases h2 : 0 ≤ n
    · have c2 : decide (0 ≤ n) = true := by simpa using h2
      have F := Lib.hid (fokB_t h1)
      rw [gokB_t ⟨h1, h2⟩]
      clear h1 h2
      obtain ⟨f0, f1⟩ : _ ∧ _ := ⟨FB.out.cell 0, FB.out.cell 1⟩
      simp at f0 f1
      have hlf := FB.out.lt
      go_enter Try.func71, Try.ntmps71
      go_wp2_with fail
      refine (fvalid_any n d _).mono ?_
      rw [F.out]
      rintro e w1 ⟨rfl, hb⟩
      have FB := Lib.hid (FB.out.below hb FB.out.lt); have BW := Lib.hid (bthen BW.out hb)
      clear hb f0 f1 hlf
      obtain ⟨f0, f1⟩ : _ ∧ _ := ⟨FB.out.cell 0, FB.out.cell 1⟩
      simp at f0 f1
      have hlf := FB.out.lt
      go_wp2_with fail
      go_ret
      exact ⟨rfl, BW.out⟩
    · have c2 : decide (0 ≤ n) = false := by simpa using h2
      have F := Lib.hid (fokB_t h1)
      rw [gokB_f (fun h => h2 h.2)]
      clear h1 h2
      obtain ⟨f0, f1⟩ : _ ∧ _ := ⟨FB.out.cell 0, FB.out.cell 1⟩
      simp at f0 f1
      have hlf := FB.out.lt
      go_enter Try.func71, Try.ntmps71
      go_wp2_with fail
      refine (fvalid_any n d _).mono ?_
      rw [F.out]
      rintro e w1 ⟨rfl, hb⟩
      have FB := Lib.hid (FB.out.below hb FB.out.lt); have BW := Lib.hid (bthen BW.out hb)
      clear hb f0 f1 hlf
      obtain ⟨f0, f1⟩ : _ ∧ _ := ⟨FB.out.cell 0, FB.out.cell 1⟩
      simp at f0 f1
      have hlf := FB.out.lt
      go_wp2_with fail
      go_ret
      exact ⟨rfl, BW.out⟩
  · have F := Lib.hid (fokB_f h1)
    rw [gokB_f (fun h => h1 h.1)]
    clear h1
    obtain ⟨f0, f1⟩ : _ ∧ _ := ⟨FB.out.cell 0, FB.out.cell 1⟩
    simp at f0 f1
    have hlf := FB.out.lt
    go_enter Try.func71, Try.ntmps71
    go_wp2_with fail
    refine (fvalid_any n d _).mono ?_
    rw [F.out]
    rintro e w1 ⟨rfl, hb⟩
    have FB := Lib.hid (FB.out.below hb FB.out.lt); have BW := Lib.hid (bthen BW.out hb)
    clear hb f0 f1 hlf
    obtain ⟨f0, f1⟩ : _ ∧ _ := ⟨FB.out.cell 0, FB.out.cell 1⟩
    simp at f0 f1
    have hlf := FB.out.lt
    go_wp2_with fail
    go_ret
    exact ⟨rfl, BW.out⟩
/-- a pace in the first block of a call -/
structure PcE (w wx : World) (R r L l : Int) : Prop where
  bb : Blk wx w.heap.size 25 #[.int .i64 R, .int .i64 r, .int .i64 L, .int .i64 l]
  bw : Below w.heap.size w wx
section
variable {w wx wy : World} {R r L l : Int}
theorem PcE.new (w : World) (R r L l : Int) : PcE w (w.alloc (.cells #[.int .i64 R, .int .i64 r, .int .i64 L, .int .i64 l] 25)) R r L l := ⟨Blk.new _ _ _, balloc _ _⟩
theorem PcE.below (h : PcE w wx R r L l) (hb : Below wx.heap.size wx wy) : PcE w wy R r L l := ⟨h.bb.below hb h.bb.lt, bthen h.bw hb⟩
theorem PcE.alloc (h : PcE w wx R r L l) (o : Obj) : PcE w (wx.alloc o) R r L l := h.below (balloc _ o)
theorem PcE.drew (h : PcE w wx R r L l) : PcE w wx.drew R r L l := ⟨h.bb, Below.drew h.bw⟩
theorem PcE.cells (h : PcE w wx R r L l) : wx.cell? ⟨w.heap.size, 0, none⟩ = some (.int .i64 R) ∧ wx.cell? ⟨w.heap.size, 1, none⟩ = some (.int .i64 r) ∧ wx.cell? ⟨w.heap.size, 2, none⟩ = some (.int .i64 L) ∧ wx.cell? ⟨w.heap.size, 3, none⟩ = some (.int .i64 l) ∧ w.heap.size < wx.heap.size := by
  have q0 := h.bb.cell 0; have q1 := h.bb.cell 1; have q2 := h.bb.cell 2; have q3 := h.bb.cell 3
  simp at q0 q1 q2 q3
  exact ⟨q0, q1, q2, q3, h.bb.lt⟩
end
theorem svalid_any (R r L l : Int) (w : World) :
    Calls Try.prog 63 #[.agg #[.int .i64 R, .int .i64 r, .int .i64 L, .int .i64 l]] w fun e w' => e = .returned (.bool (bokB R r L l)) ∧ Below w.heap.size w w' := by
  have E := Lib.hid (PcE.new w R r L l)
  by_cases h1 : GOk R r
  · have F1 := Lib.hid (gokB_t h1)
    by_cases h2 : GOk L l
    · have F2 := Lib.hid (gokB_t h2)
      rw [bokB_t ⟨h1, h2⟩]
      clear h1 h2
      go_enter Try.func63, Try.ntmps63
      obtain ⟨f0, f1, f2, f3, hlf⟩ := E.out.cells
      go_wp2_with fail
      refine (right_any R r _).mono ?_
      rw [F1.out]
      rintro e w1 ⟨rfl, hb⟩
      have E := Lib.hid (E.out.below hb)
      clear hb
      clear f0 f1 f2 f3 hlf
      obtain ⟨f0, f1, f2, f3, hlf⟩ := E.out.cells
      go_wp2_with fail
      refine (right_any L l _).mono ?_
      rw [F2.out]
      rintro e w1 ⟨rfl, hb⟩
      have E := Lib.hid (E.out.below hb)
      clear hb
      clear f0 f1 f2 f3 hlf
      obtain ⟨f0, f1, f2, f3, hlf⟩ := E.out.cells
      go_wp2_with fail
      go_ret
      exact ⟨rfl, E.out.bw⟩
    · have F2 := Lib.hid (gokB_f h2)
      rw [bokB_f (fun h => h2 h.2)]
      clear h1 h2
      go_enter Try.func63, Try.ntmps63
      obtain ⟨f0, f1, f2, f3, hlf⟩ := E.out.cells
      go_wp2_with fail
      refine (right_any R r _).mono ?_
      rw [F1.out]
      rintro e w1 ⟨rfl, hb⟩
      have E := Lib.hid (E.out.below hb)
      clear hb
      clear f0 f1 f2 f3 hlf
      obtain ⟨f0, f1, f2, f3, hlf⟩ := E.out.cells
      go_wp2_with fail
      refine (right_any L l _).mono ?_
      rw [F2.out]
      rintro e w1 ⟨rfl, hb⟩
      have E := Lib.hid (E.out.below hb)
      clear hb
      clear f0 f1 f2 f3 hlf
      obtain ⟨f0, f1, f2, f3, hlf⟩ := E.out.cells
      go_wp2_with fail
      go_ret
      exact ⟨rfl, E.out.bw⟩
  · have F1 := Lib.hid (gokB_f h1)
    rw [bokB_f (fun h => h1 h.1)]
    clear h1
    go_enter Try.func63, Try.ntmps63
    obtain ⟨f0, f1, f2, f3, hlf⟩ := E.out.cells
    go_wp2_with fail
    refine (right_any R r _).mono ?_
    rw [F1.out]
    rintro e w1 ⟨rfl, hb⟩
    have E := Lib.hid (E.out.below hb)
    clear hb
    clear f0 f1 f2 f3 hlf
    obtain ⟨f0, f1, f2, f3, hlf⟩ := E.out.cells
    go_wp2_with fail
    go_ret
    exact ⟨rfl, E.out.bw⟩
theorem ceil_any (n d : Int) (w : World) (hg : GOk n d) :
    Calls Try.prog 114 #[.agg #[.int .i64 n, .int .i64 d]] w fun e w' => e = .returned (.int .i64 (cdiv n d)) ∧ Below w.heap.size w w' := by
  have FB := Lib.hid (Blk.new w 23 #[.int .i64 n, .int .i64 d])
  have BW := Lib.hid (balloc w (.cells #[.int .i64 n, .int .i64 d] 23))
  have F := Lib.hid (fokB_t hg.1)
  have hn0 := hg.2; have hn1 := hg.1.2.2.2.1; have hd0 := hg.1.1; have hd1 := hg.1.2.1
  rw [cdiv_quo hn0 hd0]
  obtain ⟨q, hq⟩ : ∃ q, q = n / d := ⟨_, rfl⟩
  rw [← hq]
  have hq0 : 0 ≤ q := by rw [hq]; exact Int.ediv_nonneg hn0 (by omega)
  have hqn : q ≤ n := by rw [hq]; exact Int.ediv_le_self _ hn0
  have hqd : q * d ≤ n := by rw [hq]; exact Int.ediv_mul_le _ (by omega)
  have hqd0 : 0 ≤ q * d := Int.mul_nonneg hq0 (by omega)
  have e1 : n.tdiv d = q := by rw [Int.tdiv_eq_ediv_of_nonneg hn0]; exact hq.symm
  have e2 : n / d = q := hq.symm
  have hdn : d ≠ 0 := by omega
  clear hq hg
  obtain ⟨f0, f1⟩ : _ ∧ _ := ⟨FB.out.cell 0, FB.out.cell 1⟩
  simp at f0 f1
  have hlf := FB.out.lt
  by_cases hc : q * d < n
  · rw [if_pos hc]
    go_enter Try.func114, Try.ntmps114
    go_wp2_with fail
    refine (fvalid_any n d _).mono ?_
    rw [F.out]
    rintro e w1 ⟨rfl, hb⟩
    have FB := Lib.hid (FB.out.below hb FB.out.lt); have BW := Lib.hid (bthen BW.out hb)
    clear hb f0 f1 hlf
    obtain ⟨f0, f1⟩ : _ ∧ _ := ⟨FB.out.cell 0, FB.out.cell 1⟩
    simp at f0 f1
    have hlf := FB.out.lt
    go_wp2_with fail
    go_ret
    exact ⟨rfl, BW.out⟩
  · rw [if_neg hc]
    go_enter Try.func114, Try.ntmps114
    go_wp2_with fail
    refine (fvalid_any n d _).mono ?_
    rw [F.out]
    rintro e w1 ⟨rfl, hb⟩
    have FB := Lib.hid (FB.out.below hb FB.out.lt); have BW := Lib.hid (bthen BW.out hb)
    clear hb f0 f1 hlf
    obtain ⟨f0, f1⟩ : _ ∧ _ := ⟨FB.out.cell 0, FB.out.cell 1⟩
    simp at f0 f1
    have hlf := FB.out.lt
    go_wp2_with fail
    go_ret
    exact ⟨rfl, BW.out⟩
set_option maxHeartbeats 1000000 in
theorem pace1_any (P0 P1 P2 P3 : Nat) (R r L l s u v : Int) (t : Nat) (w : World) (h0 : Blk w P0 3 #[.int .i64 s]) (h1 : Blk w P1 25 #[.int .i64 R, .int .i64 r, .int .i64 L, .int .i64 l]) (h2 : Blk w P2 3 #[.int .i64 u]) (h3 : Blk w P3 3 #[.int .i64 v])
    (hs : Hid (s = cdiv L l)) (hu : Hid (u = R * L / (r * l))) (hv : Hid (v = R * L % (r * l))) (hR : GOk R r) (hL : GOk L l) (hr : r ≤ 120) (hs1 : s ≤ 400) (ht : t ≤ 1000) :
    Calls Try.prog 115 (#[.int .i64 t] ++ #[.pointer (some ⟨P0, 0, none⟩), .pointer (some ⟨P1, 0, none⟩), .pointer (some ⟨P2, 0, none⟩), .pointer (some ⟨P3, 0, none⟩)]) w fun e w' => e = .returned (.int .i64 (pcV R r L l t)) ∧ Below w.heap.size w w' := by
  show Calls _ _ #[.int .i64 t, .pointer (some ⟨P0, 0, none⟩), .pointer (some ⟨P1, 0, none⟩), .pointer (some ⟨P2, 0, none⟩), .pointer (some ⟨P3, 0, none⟩)] _ _
  have hR0 := hR.2; have hR1 := hR.1.2.2.2.1; have hr0 := hR.1.1; have hL0 := hL.2; have hL1 := hL.1.2.2.2.1; have hl0 := hL.1.1; have hl1 := hL.1.2.1
  have hs0 : -1 ≤ s := by
    rw [hs.out]
    have : ¬ cdiv L l ≤ -1 := by rw [cdiv_le hl0]; omega
    omega
  have y0 := h0.cell 0; have x0 := h1.cell 0; have x1 := h1.cell 1; have x2 := h1.cell 2; have x3 := h1.cell 3; have y2 := h2.cell 0; have y3 := h3.cell 0
  simp at y0 x0 x1 x2 x3 y2 y3
  have z0 := h0.lt; have z1 := h1.lt; have z2 := h2.lt; have z3 := h3.lt
  by_cases hts : (t : Int) ≤ s - 1
  · have c1 : decide ((t : Int) ≤ s - 1) = true := by simpa using hts
    have F := Lib.hid (pc_early (R := R) (r := r) (L := L) (l := l) hR0 hr0 hl0 (t := t) (by
      have h5 : ¬ cdiv L l ≤ (t : Int) := by rw [← hs.out]; omega
      rw [cdiv_le hl0] at h5; omega))
    rw [F.out]
    clear h0 h1 h2 h3 hR hL hts
    go_enter Try.func115, Try.ntmps115
    go_wp2_with fail
    go_ret
    exact ⟨rfl, Below.refl _ _⟩
  · have c1 : decide ((t : Int) ≤ s - 1) = false := by simpa using hts
    have F := Lib.hid (pc_parts (R := R) (r := r) (L := L) (l := l) hR0 hr0 hL0 hl0 (t := t) ((cdiv_le hl0).1 (by rw [← hs.out]; omega)))
    have hX0 : 0 ≤ R * (t : Int) := Int.mul_nonneg hR0 (by omega)
    have hX1 : R * (t : Int) ≤ 1073741824 * 1000 := Int.mul_le_mul hR1 (by omega) (by omega) (by omega)
    have hRL0 : 0 ≤ R * L := Int.mul_nonneg hR0 hL0
    have hRL1 : R * L ≤ 1073741824 * 1073741824 := Int.mul_le_mul hR1 hL1 hL0 (by omega)
    have hu0 : 0 ≤ u := by rw [hu.out]; exact Int.ediv_nonneg hRL0 (by have := rl_pos hr0 hl0; omega)
    have hu1 : u ≤ R * L := by rw [hu.out]; exact Int.ediv_le_self _ hRL0
    obtain ⟨q, hq⟩ : ∃ q, q = R * (t : Int) / r := ⟨_, rfl⟩
    obtain ⟨m, hm⟩ : ∃ m, m = R * (t : Int) % r := ⟨_, rfl⟩
    have hq0 : 0 ≤ q := by rw [hq]; exact Int.ediv_nonneg hX0 (by omega)
    have hq1 : q ≤ R * (t : Int) := by rw [hq]; exact Int.ediv_le_self _ hX0
    have hm0 : 0 ≤ m := by rw [hm]; exact Int.emod_nonneg _ (by omega)
    have hm1 : m < r := by rw [hm]; exact Int.emod_lt_of_pos _ (by omega)
    have hml0 : 0 ≤ m * l := Int.mul_nonneg hm0 (by omega)
    have hml1 : m * l ≤ 120 * 1073741824 := Int.mul_le_mul (by omega) hl1 (by omega) (by omega)
    have e1 : (R * (t : Int)).tdiv r = q := by rw [Int.tdiv_eq_ediv_of_nonneg hX0]; exact hq.symm
    have e2 : R * (t : Int) / r = q := hq.symm
    have e3 : (R * (t : Int)).tmod r = m := by rw [Int.tmod_eq_emod_of_nonneg hX0]; exact hm.symm
    have e4 : R * (t : Int) % r = m := hm.symm
    have e5 : IntKind.i64.wrap q = q := IntWalk.i64_in _ (by omega)
    have e6 : IntKind.i64.wrap m = m := IntWalk.i64_in _ (by omega)
    have e7 : IntKind.i64.wrap (q - u) = q - u := IntWalk.i64_in _ (by omega)
    have e8 : IntKind.i64.wrap (m * l) = m * l := IntWalk.i64_in _ (by omega)
    have hrn : r ≠ 0 := by omega
    have FF : pcV R r L l t = q - u + (if v < m * l then 1 else 0) := by rw [F.out, ← hq, ← hm, ← hu.out, ← hv.out]
    have hnn := pc_nn R r L l t
    rw [FF] at hnn
    rw [FF]
    clear h0 h1 h2 h3 hR hL hts hq hm F FF
    by_cases hc : v < m * l
    · rw [if_pos hc] at hnn
      rw [if_pos hc]
      by_cases hp : 0 < q - u + 1
      · go_enter Try.func115, Try.ntmps115
        go_wp2_with fail
        go_quiet (fail)
        go_wp2_with fail
        go_quiet (fail)
        clear e1 e2 e3 e4 e5 e6 e7 e8
        go_wp2_with fail
        go_ret
        exact ⟨rfl, by first | exact Below.refl _ _ | exact bdrewN (Below.refl _ _) | exact bdrewN (bdrewN (Below.refl _ _))⟩
      · go_enter Try.func115, Try.ntmps115
        go_wp2_with fail
        go_quiet (fail)
        go_wp2_with fail
        go_quiet (fail)
        clear e1 e2 e3 e4 e5 e6 e7 e8
        go_wp2_with fail
        go_ret
        exact ⟨ret_int (by omega), by first | exact Below.refl _ _ | exact bdrewN (Below.refl _ _) | exact bdrewN (bdrewN (Below.refl _ _))⟩
    · rw [if_neg hc] at hnn
      rw [if_neg hc]
      by_cases hp : 0 < q - u
      · go_enter Try.func115, Try.ntmps115
        go_wp2_with fail
        go_quiet (fail)
        go_wp2_with fail
        go_quiet (fail)
        clear e1 e2 e3 e4 e5 e6 e7 e8
        go_wp2_with fail
        go_ret
        exact ⟨ret_int (by omega), by first | exact Below.refl _ _ | exact bdrewN (Below.refl _ _) | exact bdrewN (bdrewN (Below.refl _ _))⟩
      · go_enter Try.func115, Try.ntmps115
        go_wp2_with fail
        go_quiet (fail)
        go_wp2_with fail
        go_quiet (fail)
        clear e1 e2 e3 e4 e5 e6 e7 e8
        go_wp2_with fail
        go_ret
        exact ⟨ret_int (by omega), by first | exact Below.refl _ _ | exact bdrewN (Below.refl _ _) | exact bdrewN (bdrewN (Below.refl _ _))⟩
/-- what Pace returns -/
def PcS (R r L l : Int) (f : Cv) (er : Int) : Prop :=
  (¬ (GOk R r ∧ GOk L l) ∧ f = Cv.none ∧ er = 2) ∨ (GOk R r ∧ GOk L l ∧ R ≠ 0 ∧ (120 < r ∨ 400 < cdiv L l) ∧ f = Cv.none ∧ er = 3) ∨ (GOk R r ∧ GOk L l ∧ (R = 0 ∨ (r ≤ 120 ∧ cdiv L l ≤ 400)) ∧ MadeS (pcV R r L l) f er)
theorem PcS.unique {R r L l : Int} {f g : Cv} {e e' : Int} (h : PcS R r L l f e) (k : PcS R r L l g e') : f = g ∧ e = e' := by
  rcases h with ⟨h0, rfl, rfl⟩ | ⟨h0, h1, h2, h3, rfl, rfl⟩ | ⟨h0, h1, h2, h3⟩ <;> rcases k with ⟨k0, rfl, rfl⟩ | ⟨k0, k1, k2, k3, rfl, rfl⟩ | ⟨k0, k1, k2, k3⟩
  · exact ⟨rfl, rfl⟩
  · exact absurd ⟨k0, k1⟩ h0
  · exact absurd ⟨k0, k1⟩ h0
  · exact absurd ⟨h0, h1⟩ k0
  · exact ⟨rfl, rfl⟩
  · rcases k2 with k2 | k2
    · exact absurd k2 h2
    · omega
  · exact absurd ⟨h0, h1⟩ k0
  · rcases h2 with h2 | h2
    · exact absurd h2 k2
    · omega
  · exact MadeS.unique h3 k3
theorem pc_bd {R r L l : Int} (hR : GOk R r) (hL : GOk L l) {k : Nat} (hk : k ≤ 1000) : 0 ≤ pcV R r L l k ∧ pcV R r L l k ≤ 2000000000000 := by
  have h1 := pc_le hR.2 hR.1.1 hL.2 hL.1.1 k
  have h2 : R * (k : Int) ≤ 1073741824 * 1000 := Int.mul_le_mul hR.1.2.2.2.1 (by omega) (by omega) (by omega)
  exact ⟨pc_nn _ _ _ _ k, by omega⟩
theorem two_new (w : World) (x y : Int) : Blk ((w.alloc (.cells #[.int .i64 x] 3)).alloc (.cells #[.int .i64 y] 3)) w.heap.size 3 #[.int .i64 x] ∧ Blk ((w.alloc (.cells #[.int .i64 x] 3)).alloc (.cells #[.int .i64 y] 3)) (w.heap.size + 1) 3 #[.int .i64 y] :=
  ⟨(Blk.new _ _ _).alloc _, by
    have := Blk.new (w.alloc (.cells #[.int .i64 x] 3)) 3 #[.int .i64 y]
    rw [World.size_alloc] at this; exact this⟩
set_option maxHeartbeats 1000000 in
set_option maxRecDepth 100000 in
theorem paceK_any (R r L l : Int) (w : World) :
    Calls Try.prog 56 #[.agg #[.int .i64 R, .int .i64 r, .int .i64 L, .int .i64 l]] w (RetSK (PcS R r L l) w) := by
  have E := Lib.hid ((PcE.new w R r L l).alloc (.cells #[.slice none 0 0, .int .i64 0, .int .i64 0] 46))
  have rb := Blk.new (w.alloc (.cells #[.int .i64 R, .int .i64 r, .int .i64 L, .int .i64 l] 25)) 46 #[.slice none 0 0, .int .i64 0, .int .i64 0]
  rw [World.size_alloc] at rb
  have RB := Lib.hid rb
  clear rb
  go_enter Try.func56, Try.ntmps56
  obtain ⟨f0, f1, f2, f3, hlf⟩ := E.out.cells
  go_wp2_with fail
  refine (svalid_any R r L l _).mono ?_
  by_cases hok : GOk R r ∧ GOk L l
  · rw [bokB_t hok]
    rintro e w1 ⟨rfl, hb⟩
    replace RB := Lib.hid (RB.out.below hb RB.out.lt)
    have E := Lib.hid (E.out.below hb)
    clear hb
    clear f0 f1 f2 f3 hlf
    obtain ⟨f0, f1, f2, f3, hlf⟩ := E.out.cells
    have hR0 := hok.1.2; have hR1 := hok.1.1.2.2.2.1; have hr0 := hok.1.1.1; have hr1 := hok.1.1.2.1
    have hL0 := hok.2.2; have hL1 := hok.2.1.2.2.2.1; have hl0 := hok.2.1.1; have hl1 := hok.2.1.2.1
    have OK := Lib.hid hok
    clear hok
    by_cases h0 : R = 0
    · have d1 : (R == 0) = true := by simpa using h0
      have HS := Lib.hid (show PcS R r L l cvZ 0 from .inr (.inr ⟨OK.out.1, OK.out.2, .inl h0, by rw [h0, pc_none]; exact ⟨_, zero_nf, .inl ⟨cvZ_lim, rfl, rfl⟩⟩⟩))
      have hs0 := RB.out.lt
      clear h0
      go_wp2_with fail
      refine (flat0K_any _).mono ?_
      rintro e w5 ⟨A5, n5, c5, hc5, rfl, hI5, hA5, hb⟩
      obtain ⟨f, hf⟩ : ∃ f, f = cvZ := ⟨_, rfl⟩
      have F := HS
      rw [← hf] at F hI5
      rw [show cvZ.per = f.per by rw [hf], show cvZ.inc = f.inc by rw [hf]]
      obtain ⟨er, her⟩ : ∃ er : Int, er = 0 := ⟨_, rfl⟩
      rw [← her] at F ⊢
      have BW := Lib.hid (bthen E.out.bw hb)
      replace RB := Lib.hid (RB.out.below hb RB.out.lt)
      have HI5 := Lib.hid hI5; have HA5 := Lib.hid hA5
      clear hI5 hA5 hb her hf HS
      clear f0 f1 f2 f3 hlf
      -- the curve f with the error er: netcalculus/service.Pace the function
      obtain ⟨⟨r0, r1, r2⟩, ⟨y0, y1, y2⟩, hlr⟩ := RB.out.c3
      go_wp2_with fail
      have rb := RB.out.store3 (.slice A5 n5 c5) (.int .i64 f.per) (.int .i64 f.inc)
      exact bodyPost_ret (v := .tuple #[.agg #[.slice A5 n5 c5, .int .i64 f.per, .int .i64 f.inc], .int .i64 er]) (by simp [results, Try.results56, go_sem, rb.cell]) rfl
        ⟨f, er, F.out, retK_store3' hc5 HA5.out (by omega) hs0 HI5.out BW.out⟩
    · have d1 : (R == 0) = false := by simpa using h0
      have HN0 := Lib.hid h0
      clear h0
      go_wp2_with fail
      refine (ceil_any L l _ OK.out.2).mono ?_
      obtain ⟨s, hs⟩ : ∃ s, s = cdiv L l := ⟨_, rfl⟩
      rw [← hs]
      have HS := Lib.hid hs
      have hs00 : 0 ≤ s := by
        rw [hs]
        have : ¬ cdiv L l ≤ -1 := by rw [cdiv_le hl0]; omega
        omega
      clear hs
      rintro e w2 ⟨rfl, hb⟩
      have E := Lib.hid ((E.out.below hb).alloc (.cells #[.int .i64 s] 3))
      replace RB := Lib.hid ((RB.out.below hb RB.out.lt).alloc (.cells #[.int .i64 s] 3))
      have SB := Lib.hid (Blk.new w2 3 #[.int .i64 s])
      clear hb
      clear f0 f1 f2 f3 hlf
      go_upto_region 6 with fail
      generalize hwe : w2.alloc (.cells #[.int .i64 s] 3) = w3 at *
      clear hwe
      generalize w2.heap.size = P0 at *
      have sb0 := SB.out.cell 0
      simp at sb0
      have hsl := SB.out.lt
      obtain ⟨f0, f1, f2, f3, hlf⟩ := E.out.cells
      by_cases h2 : 120 < r ∨ 400 < s
      · have F := Lib.hid (show PcS R r L l Cv.none 3 from .inr (.inl ⟨OK.out.1, OK.out.2, HN0.out, by rw [← HS.out]; exact h2, rfl, rfl⟩))
        have BW := Lib.hid E.out.bw
        rcases h2 with h2 | h2
        · -- no curve: netcalculus/service.Pace the function, 3 the error
          obtain ⟨⟨r0, r1, r2⟩, ⟨y0, y1, y2⟩, hlr⟩ := RB.out.c3
          go_wp2_with fail
          have rb := RB.out.store3 (.slice none 0 0) (.int .i64 0) (.int .i64 0)
          exact bodyPost_ret (v := .tuple #[.agg #[.slice none 0 0, .int .i64 0, .int .i64 0], .int .i64 3]) (by simp [results, Try.results56, go_sem, rb.cell]) rfl
            ⟨Cv.none, 3, F.out, none, 0, 0, Nat.le_refl 0, rfl, Ints.none_, (fun b off s h => by cases h), ((BW.out.setCell (by simp) _).setCell (by simp) _).setCell (by simp) _⟩
        · by_cases h3 : 120 < r
          · -- no curve: netcalculus/service.Pace the function, 3 the error
            obtain ⟨⟨r0, r1, r2⟩, ⟨y0, y1, y2⟩, hlr⟩ := RB.out.c3
            go_wp2_with fail
            have rb := RB.out.store3 (.slice none 0 0) (.int .i64 0) (.int .i64 0)
            exact bodyPost_ret (v := .tuple #[.agg #[.slice none 0 0, .int .i64 0, .int .i64 0], .int .i64 3]) (by simp [results, Try.results56, go_sem, rb.cell]) rfl
              ⟨Cv.none, 3, F.out, none, 0, 0, Nat.le_refl 0, rfl, Ints.none_, (fun b off s h => by cases h), ((BW.out.setCell (by simp) _).setCell (by simp) _).setCell (by simp) _⟩
          · -- no curve: netcalculus/service.Pace the function, 3 the error
            obtain ⟨⟨r0, r1, r2⟩, ⟨y0, y1, y2⟩, hlr⟩ := RB.out.c3
            go_wp2_with fail
            have rb := RB.out.store3 (.slice none 0 0) (.int .i64 0) (.int .i64 0)
            exact bodyPost_ret (v := .tuple #[.agg #[.slice none 0 0, .int .i64 0, .int .i64 0], .int .i64 3]) (by simp [results, Try.results56, go_sem, rb.cell]) rfl
              ⟨Cv.none, 3, F.out, none, 0, 0, Nat.le_refl 0, rfl, Ints.none_, (fun b off s h => by cases h), ((BW.out.setCell (by simp) _).setCell (by simp) _).setCell (by simp) _⟩
      · have h3 : r ≤ 120 := by omega
        have h4 : s ≤ 400 := by omega
        have hrl := rl_pos hr0 hl0
        have hrl1 : r * l ≤ 120 * 1073741824 := Int.mul_le_mul h3 hl1 (by omega) (by omega)
        have hRL0 : 0 ≤ R * L := Int.mul_nonneg hR0 hL0
        have hRL1 : R * L ≤ 1073741824 * 1073741824 := Int.mul_le_mul hR1 hL1 hL0 (by omega)
        obtain ⟨u, hu⟩ : ∃ u, u = R * L / (r * l) := ⟨_, rfl⟩
        obtain ⟨v, hv⟩ : ∃ v, v = R * L % (r * l) := ⟨_, rfl⟩
        have e1 : IntKind.i64.wrap (R * L) = R * L := IntWalk.i64_in _ (by omega)
        have e2 : (R * L).tdiv (r * l) = u := by rw [Int.tdiv_eq_ediv_of_nonneg hRL0]; exact hu.symm
        have e3 : R * L / (r * l) = u := hu.symm
        have e4 : (R * L).tmod (r * l) = v := by rw [Int.tmod_eq_emod_of_nonneg hRL0]; exact hv.symm
        have e5 : R * L % (r * l) = v := hv.symm
        have hu0 : 0 ≤ u := by rw [hu]; exact Int.ediv_nonneg hRL0 (by omega)
        have hu1 : u ≤ R * L := by rw [hu]; exact Int.ediv_le_self _ hRL0
        have hv0 : 0 ≤ v := by rw [hv]; exact Int.emod_nonneg _ (by omega)
        have hv1 : v < r * l := by rw [hv]; exact Int.emod_lt_of_pos _ (by omega)
        have e6 : IntKind.i64.wrap u = u := IntWalk.i64_in _ (by omega)
        have e7 : IntKind.i64.wrap v = v := IntWalk.i64_in _ (by omega)
        have hdn : r * l ≠ 0 := by omega
        have HU := Lib.hid hu; have HV := Lib.hid hv
        clear hu hv h2
        go_upto_region 9 with fail
        go_cut [6, 7] (fun s6 s7 wx => ∃ P6 P7 : Nat, s6 = .pointer (some ⟨P6, 0, none⟩) ∧ s7 = .pointer (some ⟨P7, 0, none⟩) ∧ Blk wx P6 3 #[.int .i64 u] ∧ Blk wx P7 3 #[.int .i64 v] ∧ Blk wx P0 3 #[.int .i64 s] ∧ PcE w wx R r L l ∧ Blk wx (w.heap.size + 1) 46 #[.slice none 0 0, .int .i64 0, .int .i64 0])
        case first =>
          go_region
          · go_wp2_with fail
            go_meet
            exact ⟨_, _, rfl, rfl, Blk.drew (two_new w3 u v).1, Blk.drew (two_new w3 u v).2, Blk.drew ((SB.out.alloc _).alloc _), ((E.out.alloc _).alloc _).drew, Blk.drew ((RB.out.alloc _).alloc _)⟩
          · go_wp2_with fail
            go_meet
            exact ⟨_, _, rfl, rfl, Blk.drew (two_new w3 v u).2, Blk.drew (two_new w3 v u).1, Blk.drew ((SB.out.alloc _).alloc _), ((E.out.alloc _).alloc _).drew, Blk.drew ((RB.out.alloc _).alloc _)⟩
        case rest =>
          clear E RB SB e1 e2 e3 e4 e5 e6 e7 sb0 hsl
          clear f0 f1 f2 f3 hlf
          obtain ⟨P6, P7, rfl, rfl, h6, h7, hsb, hE, hRB⟩ := hcut
          have E := Lib.hid hE; have RB := Lib.hid hRB; have SB := Lib.hid hsb; have Q6 := Lib.hid h6; have Q7 := Lib.hid h7
          clear h6 h7 hsb hE hRB
          have sb0 := SB.out.cell 0
          simp at sb0
          have hsl := SB.out.lt
          have hs1 : w.heap.size + 1 < wc.heap.size := RB.out.lt
          obtain ⟨f0, f1, f2, f3, hlf⟩ := E.out.cells
          go_wp2_with fail
          refine (buildK_any 115 #[.pointer (some ⟨P0, 0, none⟩), .pointer (some ⟨w.heap.size, 0, none⟩), .pointer (some ⟨P6, 0, none⟩), .pointer (some ⟨P7, 0, none⟩)] s r R (pcV R r L l) _ hs00 (by omega) hr0 (by omega) hR0 (by omega)
            (fun k hk => by have := pc_bd OK.out.1 OK.out.2 (k := k) (by omega); omega)
            (fun t w4 ht hb => pace1_any P0 w.heap.size P6 P7 R r L l s u v t w4 (SB.out.below hb SB.out.lt) (E.out.bb.below hb E.out.bb.lt) (Q6.out.below hb Q6.out.lt) (Q7.out.below hb Q7.out.lt) HS HU HV OK.out.1 OK.out.2 h3 h4 (by omega)) (fun x w => by kernel_rfl)).mono ?_
          rintro e w5 ⟨f, er, hS, A5, n5, c5, hc5, rfl, hI5, hA5, hb⟩
          have hM := build_made (h := pcV R r L l) (s := s.toNat) (p := r.toNat) (i := R) (by omega) (fun t u h1 _ h => absurd h (small_ne (by have := pc_bd OK.out.1 OK.out.2 (k := t) (by omega); omega))) (fun _ => pc_per hR0 hr0 hl0 (by rw [← HS.out]; omega)) hS
          have F := Lib.hid (show PcS R r L l f er from .inr (.inr ⟨OK.out.1, OK.out.2, .inr ⟨h3, by rw [← HS.out]; exact h4⟩, hM⟩))
          have BW := Lib.hid (bthen E.out.bw hb)
          replace RB := Lib.hid (RB.out.below hb RB.out.lt)
          have HI5 := Lib.hid hI5; have HA5 := Lib.hid hA5
          clear hS hI5 hA5 hb hM E SB Q6 Q7 sb0 hsl
          have hs0 := hs1
          clear f0 f1 f2 f3 hlf
          -- the curve f with the error er: netcalculus/service.Pace the function
          obtain ⟨⟨r0, r1, r2⟩, ⟨y0, y1, y2⟩, hlr⟩ := RB.out.c3
          go_wp2_with fail
          have rb := RB.out.store3 (.slice A5 n5 c5) (.int .i64 f.per) (.int .i64 f.inc)
          exact bodyPost_ret (v := .tuple #[.agg #[.slice A5 n5 c5, .int .i64 f.per, .int .i64 f.inc], .int .i64 er]) (by simp [results, Try.results56, go_sem, rb.cell]) rfl
            ⟨f, er, F.out, retK_store3' hc5 HA5.out (by omega) hs0 HI5.out BW.out⟩
  · rw [bokB_f hok]
    have F := Lib.hid (show PcS R r L l Cv.none 2 from .inl ⟨hok, rfl, rfl⟩)
    clear hok
    rintro e w1 ⟨rfl, hb⟩
    replace RB := Lib.hid (RB.out.below hb RB.out.lt)
    have BW := Lib.hid (bthen E.out.bw hb)
    clear hb
    clear f0 f1 f2 f3 hlf
    -- no curve: netcalculus/service.Pace the function, 2 the error
    obtain ⟨⟨r0, r1, r2⟩, ⟨y0, y1, y2⟩, hlr⟩ := RB.out.c3
    go_wp2_with fail
    have rb := RB.out.store3 (.slice none 0 0) (.int .i64 0) (.int .i64 0)
    exact bodyPost_ret (v := .tuple #[.agg #[.slice none 0 0, .int .i64 0, .int .i64 0], .int .i64 2]) (by simp [results, Try.results56, go_sem, rb.cell]) rfl
      ⟨Cv.none, 2, F.out, none, 0, 0, Nat.le_refl 0, rfl, Ints.none_, (fun b off s h => by cases h), ((BW.out.setCell (by simp) _).setCell (by simp) _).setCell (by simp) _⟩
theorem pace_any (R r L l : Int) (w : World) :
    Calls Try.prog 56 #[.agg #[.int .i64 R, .int .i64 r, .int .i64 L, .int .i64 l]] w (RetS (PcS R r L l) w) := (paceK_any R r L l w).mono fun _ _ h => h.to
end Go.Proofs.Ythdibkmjoiipgaa
