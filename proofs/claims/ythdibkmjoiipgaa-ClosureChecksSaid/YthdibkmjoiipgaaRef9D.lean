/- netcalculusref09: guess. -/
import Derived.Test.YthdibkmjoiipgaaRef9C
import Derived.Test.YthdibkmjoiipgaaSto
namespace Go.Proofs.Ythdibkmjoiipgaa
open Go.RowKit
set_option linter.unusedVariables false

/-- what guess says: the curve and whether it may be one -/
def GS9 (C : Nat → Int) (r : Cv) (z : Bool) : Prop := (z = true → r.Ok → CandS C r 0) ∧ (z = false ∨ ¬ r.Ok → CandS C Cv.none 3)
def RetG9 (C : Nat → Int) (w : World) (e : Ending) (w' : World) : Prop :=
  ∃ (r : Cv) (z : Bool) (A : Option Addr) (n c : Nat), GS9 C r z ∧ n ≤ c ∧ n ≤ 2000 ∧ e = .returned (.tuple #[.agg #[.slice A n c, .int .i64 r.per, .int .i64 r.inc], .bool z]) ∧ Ints w' w'.heap.size A n r.vals ∧ (∀ b off s, A = some ⟨b, off, s⟩ → w.heap.size ≤ b) ∧ Below w.heap.size w w'
theorem clo_two {f : Cv} (hf : f.Ok) : ((∀ t, 1 ≤ t → f.at t = inf) ∧ clo f.at 639 = inf) ∨ ((∀ t, t ≤ 4000 → clo f.at t ≠ inf) ∧ f.at 1 ≤ 2147483648) := by
  by_cases hi : f.at 1 = inf
  · have h : ∀ t, 1 ≤ t → f.at t = inf := fun t ht => (((nfa_at hf (by omega)).1 hi).later hf ht).2
    exact .inl ⟨h, clo_inf h (by omega)⟩
  · have h1 : f.at 1 ≤ 2147483648 := by
      rcases hf.fin_or with hF | hF
      · have hF' : f.Fin := hF
        have := hF'.at_bd 1; omega
      · by_cases k : 1 < f.vals.length
        · have := (okv_iff _).1 (hf.v 1 k)
          rw [← Cv.at_lt k] at this
          have := this.resolve_left hi
          omega
        · exact absurd (hf.at_inf hF (by omega)) hi
    exact .inr ⟨fun t ht => clo_ne hf.up0.nn h1 (by omega), h1⟩
theorem clo_upto {f : Cv} (hf : f.Ok) (h1 : f.at 1 ≤ 2147483648) (t k : Nat) (ht : t + k ≤ 4000) : clo f.at t ≤ clo f.at (t + k) := by
  induction k with
  | zero => exact Int.le_refl _
  | succ k ih => exact Int.le_trans (ih (by omega)) (clo_mono hf.up0 h1 (t + k) (by omega))
theorem ints_pre9 {w : World} {B n k : Nat} {A : Option Addr} {C : Nat → Int} (h : Ints w B A n (tab C 0 n)) (hk : k ≤ n) (hn : 0 < n) : Ints w B A k (tab C 0 k) := by
  refine ⟨tab_length _ _ _, fun _ => ?_⟩
  obtain ⟨b, off, e, hb, hc⟩ := h.2 hn
  refine ⟨b, off, e, hb, fun j hj => ?_⟩
  rw [hc j (by omega), tab_nth _ _ _ _ hj, tab_nth _ _ _ _ (show j < n by omega)]
theorem icell9 {w : World} {B n k b off : Nat} {C : Nat → Int} (h : Ints w B (some ⟨b, off, none⟩) n (tab C 0 n)) (hk : k < n) : w.cell? ⟨b, off + k, none⟩ = some (.int .i64 (C k)) ∧ b < B := by
  obtain ⟨b', off', e, hb, hc⟩ := h.2 (by omega)
  cases e
  have := hc k hk
  rw [tab_nth _ _ _ _ hk, Nat.zero_add] at this
  exact ⟨this, hb⟩
theorem LB.drew9 {w wx : World} {A : Option Addr} {n c : Nat} {p i : Int} {zs : List Int} (h : LB w wx A n c p i zs) : LB w wx.drew A n c p i zs := ⟨h.fb, h.rb, h.ib, Below.drew h.bw⟩
theorem retG9 {C : Nat → Int} {r : Cv} {z : Bool} {w w1 : World} {B g0 : Nat} {A : Option Addr} {n c : Nat} {x y v : Value} (H : GS9 C r z) (hc : n ≤ c) (hn : n ≤ 2000) (hf : ∀ b off s, A = some ⟨b, off, s⟩ → B ≤ b) (h0 : w.heap.size ≤ g0) (hB : g0 < B) (hI : Ints w1 w1.heap.size A n r.vals) (bw : Below w.heap.size w w1) :
    RetG9 C w (.returned (.tuple #[.agg #[.slice A n c, .int .i64 r.per, .int .i64 r.inc], .bool z])) (((w1.setCell ⟨g0, 0, none⟩ x).setCell ⟨g0, 1, none⟩ y).setCell ⟨g0, 2, none⟩ v) :=
  ⟨r, z, A, n, c, H, hc, hn, rfl, by
    simpa using (((hI.setCell (fun b off s h => by have := hf b off s h; simp; omega) _).setCell (fun b off s h => by have := hf b off s h; simp; omega) _).setCell (fun b off s h => by have := hf b off s h; simp; omega) _),
    (fun b off s h => by have := hf b off s h; omega), ((bw.setCell (by simpa using h0) _).setCell (by simpa using h0) _).setCell (by simpa using h0) _⟩
set_option maxHeartbeats 4000000 in
set_option maxRecDepth 100000 in
theorem guess9_any (A : Option Addr) (n c : Nat) (f : Cv) (w : World) (hA : Ints w w.heap.size A n f.vals) (hf : f.Ok) :
    Calls Try.prog 96 #[.agg #[.slice A n c, .int .i64 f.per, .int .i64 f.inc]] w (RetG9 (clo f.at) w) := by
  have a1 := hf.n1; have a2 := hf.n2; have a3 := hf.p1; have a4 := hf.p2; have a5 := hf.pn; have a6 := hf.i1; have a7 := hf.i2
  have hln : f.vals.length = n := hA.1
  rw [hln] at a1 a2 a5
  have E := Lib.hid (LB.new (p := f.per) (i := f.inc) (c := c) hA)
  have HF := Lib.hid hf
  obtain ⟨C, hC⟩ : ∃ C, C = clo f.at := ⟨_, rfl⟩
  have TWO := Lib.hid (clo_two hf)
  have HC := Lib.hid hC
  rw [← hC] at TWO
  rw [← hC]
  clear hA hf hln
  go_enter Try.func96, Try.ntmps96
  go_upto_region 1 with fail
  generalize hwe : (w.alloc (.cells #[.slice A n c, .int .i64 f.per, .int .i64 f.inc] 46)).alloc (.cells #[.slice none 0 0, .int .i64 0, .int .i64 0] 46) = we at *
  clear hwe
  obtain ⟨⟨f0, f1, f2⟩, _, hlf⟩ := E.out.fb.c3
  go_wp2_with fail
  refine (values9_any A n c f 640 _ (by exact E.out.ints) HF.out (by omega) (by omega)).mono ?_
  rw [← hC]
  rintro e w1 ⟨Am, cm, rfl, hcm, hI, hfr, hb⟩
  clear hC
  obtain ⟨b, off, hAe, hbl, _⟩ := hI.2 (by omega)
  subst hAe
  replace E := Lib.hid (E.out.below hb)
  have I9 := Lib.hid hI
  clear hI hfr hb hbl
  clear f0 f1 f2 hlf
  go_wp2_with fail
  go_loopg [6, 7, 8, 9] 120 (fun gg s6 s7 s8 s9 wx => ∃ p : Nat, p + gg = 121 ∧ 1 ≤ p ∧ s6 = .int .i64 p ∧ Hid (∀ q, 1 ≤ q → q < p → C 639 ≠ inf ∧ ¬ PerW C 400 q (C (400 + q) - C 400)) ∧ Ints wx wx.heap.size (some ⟨b, off, none⟩) 640 (tab C 0 640) ∧ LB w wx A n c f.per f.inc f.vals)
  case atStart => exact ⟨1, rfl, by omega, rfl, Lib.hid (fun q h1 h2 => by omega), I9.out, E.out⟩
  case round =>
    clear I9 E
    obtain ⟨p, hpg, hp1, rfl, hno, hI, hE⟩ := hrel
    have I9 := Lib.hid hI; have E := Lib.hid hE
    clear hI hE
    obtain ⟨go, hgo⟩ : ∃ go : Nat, go = gk := ⟨_, rfl⟩
    subst hgo
    by_cases hp : p ≤ 120
    case neg =>
      have hpi : ¬ (p : Int) ≤ 120 := by omega
      have GS := Lib.hid (show GS9 C Cv.none false from by
        have h1 := (hno.out 1 (by omega) (by omega)).1
        have hne : ∀ t, t < 640 → C t ≠ inf := fun t ht => by
          rcases TWO.out with ⟨_, k⟩ | ⟨k, _⟩
          · exact absurd k h1
          · exact k t (by omega)
        exact ⟨fun h => (by cases h), fun _ => guess_no hne fun q h2 h3 => (hno.out q h2 (by omega)).2⟩)
      have hsz := E.out.rb.lt
      obtain ⟨⟨r0, r1, r2⟩, ⟨y0, y1, y2⟩, hlr⟩ := E.out.rb.c3
      go_wp2_with fail
      have rb := E.out.rb.store3 (.slice none 0 0) (.int .i64 0) (.int .i64 0)
      try rw [Exit.noGoto_ret]
      refine bodyPost_ret (v := .tuple #[.agg #[.slice none 0 0, .int .i64 0, .int .i64 0], .bool false]) (by simp [results, Try.results96, go_sem, rb.cell]) rfl ?_
      exact retG9 (r := Cv.none) (B := w.heap.size + 2) GS.out (Nat.le_refl _) (by omega) (fun b off s h => by cases h) (by omega) (by omega) ⟨rfl, fun h => absurd h (by omega)⟩ E.out.bw
    case pos =>
    have hpi : (p : Int) ≤ 120 := by omega
    obtain ⟨Y, hY⟩ : ∃ Y : Nat, Y = 400 + p := ⟨_, rfl⟩
    have hY9 : Y ≤ 640 := by omega
    have hYc : Y ≤ cm := by omega
    have hYi : (Y : Int) ≤ (cm : Int) := by omega
    have hY0 : 0 ≤ (Y : Int) := by omega
    have hYl : (Y : Int) < 640 := by omega
    have eY1 : IntKind.i64.wrap (400 + (p : Int)) = (Y : Int) := by rw [IntWalk.i64_in _ (by omega)]; omega
    have eY2 : 400 + (p : Int) = (Y : Int) := by omega
    have eY3 : IntKind.i64.wrap (Y : Int) = (Y : Int) := IntWalk.i64_in _ (by omega)
    have HYY := Lib.hid hY
    clear hY
    obtain ⟨vl, hvl⟩ : ∃ vl, vl = C 639 := ⟨_, rfl⟩
    obtain ⟨cl, hbl⟩ := icell9 I9.out (show 639 < 640 by omega)
    rw [← hvl] at cl
    by_cases hvi : vl = inf
    case pos =>
      have d1 : (vl != 4611686018427387904) = false := by subst hvi; rfl
      have ALL := Lib.hid (show p = 1 ∧ ∀ t, 1 ≤ t → f.at t = inf from by
        rw [hvl] at hvi
        refine ⟨?_, ?_⟩
        · rcases Nat.lt_or_ge 1 p with k | k
          · exact absurd hvi (hno.out 1 (by omega) k).1
          · omega
        · rcases TWO.out with ⟨k, _⟩ | ⟨k, _⟩
          · exact k
          · exact absurd hvi (k 639 (by omega)))
      have EX := Lib.hid (show Cv.mk (tab C 0 Y) (p : Int) 0 = ⟨tab (clo f.at) 0 401, 1, 0⟩ from by rw [HYY.out, ALL.out.1, HC.out]; rfl)
      have GG := Lib.hid (show ∀ r, LeastS ⟨tab C 0 Y, (p : Int), 0⟩ r → GS9 C r true from fun r hr => by
        rw [EX.out] at hr
        obtain rfl := guess_inf ALL.out.2 hr
        rw [HC.out]
        exact ⟨fun _ _ => cand_wait ALL.out.2, fun h => by
          rcases h with h | h
          · cases h
          · exact absurd cw0_ok h⟩)
      have PRE := Lib.hid (show Pre ⟨tab C 0 Y, (p : Int), 0⟩ from by
        refine ⟨by show (1 : Int) ≤ (p : Int); omega, by show (p : Int) ≤ ((tab C 0 Y).length : Nat); rw [tab_length]; have := HYY.out; omega, Int.le_refl _, by show (0 : Int) ≤ _; omega, by show (tab C 0 Y).length ≤ _; rw [tab_length]; omega, fun k => ?_⟩
        by_cases hk : k < Y
        · show 0 ≤ nth (tab C 0 Y) k ∧ nth (tab C 0 Y) k ≤ _
          rw [tab_nth _ _ _ _ hk, Nat.zero_add]
          have := clo_near HF.out (t := k) (by omega)
          rw [← HC.out] at this
          unfold inf at this
          omega
        · show 0 ≤ nth (tab C 0 Y) k ∧ nth (tab C 0 Y) k ≤ _
          rw [nth_out _ _ (by rw [tab_length]; omega)]; omega)
      clear hvi hvl
      go_wp2_with fail
      clear cl
      refine (refLeast_any (some ⟨b, off, none⟩) Y cm (p : Int) 0 (tab C 0 Y) _ (by exact ints_pre9 I9.out hY9 (by omega)) (by omega) PRE.out).mono ?_
      rintro e w5 ⟨r, A5, n5, c5, hS, hc5, rfl, hI5, hA5, hb⟩
      have hle := LeastS.len PRE.out hS
      have hl5 : r.vals.length = n5 := hI5.1
      have hlY : (Cv.mk (tab C 0 Y) (p : Int) 0).vals.length = Y := tab_length _ _ _
      have hn5 : n5 ≤ 2000 := by omega
      have GS := Lib.hid (GG.out r hS)
      have hsz := E.out.rb.lt
      have hsz2 : w.heap.size + 1 < w5.heap.size := by have := hb.size; omega
      replace E := Lib.hid (E.out.below hb)
      have I5 := Lib.hid hI5; have A5' := Lib.hid (show ∀ b off s, A5 = some ⟨b, off, s⟩ → w.heap.size + 2 ≤ b from fun b off s e => by have := hA5 b off s e; omega)
      clear hS hI5 hA5 hb hle hl5 hlY
      obtain ⟨⟨r0, r1, r2⟩, ⟨y0, y1, y2⟩, hlr⟩ := E.out.rb.c3
      go_wp2_with fail
      have rb := E.out.rb.store3 (.slice A5 n5 c5) (.int .i64 r.per) (.int .i64 r.inc)
      try rw [Exit.noGoto_ret]
      refine bodyPost_ret (v := .tuple #[.agg #[.slice A5 n5 c5, .int .i64 r.per, .int .i64 r.inc], .bool true]) (by simp [results, Try.results96, go_sem, rb.cell]) rfl ?_
      exact retG9 GS.out hc5 hn5 A5'.out (by omega) (by omega) I5.out E.out.bw
    case neg =>
      have d1 : (vl != 4611686018427387904) = true := by rw [bne_iff_ne]; exact hvi
      have FINS := Lib.hid (show (∀ t, t ≤ 4000 → C t ≠ inf) ∧ f.at 1 ≤ 2147483648 from by
        rcases TWO.out with ⟨_, k⟩ | k
        · exact absurd (by rw [hvl]; exact k) hvi
        · exact k)
      have CBD := Lib.hid (show ∀ t, t ≤ 640 → 0 ≤ C t ∧ C t ≤ 1374389534720 from fun t ht => by
        rw [HC.out]
        exact ⟨clo_nn HF.out.up0.nn t, by have := clo_bd HF.out.up0.nn FINS.out.2 t (by omega); omega⟩)
      have hq : 0 ≤ C Y - C 400 ∧ C Y - C 400 ≤ 1099511627776 := by
        have h1 := clo_upto HF.out FINS.out.2 400 p (by omega)
        have h2 := clo_sub (f := f.at) (s := 400) (u := p) (by omega) hp1
        rw [clo_pl HF.out.up0.nn FINS.out.2 (by omega) (by omega)] at h2
        have h3 := clo_bd HF.out.up0.nn FINS.out.2 p (by omega)
        rw [HYY.out, HC.out]
        omega
      obtain ⟨x1, hx1⟩ : ∃ x1, x1 = C Y := ⟨_, rfl⟩
      obtain ⟨x2, hx2⟩ : ∃ x2, x2 = C 400 := ⟨_, rfl⟩
      obtain ⟨q, hqe⟩ : ∃ q, q = x1 - x2 := ⟨_, rfl⟩
      have HQ := Lib.hid (show q = C (400 + p) - C 400 from by rw [hqe, hx1, hx2, HYY.out])
      rw [← hx1, ← hx2, ← hqe] at hq
      have eq1 : IntKind.i64.wrap (x1 - x2) = q := by rw [← hqe]; exact IntWalk.i64_in _ (by omega)
      have eq2 : x1 - x2 = q := hqe.symm
      have eq3 : IntKind.i64.wrap q = q := IntWalk.i64_in _ (by omega)
      have cs := (icell9 I9.out (show Y < 640 by omega)).1; have cz := (icell9 I9.out (show 400 < 640 by omega)).1
      rw [← hx1] at cs
      rw [← hx2] at cz
      have CS := Lib.hid cs; have CZ := Lib.hid cz
      clear hvi hvl hqe hx1 hx2
      go_upto_region 8 with fail
      clear cl
      replace E := Lib.hid (LB.drew9 E.out); replace I9 := Lib.hid (show Ints wr.drew wr.drew.heap.size (some ⟨b, off, none⟩) 640 (tab C 0 640) from I9.out.drew)
      refine wp_region_held_drew (S := (fun w' => w'.cell? ⟨b, off + Y, none⟩ = some (.int .i64 x1) ∧ w'.cell? ⟨b, off + 400, none⟩ = some (.int .i64 x2))) (by kernel_rfl) (by exact ⟨cs, cz⟩) (fun hHeld => ?_)
      clear cs cz
      have cs : wr.drew.cell? ⟨b, off + Y, none⟩ = some (.int .i64 x1) := CS.out
      have cz : wr.drew.cell? ⟨b, off + 400, none⟩ = some (.int .i64 x2) := CZ.out
      have hbl : b < wr.drew.heap.size := hbl
      clear CS CZ
      generalize hwd : wr.drew = wd at *
      clear hwd
      refine wpAnyH_take (i := 0) (oi := _) (v := ?_) (by simp only [g8a, g8z]; rfl) (by kernel_rfl) (by kernel_rfl) (by kernel_rfl) (by exact fun _ _ _ h => h) (Or.inl ⟨by rfl, ?_⟩) (by assumption) ?_
      rotate_left 1
      · (intro w hSw; (try dsimp only at hSw); go_simp; try with_reducible rfl)
      all_goals ((try simp only [Act.put]); try simp only [g8b, g8c, g8d])
      refine wpAnyH_take (i := 1) (oi := _) (v := ?_) (by simp only [g8a, g8s, g8z]; rfl) (by kernel_rfl) (by kernel_rfl) (by kernel_rfl) (by exact fun _ _ _ h => h) (Or.inl ⟨by rfl, ?_⟩) (by assumption) ?_
      rotate_left 1
      · (intro w hSw; (try dsimp only at hSw); go_simp; try with_reducible rfl)
      all_goals ((try simp only [Act.put]); try simp only [g8b, g8c, g8d])
      refine wpAnyH_take (i := 2) (oi := _) (v := ?_) (by simp only [g8a, g8s, g8z]; rfl) (by kernel_rfl) (by kernel_rfl) (by kernel_rfl) (by exact fun _ _ _ h => h) (Or.inl ⟨by rfl, ?_⟩) (by assumption) ?_
      rotate_left 1
      · (intro w hSw; (try dsimp only at hSw); go_simp; try with_reducible rfl)
      all_goals ((try simp only [Act.put]); try simp only [g8b, g8c, g8d])
      refine wpAnyH_take (i := 3) (oi := _) (v := ?_) (by simp only [g8a, g8s, g8z]; rfl) (by kernel_rfl) (by kernel_rfl) (by kernel_rfl) (by exact fun _ _ _ h => h) (Or.inl ⟨by rfl, ?_⟩) (by assumption) ?_
      rotate_left 1
      · (intro w hSw; (try dsimp only at hSw); go_simp; try with_reducible rfl)
      all_goals ((try simp only [Act.put]); try simp only [g8b, g8c, g8d])
      refine wpAnyH_take (i := 4) (oi := _) (v := ?_) (by simp only [g8a, g8s, g8z]; rfl) (by kernel_rfl) (by kernel_rfl) (by kernel_rfl) (by exact fun _ _ _ h => h) (Or.inl ⟨by rfl, ?_⟩) (by assumption) ?_
      rotate_left 1
      · (intro w hSw; (try dsimp only at hSw); go_simp; try with_reducible rfl)
      all_goals ((try simp only [Act.put]); try simp only [g8b, g8c, g8d])
      refine wpAnyH_take (i := 5) (oi := _) (v := ?_) (by simp only [g8a, g8s, g8z]; rfl) (by kernel_rfl) (by kernel_rfl) (by kernel_rfl) (by exact fun _ _ _ h => h) (Or.inl ⟨by rfl, ?_⟩) (by assumption) ?_
      rotate_left 1
      · (intro w hSw; (try dsimp only at hSw); go_simp; try with_reducible rfl)
      all_goals ((try simp only [Act.put]); try simp only [g8b, g8c, g8d])
      refine wpAnyH_take (i := 6) (oi := _) (v := ?_) (by simp only [g8a, g8s, g8z]; rfl) (by kernel_rfl) (by kernel_rfl) (by kernel_rfl) (by exact fun _ _ _ h => h) (Or.inl ⟨by rfl, ?_⟩) (by assumption) ?_
      rotate_left 1
      · (intro w hSw; (try dsimp only at hSw); go_simp; try with_reducible rfl)
      all_goals ((try simp only [Act.put]); try simp only [g8b, g8c, g8d])
      refine wpAnyH_take (i := 7) (oi := _) (v := ?_) (by simp only [g8a, g8s, g8z]; rfl) (by kernel_rfl) (by kernel_rfl) (by kernel_rfl) (by exact fun _ _ _ h => h) (Or.inl ⟨by rfl, ?_⟩) (by assumption) ?_
      rotate_left 1
      · (intro w hSw; (try dsimp only at hSw); go_simp; try with_reducible rfl)
      all_goals ((try simp only [Act.put]); try simp only [g8b, g8c, g8d])
      refine wpAnyH_take (i := 8) (oi := _) (v := ?_) (by simp only [g8a, g8s, g8z]; rfl) (by kernel_rfl) (by kernel_rfl) (by kernel_rfl) (by exact fun _ _ _ h => h) (Or.inl ⟨by rfl, ?_⟩) (by assumption) ?_
      rotate_left 1
      · (intro w hSw; (try dsimp only at hSw); go_simp; try with_reducible rfl)
      all_goals ((try simp only [Act.put]); try simp only [g8b, g8c, g8d])
      refine wpAnyH_take (i := 9) (oi := _) (v := ?_) (by simp only [g8a, g8s, g8z]; rfl) (by kernel_rfl) (by kernel_rfl) (by kernel_rfl) (by exact fun _ _ _ h => h) (Or.inl ⟨by rfl, ?_⟩) (by assumption) ?_
      rotate_left 1
      · (intro w hSw; (try dsimp only at hSw); go_simp; try with_reducible rfl)
      all_goals ((try simp only [Act.put]); try simp only [g8b, g8c, g8d])
      refine wpAnyH_done (by kernel_rfl) ?_ _
      clear hHeld eq1 eq2 eq3 cs cz
      obtain ⟨hq0, hq1⟩ := hq
      have GG := Lib.hid (show PerW C 400 p q → ∀ r, LeastS ⟨tab C 0 Y, (p : Int), q⟩ r → GS9 C r true from fun W r hr => by
        rw [HYY.out] at hr
        have k := guess_yes (by omega) hp (fun t ht => FINS.out.1 t (by omega)) W hr
        exact ⟨fun _ ho => k.1 ho, fun h => by
          rcases h with h | h
          · cases h
          · exact k.2 h⟩)
      have PRE := Lib.hid (show Pre ⟨tab C 0 Y, (p : Int), q⟩ from by
        refine ⟨by show (1 : Int) ≤ (p : Int); omega, by show (p : Int) ≤ ((tab C 0 Y).length : Nat); rw [tab_length]; have := HYY.out; omega, hq0, hq1, by show (tab C 0 Y).length ≤ _; rw [tab_length]; omega, fun k => ?_⟩
        by_cases hk : k < Y
        · show 0 ≤ nth (tab C 0 Y) k ∧ nth (tab C 0 Y) k ≤ _
          rw [tab_nth _ _ _ _ hk, Nat.zero_add]
          have := CBD.out k (by omega)
          omega
        · show 0 ≤ nth (tab C 0 Y) k ∧ nth (tab C 0 Y) k ≤ _
          rw [nth_out _ _ (by rw [tab_length]; omega)]; omega)
      have GG0 := GG
      clear GG
      go_wp2_with fail
      go_loopg [7, 9] (240 - p) (fun gg s7 s9 wx => ∃ (t : Nat) (z : Bool), t + p + gg = 640 ∧ 400 ≤ t ∧ s7 = .bool z ∧ s9 = .int .i64 t ∧ Hid (z = true ↔ ∀ u, 400 ≤ u → u < t → C (u + p) = C u + q) ∧ Ints wx wx.heap.size (some ⟨b, off, none⟩) 640 (tab C 0 640) ∧ LB w wx A n c f.per f.inc f.vals)
      case atStart => exact ⟨400, true, by omega, Nat.le_refl _, rfl, rfl, Lib.hid ⟨fun _ u h1 h2 => by omega, fun _ => rfl⟩, I9.out, E.out⟩
      case round =>
        clear I9 E hbl
        obtain ⟨t, z, htg, ht4, rfl, rfl, HZ, hI, hE⟩ := hrel
        have I9 := Lib.hid hI; have E := Lib.hid hE
        clear hI hE
        obtain ⟨y, hy⟩ : ∃ y : Nat, y = t + p := ⟨_, rfl⟩
        have hy9 : y ≤ 640 := by omega
        have ey1 : IntKind.i64.wrap ((t : Int) + (p : Int)) = (y : Int) := by rw [IntWalk.i64_in _ (by omega)]; omega
        have ey2 : (t : Int) + (p : Int) = (y : Int) := by omega
        have ey3 : IntKind.i64.wrap (y : Int) = (y : Int) := IntWalk.i64_in _ (by omega)
        by_cases hyt : y < 640
        case pos =>
          have hyi : (y : Int) < 640 := by omega
          have hti : (t : Int) < 640 := by omega
          have hy0 : 0 ≤ (y : Int) := by omega
          have ht0 : 0 ≤ (t : Int) := by omega
          obtain ⟨cs, hbl⟩ := icell9 I9.out hyt
          have cz := (icell9 I9.out (show t < 640 by omega)).1
          obtain ⟨x1, hx1⟩ : ∃ x1, x1 = C y := ⟨_, rfl⟩
          obtain ⟨x2, hx2⟩ : ∃ x2, x2 = C t := ⟨_, rfl⟩
          rw [← hx1] at cs
          rw [← hx2] at cz
          have b1 := CBD.out y (by omega); have b2 := CBD.out t (by omega)
          rw [← hx1] at b1
          rw [← hx2] at b2
          obtain ⟨x3, hx3⟩ : ∃ x3, x3 = x2 + q := ⟨_, rfl⟩
          have ei1 : IntKind.i64.wrap (x2 + q) = x3 := by rw [← hx3]; exact IntWalk.i64_in _ (by omega)
          have ei2 : x2 + q = x3 := hx3.symm
          have ei3 : IntKind.i64.wrap x3 = x3 := IntWalk.i64_in _ (by omega)
          have FT := Lib.hid (show x1 = x3 ↔ C (t + p) = C t + q from by rw [hx1, hx3, hx2, hy])
          have HTP := Lib.hid hy
          have hg1 : 1 ≤ gk := by omega
          clear hx1 hx2 hx3 hy b1 b2
          have CS := Lib.hid cs; have CZ := Lib.hid cz
          go_upto_region 12 with fail
          replace E := Lib.hid (LB.drew9 E.out); replace I9 := Lib.hid (show Ints wr.drew wr.drew.heap.size (some ⟨b, off, none⟩) 640 (tab C 0 640) from I9.out.drew)
          refine wp_region_held_drew (S := (fun w' => w'.cell? ⟨b, off + y, none⟩ = some (.int .i64 x1) ∧ w'.cell? ⟨b, off + t, none⟩ = some (.int .i64 x2))) (by kernel_rfl) (by exact ⟨cs, cz⟩) (fun hHeld => ?_)
          clear cs cz
          have cs : wr.drew.cell? ⟨b, off + y, none⟩ = some (.int .i64 x1) := CS.out
          have cz : wr.drew.cell? ⟨b, off + t, none⟩ = some (.int .i64 x2) := CZ.out
          have hbl : b < wr.drew.heap.size := hbl
          clear CS CZ
          generalize hwd : wr.drew = wd at *
          clear hwd
          cases z
          case false =>
            have NZ := Lib.hid (show ¬ ∀ u, 400 ≤ u → u < t + 1 → C (u + p) = C u + q from fun h => by have := HZ.out.2 fun u h1 h2 => h u h1 (by omega); cases this)
            refine wpAnyH_take (i := 0) (oi := _) (v := ?_) (by simp only [g8a, g8z]; rfl) (by kernel_rfl) (by kernel_rfl) (by kernel_rfl) (by exact fun _ _ _ h => h) (Or.inl ⟨by rfl, ?_⟩) (by assumption) ?_
            rotate_left 1
            · (intro w hSw; (try dsimp only at hSw); go_simp; try with_reducible rfl)
            all_goals ((try simp only [Act.put]); try simp only [g8b, g8c, g8d])
            refine wpAnyH_take (i := 1) (oi := _) (v := ?_) (by simp only [g8a, g8s, g8z]; rfl) (by kernel_rfl) (by kernel_rfl) (by kernel_rfl) (by exact fun _ _ _ h => h) (Or.inl ⟨by rfl, ?_⟩) (by assumption) ?_
            rotate_left 1
            · (intro w hSw; (try dsimp only at hSw); go_simp; try with_reducible rfl)
            all_goals ((try simp only [Act.put]); try simp only [g8b, g8c, g8d])
            refine wpAnyH_take (i := 2) (oi := _) (v := undef) (by simp only [g8a, g8s, g8z]; rfl) (by kernel_rfl) (by kernel_rfl) (by kernel_rfl) (by exact fun _ _ _ h => h) (Or.inr ⟨by rfl, rfl⟩) (by assumption) ?_
            (try simp only [Act.put]); try simp only [g8b, g8c, g8d]
            refine wpAnyH_take (i := 3) (oi := _) (v := undef) (by simp only [g8a, g8s, g8z]; rfl) (by kernel_rfl) (by kernel_rfl) (by kernel_rfl) (by exact fun _ _ _ h => h) (Or.inr ⟨by rfl, rfl⟩) (by assumption) ?_
            (try simp only [Act.put]); try simp only [g8b, g8c, g8d]
            refine wpAnyH_take (i := 4) (oi := _) (v := undef) (by simp only [g8a, g8s, g8z]; rfl) (by kernel_rfl) (by kernel_rfl) (by kernel_rfl) (by exact fun _ _ _ h => h) (Or.inr ⟨by rfl, rfl⟩) (by assumption) ?_
            (try simp only [Act.put]); try simp only [g8b, g8c, g8d]
            refine wpAnyH_take (i := 5) (oi := _) (v := undef) (by simp only [g8a, g8s, g8z]; rfl) (by kernel_rfl) (by kernel_rfl) (by kernel_rfl) (by exact fun _ _ _ h => h) (Or.inr ⟨by rfl, rfl⟩) (by assumption) ?_
            (try simp only [Act.put]); try simp only [g8b, g8c, g8d]
            refine wpAnyH_take (i := 6) (oi := _) (v := undef) (by simp only [g8a, g8s, g8z]; rfl) (by kernel_rfl) (by kernel_rfl) (by kernel_rfl) (by exact fun _ _ _ h => h) (Or.inr ⟨by rfl, rfl⟩) (by assumption) ?_
            (try simp only [Act.put]); try simp only [g8b, g8c, g8d]
            refine wpAnyH_take (i := 7) (oi := _) (v := undef) (by simp only [g8a, g8s, g8z]; rfl) (by kernel_rfl) (by kernel_rfl) (by kernel_rfl) (by exact fun _ _ _ h => h) (Or.inr ⟨by rfl, rfl⟩) (by assumption) ?_
            (try simp only [Act.put]); try simp only [g8b, g8c, g8d]
            refine wpAnyH_take (i := 8) (oi := _) (v := undef) (by simp only [g8a, g8s, g8z]; rfl) (by kernel_rfl) (by kernel_rfl) (by kernel_rfl) (by exact fun _ _ _ h => h) (Or.inr ⟨by rfl, rfl⟩) (by assumption) ?_
            (try simp only [Act.put]); try simp only [g8b, g8c, g8d]
            refine wpAnyH_take (i := 9) (oi := _) (v := undef) (by simp only [g8a, g8s, g8z]; rfl) (by kernel_rfl) (by kernel_rfl) (by kernel_rfl) (by exact fun _ _ _ h => h) (Or.inr ⟨by rfl, rfl⟩) (by assumption) ?_
            (try simp only [Act.put]); try simp only [g8b, g8c, g8d]
            refine wpAnyH_take (i := 10) (oi := _) (v := undef) (by simp only [g8a, g8s, g8z]; rfl) (by kernel_rfl) (by kernel_rfl) (by kernel_rfl) (by exact fun _ _ _ h => h) (Or.inr ⟨by rfl, rfl⟩) (by assumption) ?_
            (try simp only [Act.put]); try simp only [g8b, g8c, g8d]
            refine wpAnyH_take (i := 11) (oi := _) (v := undef) (by simp only [g8a, g8s, g8z]; rfl) (by kernel_rfl) (by kernel_rfl) (by kernel_rfl) (by exact fun _ _ _ h => h) (Or.inr ⟨by rfl, rfl⟩) (by assumption) ?_
            (try simp only [Act.put]); try simp only [g8b, g8c, g8d]
            refine wpAnyH_take (i := 12) (oi := _) (v := undef) (by simp only [g8a, g8s, g8z]; rfl) (by kernel_rfl) (by kernel_rfl) (by kernel_rfl) (by exact fun _ _ _ h => h) (Or.inr ⟨by rfl, rfl⟩) (by assumption) ?_
            (try simp only [Act.put]); try simp only [g8b, g8c, g8d]
            refine wpAnyH_take (i := 13) (oi := _) (v := undef) (by simp only [g8a, g8s, g8z]; rfl) (by kernel_rfl) (by kernel_rfl) (by kernel_rfl) (by exact fun _ _ _ h => h) (Or.inr ⟨by rfl, rfl⟩) (by assumption) ?_
            (try simp only [Act.put]); try simp only [g8b, g8c, g8d]
            refine wpAnyH_take (i := 14) (oi := _) (v := undef) (by simp only [g8a, g8s, g8z]; rfl) (by kernel_rfl) (by kernel_rfl) (by kernel_rfl) (by exact fun _ _ _ h => h) (Or.inr ⟨by rfl, rfl⟩) (by assumption) ?_
            (try simp only [Act.put]); try simp only [g8b, g8c, g8d]
            refine wpAnyH_take (i := 15) (oi := _) (v := ?_) (by simp only [g8a, g8s, g8z]; rfl) (by kernel_rfl) (by kernel_rfl) (by kernel_rfl) (by exact fun _ _ _ h => h) (Or.inl ⟨by rfl, ?_⟩) (by assumption) ?_
            rotate_left 1
            · (intro w hSw; (try dsimp only at hSw); go_simp; try with_reducible rfl)
            all_goals ((try simp only [Act.put]); try simp only [g8b, g8c, g8d])
            refine wpAnyH_take (i := 16) (oi := _) (v := ?_) (by simp only [g8a, g8s, g8z]; rfl) (by kernel_rfl) (by kernel_rfl) (by kernel_rfl) (by exact fun _ _ _ h => h) (Or.inl ⟨by rfl, ?_⟩) (by assumption) ?_
            rotate_left 1
            · (intro w hSw; (try dsimp only at hSw); go_simp; try with_reducible rfl)
            all_goals ((try simp only [Act.put]); try simp only [g8b, g8c, g8d])
            refine wpAnyH_done (by kernel_rfl) ?_ _
            clear hHeld ei1 ei2 ei3 ey1 ey2 ey3 cs cz
            go_wp2_with fail
            go_roundg (gk - 1)
            case measure => omega
            case rel => exact ⟨t + 1, false, by have := HTP.out; omega, by omega, rfl, by go_num, Lib.hid ⟨fun h => (by cases h), fun h => absurd h NZ.out⟩, I9.out, E.out⟩
          case true =>
            by_cases hx : x1 = x3
            case pos =>
              have d2 : (x1 == x3) = true := by simpa using hx
              have NZ := Lib.hid (show ∀ u, 400 ≤ u → u < t + 1 → C (u + p) = C u + q from fun u h1 h2 => by
                rcases Nat.lt_or_ge u t with k | k
                · exact HZ.out.1 (by first | rfl | trivial) u h1 k
                · obtain rfl : u = t := by omega
                  exact FT.out.1 hx)
              clear hx
              refine wpAnyH_take (i := 0) (oi := _) (v := ?_) (by simp only [g8a, g8z]; rfl) (by kernel_rfl) (by kernel_rfl) (by kernel_rfl) (by exact fun _ _ _ h => h) (Or.inl ⟨by rfl, ?_⟩) (by assumption) ?_
              rotate_left 1
              · (intro w hSw; (try dsimp only at hSw); go_simp; try with_reducible rfl)
              all_goals ((try simp only [Act.put]); try simp only [g8b, g8c, g8d])
              refine wpAnyH_take (i := 1) (oi := _) (v := ?_) (by simp only [g8a, g8s, g8z]; rfl) (by kernel_rfl) (by kernel_rfl) (by kernel_rfl) (by exact fun _ _ _ h => h) (Or.inl ⟨by rfl, ?_⟩) (by assumption) ?_
              rotate_left 1
              · (intro w hSw; (try dsimp only at hSw); go_simp; try with_reducible rfl)
              all_goals ((try simp only [Act.put]); try simp only [g8b, g8c, g8d])
              refine wpAnyH_take (i := 2) (oi := _) (v := ?_) (by simp only [g8a, g8s, g8z]; rfl) (by kernel_rfl) (by kernel_rfl) (by kernel_rfl) (by exact fun _ _ _ h => h) (Or.inl ⟨by rfl, ?_⟩) (by assumption) ?_
              rotate_left 1
              · (intro w hSw; (try dsimp only at hSw); go_simp; try with_reducible rfl)
              all_goals ((try simp only [Act.put]); try simp only [g8b, g8c, g8d])
              refine wpAnyH_take (i := 3) (oi := _) (v := ?_) (by simp only [g8a, g8s, g8z]; rfl) (by kernel_rfl) (by kernel_rfl) (by kernel_rfl) (by exact fun _ _ _ h => h) (Or.inl ⟨by rfl, ?_⟩) (by assumption) ?_
              rotate_left 1
              · (intro w hSw; (try dsimp only at hSw); go_simp; try with_reducible rfl)
              all_goals ((try simp only [Act.put]); try simp only [g8b, g8c, g8d])
              refine wpAnyH_take (i := 4) (oi := _) (v := ?_) (by simp only [g8a, g8s, g8z]; rfl) (by kernel_rfl) (by kernel_rfl) (by kernel_rfl) (by exact fun _ _ _ h => h) (Or.inl ⟨by rfl, ?_⟩) (by assumption) ?_
              rotate_left 1
              · (intro w hSw; (try dsimp only at hSw); go_simp; try with_reducible rfl)
              all_goals ((try simp only [Act.put]); try simp only [g8b, g8c, g8d])
              refine wpAnyH_take (i := 5) (oi := _) (v := ?_) (by simp only [g8a, g8s, g8z]; rfl) (by kernel_rfl) (by kernel_rfl) (by kernel_rfl) (by exact fun _ _ _ h => h) (Or.inl ⟨by rfl, ?_⟩) (by assumption) ?_
              rotate_left 1
              · (intro w hSw; (try dsimp only at hSw); go_simp; try with_reducible rfl)
              all_goals ((try simp only [Act.put]); try simp only [g8b, g8c, g8d])
              refine wpAnyH_take (i := 6) (oi := _) (v := ?_) (by simp only [g8a, g8s, g8z]; rfl) (by kernel_rfl) (by kernel_rfl) (by kernel_rfl) (by exact fun _ _ _ h => h) (Or.inl ⟨by rfl, ?_⟩) (by assumption) ?_
              rotate_left 1
              · (intro w hSw; (try dsimp only at hSw); go_simp; try with_reducible rfl)
              all_goals ((try simp only [Act.put]); try simp only [g8b, g8c, g8d])
              refine wpAnyH_take (i := 7) (oi := _) (v := ?_) (by simp only [g8a, g8s, g8z]; rfl) (by kernel_rfl) (by kernel_rfl) (by kernel_rfl) (by exact fun _ _ _ h => h) (Or.inl ⟨by rfl, ?_⟩) (by assumption) ?_
              rotate_left 1
              · (intro w hSw; (try dsimp only at hSw); go_simp; try with_reducible rfl)
              all_goals ((try simp only [Act.put]); try simp only [g8b, g8c, g8d])
              refine wpAnyH_take (i := 8) (oi := _) (v := ?_) (by simp only [g8a, g8s, g8z]; rfl) (by kernel_rfl) (by kernel_rfl) (by kernel_rfl) (by exact fun _ _ _ h => h) (Or.inl ⟨by rfl, ?_⟩) (by assumption) ?_
              rotate_left 1
              · (intro w hSw; (try dsimp only at hSw); go_simp; try with_reducible rfl)
              all_goals ((try simp only [Act.put]); try simp only [g8b, g8c, g8d])
              refine wpAnyH_take (i := 9) (oi := _) (v := ?_) (by simp only [g8a, g8s, g8z]; rfl) (by kernel_rfl) (by kernel_rfl) (by kernel_rfl) (by exact fun _ _ _ h => h) (Or.inl ⟨by rfl, ?_⟩) (by assumption) ?_
              rotate_left 1
              · (intro w hSw; (try dsimp only at hSw); go_simp; try with_reducible rfl)
              all_goals ((try simp only [Act.put]); try simp only [g8b, g8c, g8d])
              refine wpAnyH_take (i := 10) (oi := _) (v := ?_) (by simp only [g8a, g8s, g8z]; rfl) (by kernel_rfl) (by kernel_rfl) (by kernel_rfl) (by exact fun _ _ _ h => h) (Or.inl ⟨by rfl, ?_⟩) (by assumption) ?_
              rotate_left 1
              · (intro w hSw; (try dsimp only at hSw); go_simp; try with_reducible rfl)
              all_goals ((try simp only [Act.put]); try simp only [g8b, g8c, g8d])
              refine wpAnyH_take (i := 11) (oi := _) (v := ?_) (by simp only [g8a, g8s, g8z]; rfl) (by kernel_rfl) (by kernel_rfl) (by kernel_rfl) (by exact fun _ _ _ h => h) (Or.inl ⟨by rfl, ?_⟩) (by assumption) ?_
              rotate_left 1
              · (intro w hSw; (try dsimp only at hSw); go_simp; try with_reducible rfl)
              all_goals ((try simp only [Act.put]); try simp only [g8b, g8c, g8d])
              refine wpAnyH_take (i := 12) (oi := _) (v := ?_) (by simp only [g8a, g8s, g8z]; rfl) (by kernel_rfl) (by kernel_rfl) (by kernel_rfl) (by exact fun _ _ _ h => h) (Or.inl ⟨by rfl, ?_⟩) (by assumption) ?_
              rotate_left 1
              · (intro w hSw; (try dsimp only at hSw); go_simp; try with_reducible rfl)
              all_goals ((try simp only [Act.put]); try simp only [g8b, g8c, g8d])
              refine wpAnyH_take (i := 13) (oi := _) (v := ?_) (by simp only [g8a, g8s, g8z]; rfl) (by kernel_rfl) (by kernel_rfl) (by kernel_rfl) (by exact fun _ _ _ h => h) (Or.inl ⟨by rfl, ?_⟩) (by assumption) ?_
              rotate_left 1
              · (intro w hSw; (try dsimp only at hSw); go_simp; try with_reducible rfl)
              all_goals ((try simp only [Act.put]); try simp only [g8b, g8c, g8d])
              refine wpAnyH_take (i := 14) (oi := _) (v := ?_) (by simp only [g8a, g8s, g8z]; rfl) (by kernel_rfl) (by kernel_rfl) (by kernel_rfl) (by exact fun _ _ _ h => h) (Or.inl ⟨by rfl, ?_⟩) (by assumption) ?_
              rotate_left 1
              · (intro w hSw; (try dsimp only at hSw); go_simp; try with_reducible rfl)
              all_goals ((try simp only [Act.put]); try simp only [g8b, g8c, g8d])
              refine wpAnyH_take (i := 15) (oi := _) (v := ?_) (by simp only [g8a, g8s, g8z]; rfl) (by kernel_rfl) (by kernel_rfl) (by kernel_rfl) (by exact fun _ _ _ h => h) (Or.inl ⟨by rfl, ?_⟩) (by assumption) ?_
              rotate_left 1
              · (intro w hSw; (try dsimp only at hSw); go_simp; try with_reducible rfl)
              all_goals ((try simp only [Act.put]); try simp only [g8b, g8c, g8d])
              refine wpAnyH_take (i := 16) (oi := _) (v := ?_) (by simp only [g8a, g8s, g8z]; rfl) (by kernel_rfl) (by kernel_rfl) (by kernel_rfl) (by exact fun _ _ _ h => h) (Or.inl ⟨by rfl, ?_⟩) (by assumption) ?_
              rotate_left 1
              · (intro w hSw; (try dsimp only at hSw); go_simp; try with_reducible rfl)
              all_goals ((try simp only [Act.put]); try simp only [g8b, g8c, g8d])
              refine wpAnyH_done (by kernel_rfl) ?_ _
              clear hHeld ei1 ei2 ei3 ey1 ey2 ey3 cs cz
              go_wp2_with fail
              go_roundg (gk - 1)
              case measure => omega
              case rel => exact ⟨t + 1, true, by have := HTP.out; omega, by omega, rfl, by go_num, Lib.hid ⟨fun _ => NZ.out, fun _ => rfl⟩, I9.out, E.out⟩
            case neg =>
              have d2 : (x1 == x3) = false := by simpa using hx
              have NZ := Lib.hid (show ¬ ∀ u, 400 ≤ u → u < t + 1 → C (u + p) = C u + q from fun h => hx (FT.out.2 (h t ht4 (by omega))))
              clear hx
              refine wpAnyH_take (i := 0) (oi := _) (v := ?_) (by simp only [g8a, g8z]; rfl) (by kernel_rfl) (by kernel_rfl) (by kernel_rfl) (by exact fun _ _ _ h => h) (Or.inl ⟨by rfl, ?_⟩) (by assumption) ?_
              rotate_left 1
              · (intro w hSw; (try dsimp only at hSw); go_simp; try with_reducible rfl)
              all_goals ((try simp only [Act.put]); try simp only [g8b, g8c, g8d])
              refine wpAnyH_take (i := 1) (oi := _) (v := ?_) (by simp only [g8a, g8s, g8z]; rfl) (by kernel_rfl) (by kernel_rfl) (by kernel_rfl) (by exact fun _ _ _ h => h) (Or.inl ⟨by rfl, ?_⟩) (by assumption) ?_
              rotate_left 1
              · (intro w hSw; (try dsimp only at hSw); go_simp; try with_reducible rfl)
              all_goals ((try simp only [Act.put]); try simp only [g8b, g8c, g8d])
              refine wpAnyH_take (i := 2) (oi := _) (v := ?_) (by simp only [g8a, g8s, g8z]; rfl) (by kernel_rfl) (by kernel_rfl) (by kernel_rfl) (by exact fun _ _ _ h => h) (Or.inl ⟨by rfl, ?_⟩) (by assumption) ?_
              rotate_left 1
              · (intro w hSw; (try dsimp only at hSw); go_simp; try with_reducible rfl)
              all_goals ((try simp only [Act.put]); try simp only [g8b, g8c, g8d])
              refine wpAnyH_take (i := 3) (oi := _) (v := ?_) (by simp only [g8a, g8s, g8z]; rfl) (by kernel_rfl) (by kernel_rfl) (by kernel_rfl) (by exact fun _ _ _ h => h) (Or.inl ⟨by rfl, ?_⟩) (by assumption) ?_
              rotate_left 1
              · (intro w hSw; (try dsimp only at hSw); go_simp; try with_reducible rfl)
              all_goals ((try simp only [Act.put]); try simp only [g8b, g8c, g8d])
              refine wpAnyH_take (i := 4) (oi := _) (v := ?_) (by simp only [g8a, g8s, g8z]; rfl) (by kernel_rfl) (by kernel_rfl) (by kernel_rfl) (by exact fun _ _ _ h => h) (Or.inl ⟨by rfl, ?_⟩) (by assumption) ?_
              rotate_left 1
              · (intro w hSw; (try dsimp only at hSw); go_simp; try with_reducible rfl)
              all_goals ((try simp only [Act.put]); try simp only [g8b, g8c, g8d])
              refine wpAnyH_take (i := 5) (oi := _) (v := ?_) (by simp only [g8a, g8s, g8z]; rfl) (by kernel_rfl) (by kernel_rfl) (by kernel_rfl) (by exact fun _ _ _ h => h) (Or.inl ⟨by rfl, ?_⟩) (by assumption) ?_
              rotate_left 1
              · (intro w hSw; (try dsimp only at hSw); go_simp; try with_reducible rfl)
              all_goals ((try simp only [Act.put]); try simp only [g8b, g8c, g8d])
              refine wpAnyH_take (i := 6) (oi := _) (v := ?_) (by simp only [g8a, g8s, g8z]; rfl) (by kernel_rfl) (by kernel_rfl) (by kernel_rfl) (by exact fun _ _ _ h => h) (Or.inl ⟨by rfl, ?_⟩) (by assumption) ?_
              rotate_left 1
              · (intro w hSw; (try dsimp only at hSw); go_simp; try with_reducible rfl)
              all_goals ((try simp only [Act.put]); try simp only [g8b, g8c, g8d])
              refine wpAnyH_take (i := 7) (oi := _) (v := ?_) (by simp only [g8a, g8s, g8z]; rfl) (by kernel_rfl) (by kernel_rfl) (by kernel_rfl) (by exact fun _ _ _ h => h) (Or.inl ⟨by rfl, ?_⟩) (by assumption) ?_
              rotate_left 1
              · (intro w hSw; (try dsimp only at hSw); go_simp; try with_reducible rfl)
              all_goals ((try simp only [Act.put]); try simp only [g8b, g8c, g8d])
              refine wpAnyH_take (i := 8) (oi := _) (v := ?_) (by simp only [g8a, g8s, g8z]; rfl) (by kernel_rfl) (by kernel_rfl) (by kernel_rfl) (by exact fun _ _ _ h => h) (Or.inl ⟨by rfl, ?_⟩) (by assumption) ?_
              rotate_left 1
              · (intro w hSw; (try dsimp only at hSw); go_simp; try with_reducible rfl)
              all_goals ((try simp only [Act.put]); try simp only [g8b, g8c, g8d])
              refine wpAnyH_take (i := 9) (oi := _) (v := ?_) (by simp only [g8a, g8s, g8z]; rfl) (by kernel_rfl) (by kernel_rfl) (by kernel_rfl) (by exact fun _ _ _ h => h) (Or.inl ⟨by rfl, ?_⟩) (by assumption) ?_
              rotate_left 1
              · (intro w hSw; (try dsimp only at hSw); go_simp; try with_reducible rfl)
              all_goals ((try simp only [Act.put]); try simp only [g8b, g8c, g8d])
              refine wpAnyH_take (i := 10) (oi := _) (v := ?_) (by simp only [g8a, g8s, g8z]; rfl) (by kernel_rfl) (by kernel_rfl) (by kernel_rfl) (by exact fun _ _ _ h => h) (Or.inl ⟨by rfl, ?_⟩) (by assumption) ?_
              rotate_left 1
              · (intro w hSw; (try dsimp only at hSw); go_simp; try with_reducible rfl)
              all_goals ((try simp only [Act.put]); try simp only [g8b, g8c, g8d])
              refine wpAnyH_take (i := 11) (oi := _) (v := ?_) (by simp only [g8a, g8s, g8z]; rfl) (by kernel_rfl) (by kernel_rfl) (by kernel_rfl) (by exact fun _ _ _ h => h) (Or.inl ⟨by rfl, ?_⟩) (by assumption) ?_
              rotate_left 1
              · (intro w hSw; (try dsimp only at hSw); go_simp; try with_reducible rfl)
              all_goals ((try simp only [Act.put]); try simp only [g8b, g8c, g8d])
              refine wpAnyH_take (i := 12) (oi := _) (v := ?_) (by simp only [g8a, g8s, g8z]; rfl) (by kernel_rfl) (by kernel_rfl) (by kernel_rfl) (by exact fun _ _ _ h => h) (Or.inl ⟨by rfl, ?_⟩) (by assumption) ?_
              rotate_left 1
              · (intro w hSw; (try dsimp only at hSw); go_simp; try with_reducible rfl)
              all_goals ((try simp only [Act.put]); try simp only [g8b, g8c, g8d])
              refine wpAnyH_take (i := 13) (oi := _) (v := ?_) (by simp only [g8a, g8s, g8z]; rfl) (by kernel_rfl) (by kernel_rfl) (by kernel_rfl) (by exact fun _ _ _ h => h) (Or.inl ⟨by rfl, ?_⟩) (by assumption) ?_
              rotate_left 1
              · (intro w hSw; (try dsimp only at hSw); go_simp; try with_reducible rfl)
              all_goals ((try simp only [Act.put]); try simp only [g8b, g8c, g8d])
              refine wpAnyH_take (i := 14) (oi := _) (v := ?_) (by simp only [g8a, g8s, g8z]; rfl) (by kernel_rfl) (by kernel_rfl) (by kernel_rfl) (by exact fun _ _ _ h => h) (Or.inl ⟨by rfl, ?_⟩) (by assumption) ?_
              rotate_left 1
              · (intro w hSw; (try dsimp only at hSw); go_simp; try with_reducible rfl)
              all_goals ((try simp only [Act.put]); try simp only [g8b, g8c, g8d])
              refine wpAnyH_take (i := 15) (oi := _) (v := ?_) (by simp only [g8a, g8s, g8z]; rfl) (by kernel_rfl) (by kernel_rfl) (by kernel_rfl) (by exact fun _ _ _ h => h) (Or.inl ⟨by rfl, ?_⟩) (by assumption) ?_
              rotate_left 1
              · (intro w hSw; (try dsimp only at hSw); go_simp; try with_reducible rfl)
              all_goals ((try simp only [Act.put]); try simp only [g8b, g8c, g8d])
              refine wpAnyH_take (i := 16) (oi := _) (v := ?_) (by simp only [g8a, g8s, g8z]; rfl) (by kernel_rfl) (by kernel_rfl) (by kernel_rfl) (by exact fun _ _ _ h => h) (Or.inl ⟨by rfl, ?_⟩) (by assumption) ?_
              rotate_left 1
              · (intro w hSw; (try dsimp only at hSw); go_simp; try with_reducible rfl)
              all_goals ((try simp only [Act.put]); try simp only [g8b, g8c, g8d])
              refine wpAnyH_done (by kernel_rfl) ?_ _
              clear hHeld ei1 ei2 ei3 ey1 ey2 ey3 cs cz
              go_wp2_with fail
              go_roundg (gk - 1)
              case measure => omega
              case rel => exact ⟨t + 1, false, by have := HTP.out; omega, by omega, rfl, by go_num, Lib.hid ⟨fun h => (by cases h), fun h => absurd h NZ.out⟩, I9.out, E.out⟩
        case neg =>
          have hyi : ¬ (y : Int) < 640 := by omega
          obtain rfl : y = 640 := by omega
          have PW := Lib.hid (show z = true ↔ PerW C 400 p q from by
            rw [HZ.out]
            exact ⟨fun h u h1 h2 => h u h1 (by omega), fun h u h1 h2 => h u h1 (by omega)⟩)
          clear hy
          cases z
          case true =>
            have GG := Lib.hid (GG0.out (PW.out.1 (by first | rfl | trivial)))
            go_wp2_with fail
            clear ey1 ey2 ey3
            refine (refLeast_any (some ⟨b, off, none⟩) Y cm (p : Int) q (tab C 0 Y) _ (by exact ints_pre9 I9.out hY9 (by omega)) (by omega) PRE.out).mono ?_
            rintro e w5 ⟨r, A5, n5, c5, hS, hc5, rfl, hI5, hA5, hb⟩
            have hle := LeastS.len PRE.out hS
            have hl5 : r.vals.length = n5 := hI5.1
            have hlY : (Cv.mk (tab C 0 Y) (p : Int) q).vals.length = Y := tab_length _ _ _
            have hn5 : n5 ≤ 2000 := by omega
            have GS := Lib.hid (GG.out r hS)
            have hsz := E.out.rb.lt
            have hsz2 : w.heap.size + 1 < w5.heap.size := by have := hb.size; omega
            replace E := Lib.hid (E.out.below hb)
            have I5 := Lib.hid hI5; have A5' := Lib.hid (show ∀ b off s, A5 = some ⟨b, off, s⟩ → w.heap.size + 2 ≤ b from fun b off s e => by have := hA5 b off s e; omega)
            clear hS hI5 hA5 hb hle hl5 hlY
            obtain ⟨⟨r0, r1, r2⟩, ⟨y0, y1, y2⟩, hlr⟩ := E.out.rb.c3
            go_wp2_with fail
            have rb := E.out.rb.store3 (.slice A5 n5 c5) (.int .i64 r.per) (.int .i64 r.inc)
            try rw [Exit.noGoto_ret]
            refine bodyPost_ret (v := .tuple #[.agg #[.slice A5 n5 c5, .int .i64 r.per, .int .i64 r.inc], .bool true]) (by simp [results, Try.results96, go_sem, rb.cell]) rfl ?_
            exact retG9 GS.out hc5 hn5 A5'.out (by omega) (by omega) I5.out E.out.bw
          case false =>
            have NO := Lib.hid (show ∀ q', 1 ≤ q' → q' < p + 1 → C 639 ≠ inf ∧ ¬ PerW C 400 q' (C (400 + q') - C 400) from fun q' h1 h2 => by
              rcases Nat.lt_or_ge q' p with k | k
              · exact hno.out q' h1 k
              · obtain rfl : q' = p := by omega
                exact ⟨FINS.out.1 639 (by omega), by rw [← HQ.out]; exact fun h => by have := PW.out.2 h; cases this⟩)
            go_wp2_with fail
            go_roundg (go - 1)
            case measure => omega
            case rel => exact ⟨p + 1, by omega, by omega, by go_num, NO, I9.out, E.out⟩
end Go.Proofs.Ythdibkmjoiipgaa
