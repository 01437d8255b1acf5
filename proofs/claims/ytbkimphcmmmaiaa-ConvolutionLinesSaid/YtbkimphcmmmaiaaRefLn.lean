/- Plain words for the statement ConvolutionLines; netcalculusref02.Line and Flat. -/
import Derived.Test.YtbkimphcmmmaiaaSpLaw
import Derived.Test.YtbkimphcmmmaiaaLnLaw
import Derived.Test.YtbkimphcmmmaiaaRefMade
import Derived.Test.YtbkimphcmmmaiaaPwKit
namespace Go.Proofs.Ytbkimphcmmmaiaa
open Go.RowKit
set_option linter.unusedVariables false

/-- a line that begins later -/
structure LineC (r : Int) (d : Nat) (l : Cv) : Prop where
  fin : l.Fin
  nf : NF l.at l
  per : l.per = 1
  at_ : ∀ t, l.at t = ((t - d : Nat) : Int) * r
theorem line_later {r : Int} {d : Nat} {l : Cv} {er : Int} (h0 : 0 ≤ r) (h1 : r ≤ 1000) (hd : d ≤ 100) (h : LaterS (lnC r) d l er) : er = 0 ∧ LineC r d l := by
  have F := ln_fin h0 (show r ≤ 1073741824 by omega)
  have hl : (lnC r).vals.length = 1 := rfl
  have OK := later_ok F.1 d (by rw [hl]; omega)
  rcases h with ⟨h, _⟩ | ⟨_, h, _⟩ | ⟨_, _, _, a, ha, g', hg', hk⟩
  · exact absurd F.1 h
  · omega
  · have e : laterV a ((d : Int)).toNat = Cv.at ⟨tab (laterV (lnC r) d) 0 (d + (lnC r).vals.length), (lnC r).per, (lnC r).inc⟩ := by
      rw [Int.toNat_natCast, later_nf ha]
      funext t
      exact (later_tab F.1 d t).symm
    rw [e] at hg'
    obtain ⟨ok, _, hp, _⟩ := nf_small OK hg'
    rcases hk with ⟨_, rfl, rfl⟩ | ⟨h2, _⟩
    · have at1 : ∀ t, l.at t = laterV (lnC r) d t := fun t => by rw [hg'.at, later_tab F.1]
      refine ⟨rfl, ?_, ?_, ?_, fun t => ?_⟩
      · rcases ok.fin_or with hf | hi
        · exact hf
        · exact absurd (ok.infAt_start hi (Nat.le_refl _)) (later_nfin F ok at1 _)
      · rw [← (funext hg'.at : l.at = _)] at hg'
        exact hg'
      · have h3 := ok.p1
        have h4 : l.per ≤ 1 := hp
        omega
      · rw [at1]
        by_cases ht : t < d
        · rw [laterV_lt ht, show t - d = 0 by omega]; simp
        · rw [laterV_ge (by omega), ln_at h0 (by omega)]
    · exact absurd ok.lim h2
theorem LineC.inf {r : Int} {d : Nat} {l : Cv} (h : LineC r d l) (u : Nat) : ¬ l.infAt u := h.fin.not_infAt u
theorem nm_le {k a b : Nat} {x y z : Nat} (h1 : k ≤ a) (h2 : k ≤ b) (h : z ≤ x + y) : z * k ≤ x * a + y * b := by
  have e1 := Nat.mul_le_mul_right k h
  rw [Nat.add_mul] at e1
  have e2 := Nat.mul_le_mul_left x h1
  have e3 := Nat.mul_le_mul_left y h2
  omega
/-- the convolution of two lines that begin later -/
theorem line_law {a b : Int} {m n : Nat} {f g h x : Cv} {e : Int} (ha : 0 ≤ a) (hb : 0 ≤ b) (hf : LineC a m f) (hg : LineC b n g) (hx : LineC (min a b) (m + n) x) (H : CvS f g h e) : e = 0 ∧ h = x := by
  obtain ⟨a, rfl⟩ := Int.eq_ofNat_of_zero_le ha
  obtain ⟨b, rfl⟩ := Int.eq_ofNat_of_zero_le hb
  have K : CvS f g x 0 := .inr ⟨hf.fin.1, hg.fin.1, f, g, hf.nf, hg.nf, .inr ⟨by rw [hf.per, hg.per]; decide, x.at, fun t => CvT.of (.inr ?_), .inl ⟨hx.nf, hx.fin.1.lim, rfl⟩⟩⟩
  · obtain ⟨h1, h2⟩ := H.unique K
    exact ⟨h2, h1⟩
  · have cs : ∀ s, s ≤ t → CSp f g t s := fun s hs => ⟨hs, hf.inf _, hg.inf _⟩
    refine ⟨?_, fun s hs => ?_⟩
    · by_cases hab : a ≤ b
      · refine ⟨t - n, cs _ (by omega), ?_⟩
        rw [hx.at_, hf.at_, hg.at_, show t - (t - n) - n = 0 by omega, show t - n - m = t - (m + n) by omega, show min (a : Int) b = a by omega]
        simp
      · refine ⟨min t m, cs _ (by omega), ?_⟩
        rw [hx.at_, hf.at_, hg.at_, show min t m - m = 0 by omega, show t - min t m - n = t - (m + n) by omega, show min (a : Int) b = b by omega]
        simp
    · rw [hx.at_, hf.at_, hg.at_]
      have h1 := hs.1
      have h2 := nm_le (k := min a b) (a := a) (b := b) (x := s - m) (y := t - s - n) (z := t - (m + n)) (by omega) (by omega) (by omega)
      have h3 : (min (a : Int) b) = ((min a b : Nat) : Int) := by omega
      rw [h3]
      exact_mod_cast h2
/-- a curve that is v behind the tick 0 -/
def flC (v : Int) : Cv := ⟨[0, v], 1, 0⟩
theorem fl_ok {v : Int} (h0 : 0 ≤ v) (h1 : v ≤ 1000) : (flC v).Ok :=
  ⟨by show 1 ≤ 2; omega, by show 2 ≤ 400; omega, by show (1 : Int) ≤ 1; omega, by show (1 : Int) ≤ 120; omega, by show (1 : Int) ≤ ((2 : Nat) : Int); omega, by show (0 : Int) ≤ 0; omega, by show (0 : Int) ≤ 1073741824; omega,
    fun k hk => by
      have hk' : k < 2 := hk
      have : k = 0 ∨ k = 1 := by omega
      rcases this with rfl | rfl
      · rfl
      · show okv v = true
        unfold okv
        have : decide (v ≤ 1073741824) = true := by simp; omega
        rw [this]; simp,
    by show (0 : Int) ≤ 0; omega, fun k hk => by
      have hk' : k + 1 < 2 := hk
      have e : k = 0 := by omega
      subst e; exact h0, fun h => by exact absurd (show v = inf from h) (by unfold inf; omega), fun _ => by show v ≤ v + 0; omega⟩
theorem fl_fin {v : Int} (h0 : 0 ≤ v) (h1 : v ≤ 1000) : (flC v).Fin := ⟨fl_ok h0 h1, fun h => absurd (show v = inf from h) (by unfold inf; omega)⟩
theorem fl_0 {v : Int} : (flC v).at 0 = 0 := by rw [Cv.at_lt (by show 0 < 2; omega)]; rfl
theorem fl_at {v : Int} (h0 : 0 ≤ v) (h1 : v ≤ 1000) (t : Nat) : (flC v).at (t + 1) = v := by
  induction t with
  | zero => rw [Cv.at_lt (by show 0 + 1 < 2; omega)]; rfl
  | succ t ih =>
    have h := (fl_fin h0 h1).toL.step (t + 1) (by show 2 - 1 ≤ t + 1; omega)
    have e : (flC v).at (t + 1 + 1) = (flC v).at (t + 1) + 0 := h
    rw [e, ih]; omega
/-- what Made returns of a valid curve -/
theorem made_ok {f l : Cv} {er : Int} (hf : f.Ok) (h : MadeS f.at l er) : er = 0 ∧ l.Ok ∧ NF l.at l ∧ l.at = f.at ∧ l.vals.length ≤ f.vals.length := by
  obtain ⟨g, hg, h⟩ := h
  obtain ⟨ok, hl, _⟩ := nf_small hf hg
  rcases h with ⟨_, rfl, rfl⟩ | ⟨h2, _⟩
  · have e : l.at = f.at := funext hg.at
    exact ⟨rfl, ok, by rw [e]; exact hg, e, hl⟩
  · exact absurd ok.lim h2
theorem made_line {r : Int} {l : Cv} {er : Int} (h0 : 0 ≤ r) (h1 : r ≤ 1000) (h : MadeS (lnC r).at l er) : l = lnC r ∧ er = 0 := by
  have n := ln_nf h0 (show r ≤ 1073741824 by omega)
  obtain ⟨rfl, _, n2, e, _⟩ := made_ok (ln_ok h0 (by omega)) h
  rw [e] at n2
  exact ⟨n2.unique n, rfl⟩
/-- convolution of two curves that are 0 at the tick 0 is their minimum, where this is at most each sum -/
theorem mn_law {f g r m : Cv} (F : f.Fin) (G : g.Fin) (f0 : f.at 0 = 0) (g0 : g.at 0 = 0) (hc : ∀ s u, min (f.at (s + u)) (g.at (s + u)) ≤ f.at s + g.at u) (H : CvS f g r 0) (M : ExtS true f g m 0) : r = m := by
  obtain ⟨_, _, _, mn, me⟩ := ext_get M
  have e : ∀ t, m.at t = min (f.at t) (g.at t) := fun t => by rw [me, exV_fin F G, pk_true]
  refine cv_eq H mn fun t => CvT.of (.inr ⟨?_, fun s hs => ?_⟩)
  · rw [e]
    by_cases hle : f.at t ≤ g.at t
    · exact ⟨t, ⟨Nat.le_refl _, F.not_infAt _, G.not_infAt _⟩, by rw [Nat.sub_self, g0]; omega⟩
    · exact ⟨0, ⟨Nat.zero_le _, F.not_infAt _, G.not_infAt _⟩, by rw [Nat.sub_zero, f0]; omega⟩
  · rw [e]
    have := hc s (t - s)
    rwa [show s + (t - s) = t by have := hs.1; omega] at this
/-- the convolution with a curve that is v behind the tick 0 -/
theorem flat_law {k fl y z : Cv} {v : Int} {er : Int} (h0 : 0 ≤ v) (h1 : v ≤ 1000) (K : k.Fin) (k0 : k.at 0 = 0) (hl : MadeS (flC v).at fl er) (H : CvS k fl y 0) (M : ExtS true k fl z 0) : y = z := by
  obtain ⟨_, ok, _, e, _⟩ := made_ok (fl_ok h0 h1) hl
  have z0 : fl.at 0 = 0 := by rw [e]; exact fl_0
  have zs : ∀ t, fl.at (t + 1) = v := fun t => by rw [e]; exact fl_at h0 h1 t
  have FL : fl.Fin := by
    rcases ok.fin_or with hf | hi
    · exact hf
    · have h2 := (ok.infAt_start hi (n := fl.vals.length + 1) (by omega)).2
      rw [zs] at h2
      unfold inf at h2; omega
  refine mn_law K FL k0 z0 (fun s u => ?_) H M
  rcases Nat.eq_zero_or_pos u with rfl | hu
  · rw [Nat.add_zero, z0]; omega
  · obtain ⟨u, rfl⟩ : ∃ u', u = u' + 1 := ⟨u - 1, by omega⟩
    rw [zs, show s + (u + 1) = (s + u) + 1 by omega, zs]
    have := K.1.up0.nn s
    omega
set_option maxHeartbeats 1000000 in
theorem refLine_any (r : Int) (h0 : 0 ≤ r) (h1 : r ≤ 1000) (w : World) : Calls Try.prog 39 #[.int .i64 r] w (RetS2 (MadeS (lnC r).at) w) := by
  have RB := Lib.hid ((Blk.new w 31 #[.slice none 0 0, .int .i64 0, .int .i64 0]).alloc (.cells #[.int .i64 0] 3))
  have BW := Lib.hid (bthen (balloc w (.cells #[.slice none 0 0, .int .i64 0, .int .i64 0] 31)) (balloc _ (.cells #[.int .i64 0] 3)))
  have il := ints_litC (w.alloc (.cells #[.slice none 0 0, .int .i64 0, .int .i64 0] 31)) [0]
  simp only [List.map_cons, List.map_nil, World.size_alloc] at il
  have IL := Lib.hid il
  have OK := Lib.hid (ln_fin h0 (show r ≤ 1073741824 by omega))
  clear il
  go_enter Try.func39, Try.ntmps39
  go_wp2_with fail
  refine (refMade_any (some ⟨w.heap.size + 1, 0, none⟩) 1 1 1 r [0] _ (by simp only [World.size_alloc]; exact IL.out) (Nat.le_refl _) OK.out.1.pre OK.out.1.up0 (fun m t hm h hmt => absurd h (OK.out.ne m hm).1)).mono ?_
  rintro e w5 ⟨f, er, A5, n5, c5, hS, hc5, rfl, hI5, hA5, hbq⟩
  have hs0 := RB.out.lt
  replace RB := Lib.hid (RB.out.below hbq RB.out.lt)
  replace BW := Lib.hid (bthen BW.out hbq)
  have HI5 := Lib.hid hI5; have HA5 := Lib.hid hA5; have FN := Lib.hid hS
  clear hS hI5 hA5 hbq OK
  obtain ⟨⟨r0, r1, r2⟩, ⟨y0, y1, y2⟩, hlr⟩ := RB.out.c3
  go_wp2_with fail
  have rb := RB.out.store3 (.slice A5 n5 c5) (.int .i64 f.per) (.int .i64 f.inc)
  refine bodyPost_ret (v := .tuple #[.agg #[.slice A5 n5 c5, .int .i64 f.per, .int .i64 f.inc], .int .i64 er]) (by simp [results, Try.results39, go_sem, rb.cell]) rfl ?_
  exact retS2_store FN.out hc5 HA5.out (Nat.le_refl _) hs0 HI5.out BW.out
set_option maxHeartbeats 1000000 in
theorem refFlat_any (r : Int) (h0 : 0 ≤ r) (h1 : r ≤ 1000) (w : World) : Calls Try.prog 40 #[.int .i64 r] w (RetS2 (MadeS (flC r).at) w) := by
  have RB := Lib.hid ((Blk.new w 31 #[.slice none 0 0, .int .i64 0, .int .i64 0]).alloc (.cells #[.int .i64 0, .int .i64 r] 3))
  have BW := Lib.hid (bthen (balloc w (.cells #[.slice none 0 0, .int .i64 0, .int .i64 0] 31)) (balloc _ (.cells #[.int .i64 0, .int .i64 r] 3)))
  have il := ints_litC (w.alloc (.cells #[.slice none 0 0, .int .i64 0, .int .i64 0] 31)) [0, r]
  simp only [List.map_cons, List.map_nil, World.size_alloc] at il
  have IL := Lib.hid il
  have OK := Lib.hid (fl_fin h0 (show r ≤ 1000 by omega))
  clear il
  go_enter Try.func40, Try.ntmps40
  go_wp2_with fail
  refine (refMade_any (some ⟨w.heap.size + 1, 0, none⟩) 2 2 1 0 [0, r] _ (by simp only [World.size_alloc]; exact IL.out) (Nat.le_refl _) OK.out.1.pre OK.out.1.up0 (fun m t hm h hmt => absurd h (OK.out.ne m hm).1)).mono ?_
  rintro e w5 ⟨f, er, A5, n5, c5, hS, hc5, rfl, hI5, hA5, hbq⟩
  have hs0 := RB.out.lt
  replace RB := Lib.hid (RB.out.below hbq RB.out.lt)
  replace BW := Lib.hid (bthen BW.out hbq)
  have HI5 := Lib.hid hI5; have HA5 := Lib.hid hA5; have FN := Lib.hid hS
  clear hS hI5 hA5 hbq OK
  obtain ⟨⟨r0, r1, r2⟩, ⟨y0, y1, y2⟩, hlr⟩ := RB.out.c3
  go_wp2_with fail
  have rb := RB.out.store3 (.slice A5 n5 c5) (.int .i64 f.per) (.int .i64 f.inc)
  refine bodyPost_ret (v := .tuple #[.agg #[.slice A5 n5 c5, .int .i64 f.per, .int .i64 f.inc], .int .i64 er]) (by simp [results, Try.results40, go_sem, rb.cell]) rfl ?_
  exact retS2_store FN.out hc5 HA5.out (Nat.le_refl _) hs0 HI5.out BW.out
end Go.Proofs.Ytbkimphcmmmaiaa
