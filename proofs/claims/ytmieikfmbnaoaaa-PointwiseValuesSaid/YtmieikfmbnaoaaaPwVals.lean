/- The statement PointwiseValues: the walk. -/
import Derived.Test.YtmieikfmbnaoaaaAwake5
import Derived.Test.YtmieikfmbnaoaaaEnvL2
import Derived.Test.YtmieikfmbnaoaaaRefAt
import Derived.Test.YtmieikfmbnaoaaaMonoPw
import Derived.Deep.LoopGhost
import Derived.Deep.RegionHeld3
import Derived.Deep.DeepCutAuto
namespace Go.Proofs.Ytmieikfmbnaoaaa
open Go.RowKit
set_option linter.unusedVariables false

theorem lplus_any (x y : Int) (w : World) (hx0 : 0 ≤ x) (hx : x = inf ∨ x ≤ 1152921504606846976) (hy0 : 0 ≤ y) (hy : y = inf ∨ y ≤ 1152921504606846976) :
    Calls Try.prog 57 #[.int .i64 x, .int .i64 y] w (RetIw (pl x y) w) := by
  by_cases h1 : x = inf
  · have fin : pl x y = inf := by unfold pl; rw [if_pos (.inl h1)]
    rw [fin]
    subst h1
    clear fin hx hx0 hy hy0
    unfold inf
    go_enter Try.func57, Try.ntmps57
    go_wp2_with fail
    go_ret
    exact ⟨rfl, rfl⟩
  · have hx' := hx.resolve_left h1
    have d1 : (x == 4611686018427387904) = false := by simp only [beq_eq_false_iff_ne]; exact h1
    by_cases h2 : y = inf
    · have fin : pl x y = inf := by unfold pl; rw [if_pos (.inr h2)]
      rw [fin]
      have d2 : (y == 4611686018427387904) = true := by rw [h2]; rfl
      clear fin hx hx0 hy hy0 h1 h2 hx'
      unfold inf
      go_enter Try.func57, Try.ntmps57
      go_wp2_with fail
      go_ret
      exact ⟨rfl, rfl⟩
    · have hy' := hy.resolve_left h2
      have d2 : (y == 4611686018427387904) = false := by simp only [beq_eq_false_iff_ne]; exact h2
      have fin : pl x y = x + y := by unfold pl; rw [if_neg (by rintro (h | h); exact h1 h; exact h2 h)]
      rw [fin]
      clear fin hx hy h1 h2
      go_enter Try.func57, Try.ntmps57
      go_wp2_with fail
      go_ret
      exact ⟨rfl, rfl⟩
theorem value_none (t : Int) : Cv.value Cv.none t = (0, 1) := by
  have h : ¬ Cv.none.Ok := fun h => by have := h.n1; exact absurd this (by decide)
  unfold Cv.value
  rw [if_neg (by rw [Cv.okB_false h]; decide)]
theorem value_ok {f : Cv} (hf : f.Ok) {T : Nat} (ht : T ≤ 1048576) : Cv.value f (T : Int) = (f.at T, 0) := by
  unfold Cv.value
  rw [if_pos (Cv.okB_true hf), if_neg (by omega), Int.toNat_natCast]
/-- what Value says of a minimum or a maximum -/
theorem value_ext {l : Bool} {f g q : Cv} {er : Int} (hf : f.Ok) (hg : g.Ok) (h : (er = 0 ∧ q.Ok ∧ NF (exV l f g) q) ∨ (er = 3 ∧ q = Cv.none)) {T : Nat} (ht : T ≤ 1048576) :
    (er = 0 ∧ (Cv.value q (T : Int)).2 = 0 ∧ (Cv.value q (T : Int)).1 = pk l (f.at T) (g.at T)) ∨ er = 3 := by
  rcases h with ⟨rfl, ho, hn⟩ | ⟨rfl, _⟩
  · left
    rw [value_ok ho ht]
    exact ⟨rfl, rfl, by rw [hn.at, exV_pk hf hg (by omega)]⟩
  · exact .inr rfl
set_option maxHeartbeats 8000000 in
set_option maxRecDepth 100000 in
theorem valsLaw_any (A0 : Option Addr) (n0 c0 : Nat) (L : List Int) (at_ : Int) (w : World) (hL : Ints w w.heap.size A0 n0 L) (hc0 : n0 ≤ c0) (hn0 : (n0 : Int) ≤ 9223372036854775807) :
    Calls Try.prog 8 #[.slice A0 n0 c0, .int .i64 at_] w fun e w' => e = .returned (.bool true) ∧ Below w.heap.size w w' := by
  go_enter Try.func8, Try.ntmps8
  go_wp2_with fail
  refine (new_any A0 n0 c0 L w hL hc0 hn0).mono ?_
  rintro e w1 ⟨rfl, hS1, hb1⟩
  have E := Lib.hid (EnvL.start hS1 hb1)
  clear hL hS1 hb1
  -- a curve drawn, not yet in a variable: srcCurve2_any the contract, 9 most, _ w2 the worlds, f the curve, A n c, DrawC 9 f its facts
  go_wp2_with fail
  refine (srcCurve2_any w.heap.size 9 _ (by exact E.out.s) (by omega) (by omega)).mono ?_
  rintro e w2 ⟨f, A, n, c, hD, hcf, rfl, hI, hA, hS, hk⟩
  have hps := E.out.s.lt
  have E := Lib.hid (E.out.kept hS hk)
  have Vf := Lib.hid (show (CR.mk A n c f).In w.heap.size w2 from CR.In.new hI hA hps)
  have Hf := Lib.hid (show DrawC 9 f from hD)
  have HCf := Lib.hid hcf
  have hlenf := hI.1
  try simp only at hlenf
  have hnf : n ≤ 20 := by have h1 := Hf.out.len; omega
  clear hlenf
  clear hD hI hA hS hk hps hcf
  -- a curve drawn, not yet in a variable: srcCurve2_any the contract, 9 most, _ w3 the worlds, g the curve, B m d, DrawC 9 g its facts
  go_wp2_with fail
  refine (srcCurve2_any w.heap.size 9 _ (by exact E.out.s) (by omega) (by omega)).mono ?_
  rintro e w3 ⟨g, B, m, d, hD, hcf, rfl, hI, hA, hS, hk⟩
  have hps := E.out.s.lt
  have E := Lib.hid (E.out.kept hS hk)
  have Vg := Lib.hid (show (CR.mk B m d g).In w.heap.size w3 from CR.In.new hI hA hps)
  have Hg := Lib.hid (show DrawC 9 g from hD)
  have HCg := Lib.hid hcf
  have hleng := hI.1
  try simp only at hleng
  have hmg : m ≤ 20 := by have h1 := Hg.out.len; omega
  clear hleng
  have Vf := Lib.hid (Vf.out.kept hk)
  clear hD hI hA hS hk hps hcf
  have E := Lib.hid (show EnvL w.heap.size w _ _ from E.out.push (X := ⟨A, n, c, f⟩) Vf.out)
  dsimp only [List.cons_append, List.nil_append] at E
  have Vg := Lib.hid (Vg.out.alloc (.cells #[.slice A n c, .int .i64 f.per, .int .i64 f.inc] 41))
  have E := Lib.hid (show EnvL w.heap.size w _ _ from E.out.push (X := ⟨B, m, d, g⟩) Vg.out)
  dsimp only [List.cons_append, List.nil_append] at E
  clear Vf Vg
  go_upto_region 3 with fail
  generalize hwe : (w3.alloc (.cells #[.slice A n c, .int .i64 f.per, .int .i64 f.inc] 41)).alloc (.cells #[.slice B m d, .int .i64 g.per, .int .i64 g.inc] 41) = we at *
  clear hwe
  simp only [World.size_alloc] at E
  have SF := Lib.hid (show Short f g from nf_pair Hf.out.ok Hg.out.ok (n := 12) (by omega) (by omega) (fun a ha => Hf.out.dvd ha) (fun b hb => Hg.out.dvd hb))
  obtain ⟨x0, x1, x2, hlx⟩ := (E.out.get 0 rfl).cells
  obtain ⟨y0, y1, y2, hly⟩ := (E.out.get 1 rfl).cells
  go_wp2_with fail
  refine (psum_any A B n m c d f.per f.inc g.per g.inc f.vals g.vals _ (by exact (E.out.get 0 rfl).inn.ints) (by exact (E.out.get 1 rfl).inn.ints) (by omega) (by omega)).mono ?_
  -- a curve is returned and laid into a new variable: w4 the world, p the curve, er its error, A1 n1 c1
  rintro e w4 ⟨p, er, hSS, A1, n1, c1, rfl, hI, hA, hb⟩
  obtain ⟨rfl, htx, hex, hnx⟩ := sum_tame (by omega) (by omega) Hf.out Hg.out hSS
  have hn1 : n1 ≤ 400 := by have h1 := htx.ok.n2; have h2 : p.vals.length = n1 := hI.1; omega
  have TX := Lib.hid htx; have EX := Lib.hid hex
  clear htx hex hnx
  have hps := E.out.s.lt
  have E := Lib.hid (show EnvL w.heap.size w _ _ from (E.out.below hb).push (X := ⟨A1, n1, c1, p⟩) (CR.In.new hI hA hps))
  dsimp only [List.cons_append, List.nil_append] at E
  clear hSS hI hA hb hps
  clear x0 x1 x2 hlx
  clear y0 y1 y2 hly
  obtain ⟨x0, x1, x2, hlx⟩ := (E.out.get 0 rfl).cells
  obtain ⟨y0, y1, y2, hly⟩ := (E.out.get 1 rfl).cells
  go_wp2_with fail
  refine (pmin_any A B n m c d f.per f.inc g.per g.inc f.vals g.vals _ (by exact (E.out.get 0 rfl).inn.ints) (by exact (E.out.get 1 rfl).inn.ints) (by omega) (by omega)).mono ?_
  -- a curve is returned and laid into a new variable: w5 the world, q the curve, er1 its error, A2 n2 c2
  rintro e w5 ⟨q, er1, hSS, A2, n2, c2, rfl, hI, hA, hb⟩
  have M1 := Lib.hid ((ExtS.made Hf.out.ok Hg.out.ok SF.out hSS).get (exV_up Hf.out.ok Hg.out.ok))
  have hn2 : n2 ≤ 400 := by
    have h2 : q.vals.length = n2 := hI.1
    rcases M1.out with ⟨_, h1, _⟩ | ⟨_, rfl⟩
    · have := h1.n2; omega
    · rw [← h2]; decide
  have hps := E.out.s.lt
  have E := Lib.hid (show EnvL w.heap.size w _ _ from (E.out.below hb).push (X := ⟨A2, n2, c2, q⟩) (CR.In.new hI hA hps))
  dsimp only [List.cons_append, List.nil_append] at E
  clear hSS hI hA hb hps
  clear x0 x1 x2 hlx
  clear y0 y1 y2 hly
  obtain ⟨x0, x1, x2, hlx⟩ := (E.out.get 0 rfl).cells
  obtain ⟨y0, y1, y2, hly⟩ := (E.out.get 1 rfl).cells
  go_wp2_with fail
  refine (pmax_any A B n m c d f.per f.inc g.per g.inc f.vals g.vals _ (by exact (E.out.get 0 rfl).inn.ints) (by exact (E.out.get 1 rfl).inn.ints) (by omega) (by omega)).mono ?_
  -- a curve is returned and laid into a new variable: w6 the world, r the curve, er2 its error, A3 n3 c3
  rintro e w6 ⟨r, er2, hSS, A3, n3, c3, rfl, hI, hA, hb⟩
  have M2 := Lib.hid ((ExtS.made Hf.out.ok Hg.out.ok SF.out hSS).get (exV_up Hf.out.ok Hg.out.ok))
  have hn3 : n3 ≤ 400 := by
    have h2 : r.vals.length = n3 := hI.1
    rcases M2.out with ⟨_, h1, _⟩ | ⟨_, rfl⟩
    · have := h1.n2; omega
    · rw [← h2]; decide
  have hps := E.out.s.lt
  have E := Lib.hid (show EnvL w.heap.size w _ _ from (E.out.below hb).push (X := ⟨A3, n3, c3, r⟩) (CR.In.new hI hA hps))
  dsimp only [List.cons_append, List.nil_append] at E
  clear hSS hI hA hb hps
  clear x0 x1 x2 hlx
  clear y0 y1 y2 hly
  go_upto_region 6 with fail
  go_cut [63] (fun s63 wx => s63 = .bool false ∧ EnvL w.heap.size w wx [(w3.heap.size, ⟨A, n, c, f⟩), (w3.heap.size + 1, ⟨B, m, d, g⟩), (w4.heap.size, ⟨A1, n1, c1, p⟩), (w5.heap.size, ⟨A2, n2, c2, q⟩), (w6.heap.size, ⟨A3, n3, c3, r⟩)])
  case first =>
    have hr1 : er1 = 0 ∨ er1 = 3 := M1.out.elim (fun h => .inl h.1) (fun h => .inr h.1)
    have hr2 : er2 = 0 ∨ er2 = 3 := M2.out.elim (fun h => .inl h.1) (fun h => .inr h.1)
    rcases hr1 with rfl | rfl <;> rcases hr2 with rfl | rfl
    all_goals
      go_wp2_with fail
      go_meet
      exact ⟨rfl, E.out⟩
  case rest =>
  clear E
  obtain ⟨rfl, hE⟩ := hcut
  have E := Lib.hid hE
  clear hE
  go_wp2_with fail
  refine (mod_any at_ 1048576 _ (by omega) (by omega)).mono ?_
  rintro e w7 ⟨⟨t0, ht0, ht1, rfl⟩, rfl⟩
  -- 30 the bound, _ the world before, w8 the world behind, N the number
  go_wp2_with fail
  refine (n_any w.heap.size 30 _ (by exact E.out.s) (by omega) (by omega)).mono ?_
  rintro e w8 ⟨z, hz0, hz1, rfl, hS, hk⟩
  have E := Lib.hid (E.out.kept hS hk)
  obtain ⟨N, rfl⟩ := Int.eq_ofNat_of_zero_le hz0
  have hbN : N < 30 := by omega
  clear hz0 hz1 hS hk
  go_wp2_with fail
  refine (n_any w.heap.size 900 _ (by exact E.out.s) (by omega) (by omega)).mono ?_
  rintro e w9 ⟨u0, hu0, hu1, rfl, hS, hk⟩
  have E := Lib.hid (E.out.kept hS hk)
  obtain ⟨ts, hts⟩ : ∃ ts : List Int, ts = [t0, (N : Int), u0, 0] := ⟨_, rfl⟩
  have hB : ∀ k, k < 4 → 0 ≤ nth ts k ∧ nth ts k ≤ 1048576 := fun k hk => by
    have : k = 0 ∨ k = 1 ∨ k = 2 ∨ k = 3 := by omega
    rw [hts]
    rcases this with rfl | rfl | rfl | rfl
    · show 0 ≤ t0 ∧ t0 ≤ 1048576; omega
    · show 0 ≤ (N : Int) ∧ (N : Int) ≤ 1048576; omega
    · show 0 ≤ u0 ∧ u0 ≤ 1048576; omega
    · show (0 : Int) ≤ 0 ∧ (0 : Int) ≤ 1048576; omega
  have HB := Lib.hid hB
  have tb := ints_lit w9 [t0, (N : Int), u0, 0]
  rw [← hts] at tb
  have hl4 : ts.length = 4 := by rw [hts]; rfl
  rw [hl4] at tb
  have TB := Lib.hid tb
  have E := Lib.hid (E.out.alloc (.cells (ts.map (Value.int .i64)).toArray 3))
  have HTS := Lib.hid hts
  clear hS hk tb hl4 hB
  rw [hts] at TB E
  simp only [List.map_cons, List.map_nil] at TB E
  rw [← hts] at TB
  clear hts ht0 ht1 hu0 hu1
  go_wp2_with fail
  generalize hwe : w9.alloc (.cells #[.int .i64 t0, .int .i64 (N : Int), .int .i64 u0, .int .i64 0] 3) = wl at *
  clear hwe
  go_loopg [15, 16, 17, 18, 19, 20, 21, 72] 4 (fun gg s15 s16 s17 s18 s19 s20 s21 s72 wx => ∃ k : Nat, k + gg = 4 ∧ s72 = .int .i64 k ∧ EnvL w.heap.size w wx [(w3.heap.size, ⟨A, n, c, f⟩), (w3.heap.size + 1, ⟨B, m, d, g⟩), (w4.heap.size, ⟨A1, n1, c1, p⟩), (w5.heap.size, ⟨A2, n2, c2, q⟩), (w6.heap.size, ⟨A3, n3, c3, r⟩)] ∧ Ints wx wx.heap.size (some ⟨w9.heap.size, 0, none⟩) 4 ts)
  case atStart => exact ⟨0, by omega, rfl, E.out, TB.out⟩
  case round =>
    clear E TB
    obtain ⟨k, hkg, rfl, hE, hTB⟩ := hrel
    have E := Lib.hid hE; have TB := Lib.hid hTB
    clear hE hTB
    by_cases hk : k < 4
    · have hki : (k : Int) < 4 := by omega
      have hbk := HB.out k hk
      obtain ⟨b, off, hAe, hbl, hcell⟩ := TB.out.2 (by omega)
      have hck := hcell k hk
      cases hAe
      rw [Nat.zero_add] at hck
      obtain ⟨tt, htt⟩ : ∃ tt, tt = nth ts k := ⟨_, rfl⟩
      rw [← htt] at hck hbk
      obtain ⟨T, rfl⟩ := Int.eq_ofNat_of_zero_le hbk.1
      have hT : T ≤ 1048576 := by omega
      have hbl := hbl
      clear htt hcell hbk
      have hfp := Hf.out.ok.p1; have hfp2 := Hf.out.ok.p2; have hfi := Hf.out.ok.i1; have hfi2 := Hf.out.ok.i2; have hfpn : f.per ≤ n := by have h1 := Hf.out.ok.pn; have h2 : f.vals.length = n := (E.out.get 0 rfl).inn.ints.1; rw [h2] at h1; exact h1
      have hgp := Hg.out.ok.p1; have hgp2 := Hg.out.ok.p2; have hgi := Hg.out.ok.i1; have hgi2 := Hg.out.ok.i2; have hgpn : g.per ≤ m := by have h1 := Hg.out.ok.pn; have h2 : g.vals.length = m := (E.out.get 1 rfl).inn.ints.1; rw [h2] at h1; exact h1
      obtain ⟨X, hX⟩ : ∃ X, X = f.at T := ⟨_, rfl⟩
      obtain ⟨Y, hY⟩ : ∃ Y, Y = g.at T := ⟨_, rfl⟩
      have HX := Lib.hid hX; have HY := Lib.hid hY
      have hXB := at_near Hf.out.ok (t := T) (by omega)
      have hYB := at_near Hg.out.ok (t := T) (by omega)
      rw [← hX] at hXB
      rw [← hY] at hYB
      have HXB := Lib.hid hXB; have HYB := Lib.hid hYB
      have HP := Lib.hid (show p.at T = pl X Y from by rw [EX.out, sumV_pl Hf.out.ok Hg.out.ok (by omega), hX, hY])
      have V1 := Lib.hid (value_ext Hf.out.ok Hg.out.ok M1.out hT)
      have V2 := Lib.hid (value_ext Hf.out.ok Hg.out.ok M2.out hT)
      rw [← hX, ← hY] at V1 V2
      clear hX hY hXB hYB
      obtain ⟨x0, x1, x2, hlx⟩ := (E.out.get 0 rfl).cells
      obtain ⟨y0, y1, y2, hly⟩ := (E.out.get 1 rfl).cells
      go_upto_region 11 with fail
      clear hck
      go_region_held3 (fun w' => w'.cell? ⟨w3.heap.size, 0, none⟩ = some (.slice A n c) ∧ w'.cell? ⟨w3.heap.size, 1, none⟩ = some (.int .i64 f.per) ∧ w'.cell? ⟨w3.heap.size, 2, none⟩ = some (.int .i64 f.inc) ∧ w'.cell? ⟨w3.heap.size + 1, 0, none⟩ = some (.slice B m d) ∧ w'.cell? ⟨w3.heap.size + 1, 1, none⟩ = some (.int .i64 g.per) ∧ w'.cell? ⟨w3.heap.size + 1, 2, none⟩ = some (.int .i64 g.inc)) (first | go_keep)
        (first
          | (go_at_call_of 55 (Value.agg #[.slice A n c, .int .i64 f.per, .int .i64 f.inc])
             refine (refAt_any A n c f.per f.inc (T : Int) f.vals _ (by exact (E.out.get 0 rfl).inn.drew.ints) (by omega) hfp hfpn hfi (by omega) Hf.out.ok.nn (by omega) (by omega)).mono ?_
             rw [Int.toNat_natCast, show Cv.at ⟨f.vals, f.per, f.inc⟩ T = X from HX.out.symm]
             rintro e wm ⟨rfl, hb⟩
             have hb := bofdrew hb
             have E := Lib.hid (E.out.below hb); have TB := Lib.hid (TB.out.ext hb)
             clear hb
             clear x0 x1 x2 hlx
             clear y0 y1 y2 hly
             obtain ⟨x0, x1, x2, hlx⟩ := (E.out.get 0 rfl).cells
             obtain ⟨y0, y1, y2, hly⟩ := (E.out.get 1 rfl).cells
             skip)
          | (go_at_call_of 55 (Value.agg #[.slice B m d, .int .i64 g.per, .int .i64 g.inc])
             refine (refAt_any B m d g.per g.inc (T : Int) g.vals _ (by exact (E.out.get 1 rfl).inn.ints) (by omega) hgp hgpn hgi (by omega) Hg.out.ok.nn (by omega) (by omega)).mono ?_
             rw [Int.toNat_natCast, show Cv.at ⟨g.vals, g.per, g.inc⟩ T = Y from HY.out.symm]
             rintro e wm ⟨rfl, hb⟩
             have E := Lib.hid (E.out.below hb); have TB := Lib.hid (TB.out.ext hb)
             clear hb
             clear x0 x1 x2 hlx
             clear y0 y1 y2 hly
             obtain ⟨x0, x1, x2, hlx⟩ := (E.out.get 0 rfl).cells
             obtain ⟨y0, y1, y2, hly⟩ := (E.out.get 1 rfl).cells
             skip))
      clear x0 x1 x2 hlx
      clear y0 y1 y2 hly
      obtain ⟨x0, x1, x2, hlx⟩ := (E.out.get 2 rfl).cells
      go_wp2_with fail
      refine (cval_any A1 n1 c1 p.per p.inc (T : Int) p.vals _ (by exact (E.out.get 2 rfl).inn.ints) TX.out.ok (by omega) (by omega)).mono ?_
      rw [Int.toNat_natCast, show Cv.at ⟨p.vals, p.per, p.inc⟩ T = pl X Y from HP.out]
      rintro e wo ⟨rfl, hb⟩
      have E := Lib.hid (E.out.below hb); have TB := Lib.hid (TB.out.ext hb)
      clear hb
      clear x0 x1 x2 hlx
      go_wp2_with fail
      refine (lplus_any X Y _ HXB.out.1 HXB.out.2 HYB.out.1 HYB.out.2).mono ?_
      rintro e wo ⟨rfl, rfl⟩
      obtain ⟨x0, x1, x2, hlx⟩ := (E.out.get 3 rfl).cells
      go_wp2_with fail
      refine (value_any A2 n2 c2 q.per q.inc (T : Int) q.vals _ (by exact (E.out.get 3 rfl).inn.ints) (by omega)).mono ?_
      obtain ⟨v1, hv1⟩ : ∃ v1, v1 = (Cv.value q (T : Int)).1 := ⟨_, rfl⟩
      obtain ⟨e1, he1⟩ : ∃ e1, e1 = (Cv.value q (T : Int)).2 := ⟨_, rfl⟩
      rw [show (Cv.value ⟨q.vals, q.per, q.inc⟩ (T : Int)).1 = v1 from hv1.symm, show (Cv.value ⟨q.vals, q.per, q.inc⟩ (T : Int)).2 = e1 from he1.symm]
      rw [← hv1, ← he1] at V1
      rintro e wo ⟨rfl, hb⟩
      clear hv1 he1
      have E := Lib.hid (E.out.below hb); have TB := Lib.hid (TB.out.ext hb)
      clear hb
      clear x0 x1 x2 hlx
      obtain ⟨x0, x1, x2, hlx⟩ := (E.out.get 4 rfl).cells
      go_wp2_with fail
      refine (value_any A3 n3 c3 r.per r.inc (T : Int) r.vals _ (by exact (E.out.get 4 rfl).inn.ints) (by omega)).mono ?_
      obtain ⟨v2, hv2⟩ : ∃ v2, v2 = (Cv.value r (T : Int)).1 := ⟨_, rfl⟩
      obtain ⟨e2, he2⟩ : ∃ e2, e2 = (Cv.value r (T : Int)).2 := ⟨_, rfl⟩
      rw [show (Cv.value ⟨r.vals, r.per, r.inc⟩ (T : Int)).1 = v2 from hv2.symm, show (Cv.value ⟨r.vals, r.per, r.inc⟩ (T : Int)).2 = e2 from he2.symm]
      rw [← hv2, ← he2] at V2
      rintro e wo ⟨rfl, hb⟩
      clear hv2 he2
      have E := Lib.hid (E.out.below hb); have TB := Lib.hid (TB.out.ext hb)
      clear hb
      clear x0 x1 x2 hlx
      go_upto_region 17 with fail
      go_cut [136] (fun s136 wx => s136 = .bool false ∧ EnvL w.heap.size w wx [(w3.heap.size, ⟨A, n, c, f⟩), (w3.heap.size + 1, ⟨B, m, d, g⟩), (w4.heap.size, ⟨A1, n1, c1, p⟩), (w5.heap.size, ⟨A2, n2, c2, q⟩), (w6.heap.size, ⟨A3, n3, c3, r⟩)] ∧ Ints wx wx.heap.size (some ⟨w9.heap.size, 0, none⟩) 4 ts)
      case first =>
        rcases V1.out with ⟨rfl, rfl, hv1⟩ | rfl <;> rcases V2.out with ⟨rfl, rfl, hv2⟩ | rfl
        · rw [pk_true] at hv1
          rw [pk_false] at hv2
          rcases Int.lt_trichotomy X Y with hxy | hxy | hxy
          · obtain rfl : v1 = X := by omega
            obtain rfl : v2 = Y := by omega
            have hyx : ¬ v2 < v1 := by omega
            clear hv1 hv2
            go_wp2_with fail
            go_meet
            exact ⟨rfl, E.out, TB.out⟩
          · subst hxy
            obtain rfl : v1 = X := by omega
            obtain rfl : v2 = v1 := by omega
            clear hv1 hv2
            go_wp2_with fail
            all_goals
              go_meet
              exact ⟨rfl, E.out, TB.out⟩
          · obtain rfl : v1 = Y := by omega
            obtain rfl : v2 = X := by omega
            have hyx : ¬ v2 < v1 := by omega
            clear hv1 hv2
            go_wp2_with fail
            go_meet
            exact ⟨rfl, E.out, TB.out⟩
        · rw [pk_true] at hv1
          rcases Int.lt_trichotomy X Y with hxy | hxy | hxy
          · obtain rfl : v1 = X := by omega
            have hyx : ¬ Y < v1 := by omega
            clear hv1
            go_wp2_with fail
            go_meet
            exact ⟨rfl, E.out, TB.out⟩
          · subst hxy
            obtain rfl : v1 = X := by omega
            clear hv1
            go_wp2_with fail
            all_goals
              go_meet
              exact ⟨rfl, E.out, TB.out⟩
          · obtain rfl : v1 = Y := by omega
            clear hv1
            go_wp2_with fail
            go_meet
            exact ⟨rfl, E.out, TB.out⟩
        · rw [pk_false] at hv2
          rcases Int.lt_trichotomy X Y with hxy | hxy | hxy
          · obtain rfl : v2 = Y := by omega
            clear hv2
            go_wp2_with fail
            go_meet
            exact ⟨rfl, E.out, TB.out⟩
          · subst hxy
            obtain rfl : v2 = X := by omega
            clear hv2
            go_wp2_with fail
            all_goals
              go_meet
              exact ⟨rfl, E.out, TB.out⟩
          · obtain rfl : v2 = X := by omega
            have hyx : ¬ v2 < Y := by omega
            clear hv2
            go_wp2_with fail
            go_meet
            exact ⟨rfl, E.out, TB.out⟩
        · go_wp2_with fail
          go_meet
          exact ⟨rfl, E.out, TB.out⟩
      case rest =>
      clear E TB
      obtain ⟨rfl, hE, hTB⟩ := hcut
      have E := Lib.hid hE; have TB := Lib.hid hTB
      clear hE hTB
      go_wp2_with fail
      go_roundg (gk - 1)
      case measure => omega
      case rel => exact ⟨k + 1, by omega, by go_num, E.out, TB.out⟩
    · have hk4 : k = 4 := by omega
      subst hk4
      clear hk hkg
      go_wp2_with fail
      refine (awake5_any _).mono ?_
      rintro e wq ⟨rfl, hb⟩
      have bw := (E.out.below hb).fin
      go_wp2_with fail
      go_ret
      exact ⟨rfl, bw⟩
end Go.Proofs.Ytmieikfmbnaoaaa
