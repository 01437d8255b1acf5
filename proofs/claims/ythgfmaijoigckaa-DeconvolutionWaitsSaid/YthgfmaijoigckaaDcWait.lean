/- The statement DeconvolutionWaits: the walk. -/
import Derived.Test.YthgfmaijoigckaaAwake8
import Derived.Test.YthgfmaijoigckaaRefWait
import Derived.Test.YthgfmaijoigckaaZero
import Derived.Test.YthgfmaijoigckaaRefAt
import Derived.Test.YthgfmaijoigckaaEnvL2
namespace Go.Proofs.Ythgfmaijoigckaa
open Go.RowKit
set_option linter.unusedVariables false
set_option maxHeartbeats 4000000 in
set_option maxRecDepth 100000 in
theorem dcWait_any (A0 : Option Addr) (n0 c0 : Nat) (L : List Int) (at0 : Int) (w : World) (hL : Ints w w.heap.size A0 n0 L) (hc0 : n0 ≤ c0) (hn0 : (n0 : Int) ≤ 9223372036854775807) :
    Calls Try.prog 7 #[.slice A0 n0 c0, .int .i64 at0] w fun e w' => e = .returned (.bool true) ∧ Below w.heap.size w w' := by
  go_enter Try.func7, Try.ntmps7
  go_wp2_with fail
  refine (new_any A0 n0 c0 L w hL hc0 hn0).mono ?_
  rintro e w1 ⟨rfl, hS1, hb1⟩
  have E := Lib.hid (EnvL.start hS1 hb1)
  clear hL hS1 hb1
  -- a curve drawn, not yet in a variable: srcCurve2_any the contract, 7 most, _ w2 the worlds, f the curve, A n c, DrawC 7 f its facts
  go_wp2_with fail
  refine (srcCurve2_any w.heap.size 7 _ (by exact E.out.s) (by omega) (by omega)).mono ?_
  rintro e w2 ⟨f, A, n, c, hD, hcf, rfl, hI, hA, hS, hk⟩
  have hps := E.out.s.lt
  have E := Lib.hid (E.out.kept hS hk)
  have Vf := Lib.hid (show (CR.mk A n c f).In w.heap.size w2 from CR.In.new hI hA hps)
  have Hf := Lib.hid (show DrawC 7 f from hD)
  have HCf := Lib.hid hcf
  have hlenf := hI.1
  try simp only at hlenf
  have hnl : n ≤ 15 := by have h1 := Hf.out.len; omega
  have hfl := Lib.hid (show f.vals.length = n from hlenf)
  clear hlenf
  clear hD hI hA hS hk hps hcf
  go_wp2_with fail
  refine (n_any w.heap.size 20 _ (by exact E.out.s) (by omega) (by omega)).mono ?_
  rintro e w3 ⟨z, hz0, hz1, rfl, hS, hk⟩
  have E := Lib.hid (E.out.kept hS hk)
  have Vf := Lib.hid (Vf.out.kept hk)
  obtain ⟨N, rfl⟩ := Int.eq_ofNat_of_zero_le hz0
  have hN : N < 20 := by omega
  clear hz0 hz1 hS hk
  have hFw0 := Lib.hid (show w.heap.size ≤ w3.heap.size from E.out.k.size)
  go_upto_region 3 with fail
  have E := Lib.hid (show EnvL w.heap.size w _ _ from E.out.push (X := ⟨A, n, c, f⟩) Vf.out)
  dsimp only [List.cons_append, List.nil_append] at E
  generalize hwe : w3.alloc (.cells #[.slice A n c, .int .i64 f.per, .int .i64 f.inc] 44) = w4 at *
  clear hwe Vf
  generalize w3.heap.size = F at *
  go_wp2_with fail
  refine (refWait_any N (by omega) _).mono ?_
  -- a curve is returned (RetS2) and laid into a new variable: w5 world, v curve, er error, A3 n3 c3 its slice
  rintro e w5 ⟨v, er, A3, n3, c3, hS, hc5, rfl, hI, hA, hb⟩
  have hps := E.out.s.lt
  have E := Lib.hid (show EnvL w.heap.size w _ _ from (E.out.below hb).push (X := ⟨A3, n3, c3, v⟩) (CR.In.new hI hA hps))
  dsimp only [List.cons_append, List.nil_append] at E
  have HSv := Lib.hid hS
  clear hS hc5 hI hA hb hps
  obtain ⟨rfl, rfl⟩ := HSv.out
  have hn3 : n3 ≤ 30 := by have h2 : (waitC N).vals.length = n3 := (E.out.get 1 rfl).inn.ints.1; have := waitC_len N; omega
  go_upto_region 4 with fail
  generalize hwe : w5.alloc (.cells #[.slice A3 n3 c3, .int .i64 (waitC N).per, .int .i64 (waitC N).inc] 44) = w6 at *
  clear hwe
  generalize w5.heap.size = W at *
  obtain ⟨x0, x1, x2, hlx⟩ := (E.out.get 0 rfl).cells
  obtain ⟨y0, y1, y2, hly⟩ := (E.out.get 1 rfl).cells
  go_wp2_with fail
  refine (dcfn_any A A3 n n3 c c3 f.per f.inc (waitC N).per (waitC N).inc f.vals (waitC N).vals _ (by exact (E.out.get 0 rfl).inn.ints) (by exact (E.out.get 1 rfl).inn.ints) (by omega) (by omega)).mono ?_
  rintro e w7 ⟨h, er, hS, A4, n4, c4, hc5, rfl, hI, hA, hb⟩
  have hps := E.out.s.lt
  have E := Lib.hid (show EnvL w.heap.size w _ _ from (E.out.below hb).push (X := ⟨A4, n4, c4, h⟩) (CR.In.new hI hA hps))
  dsimp only [List.cons_append, List.nil_append] at E
  have HSh := Lib.hid hS
  clear hS hc5 hI hA hb hps
  obtain ⟨rfl, hho, hhat⟩ := wait_x (by omega) (by omega) Hf.out (waitC_ok (by omega)) (waitC_at N) rfl (by have := waitC_nf N; rw [← waitC_at N] at this; exact this) HSh.out
  have HHO := Lib.hid hho; have HAT := Lib.hid hhat
  clear hho hhat
  clear x0 x1 x2 hlx y0 y1 y2 hly
  go_upto_region 7 with fail
  generalize hwe : w7.alloc (.cells #[.slice A4 n4 c4, .int .i64 h.per, .int .i64 h.inc] 44) = w8 at *
  clear hwe
  generalize w7.heap.size = H at *
  go_wp2_with fail
  refine (mod_any at0 500 _ (by omega) (by omega)).mono ?_
  rintro e w9 ⟨⟨T, hT0, hT1, rfl⟩, rfl⟩
  obtain ⟨t, rfl⟩ := Int.eq_ofNat_of_zero_le hT0
  have ht5 : t < 500 := by omega
  clear hT0 hT1
  obtain ⟨tn, htn⟩ : ∃ tn : Nat, tn = t + N := ⟨_, rfl⟩
  have e1 : IntKind.i64.wrap ((t : Int) + (N : Int)) = (tn : Int) := by rw [IntWalk.i64_in _ (by omega)]; omega
  have e2 : (t : Int) + (N : Int) = (tn : Int) := by omega
  have e3 : IntKind.i64.wrap (tn : Int) = (tn : Int) := IntWalk.i64_in _ (by omega)
  have htb : tn ≤ 600 := by omega
  obtain ⟨x, hx⟩ : ∃ x, x = f.at tn := ⟨_, rfl⟩
  have HX := Lib.hid hx
  have HX2 := Lib.hid (show h.at t = x from by rw [HAT.out t, hx, htn])
  have hok := HHO.out
  have h1' := hok.n1; have h2' := hok.n2; have h3' := hok.p1; have h5' := hok.pn; have h6' := hok.i1; have h7' := hok.i2
  have hl4 : h.vals.length = n4 := (E.out.get 2 rfl).inn.ints.1
  rw [hl4] at h1' h2' h5'
  have fok := Hf.out.ok
  have f1' := fok.n1; have f2' := fok.n2; have f3' := fok.p1; have f5' := fok.pn; have f6' := fok.i1; have f7' := fok.i2
  rw [hfl.out] at f1' f2' f5'
  clear hx htn hok fok hl4
  go_upto_region 8 with fail
  obtain ⟨x0, x1, x2, hlx⟩ := (E.out.get 0 rfl).cells
  obtain ⟨y0, y1, y2, hly⟩ := (E.out.get 2 rfl).cells
  refine wp_region_held_drew (S := (fun w' => w'.cell? ⟨F, 0, none⟩ = some (.slice A n c) ∧ w'.cell? ⟨F, 1, none⟩ = some (.int .i64 f.per) ∧ w'.cell? ⟨F, 2, none⟩ = some (.int .i64 f.inc) ∧ w'.cell? ⟨H, 0, none⟩ = some (.slice A4 n4 c4) ∧ w'.cell? ⟨H, 1, none⟩ = some (.int .i64 h.per) ∧ w'.cell? ⟨H, 2, none⟩ = some (.int .i64 h.inc))) (by kernel_rfl) (by exact ⟨x0, x1, x2, y0, y1, y2⟩) (fun hHeld => ?_)
  have E := Lib.hid E.out.drew
  clear x0 x1 x2 hlx y0 y1 y2 hly
  generalize hwd : w8.drew = wd at *
  clear hwd
  obtain ⟨x0, x1, x2, hlx⟩ := (E.out.get 0 rfl).cells
  obtain ⟨y0, y1, y2, hly⟩ := (E.out.get 2 rfl).cells
  refine wpAnyH_take (i := 0) (oi := _) (v := ?_) (by simp only [List.getElem?_toArray, List.getElem?_cons_zero]; rfl) (by kernel_rfl) (by kernel_rfl) (by kernel_rfl) (by exact fun _ _ _ h => h) (Or.inl ⟨by rfl, ?_⟩) (by assumption) ?_
  rotate_left 1
  · (intro w hSw; (try dsimp only at hSw); go_simp; try with_reducible rfl)
  all_goals try simp only [Act.put]
  all_goals try simp only [List.setIfInBounds_toArray]
  all_goals try simp only [List.set_cons_succ]
  all_goals try simp only [List.set_cons_zero]
  refine wpAnyH_take (i := 1) (oi := _) (v := ?_) (by simp only [List.getElem?_toArray, List.getElem?_cons_succ, List.getElem?_cons_zero]; rfl) (by kernel_rfl) (by kernel_rfl) (by kernel_rfl) (by exact fun _ _ _ h => h) (Or.inl ⟨by rfl, ?_⟩) (by assumption) ?_
  rotate_left 1
  · (intro w hSw; (try dsimp only at hSw); go_simp; try with_reducible rfl)
  all_goals try simp only [Act.put]
  all_goals try simp only [List.setIfInBounds_toArray]
  all_goals try simp only [List.set_cons_succ]
  all_goals try simp only [List.set_cons_zero]
  refine wpAnyH_take (i := 3) (oi := _) (v := ?_) (by simp only [List.getElem?_toArray, List.getElem?_cons_succ, List.getElem?_cons_zero]; rfl) (by kernel_rfl) (by kernel_rfl) (by kernel_rfl) (by exact fun _ _ _ h => h) (Or.inl ⟨by rfl, ?_⟩) (by assumption) ?_
  rotate_left 1
  · (intro w hSw; (try dsimp only at hSw); go_simp; try with_reducible rfl)
  all_goals try simp only [Act.put]
  all_goals try simp only [List.setIfInBounds_toArray]
  all_goals try simp only [List.set_cons_succ]
  all_goals try simp only [List.set_cons_zero]
  refine wpAnyH_take (i := 4) (oi := _) (v := ?_) (by simp only [List.getElem?_toArray, List.getElem?_cons_succ, List.getElem?_cons_zero]; rfl) (by kernel_rfl) (by kernel_rfl) (by kernel_rfl) (by exact fun _ _ _ h => h) (Or.inl ⟨by rfl, ?_⟩) (by assumption) ?_
  rotate_left 1
  · (intro w hSw; (try dsimp only at hSw); go_simp; try with_reducible rfl)
  all_goals try simp only [Act.put]
  all_goals try simp only [List.setIfInBounds_toArray]
  all_goals try simp only [List.set_cons_succ]
  all_goals try simp only [List.set_cons_zero]
  refine wpAnyH_take (i := 5) (oi := _) (v := ?_) (by simp only [List.getElem?_toArray, List.getElem?_cons_succ, List.getElem?_cons_zero]; rfl) (by kernel_rfl) (by kernel_rfl) (by kernel_rfl) (by exact fun _ _ _ h => h) (Or.inl ⟨by rfl, ?_⟩) (by assumption) ?_
  rotate_left 1
  · (intro w hSw; (try dsimp only at hSw); go_simp; try with_reducible rfl)
  all_goals try simp only [Act.put]
  all_goals try simp only [List.setIfInBounds_toArray]
  all_goals try simp only [List.set_cons_succ]
  all_goals try simp only [List.set_cons_zero]
  refine wpAnyH_take (i := 6) (oi := _) (v := ?_) (by simp only [List.getElem?_toArray, List.getElem?_cons_succ, List.getElem?_cons_zero]; rfl) (by kernel_rfl) (by kernel_rfl) (by kernel_rfl) (by exact fun _ _ _ h => h) (Or.inl ⟨by rfl, ?_⟩) (by assumption) ?_
  rotate_left 1
  · (intro w hSw; (try dsimp only at hSw); go_simp; try with_reducible rfl)
  all_goals try simp only [Act.put]
  all_goals try simp only [List.setIfInBounds_toArray]
  all_goals try simp only [List.set_cons_succ]
  all_goals try simp only [List.set_cons_zero]
  refine wpAnyH_ready (rs := [2]) (by kernel_rfl) (by simp) ?_
  refine (AllReadyH.cons (by simp only [List.getElem?_toArray, List.getElem?_cons_succ, List.getElem?_cons_zero]; rfl) (fun K hK => ?_) AllReadyH.nil)
  rw [if_pos (by rfl)]
  go_simp
  refine (refAt_any A4 n4 c4 h.per h.inc (t : Int) h.vals _ (by exact (E.out.get 2 rfl).inn.ints) (by omega) (by omega) (by omega) (by omega) (by omega) HHO.out.nn (by omega) (by omega)).mono ?_
  rw [Int.toNat_natCast, show Cv.at ⟨h.vals, h.per, h.inc⟩ t = x from HX2.out]
  rintro e wa ⟨rfl, hb⟩
  have E := Lib.hid (E.out.below hb)
  clear hb hHeld
  clear x0 x1 x2 hlx y0 y1 y2 hly
  obtain ⟨x0, x1, x2, hlx⟩ := (E.out.get 0 rfl).cells
  obtain ⟨y0, y1, y2, hly⟩ := (E.out.get 2 rfl).cells
  refine hK.out _ _ (by exact ⟨x0, x1, x2, y0, y1, y2⟩) (fun hHeld => ?_)
  clear hK K
  try simp only [Act.put]
  try simp only [List.setIfInBounds_toArray]
  try simp only [List.set_cons_succ]
  try simp only [List.set_cons_zero]
  refine wpAnyH_ready (rs := [7]) (by kernel_rfl) (by simp) ?_
  refine (AllReadyH.cons (by simp only [List.getElem?_toArray, List.getElem?_cons_succ, List.getElem?_cons_zero]; rfl) (fun K hK => ?_) AllReadyH.nil)
  rw [if_pos (by rfl)]
  go_simp
  refine (refAt_any A n c f.per f.inc (tn : Int) f.vals _ (by exact (E.out.get 0 rfl).inn.ints) (by omega) (by omega) (by omega) (by omega) (by omega) Hf.out.ok.nn (by omega) (by omega)).mono ?_
  rw [Int.toNat_natCast, show Cv.at ⟨f.vals, f.per, f.inc⟩ tn = x from HX.out.symm]
  rintro e wb ⟨rfl, hb⟩
  have E := Lib.hid (E.out.below hb)
  clear hb hHeld
  clear x0 x1 x2 hlx y0 y1 y2 hly
  obtain ⟨x0, x1, x2, hlx⟩ := (E.out.get 0 rfl).cells
  obtain ⟨y0, y1, y2, hly⟩ := (E.out.get 2 rfl).cells
  refine hK.out _ _ (by exact ⟨x0, x1, x2, y0, y1, y2⟩) (fun hHeld => ?_)
  clear hK K
  try simp only [Act.put]
  try simp only [List.setIfInBounds_toArray]
  try simp only [List.set_cons_succ]
  try simp only [List.set_cons_zero]
  have dx : (x != x) = false := by simp
  refine wpAnyH_take (i := 8) (oi := _) (v := ?_) (by simp only [List.getElem?_toArray, List.getElem?_cons_succ, List.getElem?_cons_zero]; rfl) (by kernel_rfl) (by kernel_rfl) (by kernel_rfl) (by exact fun _ _ _ h => h) (Or.inl ⟨by rfl, ?_⟩) (by assumption) ?_
  rotate_left 1
  · (intro w hSw; (try dsimp only at hSw); go_simp; try with_reducible rfl)
  all_goals try simp only [Act.put]
  all_goals try simp only [List.setIfInBounds_toArray]
  all_goals try simp only [List.set_cons_succ]
  all_goals try simp only [List.set_cons_zero]
  refine wpAnyH_done (by kernel_rfl) ?_ _
  clear hHeld
  clear x0 x1 x2 hlx y0 y1 y2 hly
  have LF := Lib.hid (E.out.get 0 rfl)
  have hFp := LF.out.ne
  have hps0 := E.out.s.lt
  have E := Lib.hid (show EnvL w.heap.size w wb [] from ⟨E.out.s, E.out.k, fun x hx => by cases hx⟩)
  clear HSh HAT HHO HX HX2 h1' h2' h3' h5' h6' h7' f1' f2' f3' f5' f6' f7' e1 e2 e3 HSv
  go_wp2_with fail
  refine (srcZero3_any w.heap.size 5 _ (by exact E.out.s) (by omega) (by omega)).mono ?_
  rintro e wc ⟨g, B, m, d, hD, hcf, rfl, hI, hA, hS, hk⟩
  have hps := E.out.s.lt
  have FB := Lib.hid (LF.out.blk.kept hFp hk)
  have E := Lib.hid (E.out.kept hS hk)
  have Vg := Lib.hid (show (CR.mk B m d g).In w.heap.size wc from CR.In.new hI hA hps)
  have OFF := Lib.hid (show CR.Off ⟨B, m, d, g⟩ F from CR.Off.of_ge hA LF.out.lt)
  have Hg := Lib.hid (show (DrawC 5 g ∧ g.Fin) ∧ nth g.vals 0 = 0 from hD)
  have hml : m ≤ 13 := by have h1 := Hg.out.1.1.len; have h2 : g.vals.length = m := hI.1; omega
  have hgl := Lib.hid (show g.vals.length = m from hI.1)
  clear hD hI hA hS hk hcf hps LF
  have hFw : w.heap.size ≤ F := by have := hFw0.out; omega
  obtain ⟨⟨x0, x1, x2⟩, ⟨y0, y1, y2⟩, hlx⟩ := FB.out.c3
  go_upto_region 11 with fail
  have E := Lib.hid (show EnvL w.heap.size w _ [(F, ⟨B, m, d, g⟩)] from E.out.sto FB.out hFw (by omega) (fun x hx => by cases hx) Vg.out OFF.out)
  have OFF2 := OFF
  clear FB Vg x0 x1 x2 y0 y1 y2 hlx
  generalize hwe : ((wc.setCell ⟨F, 0, none⟩ (.slice B m d)).setCell ⟨F, 1, none⟩ (.int .i64 g.per)).setCell ⟨F, 2, none⟩ (.int .i64 g.inc) = wf at *
  clear hwe
  have LF := Lib.hid (E.out.get 0 rfl)
  have hgi := Hg.out.1.1.inc; have hgp := Hg.out.1.1.per; have hgp1 := Hg.out.1.1.ok.p1; have hgi1 := Hg.out.1.1.ok.i1
  obtain ⟨I2, hI2⟩ : ∃ I2, I2 = g.inc + g.per := ⟨_, rfl⟩
  have e1 : IntKind.i64.wrap (g.inc + g.per) = I2 := by rw [IntWalk.i64_in _ (by omega), hI2]
  have e2 : g.inc + g.per = I2 := hI2.symm
  have HI2 := Lib.hid hI2
  have hI3 : 0 ≤ I2 ∧ I2 ≤ 1008 := by omega
  have e3 : IntKind.i64.wrap I2 = I2 := IntWalk.i64_in _ (by omega)
  clear hI2
  obtain ⟨⟨x0, x1, x2⟩, ⟨y0, y1, y2⟩, hlx⟩ := LF.out.blk.c3
  go_upto_region 12 with fail
  have E0 := Lib.hid (show EnvL w.heap.size w wf [] from ⟨E.out.s, E.out.k, fun x hx => by cases hx⟩)
  have FB := Lib.hid (LF.out.blk.set_ 2 (.int .i64 I2))
  simp only [List.setIfInBounds_toArray, List.set_cons_succ, List.set_cons_zero] at FB
  have Vg := Lib.hid (LF.out.inn.far OFF.out 2 (.int .i64 I2))
  have E := Lib.hid (show EnvL w.heap.size w (wf.setCell ⟨F, 2, none⟩ (.int .i64 I2)) [(F, ⟨B, m, d, ⟨g.vals, g.per, I2⟩⟩)] from by
    have h1 := E0.out.far hFw (by omega) (fun x hx => by cases hx) 2 (.int .i64 I2)
    refine ⟨h1.s, h1.k, fun x hx => ?_⟩
    simp only [List.mem_singleton] at hx
    subst hx
    exact ⟨FB.out, ⟨Vg.out.ints, Vg.out.ap⟩, by show F ≠ w.heap.size; omega⟩)
  clear E0 LF FB Vg x0 x1 x2 y0 y1 y2 hlx
  generalize hwe : wf.setCell ⟨F, 2, none⟩ (.int .i64 I2) = wg at *
  clear hwe
  go_wp2_with fail
  refine (refFlat0_any _).mono ?_
  -- a curve is returned (RetS2) and laid into a new variable: wh world, zc curve, er error, A5 n5 c5 its slice
  rintro e wh ⟨zc, er, A5, n5, c5, hS, hc5, rfl, hI, hA, hb⟩
  have hps := E.out.s.lt
  have E := Lib.hid (show EnvL w.heap.size w _ _ from (E.out.below hb).push (X := ⟨A5, n5, c5, zc⟩) (CR.In.new hI hA hps))
  dsimp only [List.cons_append, List.nil_append] at E
  have HSzc := Lib.hid hS
  clear hS hc5 hI hA hb hps
  obtain ⟨rfl, rfl⟩ := HSzc.out
  have hn5 : n5 = 1 := ((E.out.get 1 rfl).inn.ints.1).symm
  subst hn5
  go_upto_region 13 with fail
  generalize hwe : wh.alloc (.cells #[.slice A5 1 c5, .int .i64 cvZ.per, .int .i64 cvZ.inc] 44) = wi at *
  clear hwe
  generalize wh.heap.size = Z at *
  obtain ⟨x0, x1, x2, hlx⟩ := (E.out.get 0 rfl).cells
  obtain ⟨y0, y1, y2, hly⟩ := (E.out.get 1 rfl).cells
  go_wp2_with fail
  refine (dcfn_any B A5 m 1 d c5 g.per I2 cvZ.per cvZ.inc g.vals cvZ.vals _ (by exact (E.out.get 0 rfl).inn.ints) (by exact (E.out.get 1 rfl).inn.ints) (by omega) (by omega)).mono ?_
  rintro e wj ⟨xx, er, hS, A6, n6, c6, hc5, rfl, hI, hA, hb⟩
  have hps := E.out.s.lt
  have E := Lib.hid (show EnvL w.heap.size w _ _ from (E.out.below hb).push (X := ⟨A6, n6, c6, xx⟩) (CR.In.new hI hA hps))
  dsimp only [List.cons_append, List.nil_append] at E
  have HSxx := Lib.hid hS
  clear hS hc5 hI hA hb hps
  obtain ⟨rfl, rfl⟩ := grow_x (m := 5) (i := g.inc) (by exact Hg.out.1.1) (by exact Hg.out.1.2) (by have := HSxx.out; rw [HI2.out] at this; exact this)
  have hn6 : n6 = 1 := ((E.out.get 2 rfl).inn.ints.1).symm
  subst hn6
  clear x0 x1 x2 hlx y0 y1 y2 hly
  go_upto_region 14 with fail
  generalize hwe : wj.alloc (.cells #[.slice A6 1 c6, .int .i64 dxI.per, .int .i64 dxI.inc] 44) = wk at *
  clear hwe
  obtain ⟨x0, x1, x2, hlx⟩ := (E.out.get 2 rfl).cells
  go_wp2_with fail
  refine (refAt_any A6 1 c6 1 0 0 dxI.vals _ (by exact (E.out.get 2 rfl).inn.ints) (by omega) (by omega) (by omega) (by omega) (by omega) (fun k => by
    rcases Nat.eq_zero_or_pos k with rfl | hk
    · exact ⟨by decide, by decide⟩
    · rw [nth_out _ _ (by show 1 ≤ k; omega)]; omega) (by omega) (by omega)).mono ?_
  rw [show Cv.at ⟨dxI.vals, 1, 0⟩ ((0 : Int)).toNat = 4611686018427387904 from rfl]
  rintro e wl ⟨rfl, hb⟩
  have E := Lib.hid (E.out.below hb)
  clear hb x0 x1 x2 hlx
  go_wp2_with fail
  refine (awake8_any _).mono ?_
  rintro e wz ⟨rfl, hb⟩
  have bw := (E.out.below hb).fin
  go_wp2_with fail
  go_ret
  exact ⟨rfl, bw⟩
end Go.Proofs.Ythgfmaijoigckaa
