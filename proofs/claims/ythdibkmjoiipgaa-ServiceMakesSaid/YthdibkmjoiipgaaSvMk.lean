/- The statement ServiceMakes: the walk. -/
import Derived.Test.YthdibkmjoiipgaaRef12Q
import Derived.Test.YthdibkmjoiipgaaLsQ
import Derived.Test.YthdibkmjoiipgaaRatio
import Derived.Test.YthdibkmjoiipgaaAwake12
import Derived.Deep.LoopGhost
import Derived.Deep.RegionHeld3
import Derived.Deep.DeepCutAuto
namespace Go.Proofs.Ythdibkmjoiipgaa
open Go.RowKit
set_option linter.unusedVariables false
set_option linter.unusedSimpArgs false
/-- the reader, the pace that was handed in and the late one -/
structure ME (w0 w : World) (p Z1 ZL : Nat) (a la : PN) : Prop where
  s : SrcAt w p
  k : Kept w0.heap.size p w0 w
  va : Lq p w Z1 25 a
  vl : Lq p w ZL 25 la
section
variable {w0 w w' : World} {p Z1 ZL G : Nat} {a la : PN}
theorem ME.below (h : ME w0 w p Z1 ZL a la) (hb : Below w.heap.size w w') : ME w0 w' p Z1 ZL a la := ⟨h.s.ext hb, kbel h.k hb, h.va.below hb, h.vl.below hb⟩
theorem ME.kept (h : ME w0 w p Z1 ZL a la) (hS : SrcAt w' p) (hk : Kept w.heap.size p w w') : ME w0 w' p Z1 ZL a la := ⟨hS, kstep h.k hk, h.va.kept hk, h.vl.kept hk⟩
theorem ME.drew (h : ME w0 w p Z1 ZL a la) : ME w0 w.drew p Z1 ZL a la := ⟨h.s, kdrw h.k, h.va.drew, h.vl.drew⟩
theorem ME.four {k : Nat} {x y z u : Value} (h : ME w0 w p Z1 ZL a la) (h1 : Z1 < G) (h2 : ZL < G) (h3 : p < G) (h4 : w0.heap.size ≤ G) : ME w0 ((((w.setCell ⟨G, k * 4, none⟩ x).setCell ⟨G, k * 4 + 1, none⟩ y).setCell ⟨G, k * 4 + 2, none⟩ z).setCell ⟨G, k * 4 + 3, none⟩ u) p Z1 ZL a la :=
  ⟨h.s.four h3, h.k.sto (Sto.four G w k x y z u) h4, h.va.sto (Sto.four G w k x y z u) (by omega), h.vl.sto (Sto.four G w k x y z u) (by omega)⟩
theorem ME.late {x y u v u' v' : Int} (h : ME w0 w p Z1 ZL a ⟨x, y, u, v⟩) (h1 : Z1 ≠ ZL) (h3 : p < ZL) (h4 : w0.heap.size ≤ ZL) : ME w0 ((w.setCell ⟨ZL, 2, none⟩ (.int .i64 u')).setCell ⟨ZL, 3, none⟩ (.int .i64 v')) p Z1 ZL a ⟨x, y, u', v'⟩ :=
  have s := ((Sto.refl ZL w).set 2 (.int .i64 u')).set 3 (.int .i64 v')
  ⟨(h.s.far (a := ⟨ZL, 2, none⟩) h3 _).far (a := ⟨ZL, 3, none⟩) h3 _, h.k.sto s h4, h.va.sto s h1, ⟨(h.vl.blk.set_ 2 _).set_ 3 _, h.vl.ne⟩⟩
end
theorem fold_len {l : Bool} : ∀ {fs : List Cv} {s r : Cv} {er : Int}, s.vals.length ≤ 400 → FoldX l s fs r er → r.vals.length ≤ 400
  | [], _, _, _, hs, h => by rw [h.1]; exact hs
  | _ :: _, _, _, _, _, ⟨t, e, h1, h2⟩ => by
    rcases h2 with ⟨_, h2⟩ | ⟨_, rfl, _⟩
    · exact fold_len (ext_len h1) h2
    · decide
theorem best_len {ps : List PN} {r : Cv} {er : Int} (h : BestS ps r er) : r.vals.length ≤ 400 := by
  rcases h with ⟨_, rfl, _⟩ | ⟨_, rfl, _⟩ | ⟨_, _, _, rfl, _⟩ | ⟨_, _, hg, ⟨x, _, f, _, _, rfl⟩ | ⟨f, fs, h3, h4⟩⟩
  · decide
  · decide
  · decide
  · decide
  · cases ps with
    | nil => have := h3.1; simp at this
    | cons p ps => exact fold_len (pcS_len (h3.2 0 p f rfl rfl)) h4
theorem info_pace : (Try.prog.info? 25).map (fun i => (i.zero, i.size, i.bytes)) = some (some (.agg #[.int .i64 0, .int .i64 0, .int .i64 0, .int .i64 0]), 4, 32) := by kernel_rfl
set_option maxHeartbeats 4000000 in
set_option maxRecDepth 100000 in
theorem svMk_any (R r L l : Int) (A2 : Option Addr) (n2 c2 : Nat) (ps : List PN) (A0 : Option Addr) (n0 c0 : Nat) (zs : List Int) (W : World)
    (hl2 : ps.length = n2) (hn2 : (n2 : Int) ≤ 9223372036854775807) (hc2 : n2 ≤ c2) (hr2 : 0 < n2 → ∃ g o, A2 = some ⟨g, o, none⟩ ∧ RowQ W g o ps) (hL0 : Ints W W.heap.size A0 n0 zs) (hc0 : n0 ≤ c0) (hn0 : (n0 : Int) ≤ 9223372036854775807) :
    Calls Try.prog 11 #[.agg #[.int .i64 R, .int .i64 r, .int .i64 L, .int .i64 l], .slice A2 n2 c2, .slice A0 n0 c0] W fun e w' => e = .returned (.bool true) ∧ Below W.heap.size W w' := by
  have bw := balloc W (.cells #[.int .i64 R, .int .i64 r, .int .i64 L, .int .i64 l] 25)
  have B1 := Lib.hid (Blk.new W 25 #[.int .i64 R, .int .i64 r, .int .i64 L, .int .i64 l])
  have LI := Lib.hid (hL0.ext bw)
  have HR := Lib.hid (fun h => by
    obtain ⟨g, o, e, hr⟩ := hr2 h
    exact (⟨g, o, e, hr.below bw⟩ : ∃ g o, A2 = some ⟨g, o, none⟩ ∧ RowQ (W.alloc (.cells #[.int .i64 R, .int .i64 r, .int .i64 L, .int .i64 l] 25)) g o ps))
  have BW := Lib.hid bw
  clear bw hr2 hL0
  go_enter Try.func11, Try.ntmps11
  go_upto_region 1 with fail
  generalize hwe : W.alloc (.cells #[.int .i64 R, .int .i64 r, .int .i64 L, .int .i64 l] 25) = w at *
  clear hwe
  by_cases h30 : 30 < n2
  case pos =>
    have d1 : decide ((30 : Int) < (n2 : Int)) = true := by simp; omega
    have d2 : decide (30 < n2) = true := by simp; omega
    go_wp2_with fail
    refine (awake12_any _).mono ?_
    rintro q wq ⟨rfl, hbq⟩
    have bw := bthen BW.out hbq
    go_wp2_with fail
    go_ret
    exact ⟨rfl, bw⟩
  case neg =>
  have d1 : decide ((30 : Int) < (n2 : Int)) = false := by simp; omega
  have d2 : decide (30 < n2) = false := by simp; omega
  have LS0 := Lib.hid (show LsQ w.heap.size w A2 n2 c2 ps from ⟨hl2, hc2, hn2, fun h => by
    obtain ⟨g, o, e, hr⟩ := HR.out h
    exact ⟨g, o, e, Nat.ne_of_lt hr.lt, hr⟩⟩)
  have hL := LI.out
  have V1 := Lib.hid (show Lq w.heap.size w W.heap.size 25 ⟨R, r, L, l⟩ from ⟨B1.out, Nat.ne_of_lt B1.out.lt⟩)
  have hWw : W.heap.size < w.heap.size := B1.out.lt
  clear HR LI B1 hl2 hc2 hn2 h30
  go_wp2_with fail
  refine (new_any A0 n0 c0 zs w hL hc0 hn0).mono ?_
  rintro e w1 ⟨rfl, hS1, hb1⟩
  have SS := Lib.hid hS1
  have KK := Lib.hid (Kept.of (p := w.heap.size) hb1)
  replace V1 := Lib.hid (V1.out.below hb1); replace LS0 := Lib.hid (LS0.out.below hb1)
  clear hL hS1 hb1 d1 d2
  go_wp2_with fail
  refine (srcFr_any w.heap.size 3 2 _ (by exact SS.out) (by omega) (by omega) (by omega) (by omega)).mono ?_
  rintro e w2 ⟨y1, y2, _, rfl, hS, hk⟩
  replace V1 := Lib.hid (V1.out.kept hk); replace LS0 := Lib.hid (LS0.out.kept hk); replace KK := Lib.hid (kstep KK.out hk); replace SS := Lib.hid hS
  clear hS hk
  go_wp2_with fail
  refine (n_any w.heap.size 4 _ (by exact SS.out) (by omega) (by omega)).mono ?_
  rintro e w3 ⟨z, hz0, hz1, rfl, hS, hk⟩
  replace V1 := Lib.hid (V1.out.kept hk); replace LS0 := Lib.hid (LS0.out.kept hk); replace KK := Lib.hid (kstep KK.out hk); replace SS := Lib.hid hS
  obtain ⟨y3, hy3⟩ : ∃ y3, y3 = 398 + z := ⟨_, rfl⟩
  have e1 : IntKind.i64.wrap (398 + z) = y3 := by rw [IntWalk.i64_in _ (by omega), hy3]
  have hy30 : 398 ≤ y3 := by omega
  have hy31 : y3 ≤ 402 := by omega
  clear hS hk hz0 hz1 hy3
  have hps := SS.out.lt
  have hb := balloc w3 (.cells #[.int .i64 y1, .int .i64 y2, .int .i64 y3, .int .i64 1] 25)
  have E := Lib.hid (show ME w (w3.alloc (.cells #[.int .i64 y1, .int .i64 y2, .int .i64 y3, .int .i64 1] 25)) w.heap.size W.heap.size w3.heap.size ⟨R, r, L, l⟩ ⟨y1, y2, y3, 1⟩ from ⟨SS.out.ext hb, kbel KK.out hb, V1.out.below hb, ⟨Blk.new _ _ _, Nat.ne_of_gt hps⟩⟩)
  have HAZ := Lib.hid (show 0 < n2 → ∀ g o, A2 = some ⟨g, o, none⟩ → g < w3.heap.size from fun h0 g o e => by
    obtain ⟨g', o', e', _, hr⟩ := LS0.out.2.2.2 h0
    rw [e] at e'
    cases e'
    exact hr.lt)
  replace LS0 := Lib.hid (LS0.out.below hb)
  have hZ3 : w.heap.size < w3.heap.size := hps
  clear hb SS KK V1
  go_upto_region 5 with fail
  generalize hwe : w3.alloc (.cells #[.int .i64 y1, .int .i64 y2, .int .i64 y3, .int .i64 1] 25) = w4 at *
  clear hwe hps e1
  generalize w3.heap.size = ZL at *
  have hZW : W.heap.size ≠ ZL := by omega
  go_wp2_with fail
  refine (n_any w.heap.size 2 _ (by exact E.out.s) (by omega) (by omega)).mono ?_
  rintro e w5 ⟨z, hz0, hz1, rfl, hS, hk⟩
  replace E := Lib.hid (E.out.kept hS hk); replace LS0 := Lib.hid (LS0.out.kept hk)
  clear hS hk
  go_upto_if 38 with (fail)
  go_cut [] (fun wx => ∃ y3 y4 : Int, ME w wx w.heap.size W.heap.size ZL ⟨R, r, L, l⟩ ⟨y1, y2, y3, y4⟩ ∧ LsQ w.heap.size wx A2 n2 c2 ps)
  case first =>
    by_cases hz : z = 0
    case neg =>
      have d1 : (z == 0) = false := by simpa using hz
      clear hz
      go_wp2_with fail
      go_meet
      exact ⟨_, _, E.out, LS0.out⟩
    case pos =>
      have d1 : (z == 0) = true := by simpa using hz
      clear hz
      obtain ⟨m, hm⟩ : ∃ m, m = 2 * y3 - 1 := ⟨_, rfl⟩
      obtain ⟨m2, hm2⟩ : ∃ m2, m2 = 2 * y3 := ⟨_, rfl⟩
      have e1 : IntKind.i64.wrap (2 * y3) = m2 := by rw [hm2]; exact IntWalk.i64_in _ (by omega)
      have e2 : IntKind.i64.wrap (m2 - 1) = m := by rw [hm, hm2]; exact IntWalk.i64_in _ (by omega)
      have hm0 : 1 ≤ m := by omega
      have hm1 : m ≤ 1000 := by omega
      clear hm hm2
      obtain ⟨f0, f1, f2, f3, hlf⟩ := E.out.va.q
      obtain ⟨g0, g1, g2, g3, hlg⟩ := E.out.vl.q
      dsimp only at f0 f1 f2 f3 g0 g1 g2 g3
      go_wp2_with fail
      refine (rnewI_any m 2 _ (by omega) (by omega) (by omega) (by omega)).mono ?_
      generalize (fnew m 2).1 = u1 at *
      generalize (fnew m 2).2.1 = u2 at *
      generalize (fnew m 2).2.2 = u3 at *
      rintro e w6 ⟨rfl, hb⟩
      replace E := Lib.hid (E.out.below hb); replace LS0 := Lib.hid (LS0.out.below hb)
      clear f0 f1 f2 f3 hlf g0 g1 g2 g3 hlg
      clear hb
      obtain ⟨_, ⟨z0, z1, z2, z3⟩, _⟩ := bq4 E.out.vl.blk
      have n0 := E.out.vl.blk.cell 2; have n1 := E.out.vl.blk.cell 3
      simp at n0 n1
      have hlv := E.out.vl.blk.lt
      have HE := Lib.hid (E.out.late (u' := u1) (v' := u2) hZW hZ3 (by omega))
      replace LS0 := Lib.hid (LS0.out.sto (((Sto.refl ZL w6).set 2 (.int .i64 u1)).set 3 (.int .i64 u2)) (fun h0 g o e => Nat.ne_of_lt (HAZ.out h0 g o e)))
      go_wp2_with fail
      go_meet
      exact ⟨_, _, HE.out, LS0.out⟩
  case rest =>
  clear E LS0 hy30 hy31
  clear y3
  obtain ⟨y3, y4, hE, h0⟩ := hcut
  have E := Lib.hid hE; have LS0 := Lib.hid h0
  clear hE h0
  go_upto_region 7 with fail
  go_cut [61, 62, 63] (fun s61 s62 s63 wx => ∃ (G4 : Nat) (a1 a2 a3 a4 b1 b2 b3 b4 : Int), s61 = .slice (some ⟨G4, 0, none⟩) 4 4 ∧ s62 = .int .i64 4 ∧ s63 = .int .i64 0 ∧ ME w wx w.heap.size W.heap.size ZL ⟨R, r, L, l⟩ ⟨y1, y2, y3, y4⟩ ∧ LsQ w.heap.size wx A2 n2 c2 ps ∧ LsQ w.heap.size wx (some ⟨G4, 0, none⟩) 4 4 [⟨R, r, L, l⟩, ⟨y1, y2, y3, y4⟩, ⟨a1, a2, a3, a4⟩, ⟨b1, b2, b3, b4⟩])
  case first =>
    replace E := Lib.hid (ME.drew E.out); replace LS0 := Lib.hid (LsQ.drew LS0.out)
    obtain ⟨f0, f1, f2, f3, hlf⟩ := E.out.va.q
    obtain ⟨g0, g1, g2, g3, hlg⟩ := E.out.vl.q
    dsimp only at f0 f1 f2 f3 g0 g1 g2 g3
    refine wp_region_held_drew (S := (fun w' => (w'.cell? ⟨W.heap.size, 0, none⟩ = some (.int .i64 R) ∧ w'.cell? ⟨W.heap.size, 1, none⟩ = some (.int .i64 r) ∧ w'.cell? ⟨W.heap.size, 2, none⟩ = some (.int .i64 L) ∧ w'.cell? ⟨W.heap.size, 3, none⟩ = some (.int .i64 l)) ∧ w'.cell? ⟨ZL, 0, none⟩ = some (.int .i64 y1) ∧ w'.cell? ⟨ZL, 1, none⟩ = some (.int .i64 y2) ∧ w'.cell? ⟨ZL, 2, none⟩ = some (.int .i64 y3) ∧ w'.cell? ⟨ZL, 3, none⟩ = some (.int .i64 y4))) (by kernel_rfl) (by exact ⟨⟨f0, f1, f2, f3⟩, g0, g1, g2, g3⟩) (fun hHeld => ?_)
    clear f0 f1 f2 f3 hlf g0 g1 g2 g3 hlg
    generalize hwd : wc.drew = wd at *
    clear hwd
    obtain ⟨f0, f1, f2, f3, hlf⟩ := E.out.va.q
    obtain ⟨g0, g1, g2, g3, hlg⟩ := E.out.vl.q
    dsimp only at f0 f1 f2 f3 g0 g1 g2 g3
    refine wpAnyH_take (i := 0) (oi := _) (v := ?_) (by simp only [List.getElem?_toArray, List.getElem?_cons_zero]; rfl) (by kernel_rfl) (by kernel_rfl) (by kernel_rfl) (by exact fun _ _ _ h => h) (Or.inl ⟨by rfl, ?_⟩) (by assumption) ?_
    rotate_left 1
    · (intro w hSw; (try dsimp only at hSw); go_simp; try with_reducible rfl)
    all_goals try simp only [Act.put]
    all_goals try simp only [List.setIfInBounds_toArray]
    all_goals try simp only [List.set_cons_succ]
    all_goals try simp only [List.set_cons_zero]
    refine wpAnyH_take (i := 1) (oi := _) (v := ?_) (by simp only [List.getElem?_toArray, List.getElem?_cons_succ, List.getElem?_cons_zero]; rfl) (by kernel_rfl) (by kernel_rfl) (by kernel_rfl) (by exact fun _ _ _ h => h) (Or.inl ⟨by rfl, ?_⟩) (by assumption) ?_
    rotate_left 1
    · (intro w hSw; (try dsimp only at hSw); go_simp; try with_reducible rfl)
    all_goals try simp only [Act.put]
    all_goals try simp only [List.setIfInBounds_toArray]
    all_goals try simp only [List.set_cons_succ]
    all_goals try simp only [List.set_cons_zero]
    refine wpAnyH_take (i := 2) (oi := _) (v := ?_) (by simp only [List.getElem?_toArray, List.getElem?_cons_succ, List.getElem?_cons_zero]; rfl) (by kernel_rfl) (by kernel_rfl) (by kernel_rfl) (by exact fun _ _ _ h => h) (Or.inl ⟨by rfl, ?_⟩) (by assumption) ?_
    rotate_left 1
    · (intro w hSw; (try dsimp only at hSw); go_simp; try with_reducible rfl)
    all_goals try simp only [Act.put]
    all_goals try simp only [List.setIfInBounds_toArray]
    all_goals try simp only [List.set_cons_succ]
    all_goals try simp only [List.set_cons_zero]
    refine wpAnyH_take (i := 4) (oi := _) (v := ?_) (by simp only [List.getElem?_toArray, List.getElem?_cons_succ, List.getElem?_cons_zero]; rfl) (by kernel_rfl) (by kernel_rfl) (by kernel_rfl) (by exact fun _ _ _ h => h) (Or.inl ⟨by rfl, ?_⟩) (by assumption) ?_
    rotate_left 1
    · (intro w hSw; (try dsimp only at hSw); go_simp; try with_reducible rfl)
    all_goals try simp only [Act.put]
    all_goals try simp only [List.setIfInBounds_toArray]
    all_goals try simp only [List.set_cons_succ]
    all_goals try simp only [List.set_cons_zero]
    refine wpAnyH_take (i := 7) (oi := _) (v := ?_) (by simp only [List.getElem?_toArray, List.getElem?_cons_succ, List.getElem?_cons_zero]; rfl) (by kernel_rfl) (by kernel_rfl) (by kernel_rfl) (by exact fun _ _ _ h => h) (Or.inl ⟨by rfl, ?_⟩) (by assumption) ?_
    rotate_left 1
    · (intro w hSw; (try dsimp only at hSw); go_simp; try with_reducible rfl)
    all_goals try simp only [Act.put]
    all_goals try simp only [List.setIfInBounds_toArray]
    all_goals try simp only [List.set_cons_succ]
    all_goals try simp only [List.set_cons_zero]
    refine wpAnyH_take (i := 9) (oi := _) (v := ?_) (by simp only [List.getElem?_toArray, List.getElem?_cons_succ, List.getElem?_cons_zero]; rfl) (by kernel_rfl) (by kernel_rfl) (by kernel_rfl) (by exact fun _ _ _ h => h) (Or.inl ⟨by rfl, ?_⟩) (by assumption) ?_
    rotate_left 1
    · (intro w hSw; (try dsimp only at hSw); go_simp; try with_reducible rfl)
    all_goals try simp only [Act.put]
    all_goals try simp only [List.setIfInBounds_toArray]
    all_goals try simp only [List.set_cons_succ]
    all_goals try simp only [List.set_cons_zero]
    refine wpAnyH_take (i := 14) (oi := _) (v := ?_) (by simp only [List.getElem?_toArray, List.getElem?_cons_succ, List.getElem?_cons_zero]; rfl) (by kernel_rfl) (by kernel_rfl) (by kernel_rfl) (by exact fun _ _ _ h => h) (Or.inl ⟨by rfl, ?_⟩) (by assumption) ?_
    rotate_left 1
    · (intro w hSw; (try dsimp only at hSw); go_simp; try with_reducible rfl)
    all_goals try simp only [Act.put]
    all_goals try simp only [List.setIfInBounds_toArray]
    all_goals try simp only [List.set_cons_succ]
    all_goals try simp only [List.set_cons_zero]
    refine wpAnyH_ready (rs := [3]) (by kernel_rfl) (by simp) ?_
    refine (AllReadyH.cons (by simp only [List.getElem?_toArray, List.getElem?_cons_succ, List.getElem?_cons_zero]; rfl) (fun K hK => ?_) AllReadyH.nil)
    -- a call of the region: ratio12_any w.heap.size _ (by exact E.out.s) the contract, wa the world behind, a1 a2 the numbers
    rw [if_pos (by rfl)]
    go_simp
    refine (ratio12_any w.heap.size _ (by exact E.out.s)).mono ?_
    rintro e wa ⟨a1, a2, _, rfl, hS, hk⟩
    replace E := Lib.hid (E.out.kept hS hk); replace LS0 := Lib.hid (LS0.out.kept hk)
    try (replace LS1 := Lib.hid (LS1.out.kept hk))
    try (replace LS3 := Lib.hid (LS3.out.kept hk))
    clear hS hk hHeld
    clear f0 f1 f2 f3 hlf g0 g1 g2 g3 hlg
    obtain ⟨f0, f1, f2, f3, hlf⟩ := E.out.va.q
    obtain ⟨g0, g1, g2, g3, hlg⟩ := E.out.vl.q
    dsimp only at f0 f1 f2 f3 g0 g1 g2 g3
    refine hK.out _ _ (by exact ⟨⟨f0, f1, f2, f3⟩, g0, g1, g2, g3⟩) (fun hHeld => ?_)
    clear hK K
    try simp only [Act.put]
    try simp only [List.setIfInBounds_toArray]
    try simp only [List.set_cons_succ]
    try simp only [List.set_cons_zero]
    refine wpAnyH_ready (rs := [5]) (by kernel_rfl) (by simp) ?_
    refine (AllReadyH.cons (by simp only [List.getElem?_toArray, List.getElem?_cons_succ, List.getElem?_cons_zero]; rfl) (fun K hK => ?_) AllReadyH.nil)
    -- a call of the region: ratio12_any w.heap.size _ (by exact E.out.s) the contract, wb the world behind, a3 a4 the numbers
    rw [if_pos (by rfl)]
    go_simp
    refine (ratio12_any w.heap.size _ (by exact E.out.s)).mono ?_
    rintro e wb ⟨a3, a4, _, rfl, hS, hk⟩
    replace E := Lib.hid (E.out.kept hS hk); replace LS0 := Lib.hid (LS0.out.kept hk)
    try (replace LS1 := Lib.hid (LS1.out.kept hk))
    try (replace LS3 := Lib.hid (LS3.out.kept hk))
    clear hS hk hHeld
    clear f0 f1 f2 f3 hlf g0 g1 g2 g3 hlg
    obtain ⟨f0, f1, f2, f3, hlf⟩ := E.out.va.q
    obtain ⟨g0, g1, g2, g3, hlg⟩ := E.out.vl.q
    dsimp only at f0 f1 f2 f3 g0 g1 g2 g3
    refine hK.out _ _ (by exact ⟨⟨f0, f1, f2, f3⟩, g0, g1, g2, g3⟩) (fun hHeld => ?_)
    clear hK K
    try simp only [Act.put]
    try simp only [List.setIfInBounds_toArray]
    try simp only [List.set_cons_succ]
    try simp only [List.set_cons_zero]
    refine wpAnyH_take (i := 6) (oi := _) (v := ?_) (by simp only [List.getElem?_toArray, List.getElem?_cons_succ, List.getElem?_cons_zero]; rfl) (by kernel_rfl) (by kernel_rfl) (by kernel_rfl) (by exact fun _ _ _ h => h) (Or.inl ⟨by rfl, ?_⟩) (by assumption) ?_
    rotate_left 1
    · (intro w hSw; (try dsimp only at hSw); go_simp; try with_reducible rfl)
    all_goals try simp only [Act.put]
    all_goals try simp only [List.setIfInBounds_toArray]
    all_goals try simp only [List.set_cons_succ]
    all_goals try simp only [List.set_cons_zero]
    refine wpAnyH_ready (rs := [8]) (by kernel_rfl) (by simp) ?_
    refine (AllReadyH.cons (by simp only [List.getElem?_toArray, List.getElem?_cons_succ, List.getElem?_cons_zero]; rfl) (fun K hK => ?_) AllReadyH.nil)
    -- a call of the region: srcFr_any w.heap.size 9 5 _ (by exact E.out.s) (by omega) (by omega) (by omega) (by omega) the contract, we the world behind, b1 b2 the numbers
    rw [if_pos (by rfl)]
    go_simp
    refine (srcFr_any w.heap.size 9 5 _ (by exact E.out.s) (by omega) (by omega) (by omega) (by omega)).mono ?_
    rintro e we ⟨b1, b2, _, rfl, hS, hk⟩
    replace E := Lib.hid (E.out.kept hS hk); replace LS0 := Lib.hid (LS0.out.kept hk)
    try (replace LS1 := Lib.hid (LS1.out.kept hk))
    try (replace LS3 := Lib.hid (LS3.out.kept hk))
    clear hS hk hHeld
    clear f0 f1 f2 f3 hlf g0 g1 g2 g3 hlg
    obtain ⟨f0, f1, f2, f3, hlf⟩ := E.out.va.q
    obtain ⟨g0, g1, g2, g3, hlg⟩ := E.out.vl.q
    dsimp only at f0 f1 f2 f3 g0 g1 g2 g3
    refine hK.out _ _ (by exact ⟨⟨f0, f1, f2, f3⟩, g0, g1, g2, g3⟩) (fun hHeld => ?_)
    clear hK K
    try simp only [Act.put]
    try simp only [List.setIfInBounds_toArray]
    try simp only [List.set_cons_succ]
    try simp only [List.set_cons_zero]
    refine wpAnyH_ready (rs := [10]) (by kernel_rfl) (by simp) ?_
    refine (AllReadyH.cons (by simp only [List.getElem?_toArray, List.getElem?_cons_succ, List.getElem?_cons_zero]; rfl) (fun K hK => ?_) AllReadyH.nil)
    -- a call of the region: srcFr_any w.heap.size 20 5 _ (by exact E.out.s) (by omega) (by omega) (by omega) (by omega) the contract, wf the world behind, b3 b4 the numbers
    rw [if_pos (by rfl)]
    go_simp
    refine (srcFr_any w.heap.size 20 5 _ (by exact E.out.s) (by omega) (by omega) (by omega) (by omega)).mono ?_
    rintro e wf ⟨b3, b4, _, rfl, hS, hk⟩
    replace E := Lib.hid (E.out.kept hS hk); replace LS0 := Lib.hid (LS0.out.kept hk)
    try (replace LS1 := Lib.hid (LS1.out.kept hk))
    try (replace LS3 := Lib.hid (LS3.out.kept hk))
    clear hS hk hHeld
    clear f0 f1 f2 f3 hlf g0 g1 g2 g3 hlg
    obtain ⟨f0, f1, f2, f3, hlf⟩ := E.out.va.q
    obtain ⟨g0, g1, g2, g3, hlg⟩ := E.out.vl.q
    dsimp only at f0 f1 f2 f3 g0 g1 g2 g3
    refine hK.out _ _ (by exact ⟨⟨f0, f1, f2, f3⟩, g0, g1, g2, g3⟩) (fun hHeld => ?_)
    clear hK K
    try simp only [Act.put]
    try simp only [List.setIfInBounds_toArray]
    try simp only [List.set_cons_succ]
    try simp only [List.set_cons_zero]
    refine wpAnyH_take (i := 11) (oi := _) (v := ?_) (by simp only [List.getElem?_toArray, List.getElem?_cons_succ, List.getElem?_cons_zero]; rfl) (by kernel_rfl) (by kernel_rfl) (by kernel_rfl) (by exact fun _ _ _ h => h) (Or.inl ⟨by rfl, ?_⟩) (by assumption) ?_
    rotate_left 1
    · (intro w hSw; (try dsimp only at hSw); go_simp; try with_reducible rfl)
    all_goals try simp only [Act.put]
    all_goals try simp only [List.setIfInBounds_toArray]
    all_goals try simp only [List.set_cons_succ]
    all_goals try simp only [List.set_cons_zero]
    refine wpAnyH_ready (rs := [12]) (by kernel_rfl) (by simp) ?_
    refine (AllReadyH.cons (by simp only [List.getElem?_toArray, List.getElem?_cons_succ, List.getElem?_cons_zero]; rfl) (fun K hK => ?_) AllReadyH.nil)
    rw [if_pos (by rfl)]
    go_simp
    have hps := E.out.s.lt
    have hb := balloc wf (.cells #[.int .i64 R, .int .i64 r, .int .i64 L, .int .i64 l, .int .i64 y1, .int .i64 y2, .int .i64 y3, .int .i64 y4, .int .i64 a1, .int .i64 a2, .int .i64 a3, .int .i64 a4, .int .i64 b1, .int .i64 b2, .int .i64 b3, .int .i64 b4] 25)
    have LN := Lib.hid (LsQ.lit (w := wf) hps 25 [⟨R, r, L, l⟩, ⟨y1, y2, y3, y4⟩, ⟨a1, a2, a3, a4⟩, ⟨b1, b2, b3, b4⟩] 4 rfl (by omega))
    generalize hwa : wf.alloc (.cells #[.int .i64 R, .int .i64 r, .int .i64 L, .int .i64 l, .int .i64 y1, .int .i64 y2, .int .i64 y3, .int .i64 y4, .int .i64 a1, .int .i64 a2, .int .i64 a3, .int .i64 a4, .int .i64 b1, .int .i64 b2, .int .i64 b3, .int .i64 b4] 25) = wz at *
    replace LN := Lib.hid (show LsQ w.heap.size wz (some ⟨wf.heap.size, 0, none⟩) 4 4 [⟨R, r, L, l⟩, ⟨y1, y2, y3, y4⟩, ⟨a1, a2, a3, a4⟩, ⟨b1, b2, b3, b4⟩] by rw [← hwa]; exact LN.out)
    clear hwa
    replace E := Lib.hid (E.out.below hb); replace LS0 := Lib.hid (LS0.out.below hb)
    generalize wf.heap.size = G4 at *
    clear hb hHeld hps
    clear f0 f1 f2 f3 hlf g0 g1 g2 g3 hlg
    obtain ⟨f0, f1, f2, f3, hlf⟩ := E.out.va.q
    obtain ⟨g0, g1, g2, g3, hlg⟩ := E.out.vl.q
    dsimp only at f0 f1 f2 f3 g0 g1 g2 g3
    refine hK.out _ _ (by exact ⟨⟨f0, f1, f2, f3⟩, g0, g1, g2, g3⟩) (fun hHeld => ?_)
    clear hK K
    try simp only [Act.put]
    try simp only [List.setIfInBounds_toArray]
    try simp only [List.set_cons_succ]
    try simp only [List.set_cons_zero]
    refine wpAnyH_take (i := 13) (oi := _) (v := ?_) (by simp only [List.getElem?_toArray, List.getElem?_cons_succ, List.getElem?_cons_zero]; rfl) (by kernel_rfl) (by kernel_rfl) (by kernel_rfl) (by exact fun _ _ _ h => h) (Or.inl ⟨by rfl, ?_⟩) (by assumption) ?_
    rotate_left 1
    · (intro w hSw; (try dsimp only at hSw); go_simp; try with_reducible rfl)
    all_goals try simp only [Act.put]
    all_goals try simp only [List.setIfInBounds_toArray]
    all_goals try simp only [List.set_cons_succ]
    all_goals try simp only [List.set_cons_zero]
    refine wpAnyH_done (by kernel_rfl) ?_ _
    clear hHeld
    clear f0 f1 f2 f3 hlf g0 g1 g2 g3 hlg
    go_wp2_with fail
    go_meet
    exact ⟨G4, a1, a2, a3, a4, b1, b2, b3, b4, rfl, rfl, rfl, E.out, LS0.out, LN.out⟩
  case rest =>
  clear E LS0
  obtain ⟨G4, a1, a2, a3, a4, b1, b2, b3, b4, rfl, rfl, rfl, hE, h0, h4⟩ := hcut
  have E := Lib.hid hE; have LS0 := Lib.hid h0; have LS4 := Lib.hid h4
  clear hE h0 h4
  go_wp2_with fail
  go_loopg [63] 4 (fun gg s63 wx => ∃ k : Nat, k + gg = 4 ∧ s63 = .int .i64 k ∧ ME w wx w.heap.size W.heap.size ZL ⟨R, r, L, l⟩ ⟨y1, y2, y3, y4⟩ ∧ LsQ w.heap.size wx A2 n2 c2 ps ∧ LsQ w.heap.size wx (some ⟨G4, 0, none⟩) 4 4 [⟨R, r, L, l⟩, ⟨y1, y2, y3, y4⟩, ⟨a1, a2, a3, a4⟩, ⟨b1, b2, b3, b4⟩])
  case atStart => exact ⟨0, rfl, rfl, E.out, LS0.out, LS4.out⟩
  case round =>
    clear E LS0 LS4
    obtain ⟨k, hkg, rfl, hE, h0, h4⟩ := hrel
    have E := Lib.hid hE; have LS0 := Lib.hid h0; have LS4 := Lib.hid h4
    clear hE h0 h4
    by_cases hk : k < 4
    case pos =>
      have hki : (k : Int) < 4 := by omega
      obtain ⟨x, ⟨k0, k1, k2, k3⟩, hlk⟩ := LS4.out.at_ hk
      go_upto_region 10 with fail
      clear k0 k1 k2 k3 hlk
      have hb := balloc wr (.cells #[.int .i64 x.R, .int .i64 x.r, .int .i64 x.L, .int .i64 x.l] 25)
      -- hb the facts (Below) that all things are carried by
      replace E := Lib.hid (E.out.below hb); replace LS0 := Lib.hid (LS0.out.below hb)
      try (replace LS4 := Lib.hid (LS4.out.below hb))
      try (replace LB := Lib.hid (LB.out.below hb LB.out.lt))
      try (replace LS1 := Lib.hid (LS1.out.below hb))
      try (replace LS2 := Lib.hid (LS2.out.below hb))
      try (replace LS3 := Lib.hid (LS3.out.below hb))
      try (replace DX := Lib.hid (DX.out.below hb DX.out.lt))
      try (replace F1 := Lib.hid (F1.out.below hb F1.out.lt))
      try (replace I1 := Lib.hid (I1.out.ext hb))
      have DX := Lib.hid (Blk.new wr 25 #[.int .i64 x.R, .int .i64 x.r, .int .i64 x.L, .int .i64 x.l])
      generalize hwe : wr.alloc (.cells #[.int .i64 x.R, .int .i64 x.r, .int .i64 x.L, .int .i64 x.l] 25) = wh at *
      clear hwe hb
      generalize wr.heap.size = Zx at *
      obtain ⟨⟨d0, d1, d2, d4⟩, _, hld⟩ := bq4 DX.out
      go_wp2_with fail
      refine (paceK_any x.R x.r x.L x.l _).mono ?_
      clear d0 d1 d2 d4 hld
      rintro e wa ⟨f, er, hS, A3, m3, d3, hmd, rfl, hI, hA, hb⟩
      -- the first result f er A3 m3 d3 lies in a new variable: 11 the region behind, pcS_len its length's law
      have HS := Lib.hid hS
      have hm3 : m3 ≤ 400 := by have h1 := pcS_len hS; have h2 : f.vals.length = m3 := hI.1; omega
      -- hb the facts (Below) that all things are carried by
      replace E := Lib.hid (E.out.below hb); replace LS0 := Lib.hid (LS0.out.below hb)
      try (replace LS4 := Lib.hid (LS4.out.below hb))
      try (replace LB := Lib.hid (LB.out.below hb LB.out.lt))
      try (replace LS1 := Lib.hid (LS1.out.below hb))
      try (replace LS2 := Lib.hid (LS2.out.below hb))
      try (replace LS3 := Lib.hid (LS3.out.below hb))
      try (replace DX := Lib.hid (DX.out.below hb DX.out.lt))
      try (replace F1 := Lib.hid (F1.out.below hb F1.out.lt))
      try (replace I1 := Lib.hid (I1.out.ext hb))
      have hb2 := balloc wa (.cells #[.slice A3 m3 d3, .int .i64 f.per, .int .i64 f.inc] 46)
      -- hb2 the facts (Below) that all things are carried by
      replace E := Lib.hid (E.out.below hb2); replace LS0 := Lib.hid (LS0.out.below hb2)
      try (replace LS4 := Lib.hid (LS4.out.below hb2))
      try (replace LB := Lib.hid (LB.out.below hb2 LB.out.lt))
      try (replace LS1 := Lib.hid (LS1.out.below hb2))
      try (replace LS2 := Lib.hid (LS2.out.below hb2))
      try (replace LS3 := Lib.hid (LS3.out.below hb2))
      try (replace DX := Lib.hid (DX.out.below hb2 DX.out.lt))
      try (replace F1 := Lib.hid (F1.out.below hb2 F1.out.lt))
      try (replace I1 := Lib.hid (I1.out.ext hb2))
      have F1 := Lib.hid (Blk.new wa 46 #[.slice A3 m3 d3, .int .i64 f.per, .int .i64 f.inc])
      have I1 := Lib.hid (hI.alloc' (.cells #[.slice A3 m3 d3, .int .i64 f.per, .int .i64 f.inc] 46))
      clear hS hI hA hb hb2
      go_upto_region 11 with fail
      generalize hwe : wa.alloc (.cells #[.slice A3 m3 d3, .int .i64 f.per, .int .i64 f.inc] 46) = wc at *
      clear hwe
      generalize wa.heap.size = Z3 at *
      obtain ⟨⟨d0, d1, d2, d4⟩, _, hld⟩ := bq4 DX.out
      go_wp2_with fail
      refine (rpace_any x.R x.r x.L x.l _).mono ?_
      clear d0 d1 d2 d4 hld
      rintro e we ⟨g, eg, A5, m5, d5, hS, hmd5, rfl, hI, hA, hb⟩
      -- the second result g eg A5 m5 d5: 12 the region behind, PcS.unique HS.out hS uniqueness
      obtain ⟨e1, e2⟩ := PcS.unique HS.out hS
      subst e1 e2
      have hm5 : m5 ≤ 400 := by have h2 : f.vals.length = m5 := hI.1; have h3 : f.vals.length = m3 := I1.out.1; omega
      -- hb the facts (Below) that all things are carried by
      replace E := Lib.hid (E.out.below hb); replace LS0 := Lib.hid (LS0.out.below hb)
      try (replace LS4 := Lib.hid (LS4.out.below hb))
      try (replace LB := Lib.hid (LB.out.below hb LB.out.lt))
      try (replace LS1 := Lib.hid (LS1.out.below hb))
      try (replace LS2 := Lib.hid (LS2.out.below hb))
      try (replace LS3 := Lib.hid (LS3.out.below hb))
      try (replace DX := Lib.hid (DX.out.below hb DX.out.lt))
      try (replace F1 := Lib.hid (F1.out.below hb F1.out.lt))
      try (replace I1 := Lib.hid (I1.out.ext hb))
      have hb2 := balloc we (.cells #[.slice A5 m5 d5, .int .i64 f.per, .int .i64 f.inc] 46)
      -- hb2 the facts (Below) that all things are carried by
      replace E := Lib.hid (E.out.below hb2); replace LS0 := Lib.hid (LS0.out.below hb2)
      try (replace LS4 := Lib.hid (LS4.out.below hb2))
      try (replace LB := Lib.hid (LB.out.below hb2 LB.out.lt))
      try (replace LS1 := Lib.hid (LS1.out.below hb2))
      try (replace LS2 := Lib.hid (LS2.out.below hb2))
      try (replace LS3 := Lib.hid (LS3.out.below hb2))
      try (replace DX := Lib.hid (DX.out.below hb2 DX.out.lt))
      try (replace F1 := Lib.hid (F1.out.below hb2 F1.out.lt))
      try (replace I1 := Lib.hid (I1.out.ext hb2))
      have F2 := Lib.hid (Blk.new we 46 #[.slice A5 m5 d5, .int .i64 f.per, .int .i64 f.inc])
      have I2 := Lib.hid (hI.alloc' (.cells #[.slice A5 m5 d5, .int .i64 f.per, .int .i64 f.inc] 46))
      clear hS hI hA hb hb2 HS
      go_upto_region 12 with fail
      generalize hwe : we.alloc (.cells #[.slice A5 m5 d5, .int .i64 f.per, .int .i64 f.inc] 46) = wf at *
      clear hwe
      generalize we.heap.size = Z5 at *
      obtain ⟨⟨k0, k1, k2⟩, _, hlk1⟩ := F1.out.c3
      obtain ⟨⟨l0, l1, l2⟩, _, hlk2⟩ := F2.out.c3
      have h9 : (er != er) = false := by simp
      go_wp2_with fail
      refine (refSame_any A3 A5 m3 m5 d3 d5 f.per f.per f.inc f.inc f.vals f.vals _ (by exact I1.out) (by exact I2.out) (by omega) (by omega)).mono ?_
      rw [(Cv.same_iff _ _).2 rfl]
      rintro e wg ⟨rfl, hb⟩
      clear I1 I2 F2 F1 k0 k1 k2 hlk1 l0 l1 l2 hlk2 h9
      -- hb the facts (Below) that all things are carried by
      replace E := Lib.hid (E.out.below hb); replace LS0 := Lib.hid (LS0.out.below hb)
      try (replace LS4 := Lib.hid (LS4.out.below hb))
      try (replace LB := Lib.hid (LB.out.below hb LB.out.lt))
      try (replace LS1 := Lib.hid (LS1.out.below hb))
      try (replace LS2 := Lib.hid (LS2.out.below hb))
      try (replace LS3 := Lib.hid (LS3.out.below hb))
      try (replace DX := Lib.hid (DX.out.below hb DX.out.lt))
      try (replace F1 := Lib.hid (F1.out.below hb F1.out.lt))
      try (replace I1 := Lib.hid (I1.out.ext hb))
      clear hb
      go_wp2_with fail
      go_roundg (gk - 1)
      case measure => omega
      case rel => exact ⟨k + 1, by omega, by go_num, E.out, LS0.out, LS4.out⟩
    case neg =>
      have hki : ¬ (k : Int) < 4 := by omega
      clear LS4 hk hkg
      go_wp2_with fail
      refine (n_any w.heap.size 2 _ (by exact E.out.s) (by omega) (by omega)).mono ?_
      rintro e wa ⟨z, hz0, hz1, rfl, hS, hk⟩
      replace E := Lib.hid (E.out.kept hS hk); replace LS0 := Lib.hid (LS0.out.kept hk)
      obtain ⟨zn, rfl⟩ := Int.eq_ofNat_of_zero_le hz0
      obtain ⟨nm, hnm⟩ : ∃ nm : Nat, nm = 20 + zn := ⟨_, rfl⟩
      have e1 : IntKind.i64.wrap (20 + (zn : Int)) = (nm : Int) := by rw [hnm, IntWalk.i64_in _ (by omega)]; omega
      have hnm1 : nm ≤ 21 := by omega
      obtain ⟨i0, hi0, hz0', hy1, hy2⟩ := info_parts info_pace
      clear hS hk hz0 hz1 hnm hki
      go_upto_region 16 with (at_make; refine wpList_make_full _ rfl _ _ 28 rfl wa.heap.size 25 i0 _ 4 Try.underlying28 hi0 hz0' hy1 .i64 .i64 _ _ nm rfl rfl rfl rfl (by rw [hy2]; omega) (by unfold maxLen; omega) (by simp) ?_; intro wb own1 grow1)
      have hb := (Below.refl wa.heap.size wa).grown grow1 (by simp) (by simp)
      have hps := E.out.s.lt
      have hG0 := E.out.va.blk.lt
      have hG1 := E.out.vl.blk.lt
      have hG2 : w.heap.size ≤ wa.heap.size := E.out.k.size
      have MK := Lib.hid (show MkQ w.heap.size wb 25 wa.heap.size nm [] from ⟨by
        obtain ⟨cs, h1, h2⟩ := blk_made4 own1
        exact ⟨cs, h1, h2, fun j y hy => by simp at hy⟩, by omega⟩)
      have HAG := Lib.hid (show 0 < n2 → ∀ g o, A2 = some ⟨g, o, none⟩ → g ≠ wa.heap.size from fun h0 g o e => by
        have := HAZ.out h0 g o e
        omega)
      replace E := Lib.hid (E.out.below hb); replace LS0 := Lib.hid (LS0.out.below hb)
      clear hi0 hz0' hy1 hy2 own1 grow1 hb e1
      generalize wa.heap.size = G at *
      go_wp2_with fail
      go_loopg [93] nm (fun gg s93 wx => ∃ (k : Nat) (ys : List PN), k + gg = nm ∧ s93 = .int .i64 k ∧ ys.length = k ∧ ME w wx w.heap.size W.heap.size ZL ⟨R, r, L, l⟩ ⟨y1, y2, y3, y4⟩ ∧ LsQ w.heap.size wx A2 n2 c2 ps ∧ MkQ w.heap.size wx 25 G nm ys)
      case atStart => exact ⟨0, [], by omega, rfl, rfl, E.out, LS0.out, MK.out⟩
      case round =>
        clear E LS0 MK
        obtain ⟨k, ys, hkg, rfl, hyl, hE, h0, hM⟩ := hrel
        have E := Lib.hid hE; have LS0 := Lib.hid h0; have MK := Lib.hid hM; have HYL := Lib.hid hyl
        clear hE h0 hM hyl
        by_cases hk : k < nm
        case pos =>
          have hki : (k : Int) < nm := by omega
          obtain ⟨v1, hv1⟩ : ∃ v1 : Int, v1 = 1 + (k : Int) := ⟨_, rfl⟩
          obtain ⟨v2, hv2⟩ : ∃ v2 : Int, v2 = 2 * (k : Int) := ⟨_, rfl⟩
          have e1 : IntKind.i64.wrap (1 + (k : Int)) = v1 := by rw [hv1]; exact IntWalk.i64_in _ (by omega)
          have e2 : IntKind.i64.wrap (2 * (k : Int)) = v2 := by rw [hv2]; exact IntWalk.i64_in _ (by omega)
          obtain ⟨⟨q0, m0⟩, ⟨q1, m1⟩, ⟨q2, m2⟩, ⟨q3, m3⟩, z0, z1, z2, z3⟩ := MK.out.slot hk
          have hGl := MK.out.lt
          have M2 := Lib.hid (MK.out.store (k := k) (y := ⟨v1, 1, v2, 1⟩) HYL.out hk)
          have E2 := Lib.hid (E.out.four (k := k) (x := .int .i64 v1) (y := .int .i64 1) (z := .int .i64 v2) (u := .int .i64 1) hG0 hG1 hps hG2)
          have L2 := Lib.hid (LS0.out.sto (Sto.four G wr k (.int .i64 v1) (.int .i64 1) (.int .i64 v2) (.int .i64 1)) HAG.out)
          clear hv1 hv2 E LS0 MK
          go_wp2_with fail
          go_roundg (gk - 1)
          case measure => omega
          case rel => exact ⟨k + 1, ys ++ [⟨v1, 1, v2, 1⟩], by omega, by go_num, by rw [List.length_append, HYL.out]; rfl, E2.out, L2.out, M2.out⟩
        case neg =>
          have hki : ¬ (k : Int) < nm := by omega
          have hkn : k = nm := by omega
          have LS3 := Lib.hid (MK.out.ls (by rw [HYL.out, hkn]) (by omega))
          clear MK HYL hkn hk hkg
          go_upto_region 21 with fail
          go_cut [127, 128, 129] (fun s127 s128 s129 wx => ∃ (bb G1 G2 : Nat) (ms : List PN), s127 = .slice (some ⟨bb, 0, none⟩) 5 5 ∧ s128 = .int .i64 5 ∧ s129 = .int .i64 0 ∧ ME w wx w.heap.size W.heap.size ZL ⟨R, r, L, l⟩ ⟨y1, y2, y3, y4⟩ ∧ Blk wx bb 28 #[.slice A2 n2 c2, .slice none 0 0, .slice (some ⟨G1, 0, none⟩) 1 1, .slice (some ⟨G2, 0, none⟩) 3 3, .slice (some ⟨G, 0, none⟩) nm nm] ∧ bb ≠ w.heap.size ∧ LsQ w.heap.size wx A2 n2 c2 ps ∧ LsQ w.heap.size wx (some ⟨G1, 0, none⟩) 1 1 [⟨R, r, L, l⟩] ∧ LsQ w.heap.size wx (some ⟨G2, 0, none⟩) 3 3 ms ∧ LsQ w.heap.size wx (some ⟨G, 0, none⟩) nm nm ys)
          case first =>
            replace E := Lib.hid (ME.drew E.out); replace LS0 := Lib.hid (LsQ.drew LS0.out); replace LS3 := Lib.hid (LsQ.drew LS3.out)
            obtain ⟨f0, f1, f2, f3, hlf⟩ := E.out.va.q
            obtain ⟨g0, g1, g2, g3, hlg⟩ := E.out.vl.q
            dsimp only at f0 f1 f2 f3 g0 g1 g2 g3
            refine wp_region_held_drew (S := (fun w' => (w'.cell? ⟨W.heap.size, 0, none⟩ = some (.int .i64 R) ∧ w'.cell? ⟨W.heap.size, 1, none⟩ = some (.int .i64 r) ∧ w'.cell? ⟨W.heap.size, 2, none⟩ = some (.int .i64 L) ∧ w'.cell? ⟨W.heap.size, 3, none⟩ = some (.int .i64 l)) ∧ w'.cell? ⟨ZL, 0, none⟩ = some (.int .i64 y1) ∧ w'.cell? ⟨ZL, 1, none⟩ = some (.int .i64 y2) ∧ w'.cell? ⟨ZL, 2, none⟩ = some (.int .i64 y3) ∧ w'.cell? ⟨ZL, 3, none⟩ = some (.int .i64 y4))) (by kernel_rfl) (by exact ⟨⟨f0, f1, f2, f3⟩, g0, g1, g2, g3⟩) (fun hHeld => ?_)
            clear f0 f1 f2 f3 hlf g0 g1 g2 g3 hlg
            generalize hwd : wr.drew = wd at *
            clear hwd
            obtain ⟨f0, f1, f2, f3, hlf⟩ := E.out.va.q
            obtain ⟨g0, g1, g2, g3, hlg⟩ := E.out.vl.q
            dsimp only at f0 f1 f2 f3 g0 g1 g2 g3
            refine wpAnyH_take (i := 0) (oi := _) (v := ?_) (by simp only [List.getElem?_toArray, List.getElem?_cons_zero]; rfl) (by kernel_rfl) (by kernel_rfl) (by kernel_rfl) (by exact fun _ _ _ h => h) (Or.inl ⟨by rfl, ?_⟩) (by assumption) ?_
            rotate_left 1
            · (intro w hSw; (try dsimp only at hSw); go_simp; try with_reducible rfl)
            all_goals try simp only [Act.put]
            all_goals try simp only [List.setIfInBounds_toArray]
            all_goals try simp only [List.set_cons_succ]
            all_goals try simp only [List.set_cons_zero]
            refine wpAnyH_take (i := 1) (oi := _) (v := ?_) (by simp only [List.getElem?_toArray, List.getElem?_cons_succ, List.getElem?_cons_zero]; rfl) (by kernel_rfl) (by kernel_rfl) (by kernel_rfl) (by exact fun _ _ _ h => h) (Or.inl ⟨by rfl, ?_⟩) (by assumption) ?_
            rotate_left 1
            · (intro w hSw; (try dsimp only at hSw); go_simp; try with_reducible rfl)
            all_goals try simp only [Act.put]
            all_goals try simp only [List.setIfInBounds_toArray]
            all_goals try simp only [List.set_cons_succ]
            all_goals try simp only [List.set_cons_zero]
            refine wpAnyH_take (i := 3) (oi := _) (v := ?_) (by simp only [List.getElem?_toArray, List.getElem?_cons_succ, List.getElem?_cons_zero]; rfl) (by kernel_rfl) (by kernel_rfl) (by kernel_rfl) (by exact fun _ _ _ h => h) (Or.inl ⟨by rfl, ?_⟩) (by assumption) ?_
            rotate_left 1
            · (intro w hSw; (try dsimp only at hSw); go_simp; try with_reducible rfl)
            all_goals try simp only [Act.put]
            all_goals try simp only [List.setIfInBounds_toArray]
            all_goals try simp only [List.set_cons_succ]
            all_goals try simp only [List.set_cons_zero]
            refine wpAnyH_take (i := 5) (oi := _) (v := ?_) (by simp only [List.getElem?_toArray, List.getElem?_cons_succ, List.getElem?_cons_zero]; rfl) (by kernel_rfl) (by kernel_rfl) (by kernel_rfl) (by exact fun _ _ _ h => h) (Or.inl ⟨by rfl, ?_⟩) (by assumption) ?_
            rotate_left 1
            · (intro w hSw; (try dsimp only at hSw); go_simp; try with_reducible rfl)
            all_goals try simp only [Act.put]
            all_goals try simp only [List.setIfInBounds_toArray]
            all_goals try simp only [List.set_cons_succ]
            all_goals try simp only [List.set_cons_zero]
            refine wpAnyH_take (i := 8) (oi := _) (v := ?_) (by simp only [List.getElem?_toArray, List.getElem?_cons_succ, List.getElem?_cons_zero]; rfl) (by kernel_rfl) (by kernel_rfl) (by kernel_rfl) (by exact fun _ _ _ h => h) (Or.inl ⟨by rfl, ?_⟩) (by assumption) ?_
            rotate_left 1
            · (intro w hSw; (try dsimp only at hSw); go_simp; try with_reducible rfl)
            all_goals try simp only [Act.put]
            all_goals try simp only [List.setIfInBounds_toArray]
            all_goals try simp only [List.set_cons_succ]
            all_goals try simp only [List.set_cons_zero]
            refine wpAnyH_take (i := 10) (oi := _) (v := ?_) (by simp only [List.getElem?_toArray, List.getElem?_cons_succ, List.getElem?_cons_zero]; rfl) (by kernel_rfl) (by kernel_rfl) (by kernel_rfl) (by exact fun _ _ _ h => h) (Or.inl ⟨by rfl, ?_⟩) (by assumption) ?_
            rotate_left 1
            · (intro w hSw; (try dsimp only at hSw); go_simp; try with_reducible rfl)
            all_goals try simp only [Act.put]
            all_goals try simp only [List.setIfInBounds_toArray]
            all_goals try simp only [List.set_cons_succ]
            all_goals try simp only [List.set_cons_zero]
            refine wpAnyH_take (i := 13) (oi := _) (v := ?_) (by simp only [List.getElem?_toArray, List.getElem?_cons_succ, List.getElem?_cons_zero]; rfl) (by kernel_rfl) (by kernel_rfl) (by kernel_rfl) (by exact fun _ _ _ h => h) (Or.inl ⟨by rfl, ?_⟩) (by assumption) ?_
            rotate_left 1
            · (intro w hSw; (try dsimp only at hSw); go_simp; try with_reducible rfl)
            all_goals try simp only [Act.put]
            all_goals try simp only [List.setIfInBounds_toArray]
            all_goals try simp only [List.set_cons_succ]
            all_goals try simp only [List.set_cons_zero]
            refine wpAnyH_take (i := 15) (oi := _) (v := ?_) (by simp only [List.getElem?_toArray, List.getElem?_cons_succ, List.getElem?_cons_zero]; rfl) (by kernel_rfl) (by kernel_rfl) (by kernel_rfl) (by exact fun _ _ _ h => h) (Or.inl ⟨by rfl, ?_⟩) (by assumption) ?_
            rotate_left 1
            · (intro w hSw; (try dsimp only at hSw); go_simp; try with_reducible rfl)
            all_goals try simp only [Act.put]
            all_goals try simp only [List.setIfInBounds_toArray]
            all_goals try simp only [List.set_cons_succ]
            all_goals try simp only [List.set_cons_zero]
            refine wpAnyH_take (i := 19) (oi := _) (v := ?_) (by simp only [List.getElem?_toArray, List.getElem?_cons_succ, List.getElem?_cons_zero]; rfl) (by kernel_rfl) (by kernel_rfl) (by kernel_rfl) (by exact fun _ _ _ h => h) (Or.inl ⟨by rfl, ?_⟩) (by assumption) ?_
            rotate_left 1
            · (intro w hSw; (try dsimp only at hSw); go_simp; try with_reducible rfl)
            all_goals try simp only [Act.put]
            all_goals try simp only [List.setIfInBounds_toArray]
            all_goals try simp only [List.set_cons_succ]
            all_goals try simp only [List.set_cons_zero]
            refine wpAnyH_take (i := 22) (oi := _) (v := ?_) (by simp only [List.getElem?_toArray, List.getElem?_cons_succ, List.getElem?_cons_zero]; rfl) (by kernel_rfl) (by kernel_rfl) (by kernel_rfl) (by exact fun _ _ _ h => h) (Or.inl ⟨by rfl, ?_⟩) (by assumption) ?_
            rotate_left 1
            · (intro w hSw; (try dsimp only at hSw); go_simp; try with_reducible rfl)
            all_goals try simp only [Act.put]
            all_goals try simp only [List.setIfInBounds_toArray]
            all_goals try simp only [List.set_cons_succ]
            all_goals try simp only [List.set_cons_zero]
            refine wpAnyH_ready (rs := [2, 4]) (by kernel_rfl) (by simp) ?_
            refine (AllReadyH.cons (by simp only [List.getElem?_toArray, List.getElem?_cons_succ, List.getElem?_cons_zero]; rfl) (fun K hK => ?_) (AllReadyH.cons (by simp only [List.getElem?_toArray, List.getElem?_cons_succ, List.getElem?_cons_zero]; rfl) (fun K hK => ?_) AllReadyH.nil))
            · rw [if_pos (by rfl)]
              go_simp
              have hps := E.out.s.lt
              have hb := balloc wd (.cells #[.int .i64 R, .int .i64 r, .int .i64 L, .int .i64 l] 25)
              have LN := Lib.hid (LsQ.lit (w := wd) hps 25 [⟨R, r, L, l⟩] 1 rfl (by omega))
              generalize hwa : wd.alloc (.cells #[.int .i64 R, .int .i64 r, .int .i64 L, .int .i64 l] 25) = wa at *
              replace LN := Lib.hid (show LsQ w.heap.size wa (some ⟨wd.heap.size, 0, none⟩) 1 1 [⟨R, r, L, l⟩] by rw [← hwa]; exact LN.out)
              clear hwa
              -- hb the facts (Below) that all things are carried by
              replace E := Lib.hid (E.out.below hb); replace LS0 := Lib.hid (LS0.out.below hb)
              try (replace LS4 := Lib.hid (LS4.out.below hb))
              try (replace LB := Lib.hid (LB.out.below hb LB.out.lt))
              try (replace LS1 := Lib.hid (LS1.out.below hb))
              try (replace LS2 := Lib.hid (LS2.out.below hb))
              try (replace LS3 := Lib.hid (LS3.out.below hb))
              try (replace DX := Lib.hid (DX.out.below hb DX.out.lt))
              try (replace F1 := Lib.hid (F1.out.below hb F1.out.lt))
              try (replace I1 := Lib.hid (I1.out.ext hb))
              have LS1 := LN
              generalize wd.heap.size = G1 at *
              clear LN hb hHeld hps
              clear f0 f1 f2 f3 hlf g0 g1 g2 g3 hlg
              obtain ⟨f0, f1, f2, f3, hlf⟩ := E.out.va.q
              obtain ⟨g0, g1, g2, g3, hlg⟩ := E.out.vl.q
              dsimp only at f0 f1 f2 f3 g0 g1 g2 g3
              refine hK.out _ _ (by exact ⟨⟨f0, f1, f2, f3⟩, g0, g1, g2, g3⟩) (fun hHeld => ?_)
              clear hK K
              try simp only [Act.put]
              try simp only [List.setIfInBounds_toArray]
              try simp only [List.set_cons_succ]
              try simp only [List.set_cons_zero]
              refine wpAnyH_ready (rs := [4]) (by kernel_rfl) (by simp) ?_
              refine (AllReadyH.cons (by simp only [List.getElem?_toArray, List.getElem?_cons_succ, List.getElem?_cons_zero]; rfl) (fun K hK => ?_) AllReadyH.nil)
              -- a call of the region: srcFr_any w.heap.size 9 3 _ (by exact E.out.s) (by omega) (by omega) (by omega) (by omega) the contract, wb the world behind, u1 u2 the numbers
              rw [if_pos (by rfl)]
              go_simp
              refine (srcFr_any w.heap.size 9 3 _ (by exact E.out.s) (by omega) (by omega) (by omega) (by omega)).mono ?_
              rintro e wb ⟨u1, u2, _, rfl, hS, hk⟩
              replace E := Lib.hid (E.out.kept hS hk); replace LS0 := Lib.hid (LS0.out.kept hk)
              try (replace LS1 := Lib.hid (LS1.out.kept hk))
              try (replace LS3 := Lib.hid (LS3.out.kept hk))
              clear hS hk hHeld
              clear f0 f1 f2 f3 hlf g0 g1 g2 g3 hlg
              obtain ⟨f0, f1, f2, f3, hlf⟩ := E.out.va.q
              obtain ⟨g0, g1, g2, g3, hlg⟩ := E.out.vl.q
              dsimp only at f0 f1 f2 f3 g0 g1 g2 g3
              refine hK.out _ _ (by exact ⟨⟨f0, f1, f2, f3⟩, g0, g1, g2, g3⟩) (fun hHeld => ?_)
              clear hK K
              try simp only [Act.put]
              try simp only [List.setIfInBounds_toArray]
              try simp only [List.set_cons_succ]
              try simp only [List.set_cons_zero]
              refine wpAnyH_ready (rs := [6]) (by kernel_rfl) (by simp) ?_
              refine (AllReadyH.cons (by simp only [List.getElem?_toArray, List.getElem?_cons_succ, List.getElem?_cons_zero]; rfl) (fun K hK => ?_) AllReadyH.nil)
              -- a call of the region: srcFr_any w.heap.size 9 3 _ (by exact E.out.s) (by omega) (by omega) (by omega) (by omega) the contract, we the world behind, u3 u4 the numbers
              rw [if_pos (by rfl)]
              go_simp
              refine (srcFr_any w.heap.size 9 3 _ (by exact E.out.s) (by omega) (by omega) (by omega) (by omega)).mono ?_
              rintro e we ⟨u3, u4, _, rfl, hS, hk⟩
              replace E := Lib.hid (E.out.kept hS hk); replace LS0 := Lib.hid (LS0.out.kept hk)
              try (replace LS1 := Lib.hid (LS1.out.kept hk))
              try (replace LS3 := Lib.hid (LS3.out.kept hk))
              clear hS hk hHeld
              clear f0 f1 f2 f3 hlf g0 g1 g2 g3 hlg
              obtain ⟨f0, f1, f2, f3, hlf⟩ := E.out.va.q
              obtain ⟨g0, g1, g2, g3, hlg⟩ := E.out.vl.q
              dsimp only at f0 f1 f2 f3 g0 g1 g2 g3
              refine hK.out _ _ (by exact ⟨⟨f0, f1, f2, f3⟩, g0, g1, g2, g3⟩) (fun hHeld => ?_)
              clear hK K
              try simp only [Act.put]
              try simp only [List.setIfInBounds_toArray]
              try simp only [List.set_cons_succ]
              try simp only [List.set_cons_zero]
              refine wpAnyH_take (i := 7) (oi := _) (v := ?_) (by simp only [List.getElem?_toArray, List.getElem?_cons_succ, List.getElem?_cons_zero]; rfl) (by kernel_rfl) (by kernel_rfl) (by kernel_rfl) (by exact fun _ _ _ h => h) (Or.inl ⟨by rfl, ?_⟩) (by assumption) ?_
              rotate_left 1
              · (intro w hSw; (try dsimp only at hSw); go_simp; try with_reducible rfl)
              all_goals try simp only [Act.put]
              all_goals try simp only [List.setIfInBounds_toArray]
              all_goals try simp only [List.set_cons_succ]
              all_goals try simp only [List.set_cons_zero]
              refine wpAnyH_ready (rs := [9]) (by kernel_rfl) (by simp) ?_
              refine (AllReadyH.cons (by simp only [List.getElem?_toArray, List.getElem?_cons_succ, List.getElem?_cons_zero]; rfl) (fun K hK => ?_) AllReadyH.nil)
              -- a call of the region: srcFr_any w.heap.size 9 4 _ (by exact E.out.s) (by omega) (by omega) (by omega) (by omega) the contract, wf the world behind, u5 u6 the numbers
              rw [if_pos (by rfl)]
              go_simp
              refine (srcFr_any w.heap.size 9 4 _ (by exact E.out.s) (by omega) (by omega) (by omega) (by omega)).mono ?_
              rintro e wf ⟨u5, u6, _, rfl, hS, hk⟩
              replace E := Lib.hid (E.out.kept hS hk); replace LS0 := Lib.hid (LS0.out.kept hk)
              try (replace LS1 := Lib.hid (LS1.out.kept hk))
              try (replace LS3 := Lib.hid (LS3.out.kept hk))
              clear hS hk hHeld
              clear f0 f1 f2 f3 hlf g0 g1 g2 g3 hlg
              obtain ⟨f0, f1, f2, f3, hlf⟩ := E.out.va.q
              obtain ⟨g0, g1, g2, g3, hlg⟩ := E.out.vl.q
              dsimp only at f0 f1 f2 f3 g0 g1 g2 g3
              refine hK.out _ _ (by exact ⟨⟨f0, f1, f2, f3⟩, g0, g1, g2, g3⟩) (fun hHeld => ?_)
              clear hK K
              try simp only [Act.put]
              try simp only [List.setIfInBounds_toArray]
              try simp only [List.set_cons_succ]
              try simp only [List.set_cons_zero]
              refine wpAnyH_ready (rs := [11]) (by kernel_rfl) (by simp) ?_
              refine (AllReadyH.cons (by simp only [List.getElem?_toArray, List.getElem?_cons_succ, List.getElem?_cons_zero]; rfl) (fun K hK => ?_) AllReadyH.nil)
              -- a call of the region: srcFr_any w.heap.size 9 2 _ (by exact E.out.s) (by omega) (by omega) (by omega) (by omega) the contract, wg the world behind, u7 u8 the numbers
              rw [if_pos (by rfl)]
              go_simp
              refine (srcFr_any w.heap.size 9 2 _ (by exact E.out.s) (by omega) (by omega) (by omega) (by omega)).mono ?_
              rintro e wg ⟨u7, u8, _, rfl, hS, hk⟩
              replace E := Lib.hid (E.out.kept hS hk); replace LS0 := Lib.hid (LS0.out.kept hk)
              try (replace LS1 := Lib.hid (LS1.out.kept hk))
              try (replace LS3 := Lib.hid (LS3.out.kept hk))
              clear hS hk hHeld
              clear f0 f1 f2 f3 hlf g0 g1 g2 g3 hlg
              obtain ⟨f0, f1, f2, f3, hlf⟩ := E.out.va.q
              obtain ⟨g0, g1, g2, g3, hlg⟩ := E.out.vl.q
              dsimp only at f0 f1 f2 f3 g0 g1 g2 g3
              refine hK.out _ _ (by exact ⟨⟨f0, f1, f2, f3⟩, g0, g1, g2, g3⟩) (fun hHeld => ?_)
              clear hK K
              try simp only [Act.put]
              try simp only [List.setIfInBounds_toArray]
              try simp only [List.set_cons_succ]
              try simp only [List.set_cons_zero]
              refine wpAnyH_take (i := 12) (oi := _) (v := ?_) (by simp only [List.getElem?_toArray, List.getElem?_cons_succ, List.getElem?_cons_zero]; rfl) (by kernel_rfl) (by kernel_rfl) (by kernel_rfl) (by exact fun _ _ _ h => h) (Or.inl ⟨by rfl, ?_⟩) (by assumption) ?_
              rotate_left 1
              · (intro w hSw; (try dsimp only at hSw); go_simp; try with_reducible rfl)
              all_goals try simp only [Act.put]
              all_goals try simp only [List.setIfInBounds_toArray]
              all_goals try simp only [List.set_cons_succ]
              all_goals try simp only [List.set_cons_zero]
              refine wpAnyH_ready (rs := [14]) (by kernel_rfl) (by simp) ?_
              refine (AllReadyH.cons (by simp only [List.getElem?_toArray, List.getElem?_cons_succ, List.getElem?_cons_zero]; rfl) (fun K hK => ?_) AllReadyH.nil)
              -- a call of the region: ratio12_any w.heap.size _ (by exact E.out.s) the contract, wh the world behind, u9 u10 the numbers
              rw [if_pos (by rfl)]
              go_simp
              refine (ratio12_any w.heap.size _ (by exact E.out.s)).mono ?_
              rintro e wh ⟨u9, u10, _, rfl, hS, hk⟩
              replace E := Lib.hid (E.out.kept hS hk); replace LS0 := Lib.hid (LS0.out.kept hk)
              try (replace LS1 := Lib.hid (LS1.out.kept hk))
              try (replace LS3 := Lib.hid (LS3.out.kept hk))
              clear hS hk hHeld
              clear f0 f1 f2 f3 hlf g0 g1 g2 g3 hlg
              obtain ⟨f0, f1, f2, f3, hlf⟩ := E.out.va.q
              obtain ⟨g0, g1, g2, g3, hlg⟩ := E.out.vl.q
              dsimp only at f0 f1 f2 f3 g0 g1 g2 g3
              refine hK.out _ _ (by exact ⟨⟨f0, f1, f2, f3⟩, g0, g1, g2, g3⟩) (fun hHeld => ?_)
              clear hK K
              try simp only [Act.put]
              try simp only [List.setIfInBounds_toArray]
              try simp only [List.set_cons_succ]
              try simp only [List.set_cons_zero]
              refine wpAnyH_ready (rs := [16]) (by kernel_rfl) (by simp) ?_
              refine (AllReadyH.cons (by simp only [List.getElem?_toArray, List.getElem?_cons_succ, List.getElem?_cons_zero]; rfl) (fun K hK => ?_) AllReadyH.nil)
              -- a call of the region: srcFr_any w.heap.size 9 2 _ (by exact E.out.s) (by omega) (by omega) (by omega) (by omega) the contract, wi the world behind, u11 u12 the numbers
              rw [if_pos (by rfl)]
              go_simp
              refine (srcFr_any w.heap.size 9 2 _ (by exact E.out.s) (by omega) (by omega) (by omega) (by omega)).mono ?_
              rintro e wi ⟨u11, u12, _, rfl, hS, hk⟩
              replace E := Lib.hid (E.out.kept hS hk); replace LS0 := Lib.hid (LS0.out.kept hk)
              try (replace LS1 := Lib.hid (LS1.out.kept hk))
              try (replace LS3 := Lib.hid (LS3.out.kept hk))
              clear hS hk hHeld
              clear f0 f1 f2 f3 hlf g0 g1 g2 g3 hlg
              obtain ⟨f0, f1, f2, f3, hlf⟩ := E.out.va.q
              obtain ⟨g0, g1, g2, g3, hlg⟩ := E.out.vl.q
              dsimp only at f0 f1 f2 f3 g0 g1 g2 g3
              refine hK.out _ _ (by exact ⟨⟨f0, f1, f2, f3⟩, g0, g1, g2, g3⟩) (fun hHeld => ?_)
              clear hK K
              try simp only [Act.put]
              try simp only [List.setIfInBounds_toArray]
              try simp only [List.set_cons_succ]
              try simp only [List.set_cons_zero]
              refine wpAnyH_take (i := 17) (oi := _) (v := ?_) (by simp only [List.getElem?_toArray, List.getElem?_cons_succ, List.getElem?_cons_zero]; rfl) (by kernel_rfl) (by kernel_rfl) (by kernel_rfl) (by exact fun _ _ _ h => h) (Or.inl ⟨by rfl, ?_⟩) (by assumption) ?_
              rotate_left 1
              · (intro w hSw; (try dsimp only at hSw); go_simp; try with_reducible rfl)
              all_goals try simp only [Act.put]
              all_goals try simp only [List.setIfInBounds_toArray]
              all_goals try simp only [List.set_cons_succ]
              all_goals try simp only [List.set_cons_zero]
              refine wpAnyH_ready (rs := [18]) (by kernel_rfl) (by simp) ?_
              refine (AllReadyH.cons (by simp only [List.getElem?_toArray, List.getElem?_cons_succ, List.getElem?_cons_zero]; rfl) (fun K hK => ?_) AllReadyH.nil)
              rw [if_pos (by rfl)]
              go_simp
              have hps := E.out.s.lt
              have hb := balloc wi (.cells #[.int .i64 u1, .int .i64 u2, .int .i64 u3, .int .i64 u4, .int .i64 u5, .int .i64 u6, .int .i64 u7, .int .i64 u8, .int .i64 u9, .int .i64 u10, .int .i64 u11, .int .i64 u12] 25)
              have LN := Lib.hid (LsQ.lit (w := wi) hps 25 [⟨u1, u2, u3, u4⟩, ⟨u5, u6, u7, u8⟩, ⟨u9, u10, u11, u12⟩] 3 rfl (by omega))
              generalize hwa : wi.alloc (.cells #[.int .i64 u1, .int .i64 u2, .int .i64 u3, .int .i64 u4, .int .i64 u5, .int .i64 u6, .int .i64 u7, .int .i64 u8, .int .i64 u9, .int .i64 u10, .int .i64 u11, .int .i64 u12] 25) = wj at *
              replace LN := Lib.hid (show LsQ w.heap.size wj (some ⟨wi.heap.size, 0, none⟩) 3 3 [⟨u1, u2, u3, u4⟩, ⟨u5, u6, u7, u8⟩, ⟨u9, u10, u11, u12⟩] by rw [← hwa]; exact LN.out)
              clear hwa
              -- hb the facts (Below) that all things are carried by
              replace E := Lib.hid (E.out.below hb); replace LS0 := Lib.hid (LS0.out.below hb)
              try (replace LS4 := Lib.hid (LS4.out.below hb))
              try (replace LB := Lib.hid (LB.out.below hb LB.out.lt))
              try (replace LS1 := Lib.hid (LS1.out.below hb))
              try (replace LS2 := Lib.hid (LS2.out.below hb))
              try (replace LS3 := Lib.hid (LS3.out.below hb))
              try (replace DX := Lib.hid (DX.out.below hb DX.out.lt))
              try (replace F1 := Lib.hid (F1.out.below hb F1.out.lt))
              try (replace I1 := Lib.hid (I1.out.ext hb))
              have LS2 := LN
              generalize wi.heap.size = G2 at *
              clear LN hb hHeld hps
              clear f0 f1 f2 f3 hlf g0 g1 g2 g3 hlg
              obtain ⟨f0, f1, f2, f3, hlf⟩ := E.out.va.q
              obtain ⟨g0, g1, g2, g3, hlg⟩ := E.out.vl.q
              dsimp only at f0 f1 f2 f3 g0 g1 g2 g3
              refine hK.out _ _ (by exact ⟨⟨f0, f1, f2, f3⟩, g0, g1, g2, g3⟩) (fun hHeld => ?_)
              clear hK K
              try simp only [Act.put]
              try simp only [List.setIfInBounds_toArray]
              try simp only [List.set_cons_succ]
              try simp only [List.set_cons_zero]
              refine wpAnyH_ready (rs := [20]) (by kernel_rfl) (by simp) ?_
              refine (AllReadyH.cons (by simp only [List.getElem?_toArray, List.getElem?_cons_succ, List.getElem?_cons_zero]; rfl) (fun K hK => ?_) AllReadyH.nil)
              rw [if_pos (by rfl)]
              go_simp
              have hps := E.out.s.lt
              have hb := balloc wj (.cells #[.slice A2 n2 c2, .slice none 0 0, .slice (some ⟨G1, 0, none⟩) 1 1, .slice (some ⟨G2, 0, none⟩) 3 3, .slice (some ⟨G, 0, none⟩) nm nm] 28)
              have LL := Lib.hid (Blk.new wj 28 #[.slice A2 n2 c2, .slice none 0 0, .slice (some ⟨G1, 0, none⟩) 1 1, .slice (some ⟨G2, 0, none⟩) 3 3, .slice (some ⟨G, 0, none⟩) nm nm])
              generalize hwa : wj.alloc (.cells #[.slice A2 n2 c2, .slice none 0 0, .slice (some ⟨G1, 0, none⟩) 1 1, .slice (some ⟨G2, 0, none⟩) 3 3, .slice (some ⟨G, 0, none⟩) nm nm] 28) = wz at *
              clear hwa
              -- hb the facts (Below) that all things are carried by
              replace E := Lib.hid (E.out.below hb); replace LS0 := Lib.hid (LS0.out.below hb)
              try (replace LS4 := Lib.hid (LS4.out.below hb))
              try (replace LB := Lib.hid (LB.out.below hb LB.out.lt))
              try (replace LS1 := Lib.hid (LS1.out.below hb))
              try (replace LS2 := Lib.hid (LS2.out.below hb))
              try (replace LS3 := Lib.hid (LS3.out.below hb))
              try (replace DX := Lib.hid (DX.out.below hb DX.out.lt))
              try (replace F1 := Lib.hid (F1.out.below hb F1.out.lt))
              try (replace I1 := Lib.hid (I1.out.ext hb))
              generalize wj.heap.size = bb at *
              clear hb hHeld
              clear f0 f1 f2 f3 hlf g0 g1 g2 g3 hlg
              obtain ⟨f0, f1, f2, f3, hlf⟩ := E.out.va.q
              obtain ⟨g0, g1, g2, g3, hlg⟩ := E.out.vl.q
              dsimp only at f0 f1 f2 f3 g0 g1 g2 g3
              refine hK.out _ _ (by exact ⟨⟨f0, f1, f2, f3⟩, g0, g1, g2, g3⟩) (fun hHeld => ?_)
              clear hK K
              try simp only [Act.put]
              try simp only [List.setIfInBounds_toArray]
              try simp only [List.set_cons_succ]
              try simp only [List.set_cons_zero]
              refine wpAnyH_take (i := 21) (oi := _) (v := ?_) (by simp only [List.getElem?_toArray, List.getElem?_cons_succ, List.getElem?_cons_zero]; rfl) (by kernel_rfl) (by kernel_rfl) (by kernel_rfl) (by exact fun _ _ _ h => h) (Or.inl ⟨by rfl, ?_⟩) (by assumption) ?_
              rotate_left 1
              · (intro w hSw; (try dsimp only at hSw); go_simp; try with_reducible rfl)
              all_goals try simp only [Act.put]
              all_goals try simp only [List.setIfInBounds_toArray]
              all_goals try simp only [List.set_cons_succ]
              all_goals try simp only [List.set_cons_zero]
              refine wpAnyH_done (by kernel_rfl) ?_ _
              clear hHeld
              clear f0 f1 f2 f3 hlf g0 g1 g2 g3 hlg
              go_wp2_with fail
              go_meet
              exact ⟨bb, G1, G2, _, rfl, rfl, rfl, E.out, LL.out, Nat.ne_of_gt hps, LS0.out, LS1.out, LS2.out, LS3.out⟩
            · -- a call of the region: srcFr_any w.heap.size 9 3 _ (by exact E.out.s) (by omega) (by omega) (by omega) (by omega) the contract, wa the world behind, u1 u2 the numbers
              rw [if_pos (by rfl)]
              go_simp
              refine (srcFr_any w.heap.size 9 3 _ (by exact E.out.s) (by omega) (by omega) (by omega) (by omega)).mono ?_
              rintro e wa ⟨u1, u2, _, rfl, hS, hk⟩
              replace E := Lib.hid (E.out.kept hS hk); replace LS0 := Lib.hid (LS0.out.kept hk)
              try (replace LS1 := Lib.hid (LS1.out.kept hk))
              try (replace LS3 := Lib.hid (LS3.out.kept hk))
              clear hS hk hHeld
              clear f0 f1 f2 f3 hlf g0 g1 g2 g3 hlg
              obtain ⟨f0, f1, f2, f3, hlf⟩ := E.out.va.q
              obtain ⟨g0, g1, g2, g3, hlg⟩ := E.out.vl.q
              dsimp only at f0 f1 f2 f3 g0 g1 g2 g3
              refine hK.out _ _ (by exact ⟨⟨f0, f1, f2, f3⟩, g0, g1, g2, g3⟩) (fun hHeld => ?_)
              clear hK K
              try simp only [Act.put]
              try simp only [List.setIfInBounds_toArray]
              try simp only [List.set_cons_succ]
              try simp only [List.set_cons_zero]
              refine wpAnyH_ready (rs := [2, 6]) (by kernel_rfl) (by simp) ?_
              refine (AllReadyH.cons (by simp only [List.getElem?_toArray, List.getElem?_cons_succ, List.getElem?_cons_zero]; rfl) (fun K hK => ?_) (AllReadyH.cons (by simp only [List.getElem?_toArray, List.getElem?_cons_succ, List.getElem?_cons_zero]; rfl) (fun K hK => ?_) AllReadyH.nil))
              · rw [if_pos (by rfl)]
                go_simp
                have hps := E.out.s.lt
                have hb := balloc wa (.cells #[.int .i64 R, .int .i64 r, .int .i64 L, .int .i64 l] 25)
                have LN := Lib.hid (LsQ.lit (w := wa) hps 25 [⟨R, r, L, l⟩] 1 rfl (by omega))
                generalize hwa : wa.alloc (.cells #[.int .i64 R, .int .i64 r, .int .i64 L, .int .i64 l] 25) = wb at *
                replace LN := Lib.hid (show LsQ w.heap.size wb (some ⟨wa.heap.size, 0, none⟩) 1 1 [⟨R, r, L, l⟩] by rw [← hwa]; exact LN.out)
                clear hwa
                -- hb the facts (Below) that all things are carried by
                replace E := Lib.hid (E.out.below hb); replace LS0 := Lib.hid (LS0.out.below hb)
                try (replace LS4 := Lib.hid (LS4.out.below hb))
                try (replace LB := Lib.hid (LB.out.below hb LB.out.lt))
                try (replace LS1 := Lib.hid (LS1.out.below hb))
                try (replace LS2 := Lib.hid (LS2.out.below hb))
                try (replace LS3 := Lib.hid (LS3.out.below hb))
                try (replace DX := Lib.hid (DX.out.below hb DX.out.lt))
                try (replace F1 := Lib.hid (F1.out.below hb F1.out.lt))
                try (replace I1 := Lib.hid (I1.out.ext hb))
                have LS1 := LN
                generalize wa.heap.size = G1 at *
                clear LN hb hHeld hps
                clear f0 f1 f2 f3 hlf g0 g1 g2 g3 hlg
                obtain ⟨f0, f1, f2, f3, hlf⟩ := E.out.va.q
                obtain ⟨g0, g1, g2, g3, hlg⟩ := E.out.vl.q
                dsimp only at f0 f1 f2 f3 g0 g1 g2 g3
                refine hK.out _ _ (by exact ⟨⟨f0, f1, f2, f3⟩, g0, g1, g2, g3⟩) (fun hHeld => ?_)
                clear hK K
                try simp only [Act.put]
                try simp only [List.setIfInBounds_toArray]
                try simp only [List.set_cons_succ]
                try simp only [List.set_cons_zero]
                refine wpAnyH_ready (rs := [6]) (by kernel_rfl) (by simp) ?_
                refine (AllReadyH.cons (by simp only [List.getElem?_toArray, List.getElem?_cons_succ, List.getElem?_cons_zero]; rfl) (fun K hK => ?_) AllReadyH.nil)
                -- a call of the region: srcFr_any w.heap.size 9 3 _ (by exact E.out.s) (by omega) (by omega) (by omega) (by omega) the contract, we the world behind, u3 u4 the numbers
                rw [if_pos (by rfl)]
                go_simp
                refine (srcFr_any w.heap.size 9 3 _ (by exact E.out.s) (by omega) (by omega) (by omega) (by omega)).mono ?_
                rintro e we ⟨u3, u4, _, rfl, hS, hk⟩
                replace E := Lib.hid (E.out.kept hS hk); replace LS0 := Lib.hid (LS0.out.kept hk)
                try (replace LS1 := Lib.hid (LS1.out.kept hk))
                try (replace LS3 := Lib.hid (LS3.out.kept hk))
                clear hS hk hHeld
                clear f0 f1 f2 f3 hlf g0 g1 g2 g3 hlg
                obtain ⟨f0, f1, f2, f3, hlf⟩ := E.out.va.q
                obtain ⟨g0, g1, g2, g3, hlg⟩ := E.out.vl.q
                dsimp only at f0 f1 f2 f3 g0 g1 g2 g3
                refine hK.out _ _ (by exact ⟨⟨f0, f1, f2, f3⟩, g0, g1, g2, g3⟩) (fun hHeld => ?_)
                clear hK K
                try simp only [Act.put]
                try simp only [List.setIfInBounds_toArray]
                try simp only [List.set_cons_succ]
                try simp only [List.set_cons_zero]
                refine wpAnyH_take (i := 7) (oi := _) (v := ?_) (by simp only [List.getElem?_toArray, List.getElem?_cons_succ, List.getElem?_cons_zero]; rfl) (by kernel_rfl) (by kernel_rfl) (by kernel_rfl) (by exact fun _ _ _ h => h) (Or.inl ⟨by rfl, ?_⟩) (by assumption) ?_
                rotate_left 1
                · (intro w hSw; (try dsimp only at hSw); go_simp; try with_reducible rfl)
                all_goals try simp only [Act.put]
                all_goals try simp only [List.setIfInBounds_toArray]
                all_goals try simp only [List.set_cons_succ]
                all_goals try simp only [List.set_cons_zero]
                refine wpAnyH_ready (rs := [9]) (by kernel_rfl) (by simp) ?_
                refine (AllReadyH.cons (by simp only [List.getElem?_toArray, List.getElem?_cons_succ, List.getElem?_cons_zero]; rfl) (fun K hK => ?_) AllReadyH.nil)
                -- a call of the region: srcFr_any w.heap.size 9 4 _ (by exact E.out.s) (by omega) (by omega) (by omega) (by omega) the contract, wf the world behind, u5 u6 the numbers
                rw [if_pos (by rfl)]
                go_simp
                refine (srcFr_any w.heap.size 9 4 _ (by exact E.out.s) (by omega) (by omega) (by omega) (by omega)).mono ?_
                rintro e wf ⟨u5, u6, _, rfl, hS, hk⟩
                replace E := Lib.hid (E.out.kept hS hk); replace LS0 := Lib.hid (LS0.out.kept hk)
                try (replace LS1 := Lib.hid (LS1.out.kept hk))
                try (replace LS3 := Lib.hid (LS3.out.kept hk))
                clear hS hk hHeld
                clear f0 f1 f2 f3 hlf g0 g1 g2 g3 hlg
                obtain ⟨f0, f1, f2, f3, hlf⟩ := E.out.va.q
                obtain ⟨g0, g1, g2, g3, hlg⟩ := E.out.vl.q
                dsimp only at f0 f1 f2 f3 g0 g1 g2 g3
                refine hK.out _ _ (by exact ⟨⟨f0, f1, f2, f3⟩, g0, g1, g2, g3⟩) (fun hHeld => ?_)
                clear hK K
                try simp only [Act.put]
                try simp only [List.setIfInBounds_toArray]
                try simp only [List.set_cons_succ]
                try simp only [List.set_cons_zero]
                refine wpAnyH_ready (rs := [11]) (by kernel_rfl) (by simp) ?_
                refine (AllReadyH.cons (by simp only [List.getElem?_toArray, List.getElem?_cons_succ, List.getElem?_cons_zero]; rfl) (fun K hK => ?_) AllReadyH.nil)
                -- a call of the region: srcFr_any w.heap.size 9 2 _ (by exact E.out.s) (by omega) (by omega) (by omega) (by omega) the contract, wg the world behind, u7 u8 the numbers
                rw [if_pos (by rfl)]
                go_simp
                refine (srcFr_any w.heap.size 9 2 _ (by exact E.out.s) (by omega) (by omega) (by omega) (by omega)).mono ?_
                rintro e wg ⟨u7, u8, _, rfl, hS, hk⟩
                replace E := Lib.hid (E.out.kept hS hk); replace LS0 := Lib.hid (LS0.out.kept hk)
                try (replace LS1 := Lib.hid (LS1.out.kept hk))
                try (replace LS3 := Lib.hid (LS3.out.kept hk))
                clear hS hk hHeld
                clear f0 f1 f2 f3 hlf g0 g1 g2 g3 hlg
                obtain ⟨f0, f1, f2, f3, hlf⟩ := E.out.va.q
                obtain ⟨g0, g1, g2, g3, hlg⟩ := E.out.vl.q
                dsimp only at f0 f1 f2 f3 g0 g1 g2 g3
                refine hK.out _ _ (by exact ⟨⟨f0, f1, f2, f3⟩, g0, g1, g2, g3⟩) (fun hHeld => ?_)
                clear hK K
                try simp only [Act.put]
                try simp only [List.setIfInBounds_toArray]
                try simp only [List.set_cons_succ]
                try simp only [List.set_cons_zero]
                refine wpAnyH_take (i := 12) (oi := _) (v := ?_) (by simp only [List.getElem?_toArray, List.getElem?_cons_succ, List.getElem?_cons_zero]; rfl) (by kernel_rfl) (by kernel_rfl) (by kernel_rfl) (by exact fun _ _ _ h => h) (Or.inl ⟨by rfl, ?_⟩) (by assumption) ?_
                rotate_left 1
                · (intro w hSw; (try dsimp only at hSw); go_simp; try with_reducible rfl)
                all_goals try simp only [Act.put]
                all_goals try simp only [List.setIfInBounds_toArray]
                all_goals try simp only [List.set_cons_succ]
                all_goals try simp only [List.set_cons_zero]
                refine wpAnyH_ready (rs := [14]) (by kernel_rfl) (by simp) ?_
                refine (AllReadyH.cons (by simp only [List.getElem?_toArray, List.getElem?_cons_succ, List.getElem?_cons_zero]; rfl) (fun K hK => ?_) AllReadyH.nil)
                -- a call of the region: ratio12_any w.heap.size _ (by exact E.out.s) the contract, wh the world behind, u9 u10 the numbers
                rw [if_pos (by rfl)]
                go_simp
                refine (ratio12_any w.heap.size _ (by exact E.out.s)).mono ?_
                rintro e wh ⟨u9, u10, _, rfl, hS, hk⟩
                replace E := Lib.hid (E.out.kept hS hk); replace LS0 := Lib.hid (LS0.out.kept hk)
                try (replace LS1 := Lib.hid (LS1.out.kept hk))
                try (replace LS3 := Lib.hid (LS3.out.kept hk))
                clear hS hk hHeld
                clear f0 f1 f2 f3 hlf g0 g1 g2 g3 hlg
                obtain ⟨f0, f1, f2, f3, hlf⟩ := E.out.va.q
                obtain ⟨g0, g1, g2, g3, hlg⟩ := E.out.vl.q
                dsimp only at f0 f1 f2 f3 g0 g1 g2 g3
                refine hK.out _ _ (by exact ⟨⟨f0, f1, f2, f3⟩, g0, g1, g2, g3⟩) (fun hHeld => ?_)
                clear hK K
                try simp only [Act.put]
                try simp only [List.setIfInBounds_toArray]
                try simp only [List.set_cons_succ]
                try simp only [List.set_cons_zero]
                refine wpAnyH_ready (rs := [16]) (by kernel_rfl) (by simp) ?_
                refine (AllReadyH.cons (by simp only [List.getElem?_toArray, List.getElem?_cons_succ, List.getElem?_cons_zero]; rfl) (fun K hK => ?_) AllReadyH.nil)
                -- a call of the region: srcFr_any w.heap.size 9 2 _ (by exact E.out.s) (by omega) (by omega) (by omega) (by omega) the contract, wi the world behind, u11 u12 the numbers
                rw [if_pos (by rfl)]
                go_simp
                refine (srcFr_any w.heap.size 9 2 _ (by exact E.out.s) (by omega) (by omega) (by omega) (by omega)).mono ?_
                rintro e wi ⟨u11, u12, _, rfl, hS, hk⟩
                replace E := Lib.hid (E.out.kept hS hk); replace LS0 := Lib.hid (LS0.out.kept hk)
                try (replace LS1 := Lib.hid (LS1.out.kept hk))
                try (replace LS3 := Lib.hid (LS3.out.kept hk))
                clear hS hk hHeld
                clear f0 f1 f2 f3 hlf g0 g1 g2 g3 hlg
                obtain ⟨f0, f1, f2, f3, hlf⟩ := E.out.va.q
                obtain ⟨g0, g1, g2, g3, hlg⟩ := E.out.vl.q
                dsimp only at f0 f1 f2 f3 g0 g1 g2 g3
                refine hK.out _ _ (by exact ⟨⟨f0, f1, f2, f3⟩, g0, g1, g2, g3⟩) (fun hHeld => ?_)
                clear hK K
                try simp only [Act.put]
                try simp only [List.setIfInBounds_toArray]
                try simp only [List.set_cons_succ]
                try simp only [List.set_cons_zero]
                refine wpAnyH_take (i := 17) (oi := _) (v := ?_) (by simp only [List.getElem?_toArray, List.getElem?_cons_succ, List.getElem?_cons_zero]; rfl) (by kernel_rfl) (by kernel_rfl) (by kernel_rfl) (by exact fun _ _ _ h => h) (Or.inl ⟨by rfl, ?_⟩) (by assumption) ?_
                rotate_left 1
                · (intro w hSw; (try dsimp only at hSw); go_simp; try with_reducible rfl)
                all_goals try simp only [Act.put]
                all_goals try simp only [List.setIfInBounds_toArray]
                all_goals try simp only [List.set_cons_succ]
                all_goals try simp only [List.set_cons_zero]
                refine wpAnyH_ready (rs := [18]) (by kernel_rfl) (by simp) ?_
                refine (AllReadyH.cons (by simp only [List.getElem?_toArray, List.getElem?_cons_succ, List.getElem?_cons_zero]; rfl) (fun K hK => ?_) AllReadyH.nil)
                rw [if_pos (by rfl)]
                go_simp
                have hps := E.out.s.lt
                have hb := balloc wi (.cells #[.int .i64 u1, .int .i64 u2, .int .i64 u3, .int .i64 u4, .int .i64 u5, .int .i64 u6, .int .i64 u7, .int .i64 u8, .int .i64 u9, .int .i64 u10, .int .i64 u11, .int .i64 u12] 25)
                have LN := Lib.hid (LsQ.lit (w := wi) hps 25 [⟨u1, u2, u3, u4⟩, ⟨u5, u6, u7, u8⟩, ⟨u9, u10, u11, u12⟩] 3 rfl (by omega))
                generalize hwa : wi.alloc (.cells #[.int .i64 u1, .int .i64 u2, .int .i64 u3, .int .i64 u4, .int .i64 u5, .int .i64 u6, .int .i64 u7, .int .i64 u8, .int .i64 u9, .int .i64 u10, .int .i64 u11, .int .i64 u12] 25) = wj at *
                replace LN := Lib.hid (show LsQ w.heap.size wj (some ⟨wi.heap.size, 0, none⟩) 3 3 [⟨u1, u2, u3, u4⟩, ⟨u5, u6, u7, u8⟩, ⟨u9, u10, u11, u12⟩] by rw [← hwa]; exact LN.out)
                clear hwa
                -- hb the facts (Below) that all things are carried by
                replace E := Lib.hid (E.out.below hb); replace LS0 := Lib.hid (LS0.out.below hb)
                try (replace LS4 := Lib.hid (LS4.out.below hb))
                try (replace LB := Lib.hid (LB.out.below hb LB.out.lt))
                try (replace LS1 := Lib.hid (LS1.out.below hb))
                try (replace LS2 := Lib.hid (LS2.out.below hb))
                try (replace LS3 := Lib.hid (LS3.out.below hb))
                try (replace DX := Lib.hid (DX.out.below hb DX.out.lt))
                try (replace F1 := Lib.hid (F1.out.below hb F1.out.lt))
                try (replace I1 := Lib.hid (I1.out.ext hb))
                have LS2 := LN
                generalize wi.heap.size = G2 at *
                clear LN hb hHeld hps
                clear f0 f1 f2 f3 hlf g0 g1 g2 g3 hlg
                obtain ⟨f0, f1, f2, f3, hlf⟩ := E.out.va.q
                obtain ⟨g0, g1, g2, g3, hlg⟩ := E.out.vl.q
                dsimp only at f0 f1 f2 f3 g0 g1 g2 g3
                refine hK.out _ _ (by exact ⟨⟨f0, f1, f2, f3⟩, g0, g1, g2, g3⟩) (fun hHeld => ?_)
                clear hK K
                try simp only [Act.put]
                try simp only [List.setIfInBounds_toArray]
                try simp only [List.set_cons_succ]
                try simp only [List.set_cons_zero]
                refine wpAnyH_ready (rs := [20]) (by kernel_rfl) (by simp) ?_
                refine (AllReadyH.cons (by simp only [List.getElem?_toArray, List.getElem?_cons_succ, List.getElem?_cons_zero]; rfl) (fun K hK => ?_) AllReadyH.nil)
                rw [if_pos (by rfl)]
                go_simp
                have hps := E.out.s.lt
                have hb := balloc wj (.cells #[.slice A2 n2 c2, .slice none 0 0, .slice (some ⟨G1, 0, none⟩) 1 1, .slice (some ⟨G2, 0, none⟩) 3 3, .slice (some ⟨G, 0, none⟩) nm nm] 28)
                have LL := Lib.hid (Blk.new wj 28 #[.slice A2 n2 c2, .slice none 0 0, .slice (some ⟨G1, 0, none⟩) 1 1, .slice (some ⟨G2, 0, none⟩) 3 3, .slice (some ⟨G, 0, none⟩) nm nm])
                generalize hwa : wj.alloc (.cells #[.slice A2 n2 c2, .slice none 0 0, .slice (some ⟨G1, 0, none⟩) 1 1, .slice (some ⟨G2, 0, none⟩) 3 3, .slice (some ⟨G, 0, none⟩) nm nm] 28) = wz at *
                clear hwa
                -- hb the facts (Below) that all things are carried by
                replace E := Lib.hid (E.out.below hb); replace LS0 := Lib.hid (LS0.out.below hb)
                try (replace LS4 := Lib.hid (LS4.out.below hb))
                try (replace LB := Lib.hid (LB.out.below hb LB.out.lt))
                try (replace LS1 := Lib.hid (LS1.out.below hb))
                try (replace LS2 := Lib.hid (LS2.out.below hb))
                try (replace LS3 := Lib.hid (LS3.out.below hb))
                try (replace DX := Lib.hid (DX.out.below hb DX.out.lt))
                try (replace F1 := Lib.hid (F1.out.below hb F1.out.lt))
                try (replace I1 := Lib.hid (I1.out.ext hb))
                generalize wj.heap.size = bb at *
                clear hb hHeld
                clear f0 f1 f2 f3 hlf g0 g1 g2 g3 hlg
                obtain ⟨f0, f1, f2, f3, hlf⟩ := E.out.va.q
                obtain ⟨g0, g1, g2, g3, hlg⟩ := E.out.vl.q
                dsimp only at f0 f1 f2 f3 g0 g1 g2 g3
                refine hK.out _ _ (by exact ⟨⟨f0, f1, f2, f3⟩, g0, g1, g2, g3⟩) (fun hHeld => ?_)
                clear hK K
                try simp only [Act.put]
                try simp only [List.setIfInBounds_toArray]
                try simp only [List.set_cons_succ]
                try simp only [List.set_cons_zero]
                refine wpAnyH_take (i := 21) (oi := _) (v := ?_) (by simp only [List.getElem?_toArray, List.getElem?_cons_succ, List.getElem?_cons_zero]; rfl) (by kernel_rfl) (by kernel_rfl) (by kernel_rfl) (by exact fun _ _ _ h => h) (Or.inl ⟨by rfl, ?_⟩) (by assumption) ?_
                rotate_left 1
                · (intro w hSw; (try dsimp only at hSw); go_simp; try with_reducible rfl)
                all_goals try simp only [Act.put]
                all_goals try simp only [List.setIfInBounds_toArray]
                all_goals try simp only [List.set_cons_succ]
                all_goals try simp only [List.set_cons_zero]
                refine wpAnyH_done (by kernel_rfl) ?_ _
                clear hHeld
                clear f0 f1 f2 f3 hlf g0 g1 g2 g3 hlg
                go_wp2_with fail
                go_meet
                exact ⟨bb, G1, G2, _, rfl, rfl, rfl, E.out, LL.out, Nat.ne_of_gt hps, LS0.out, LS1.out, LS2.out, LS3.out⟩
              · -- a call of the region: srcFr_any w.heap.size 9 3 _ (by exact E.out.s) (by omega) (by omega) (by omega) (by omega) the contract, wb the world behind, u3 u4 the numbers
                rw [if_pos (by rfl)]
                go_simp
                refine (srcFr_any w.heap.size 9 3 _ (by exact E.out.s) (by omega) (by omega) (by omega) (by omega)).mono ?_
                rintro e wb ⟨u3, u4, _, rfl, hS, hk⟩
                replace E := Lib.hid (E.out.kept hS hk); replace LS0 := Lib.hid (LS0.out.kept hk)
                try (replace LS1 := Lib.hid (LS1.out.kept hk))
                try (replace LS3 := Lib.hid (LS3.out.kept hk))
                clear hS hk hHeld
                clear f0 f1 f2 f3 hlf g0 g1 g2 g3 hlg
                obtain ⟨f0, f1, f2, f3, hlf⟩ := E.out.va.q
                obtain ⟨g0, g1, g2, g3, hlg⟩ := E.out.vl.q
                dsimp only at f0 f1 f2 f3 g0 g1 g2 g3
                refine hK.out _ _ (by exact ⟨⟨f0, f1, f2, f3⟩, g0, g1, g2, g3⟩) (fun hHeld => ?_)
                clear hK K
                try simp only [Act.put]
                try simp only [List.setIfInBounds_toArray]
                try simp only [List.set_cons_succ]
                try simp only [List.set_cons_zero]
                refine wpAnyH_take (i := 7) (oi := _) (v := ?_) (by simp only [List.getElem?_toArray, List.getElem?_cons_succ, List.getElem?_cons_zero]; rfl) (by kernel_rfl) (by kernel_rfl) (by kernel_rfl) (by exact fun _ _ _ h => h) (Or.inl ⟨by rfl, ?_⟩) (by assumption) ?_
                rotate_left 1
                · (intro w hSw; (try dsimp only at hSw); go_simp; try with_reducible rfl)
                all_goals try simp only [Act.put]
                all_goals try simp only [List.setIfInBounds_toArray]
                all_goals try simp only [List.set_cons_succ]
                all_goals try simp only [List.set_cons_zero]
                refine wpAnyH_ready (rs := [2, 9]) (by kernel_rfl) (by simp) ?_
                refine (AllReadyH.cons (by simp only [List.getElem?_toArray, List.getElem?_cons_succ, List.getElem?_cons_zero]; rfl) (fun K hK => ?_) (AllReadyH.cons (by simp only [List.getElem?_toArray, List.getElem?_cons_succ, List.getElem?_cons_zero]; rfl) (fun K hK => ?_) AllReadyH.nil))
                · rw [if_pos (by rfl)]
                  go_simp
                  have hps := E.out.s.lt
                  have hb := balloc wb (.cells #[.int .i64 R, .int .i64 r, .int .i64 L, .int .i64 l] 25)
                  have LN := Lib.hid (LsQ.lit (w := wb) hps 25 [⟨R, r, L, l⟩] 1 rfl (by omega))
                  generalize hwa : wb.alloc (.cells #[.int .i64 R, .int .i64 r, .int .i64 L, .int .i64 l] 25) = we at *
                  replace LN := Lib.hid (show LsQ w.heap.size we (some ⟨wb.heap.size, 0, none⟩) 1 1 [⟨R, r, L, l⟩] by rw [← hwa]; exact LN.out)
                  clear hwa
                  -- hb the facts (Below) that all things are carried by
                  replace E := Lib.hid (E.out.below hb); replace LS0 := Lib.hid (LS0.out.below hb)
                  try (replace LS4 := Lib.hid (LS4.out.below hb))
                  try (replace LB := Lib.hid (LB.out.below hb LB.out.lt))
                  try (replace LS1 := Lib.hid (LS1.out.below hb))
                  try (replace LS2 := Lib.hid (LS2.out.below hb))
                  try (replace LS3 := Lib.hid (LS3.out.below hb))
                  try (replace DX := Lib.hid (DX.out.below hb DX.out.lt))
                  try (replace F1 := Lib.hid (F1.out.below hb F1.out.lt))
                  try (replace I1 := Lib.hid (I1.out.ext hb))
                  have LS1 := LN
                  generalize wb.heap.size = G1 at *
                  clear LN hb hHeld hps
                  clear f0 f1 f2 f3 hlf g0 g1 g2 g3 hlg
                  obtain ⟨f0, f1, f2, f3, hlf⟩ := E.out.va.q
                  obtain ⟨g0, g1, g2, g3, hlg⟩ := E.out.vl.q
                  dsimp only at f0 f1 f2 f3 g0 g1 g2 g3
                  refine hK.out _ _ (by exact ⟨⟨f0, f1, f2, f3⟩, g0, g1, g2, g3⟩) (fun hHeld => ?_)
                  clear hK K
                  try simp only [Act.put]
                  try simp only [List.setIfInBounds_toArray]
                  try simp only [List.set_cons_succ]
                  try simp only [List.set_cons_zero]
                  refine wpAnyH_ready (rs := [9]) (by kernel_rfl) (by simp) ?_
                  refine (AllReadyH.cons (by simp only [List.getElem?_toArray, List.getElem?_cons_succ, List.getElem?_cons_zero]; rfl) (fun K hK => ?_) AllReadyH.nil)
                  -- a call of the region: srcFr_any w.heap.size 9 4 _ (by exact E.out.s) (by omega) (by omega) (by omega) (by omega) the contract, wf the world behind, u5 u6 the numbers
                  rw [if_pos (by rfl)]
                  go_simp
                  refine (srcFr_any w.heap.size 9 4 _ (by exact E.out.s) (by omega) (by omega) (by omega) (by omega)).mono ?_
                  rintro e wf ⟨u5, u6, _, rfl, hS, hk⟩
                  replace E := Lib.hid (E.out.kept hS hk); replace LS0 := Lib.hid (LS0.out.kept hk)
                  try (replace LS1 := Lib.hid (LS1.out.kept hk))
                  try (replace LS3 := Lib.hid (LS3.out.kept hk))
                  clear hS hk hHeld
                  clear f0 f1 f2 f3 hlf g0 g1 g2 g3 hlg
                  obtain ⟨f0, f1, f2, f3, hlf⟩ := E.out.va.q
                  obtain ⟨g0, g1, g2, g3, hlg⟩ := E.out.vl.q
                  dsimp only at f0 f1 f2 f3 g0 g1 g2 g3
                  refine hK.out _ _ (by exact ⟨⟨f0, f1, f2, f3⟩, g0, g1, g2, g3⟩) (fun hHeld => ?_)
                  clear hK K
                  try simp only [Act.put]
                  try simp only [List.setIfInBounds_toArray]
                  try simp only [List.set_cons_succ]
                  try simp only [List.set_cons_zero]
                  refine wpAnyH_ready (rs := [11]) (by kernel_rfl) (by simp) ?_
                  refine (AllReadyH.cons (by simp only [List.getElem?_toArray, List.getElem?_cons_succ, List.getElem?_cons_zero]; rfl) (fun K hK => ?_) AllReadyH.nil)
                  -- a call of the region: srcFr_any w.heap.size 9 2 _ (by exact E.out.s) (by omega) (by omega) (by omega) (by omega) the contract, wg the world behind, u7 u8 the numbers
                  rw [if_pos (by rfl)]
                  go_simp
                  refine (srcFr_any w.heap.size 9 2 _ (by exact E.out.s) (by omega) (by omega) (by omega) (by omega)).mono ?_
                  rintro e wg ⟨u7, u8, _, rfl, hS, hk⟩
                  replace E := Lib.hid (E.out.kept hS hk); replace LS0 := Lib.hid (LS0.out.kept hk)
                  try (replace LS1 := Lib.hid (LS1.out.kept hk))
                  try (replace LS3 := Lib.hid (LS3.out.kept hk))
                  clear hS hk hHeld
                  clear f0 f1 f2 f3 hlf g0 g1 g2 g3 hlg
                  obtain ⟨f0, f1, f2, f3, hlf⟩ := E.out.va.q
                  obtain ⟨g0, g1, g2, g3, hlg⟩ := E.out.vl.q
                  dsimp only at f0 f1 f2 f3 g0 g1 g2 g3
                  refine hK.out _ _ (by exact ⟨⟨f0, f1, f2, f3⟩, g0, g1, g2, g3⟩) (fun hHeld => ?_)
                  clear hK K
                  try simp only [Act.put]
                  try simp only [List.setIfInBounds_toArray]
                  try simp only [List.set_cons_succ]
                  try simp only [List.set_cons_zero]
                  refine wpAnyH_take (i := 12) (oi := _) (v := ?_) (by simp only [List.getElem?_toArray, List.getElem?_cons_succ, List.getElem?_cons_zero]; rfl) (by kernel_rfl) (by kernel_rfl) (by kernel_rfl) (by exact fun _ _ _ h => h) (Or.inl ⟨by rfl, ?_⟩) (by assumption) ?_
                  rotate_left 1
                  · (intro w hSw; (try dsimp only at hSw); go_simp; try with_reducible rfl)
                  all_goals try simp only [Act.put]
                  all_goals try simp only [List.setIfInBounds_toArray]
                  all_goals try simp only [List.set_cons_succ]
                  all_goals try simp only [List.set_cons_zero]
                  refine wpAnyH_ready (rs := [14]) (by kernel_rfl) (by simp) ?_
                  refine (AllReadyH.cons (by simp only [List.getElem?_toArray, List.getElem?_cons_succ, List.getElem?_cons_zero]; rfl) (fun K hK => ?_) AllReadyH.nil)
                  -- a call of the region: ratio12_any w.heap.size _ (by exact E.out.s) the contract, wh the world behind, u9 u10 the numbers
                  rw [if_pos (by rfl)]
                  go_simp
                  refine (ratio12_any w.heap.size _ (by exact E.out.s)).mono ?_
                  rintro e wh ⟨u9, u10, _, rfl, hS, hk⟩
                  replace E := Lib.hid (E.out.kept hS hk); replace LS0 := Lib.hid (LS0.out.kept hk)
                  try (replace LS1 := Lib.hid (LS1.out.kept hk))
                  try (replace LS3 := Lib.hid (LS3.out.kept hk))
                  clear hS hk hHeld
                  clear f0 f1 f2 f3 hlf g0 g1 g2 g3 hlg
                  obtain ⟨f0, f1, f2, f3, hlf⟩ := E.out.va.q
                  obtain ⟨g0, g1, g2, g3, hlg⟩ := E.out.vl.q
                  dsimp only at f0 f1 f2 f3 g0 g1 g2 g3
                  refine hK.out _ _ (by exact ⟨⟨f0, f1, f2, f3⟩, g0, g1, g2, g3⟩) (fun hHeld => ?_)
                  clear hK K
                  try simp only [Act.put]
                  try simp only [List.setIfInBounds_toArray]
                  try simp only [List.set_cons_succ]
                  try simp only [List.set_cons_zero]
                  refine wpAnyH_ready (rs := [16]) (by kernel_rfl) (by simp) ?_
                  refine (AllReadyH.cons (by simp only [List.getElem?_toArray, List.getElem?_cons_succ, List.getElem?_cons_zero]; rfl) (fun K hK => ?_) AllReadyH.nil)
                  -- a call of the region: srcFr_any w.heap.size 9 2 _ (by exact E.out.s) (by omega) (by omega) (by omega) (by omega) the contract, wi the world behind, u11 u12 the numbers
                  rw [if_pos (by rfl)]
                  go_simp
                  refine (srcFr_any w.heap.size 9 2 _ (by exact E.out.s) (by omega) (by omega) (by omega) (by omega)).mono ?_
                  rintro e wi ⟨u11, u12, _, rfl, hS, hk⟩
                  replace E := Lib.hid (E.out.kept hS hk); replace LS0 := Lib.hid (LS0.out.kept hk)
                  try (replace LS1 := Lib.hid (LS1.out.kept hk))
                  try (replace LS3 := Lib.hid (LS3.out.kept hk))
                  clear hS hk hHeld
                  clear f0 f1 f2 f3 hlf g0 g1 g2 g3 hlg
                  obtain ⟨f0, f1, f2, f3, hlf⟩ := E.out.va.q
                  obtain ⟨g0, g1, g2, g3, hlg⟩ := E.out.vl.q
                  dsimp only at f0 f1 f2 f3 g0 g1 g2 g3
                  refine hK.out _ _ (by exact ⟨⟨f0, f1, f2, f3⟩, g0, g1, g2, g3⟩) (fun hHeld => ?_)
                  clear hK K
                  try simp only [Act.put]
                  try simp only [List.setIfInBounds_toArray]
                  try simp only [List.set_cons_succ]
                  try simp only [List.set_cons_zero]
                  refine wpAnyH_take (i := 17) (oi := _) (v := ?_) (by simp only [List.getElem?_toArray, List.getElem?_cons_succ, List.getElem?_cons_zero]; rfl) (by kernel_rfl) (by kernel_rfl) (by kernel_rfl) (by exact fun _ _ _ h => h) (Or.inl ⟨by rfl, ?_⟩) (by assumption) ?_
                  rotate_left 1
                  · (intro w hSw; (try dsimp only at hSw); go_simp; try with_reducible rfl)
                  all_goals try simp only [Act.put]
                  all_goals try simp only [List.setIfInBounds_toArray]
                  all_goals try simp only [List.set_cons_succ]
                  all_goals try simp only [List.set_cons_zero]
                  refine wpAnyH_ready (rs := [18]) (by kernel_rfl) (by simp) ?_
                  refine (AllReadyH.cons (by simp only [List.getElem?_toArray, List.getElem?_cons_succ, List.getElem?_cons_zero]; rfl) (fun K hK => ?_) AllReadyH.nil)
                  rw [if_pos (by rfl)]
                  go_simp
                  have hps := E.out.s.lt
                  have hb := balloc wi (.cells #[.int .i64 u1, .int .i64 u2, .int .i64 u3, .int .i64 u4, .int .i64 u5, .int .i64 u6, .int .i64 u7, .int .i64 u8, .int .i64 u9, .int .i64 u10, .int .i64 u11, .int .i64 u12] 25)
                  have LN := Lib.hid (LsQ.lit (w := wi) hps 25 [⟨u1, u2, u3, u4⟩, ⟨u5, u6, u7, u8⟩, ⟨u9, u10, u11, u12⟩] 3 rfl (by omega))
                  generalize hwa : wi.alloc (.cells #[.int .i64 u1, .int .i64 u2, .int .i64 u3, .int .i64 u4, .int .i64 u5, .int .i64 u6, .int .i64 u7, .int .i64 u8, .int .i64 u9, .int .i64 u10, .int .i64 u11, .int .i64 u12] 25) = wj at *
                  replace LN := Lib.hid (show LsQ w.heap.size wj (some ⟨wi.heap.size, 0, none⟩) 3 3 [⟨u1, u2, u3, u4⟩, ⟨u5, u6, u7, u8⟩, ⟨u9, u10, u11, u12⟩] by rw [← hwa]; exact LN.out)
                  clear hwa
                  -- hb the facts (Below) that all things are carried by
                  replace E := Lib.hid (E.out.below hb); replace LS0 := Lib.hid (LS0.out.below hb)
                  try (replace LS4 := Lib.hid (LS4.out.below hb))
                  try (replace LB := Lib.hid (LB.out.below hb LB.out.lt))
                  try (replace LS1 := Lib.hid (LS1.out.below hb))
                  try (replace LS2 := Lib.hid (LS2.out.below hb))
                  try (replace LS3 := Lib.hid (LS3.out.below hb))
                  try (replace DX := Lib.hid (DX.out.below hb DX.out.lt))
                  try (replace F1 := Lib.hid (F1.out.below hb F1.out.lt))
                  try (replace I1 := Lib.hid (I1.out.ext hb))
                  have LS2 := LN
                  generalize wi.heap.size = G2 at *
                  clear LN hb hHeld hps
                  clear f0 f1 f2 f3 hlf g0 g1 g2 g3 hlg
                  obtain ⟨f0, f1, f2, f3, hlf⟩ := E.out.va.q
                  obtain ⟨g0, g1, g2, g3, hlg⟩ := E.out.vl.q
                  dsimp only at f0 f1 f2 f3 g0 g1 g2 g3
                  refine hK.out _ _ (by exact ⟨⟨f0, f1, f2, f3⟩, g0, g1, g2, g3⟩) (fun hHeld => ?_)
                  clear hK K
                  try simp only [Act.put]
                  try simp only [List.setIfInBounds_toArray]
                  try simp only [List.set_cons_succ]
                  try simp only [List.set_cons_zero]
                  refine wpAnyH_ready (rs := [20]) (by kernel_rfl) (by simp) ?_
                  refine (AllReadyH.cons (by simp only [List.getElem?_toArray, List.getElem?_cons_succ, List.getElem?_cons_zero]; rfl) (fun K hK => ?_) AllReadyH.nil)
                  rw [if_pos (by rfl)]
                  go_simp
                  have hps := E.out.s.lt
                  have hb := balloc wj (.cells #[.slice A2 n2 c2, .slice none 0 0, .slice (some ⟨G1, 0, none⟩) 1 1, .slice (some ⟨G2, 0, none⟩) 3 3, .slice (some ⟨G, 0, none⟩) nm nm] 28)
                  have LL := Lib.hid (Blk.new wj 28 #[.slice A2 n2 c2, .slice none 0 0, .slice (some ⟨G1, 0, none⟩) 1 1, .slice (some ⟨G2, 0, none⟩) 3 3, .slice (some ⟨G, 0, none⟩) nm nm])
                  generalize hwa : wj.alloc (.cells #[.slice A2 n2 c2, .slice none 0 0, .slice (some ⟨G1, 0, none⟩) 1 1, .slice (some ⟨G2, 0, none⟩) 3 3, .slice (some ⟨G, 0, none⟩) nm nm] 28) = wz at *
                  clear hwa
                  -- hb the facts (Below) that all things are carried by
                  replace E := Lib.hid (E.out.below hb); replace LS0 := Lib.hid (LS0.out.below hb)
                  try (replace LS4 := Lib.hid (LS4.out.below hb))
                  try (replace LB := Lib.hid (LB.out.below hb LB.out.lt))
                  try (replace LS1 := Lib.hid (LS1.out.below hb))
                  try (replace LS2 := Lib.hid (LS2.out.below hb))
                  try (replace LS3 := Lib.hid (LS3.out.below hb))
                  try (replace DX := Lib.hid (DX.out.below hb DX.out.lt))
                  try (replace F1 := Lib.hid (F1.out.below hb F1.out.lt))
                  try (replace I1 := Lib.hid (I1.out.ext hb))
                  generalize wj.heap.size = bb at *
                  clear hb hHeld
                  clear f0 f1 f2 f3 hlf g0 g1 g2 g3 hlg
                  obtain ⟨f0, f1, f2, f3, hlf⟩ := E.out.va.q
                  obtain ⟨g0, g1, g2, g3, hlg⟩ := E.out.vl.q
                  dsimp only at f0 f1 f2 f3 g0 g1 g2 g3
                  refine hK.out _ _ (by exact ⟨⟨f0, f1, f2, f3⟩, g0, g1, g2, g3⟩) (fun hHeld => ?_)
                  clear hK K
                  try simp only [Act.put]
                  try simp only [List.setIfInBounds_toArray]
                  try simp only [List.set_cons_succ]
                  try simp only [List.set_cons_zero]
                  refine wpAnyH_take (i := 21) (oi := _) (v := ?_) (by simp only [List.getElem?_toArray, List.getElem?_cons_succ, List.getElem?_cons_zero]; rfl) (by kernel_rfl) (by kernel_rfl) (by kernel_rfl) (by exact fun _ _ _ h => h) (Or.inl ⟨by rfl, ?_⟩) (by assumption) ?_
                  rotate_left 1
                  · (intro w hSw; (try dsimp only at hSw); go_simp; try with_reducible rfl)
                  all_goals try simp only [Act.put]
                  all_goals try simp only [List.setIfInBounds_toArray]
                  all_goals try simp only [List.set_cons_succ]
                  all_goals try simp only [List.set_cons_zero]
                  refine wpAnyH_done (by kernel_rfl) ?_ _
                  clear hHeld
                  clear f0 f1 f2 f3 hlf g0 g1 g2 g3 hlg
                  go_wp2_with fail
                  go_meet
                  exact ⟨bb, G1, G2, _, rfl, rfl, rfl, E.out, LL.out, Nat.ne_of_gt hps, LS0.out, LS1.out, LS2.out, LS3.out⟩
                · -- a call of the region: srcFr_any w.heap.size 9 4 _ (by exact E.out.s) (by omega) (by omega) (by omega) (by omega) the contract, we the world behind, u5 u6 the numbers
                  rw [if_pos (by rfl)]
                  go_simp
                  refine (srcFr_any w.heap.size 9 4 _ (by exact E.out.s) (by omega) (by omega) (by omega) (by omega)).mono ?_
                  rintro e we ⟨u5, u6, _, rfl, hS, hk⟩
                  replace E := Lib.hid (E.out.kept hS hk); replace LS0 := Lib.hid (LS0.out.kept hk)
                  try (replace LS1 := Lib.hid (LS1.out.kept hk))
                  try (replace LS3 := Lib.hid (LS3.out.kept hk))
                  clear hS hk hHeld
                  clear f0 f1 f2 f3 hlf g0 g1 g2 g3 hlg
                  obtain ⟨f0, f1, f2, f3, hlf⟩ := E.out.va.q
                  obtain ⟨g0, g1, g2, g3, hlg⟩ := E.out.vl.q
                  dsimp only at f0 f1 f2 f3 g0 g1 g2 g3
                  refine hK.out _ _ (by exact ⟨⟨f0, f1, f2, f3⟩, g0, g1, g2, g3⟩) (fun hHeld => ?_)
                  clear hK K
                  try simp only [Act.put]
                  try simp only [List.setIfInBounds_toArray]
                  try simp only [List.set_cons_succ]
                  try simp only [List.set_cons_zero]
                  refine wpAnyH_ready (rs := [2, 11]) (by kernel_rfl) (by simp) ?_
                  refine (AllReadyH.cons (by simp only [List.getElem?_toArray, List.getElem?_cons_succ, List.getElem?_cons_zero]; rfl) (fun K hK => ?_) (AllReadyH.cons (by simp only [List.getElem?_toArray, List.getElem?_cons_succ, List.getElem?_cons_zero]; rfl) (fun K hK => ?_) AllReadyH.nil))
                  · rw [if_pos (by rfl)]
                    go_simp
                    have hps := E.out.s.lt
                    have hb := balloc we (.cells #[.int .i64 R, .int .i64 r, .int .i64 L, .int .i64 l] 25)
                    have LN := Lib.hid (LsQ.lit (w := we) hps 25 [⟨R, r, L, l⟩] 1 rfl (by omega))
                    generalize hwa : we.alloc (.cells #[.int .i64 R, .int .i64 r, .int .i64 L, .int .i64 l] 25) = wf at *
                    replace LN := Lib.hid (show LsQ w.heap.size wf (some ⟨we.heap.size, 0, none⟩) 1 1 [⟨R, r, L, l⟩] by rw [← hwa]; exact LN.out)
                    clear hwa
                    -- hb the facts (Below) that all things are carried by
                    replace E := Lib.hid (E.out.below hb); replace LS0 := Lib.hid (LS0.out.below hb)
                    try (replace LS4 := Lib.hid (LS4.out.below hb))
                    try (replace LB := Lib.hid (LB.out.below hb LB.out.lt))
                    try (replace LS1 := Lib.hid (LS1.out.below hb))
                    try (replace LS2 := Lib.hid (LS2.out.below hb))
                    try (replace LS3 := Lib.hid (LS3.out.below hb))
                    try (replace DX := Lib.hid (DX.out.below hb DX.out.lt))
                    try (replace F1 := Lib.hid (F1.out.below hb F1.out.lt))
                    try (replace I1 := Lib.hid (I1.out.ext hb))
                    have LS1 := LN
                    generalize we.heap.size = G1 at *
                    clear LN hb hHeld hps
                    clear f0 f1 f2 f3 hlf g0 g1 g2 g3 hlg
                    obtain ⟨f0, f1, f2, f3, hlf⟩ := E.out.va.q
                    obtain ⟨g0, g1, g2, g3, hlg⟩ := E.out.vl.q
                    dsimp only at f0 f1 f2 f3 g0 g1 g2 g3
                    refine hK.out _ _ (by exact ⟨⟨f0, f1, f2, f3⟩, g0, g1, g2, g3⟩) (fun hHeld => ?_)
                    clear hK K
                    try simp only [Act.put]
                    try simp only [List.setIfInBounds_toArray]
                    try simp only [List.set_cons_succ]
                    try simp only [List.set_cons_zero]
                    refine wpAnyH_ready (rs := [11]) (by kernel_rfl) (by simp) ?_
                    refine (AllReadyH.cons (by simp only [List.getElem?_toArray, List.getElem?_cons_succ, List.getElem?_cons_zero]; rfl) (fun K hK => ?_) AllReadyH.nil)
                    -- a call of the region: srcFr_any w.heap.size 9 2 _ (by exact E.out.s) (by omega) (by omega) (by omega) (by omega) the contract, wg the world behind, u7 u8 the numbers
                    rw [if_pos (by rfl)]
                    go_simp
                    refine (srcFr_any w.heap.size 9 2 _ (by exact E.out.s) (by omega) (by omega) (by omega) (by omega)).mono ?_
                    rintro e wg ⟨u7, u8, _, rfl, hS, hk⟩
                    replace E := Lib.hid (E.out.kept hS hk); replace LS0 := Lib.hid (LS0.out.kept hk)
                    try (replace LS1 := Lib.hid (LS1.out.kept hk))
                    try (replace LS3 := Lib.hid (LS3.out.kept hk))
                    clear hS hk hHeld
                    clear f0 f1 f2 f3 hlf g0 g1 g2 g3 hlg
                    obtain ⟨f0, f1, f2, f3, hlf⟩ := E.out.va.q
                    obtain ⟨g0, g1, g2, g3, hlg⟩ := E.out.vl.q
                    dsimp only at f0 f1 f2 f3 g0 g1 g2 g3
                    refine hK.out _ _ (by exact ⟨⟨f0, f1, f2, f3⟩, g0, g1, g2, g3⟩) (fun hHeld => ?_)
                    clear hK K
                    try simp only [Act.put]
                    try simp only [List.setIfInBounds_toArray]
                    try simp only [List.set_cons_succ]
                    try simp only [List.set_cons_zero]
                    refine wpAnyH_take (i := 12) (oi := _) (v := ?_) (by simp only [List.getElem?_toArray, List.getElem?_cons_succ, List.getElem?_cons_zero]; rfl) (by kernel_rfl) (by kernel_rfl) (by kernel_rfl) (by exact fun _ _ _ h => h) (Or.inl ⟨by rfl, ?_⟩) (by assumption) ?_
                    rotate_left 1
                    · (intro w hSw; (try dsimp only at hSw); go_simp; try with_reducible rfl)
                    all_goals try simp only [Act.put]
                    all_goals try simp only [List.setIfInBounds_toArray]
                    all_goals try simp only [List.set_cons_succ]
                    all_goals try simp only [List.set_cons_zero]
                    refine wpAnyH_ready (rs := [14]) (by kernel_rfl) (by simp) ?_
                    refine (AllReadyH.cons (by simp only [List.getElem?_toArray, List.getElem?_cons_succ, List.getElem?_cons_zero]; rfl) (fun K hK => ?_) AllReadyH.nil)
                    -- a call of the region: ratio12_any w.heap.size _ (by exact E.out.s) the contract, wh the world behind, u9 u10 the numbers
                    rw [if_pos (by rfl)]
                    go_simp
                    refine (ratio12_any w.heap.size _ (by exact E.out.s)).mono ?_
                    rintro e wh ⟨u9, u10, _, rfl, hS, hk⟩
                    replace E := Lib.hid (E.out.kept hS hk); replace LS0 := Lib.hid (LS0.out.kept hk)
                    try (replace LS1 := Lib.hid (LS1.out.kept hk))
                    try (replace LS3 := Lib.hid (LS3.out.kept hk))
                    clear hS hk hHeld
                    clear f0 f1 f2 f3 hlf g0 g1 g2 g3 hlg
                    obtain ⟨f0, f1, f2, f3, hlf⟩ := E.out.va.q
                    obtain ⟨g0, g1, g2, g3, hlg⟩ := E.out.vl.q
                    dsimp only at f0 f1 f2 f3 g0 g1 g2 g3
                    refine hK.out _ _ (by exact ⟨⟨f0, f1, f2, f3⟩, g0, g1, g2, g3⟩) (fun hHeld => ?_)
                    clear hK K
                    try simp only [Act.put]
                    try simp only [List.setIfInBounds_toArray]
                    try simp only [List.set_cons_succ]
                    try simp only [List.set_cons_zero]
                    refine wpAnyH_ready (rs := [16]) (by kernel_rfl) (by simp) ?_
                    refine (AllReadyH.cons (by simp only [List.getElem?_toArray, List.getElem?_cons_succ, List.getElem?_cons_zero]; rfl) (fun K hK => ?_) AllReadyH.nil)
                    -- a call of the region: srcFr_any w.heap.size 9 2 _ (by exact E.out.s) (by omega) (by omega) (by omega) (by omega) the contract, wi the world behind, u11 u12 the numbers
                    rw [if_pos (by rfl)]
                    go_simp
                    refine (srcFr_any w.heap.size 9 2 _ (by exact E.out.s) (by omega) (by omega) (by omega) (by omega)).mono ?_
                    rintro e wi ⟨u11, u12, _, rfl, hS, hk⟩
                    replace E := Lib.hid (E.out.kept hS hk); replace LS0 := Lib.hid (LS0.out.kept hk)
                    try (replace LS1 := Lib.hid (LS1.out.kept hk))
                    try (replace LS3 := Lib.hid (LS3.out.kept hk))
                    clear hS hk hHeld
                    clear f0 f1 f2 f3 hlf g0 g1 g2 g3 hlg
                    obtain ⟨f0, f1, f2, f3, hlf⟩ := E.out.va.q
                    obtain ⟨g0, g1, g2, g3, hlg⟩ := E.out.vl.q
                    dsimp only at f0 f1 f2 f3 g0 g1 g2 g3
                    refine hK.out _ _ (by exact ⟨⟨f0, f1, f2, f3⟩, g0, g1, g2, g3⟩) (fun hHeld => ?_)
                    clear hK K
                    try simp only [Act.put]
                    try simp only [List.setIfInBounds_toArray]
                    try simp only [List.set_cons_succ]
                    try simp only [List.set_cons_zero]
                    refine wpAnyH_take (i := 17) (oi := _) (v := ?_) (by simp only [List.getElem?_toArray, List.getElem?_cons_succ, List.getElem?_cons_zero]; rfl) (by kernel_rfl) (by kernel_rfl) (by kernel_rfl) (by exact fun _ _ _ h => h) (Or.inl ⟨by rfl, ?_⟩) (by assumption) ?_
                    rotate_left 1
                    · (intro w hSw; (try dsimp only at hSw); go_simp; try with_reducible rfl)
                    all_goals try simp only [Act.put]
                    all_goals try simp only [List.setIfInBounds_toArray]
                    all_goals try simp only [List.set_cons_succ]
                    all_goals try simp only [List.set_cons_zero]
                    refine wpAnyH_ready (rs := [18]) (by kernel_rfl) (by simp) ?_
                    refine (AllReadyH.cons (by simp only [List.getElem?_toArray, List.getElem?_cons_succ, List.getElem?_cons_zero]; rfl) (fun K hK => ?_) AllReadyH.nil)
                    rw [if_pos (by rfl)]
                    go_simp
                    have hps := E.out.s.lt
                    have hb := balloc wi (.cells #[.int .i64 u1, .int .i64 u2, .int .i64 u3, .int .i64 u4, .int .i64 u5, .int .i64 u6, .int .i64 u7, .int .i64 u8, .int .i64 u9, .int .i64 u10, .int .i64 u11, .int .i64 u12] 25)
                    have LN := Lib.hid (LsQ.lit (w := wi) hps 25 [⟨u1, u2, u3, u4⟩, ⟨u5, u6, u7, u8⟩, ⟨u9, u10, u11, u12⟩] 3 rfl (by omega))
                    generalize hwa : wi.alloc (.cells #[.int .i64 u1, .int .i64 u2, .int .i64 u3, .int .i64 u4, .int .i64 u5, .int .i64 u6, .int .i64 u7, .int .i64 u8, .int .i64 u9, .int .i64 u10, .int .i64 u11, .int .i64 u12] 25) = wj at *
                    replace LN := Lib.hid (show LsQ w.heap.size wj (some ⟨wi.heap.size, 0, none⟩) 3 3 [⟨u1, u2, u3, u4⟩, ⟨u5, u6, u7, u8⟩, ⟨u9, u10, u11, u12⟩] by rw [← hwa]; exact LN.out)
                    clear hwa
                    -- hb the facts (Below) that all things are carried by
                    replace E := Lib.hid (E.out.below hb); replace LS0 := Lib.hid (LS0.out.below hb)
                    try (replace LS4 := Lib.hid (LS4.out.below hb))
                    try (replace LB := Lib.hid (LB.out.below hb LB.out.lt))
                    try (replace LS1 := Lib.hid (LS1.out.below hb))
                    try (replace LS2 := Lib.hid (LS2.out.below hb))
                    try (replace LS3 := Lib.hid (LS3.out.below hb))
                    try (replace DX := Lib.hid (DX.out.below hb DX.out.lt))
                    try (replace F1 := Lib.hid (F1.out.below hb F1.out.lt))
                    try (replace I1 := Lib.hid (I1.out.ext hb))
                    have LS2 := LN
                    generalize wi.heap.size = G2 at *
                    clear LN hb hHeld hps
                    clear f0 f1 f2 f3 hlf g0 g1 g2 g3 hlg
                    obtain ⟨f0, f1, f2, f3, hlf⟩ := E.out.va.q
                    obtain ⟨g0, g1, g2, g3, hlg⟩ := E.out.vl.q
                    dsimp only at f0 f1 f2 f3 g0 g1 g2 g3
                    refine hK.out _ _ (by exact ⟨⟨f0, f1, f2, f3⟩, g0, g1, g2, g3⟩) (fun hHeld => ?_)
                    clear hK K
                    try simp only [Act.put]
                    try simp only [List.setIfInBounds_toArray]
                    try simp only [List.set_cons_succ]
                    try simp only [List.set_cons_zero]
                    refine wpAnyH_ready (rs := [20]) (by kernel_rfl) (by simp) ?_
                    refine (AllReadyH.cons (by simp only [List.getElem?_toArray, List.getElem?_cons_succ, List.getElem?_cons_zero]; rfl) (fun K hK => ?_) AllReadyH.nil)
                    rw [if_pos (by rfl)]
                    go_simp
                    have hps := E.out.s.lt
                    have hb := balloc wj (.cells #[.slice A2 n2 c2, .slice none 0 0, .slice (some ⟨G1, 0, none⟩) 1 1, .slice (some ⟨G2, 0, none⟩) 3 3, .slice (some ⟨G, 0, none⟩) nm nm] 28)
                    have LL := Lib.hid (Blk.new wj 28 #[.slice A2 n2 c2, .slice none 0 0, .slice (some ⟨G1, 0, none⟩) 1 1, .slice (some ⟨G2, 0, none⟩) 3 3, .slice (some ⟨G, 0, none⟩) nm nm])
                    generalize hwa : wj.alloc (.cells #[.slice A2 n2 c2, .slice none 0 0, .slice (some ⟨G1, 0, none⟩) 1 1, .slice (some ⟨G2, 0, none⟩) 3 3, .slice (some ⟨G, 0, none⟩) nm nm] 28) = wz at *
                    clear hwa
                    -- hb the facts (Below) that all things are carried by
                    replace E := Lib.hid (E.out.below hb); replace LS0 := Lib.hid (LS0.out.below hb)
                    try (replace LS4 := Lib.hid (LS4.out.below hb))
                    try (replace LB := Lib.hid (LB.out.below hb LB.out.lt))
                    try (replace LS1 := Lib.hid (LS1.out.below hb))
                    try (replace LS2 := Lib.hid (LS2.out.below hb))
                    try (replace LS3 := Lib.hid (LS3.out.below hb))
                    try (replace DX := Lib.hid (DX.out.below hb DX.out.lt))
                    try (replace F1 := Lib.hid (F1.out.below hb F1.out.lt))
                    try (replace I1 := Lib.hid (I1.out.ext hb))
                    generalize wj.heap.size = bb at *
                    clear hb hHeld
                    clear f0 f1 f2 f3 hlf g0 g1 g2 g3 hlg
                    obtain ⟨f0, f1, f2, f3, hlf⟩ := E.out.va.q
                    obtain ⟨g0, g1, g2, g3, hlg⟩ := E.out.vl.q
                    dsimp only at f0 f1 f2 f3 g0 g1 g2 g3
                    refine hK.out _ _ (by exact ⟨⟨f0, f1, f2, f3⟩, g0, g1, g2, g3⟩) (fun hHeld => ?_)
                    clear hK K
                    try simp only [Act.put]
                    try simp only [List.setIfInBounds_toArray]
                    try simp only [List.set_cons_succ]
                    try simp only [List.set_cons_zero]
                    refine wpAnyH_take (i := 21) (oi := _) (v := ?_) (by simp only [List.getElem?_toArray, List.getElem?_cons_succ, List.getElem?_cons_zero]; rfl) (by kernel_rfl) (by kernel_rfl) (by kernel_rfl) (by exact fun _ _ _ h => h) (Or.inl ⟨by rfl, ?_⟩) (by assumption) ?_
                    rotate_left 1
                    · (intro w hSw; (try dsimp only at hSw); go_simp; try with_reducible rfl)
                    all_goals try simp only [Act.put]
                    all_goals try simp only [List.setIfInBounds_toArray]
                    all_goals try simp only [List.set_cons_succ]
                    all_goals try simp only [List.set_cons_zero]
                    refine wpAnyH_done (by kernel_rfl) ?_ _
                    clear hHeld
                    clear f0 f1 f2 f3 hlf g0 g1 g2 g3 hlg
                    go_wp2_with fail
                    go_meet
                    exact ⟨bb, G1, G2, _, rfl, rfl, rfl, E.out, LL.out, Nat.ne_of_gt hps, LS0.out, LS1.out, LS2.out, LS3.out⟩
                  · -- a call of the region: srcFr_any w.heap.size 9 2 _ (by exact E.out.s) (by omega) (by omega) (by omega) (by omega) the contract, wf the world behind, u7 u8 the numbers
                    rw [if_pos (by rfl)]
                    go_simp
                    refine (srcFr_any w.heap.size 9 2 _ (by exact E.out.s) (by omega) (by omega) (by omega) (by omega)).mono ?_
                    rintro e wf ⟨u7, u8, _, rfl, hS, hk⟩
                    replace E := Lib.hid (E.out.kept hS hk); replace LS0 := Lib.hid (LS0.out.kept hk)
                    try (replace LS1 := Lib.hid (LS1.out.kept hk))
                    try (replace LS3 := Lib.hid (LS3.out.kept hk))
                    clear hS hk hHeld
                    clear f0 f1 f2 f3 hlf g0 g1 g2 g3 hlg
                    obtain ⟨f0, f1, f2, f3, hlf⟩ := E.out.va.q
                    obtain ⟨g0, g1, g2, g3, hlg⟩ := E.out.vl.q
                    dsimp only at f0 f1 f2 f3 g0 g1 g2 g3
                    refine hK.out _ _ (by exact ⟨⟨f0, f1, f2, f3⟩, g0, g1, g2, g3⟩) (fun hHeld => ?_)
                    clear hK K
                    try simp only [Act.put]
                    try simp only [List.setIfInBounds_toArray]
                    try simp only [List.set_cons_succ]
                    try simp only [List.set_cons_zero]
                    refine wpAnyH_take (i := 12) (oi := _) (v := ?_) (by simp only [List.getElem?_toArray, List.getElem?_cons_succ, List.getElem?_cons_zero]; rfl) (by kernel_rfl) (by kernel_rfl) (by kernel_rfl) (by exact fun _ _ _ h => h) (Or.inl ⟨by rfl, ?_⟩) (by assumption) ?_
                    rotate_left 1
                    · (intro w hSw; (try dsimp only at hSw); go_simp; try with_reducible rfl)
                    all_goals try simp only [Act.put]
                    all_goals try simp only [List.setIfInBounds_toArray]
                    all_goals try simp only [List.set_cons_succ]
                    all_goals try simp only [List.set_cons_zero]
                    refine wpAnyH_ready (rs := [2, 14]) (by kernel_rfl) (by simp) ?_
                    refine (AllReadyH.cons (by simp only [List.getElem?_toArray, List.getElem?_cons_succ, List.getElem?_cons_zero]; rfl) (fun K hK => ?_) (AllReadyH.cons (by simp only [List.getElem?_toArray, List.getElem?_cons_succ, List.getElem?_cons_zero]; rfl) (fun K hK => ?_) AllReadyH.nil))
                    · rw [if_pos (by rfl)]
                      go_simp
                      have hps := E.out.s.lt
                      have hb := balloc wf (.cells #[.int .i64 R, .int .i64 r, .int .i64 L, .int .i64 l] 25)
                      have LN := Lib.hid (LsQ.lit (w := wf) hps 25 [⟨R, r, L, l⟩] 1 rfl (by omega))
                      generalize hwa : wf.alloc (.cells #[.int .i64 R, .int .i64 r, .int .i64 L, .int .i64 l] 25) = wg at *
                      replace LN := Lib.hid (show LsQ w.heap.size wg (some ⟨wf.heap.size, 0, none⟩) 1 1 [⟨R, r, L, l⟩] by rw [← hwa]; exact LN.out)
                      clear hwa
                      -- hb the facts (Below) that all things are carried by
                      replace E := Lib.hid (E.out.below hb); replace LS0 := Lib.hid (LS0.out.below hb)
                      try (replace LS4 := Lib.hid (LS4.out.below hb))
                      try (replace LB := Lib.hid (LB.out.below hb LB.out.lt))
                      try (replace LS1 := Lib.hid (LS1.out.below hb))
                      try (replace LS2 := Lib.hid (LS2.out.below hb))
                      try (replace LS3 := Lib.hid (LS3.out.below hb))
                      try (replace DX := Lib.hid (DX.out.below hb DX.out.lt))
                      try (replace F1 := Lib.hid (F1.out.below hb F1.out.lt))
                      try (replace I1 := Lib.hid (I1.out.ext hb))
                      have LS1 := LN
                      generalize wf.heap.size = G1 at *
                      clear LN hb hHeld hps
                      clear f0 f1 f2 f3 hlf g0 g1 g2 g3 hlg
                      obtain ⟨f0, f1, f2, f3, hlf⟩ := E.out.va.q
                      obtain ⟨g0, g1, g2, g3, hlg⟩ := E.out.vl.q
                      dsimp only at f0 f1 f2 f3 g0 g1 g2 g3
                      refine hK.out _ _ (by exact ⟨⟨f0, f1, f2, f3⟩, g0, g1, g2, g3⟩) (fun hHeld => ?_)
                      clear hK K
                      try simp only [Act.put]
                      try simp only [List.setIfInBounds_toArray]
                      try simp only [List.set_cons_succ]
                      try simp only [List.set_cons_zero]
                      refine wpAnyH_ready (rs := [14]) (by kernel_rfl) (by simp) ?_
                      refine (AllReadyH.cons (by simp only [List.getElem?_toArray, List.getElem?_cons_succ, List.getElem?_cons_zero]; rfl) (fun K hK => ?_) AllReadyH.nil)
                      -- a call of the region: ratio12_any w.heap.size _ (by exact E.out.s) the contract, wh the world behind, u9 u10 the numbers
                      rw [if_pos (by rfl)]
                      go_simp
                      refine (ratio12_any w.heap.size _ (by exact E.out.s)).mono ?_
                      rintro e wh ⟨u9, u10, _, rfl, hS, hk⟩
                      replace E := Lib.hid (E.out.kept hS hk); replace LS0 := Lib.hid (LS0.out.kept hk)
                      try (replace LS1 := Lib.hid (LS1.out.kept hk))
                      try (replace LS3 := Lib.hid (LS3.out.kept hk))
                      clear hS hk hHeld
                      clear f0 f1 f2 f3 hlf g0 g1 g2 g3 hlg
                      obtain ⟨f0, f1, f2, f3, hlf⟩ := E.out.va.q
                      obtain ⟨g0, g1, g2, g3, hlg⟩ := E.out.vl.q
                      dsimp only at f0 f1 f2 f3 g0 g1 g2 g3
                      refine hK.out _ _ (by exact ⟨⟨f0, f1, f2, f3⟩, g0, g1, g2, g3⟩) (fun hHeld => ?_)
                      clear hK K
                      try simp only [Act.put]
                      try simp only [List.setIfInBounds_toArray]
                      try simp only [List.set_cons_succ]
                      try simp only [List.set_cons_zero]
                      refine wpAnyH_ready (rs := [16]) (by kernel_rfl) (by simp) ?_
                      refine (AllReadyH.cons (by simp only [List.getElem?_toArray, List.getElem?_cons_succ, List.getElem?_cons_zero]; rfl) (fun K hK => ?_) AllReadyH.nil)
                      -- a call of the region: srcFr_any w.heap.size 9 2 _ (by exact E.out.s) (by omega) (by omega) (by omega) (by omega) the contract, wi the world behind, u11 u12 the numbers
                      rw [if_pos (by rfl)]
                      go_simp
                      refine (srcFr_any w.heap.size 9 2 _ (by exact E.out.s) (by omega) (by omega) (by omega) (by omega)).mono ?_
                      rintro e wi ⟨u11, u12, _, rfl, hS, hk⟩
                      replace E := Lib.hid (E.out.kept hS hk); replace LS0 := Lib.hid (LS0.out.kept hk)
                      try (replace LS1 := Lib.hid (LS1.out.kept hk))
                      try (replace LS3 := Lib.hid (LS3.out.kept hk))
                      clear hS hk hHeld
                      clear f0 f1 f2 f3 hlf g0 g1 g2 g3 hlg
                      obtain ⟨f0, f1, f2, f3, hlf⟩ := E.out.va.q
                      obtain ⟨g0, g1, g2, g3, hlg⟩ := E.out.vl.q
                      dsimp only at f0 f1 f2 f3 g0 g1 g2 g3
                      refine hK.out _ _ (by exact ⟨⟨f0, f1, f2, f3⟩, g0, g1, g2, g3⟩) (fun hHeld => ?_)
                      clear hK K
                      try simp only [Act.put]
                      try simp only [List.setIfInBounds_toArray]
                      try simp only [List.set_cons_succ]
                      try simp only [List.set_cons_zero]
                      refine wpAnyH_take (i := 17) (oi := _) (v := ?_) (by simp only [List.getElem?_toArray, List.getElem?_cons_succ, List.getElem?_cons_zero]; rfl) (by kernel_rfl) (by kernel_rfl) (by kernel_rfl) (by exact fun _ _ _ h => h) (Or.inl ⟨by rfl, ?_⟩) (by assumption) ?_
                      rotate_left 1
                      · (intro w hSw; (try dsimp only at hSw); go_simp; try with_reducible rfl)
                      all_goals try simp only [Act.put]
                      all_goals try simp only [List.setIfInBounds_toArray]
                      all_goals try simp only [List.set_cons_succ]
                      all_goals try simp only [List.set_cons_zero]
                      refine wpAnyH_ready (rs := [18]) (by kernel_rfl) (by simp) ?_
                      refine (AllReadyH.cons (by simp only [List.getElem?_toArray, List.getElem?_cons_succ, List.getElem?_cons_zero]; rfl) (fun K hK => ?_) AllReadyH.nil)
                      rw [if_pos (by rfl)]
                      go_simp
                      have hps := E.out.s.lt
                      have hb := balloc wi (.cells #[.int .i64 u1, .int .i64 u2, .int .i64 u3, .int .i64 u4, .int .i64 u5, .int .i64 u6, .int .i64 u7, .int .i64 u8, .int .i64 u9, .int .i64 u10, .int .i64 u11, .int .i64 u12] 25)
                      have LN := Lib.hid (LsQ.lit (w := wi) hps 25 [⟨u1, u2, u3, u4⟩, ⟨u5, u6, u7, u8⟩, ⟨u9, u10, u11, u12⟩] 3 rfl (by omega))
                      generalize hwa : wi.alloc (.cells #[.int .i64 u1, .int .i64 u2, .int .i64 u3, .int .i64 u4, .int .i64 u5, .int .i64 u6, .int .i64 u7, .int .i64 u8, .int .i64 u9, .int .i64 u10, .int .i64 u11, .int .i64 u12] 25) = wj at *
                      replace LN := Lib.hid (show LsQ w.heap.size wj (some ⟨wi.heap.size, 0, none⟩) 3 3 [⟨u1, u2, u3, u4⟩, ⟨u5, u6, u7, u8⟩, ⟨u9, u10, u11, u12⟩] by rw [← hwa]; exact LN.out)
                      clear hwa
                      -- hb the facts (Below) that all things are carried by
                      replace E := Lib.hid (E.out.below hb); replace LS0 := Lib.hid (LS0.out.below hb)
                      try (replace LS4 := Lib.hid (LS4.out.below hb))
                      try (replace LB := Lib.hid (LB.out.below hb LB.out.lt))
                      try (replace LS1 := Lib.hid (LS1.out.below hb))
                      try (replace LS2 := Lib.hid (LS2.out.below hb))
                      try (replace LS3 := Lib.hid (LS3.out.below hb))
                      try (replace DX := Lib.hid (DX.out.below hb DX.out.lt))
                      try (replace F1 := Lib.hid (F1.out.below hb F1.out.lt))
                      try (replace I1 := Lib.hid (I1.out.ext hb))
                      have LS2 := LN
                      generalize wi.heap.size = G2 at *
                      clear LN hb hHeld hps
                      clear f0 f1 f2 f3 hlf g0 g1 g2 g3 hlg
                      obtain ⟨f0, f1, f2, f3, hlf⟩ := E.out.va.q
                      obtain ⟨g0, g1, g2, g3, hlg⟩ := E.out.vl.q
                      dsimp only at f0 f1 f2 f3 g0 g1 g2 g3
                      refine hK.out _ _ (by exact ⟨⟨f0, f1, f2, f3⟩, g0, g1, g2, g3⟩) (fun hHeld => ?_)
                      clear hK K
                      try simp only [Act.put]
                      try simp only [List.setIfInBounds_toArray]
                      try simp only [List.set_cons_succ]
                      try simp only [List.set_cons_zero]
                      refine wpAnyH_ready (rs := [20]) (by kernel_rfl) (by simp) ?_
                      refine (AllReadyH.cons (by simp only [List.getElem?_toArray, List.getElem?_cons_succ, List.getElem?_cons_zero]; rfl) (fun K hK => ?_) AllReadyH.nil)
                      rw [if_pos (by rfl)]
                      go_simp
                      have hps := E.out.s.lt
                      have hb := balloc wj (.cells #[.slice A2 n2 c2, .slice none 0 0, .slice (some ⟨G1, 0, none⟩) 1 1, .slice (some ⟨G2, 0, none⟩) 3 3, .slice (some ⟨G, 0, none⟩) nm nm] 28)
                      have LL := Lib.hid (Blk.new wj 28 #[.slice A2 n2 c2, .slice none 0 0, .slice (some ⟨G1, 0, none⟩) 1 1, .slice (some ⟨G2, 0, none⟩) 3 3, .slice (some ⟨G, 0, none⟩) nm nm])
                      generalize hwa : wj.alloc (.cells #[.slice A2 n2 c2, .slice none 0 0, .slice (some ⟨G1, 0, none⟩) 1 1, .slice (some ⟨G2, 0, none⟩) 3 3, .slice (some ⟨G, 0, none⟩) nm nm] 28) = wz at *
                      clear hwa
                      -- hb the facts (Below) that all things are carried by
                      replace E := Lib.hid (E.out.below hb); replace LS0 := Lib.hid (LS0.out.below hb)
                      try (replace LS4 := Lib.hid (LS4.out.below hb))
                      try (replace LB := Lib.hid (LB.out.below hb LB.out.lt))
                      try (replace LS1 := Lib.hid (LS1.out.below hb))
                      try (replace LS2 := Lib.hid (LS2.out.below hb))
                      try (replace LS3 := Lib.hid (LS3.out.below hb))
                      try (replace DX := Lib.hid (DX.out.below hb DX.out.lt))
                      try (replace F1 := Lib.hid (F1.out.below hb F1.out.lt))
                      try (replace I1 := Lib.hid (I1.out.ext hb))
                      generalize wj.heap.size = bb at *
                      clear hb hHeld
                      clear f0 f1 f2 f3 hlf g0 g1 g2 g3 hlg
                      obtain ⟨f0, f1, f2, f3, hlf⟩ := E.out.va.q
                      obtain ⟨g0, g1, g2, g3, hlg⟩ := E.out.vl.q
                      dsimp only at f0 f1 f2 f3 g0 g1 g2 g3
                      refine hK.out _ _ (by exact ⟨⟨f0, f1, f2, f3⟩, g0, g1, g2, g3⟩) (fun hHeld => ?_)
                      clear hK K
                      try simp only [Act.put]
                      try simp only [List.setIfInBounds_toArray]
                      try simp only [List.set_cons_succ]
                      try simp only [List.set_cons_zero]
                      refine wpAnyH_take (i := 21) (oi := _) (v := ?_) (by simp only [List.getElem?_toArray, List.getElem?_cons_succ, List.getElem?_cons_zero]; rfl) (by kernel_rfl) (by kernel_rfl) (by kernel_rfl) (by exact fun _ _ _ h => h) (Or.inl ⟨by rfl, ?_⟩) (by assumption) ?_
                      rotate_left 1
                      · (intro w hSw; (try dsimp only at hSw); go_simp; try with_reducible rfl)
                      all_goals try simp only [Act.put]
                      all_goals try simp only [List.setIfInBounds_toArray]
                      all_goals try simp only [List.set_cons_succ]
                      all_goals try simp only [List.set_cons_zero]
                      refine wpAnyH_done (by kernel_rfl) ?_ _
                      clear hHeld
                      clear f0 f1 f2 f3 hlf g0 g1 g2 g3 hlg
                      go_wp2_with fail
                      go_meet
                      exact ⟨bb, G1, G2, _, rfl, rfl, rfl, E.out, LL.out, Nat.ne_of_gt hps, LS0.out, LS1.out, LS2.out, LS3.out⟩
                    · -- a call of the region: ratio12_any w.heap.size _ (by exact E.out.s) the contract, wg the world behind, u9 u10 the numbers
                      rw [if_pos (by rfl)]
                      go_simp
                      refine (ratio12_any w.heap.size _ (by exact E.out.s)).mono ?_
                      rintro e wg ⟨u9, u10, _, rfl, hS, hk⟩
                      replace E := Lib.hid (E.out.kept hS hk); replace LS0 := Lib.hid (LS0.out.kept hk)
                      try (replace LS1 := Lib.hid (LS1.out.kept hk))
                      try (replace LS3 := Lib.hid (LS3.out.kept hk))
                      clear hS hk hHeld
                      clear f0 f1 f2 f3 hlf g0 g1 g2 g3 hlg
                      obtain ⟨f0, f1, f2, f3, hlf⟩ := E.out.va.q
                      obtain ⟨g0, g1, g2, g3, hlg⟩ := E.out.vl.q
                      dsimp only at f0 f1 f2 f3 g0 g1 g2 g3
                      refine hK.out _ _ (by exact ⟨⟨f0, f1, f2, f3⟩, g0, g1, g2, g3⟩) (fun hHeld => ?_)
                      clear hK K
                      try simp only [Act.put]
                      try simp only [List.setIfInBounds_toArray]
                      try simp only [List.set_cons_succ]
                      try simp only [List.set_cons_zero]
                      refine wpAnyH_ready (rs := [2, 16]) (by kernel_rfl) (by simp) ?_
                      refine (AllReadyH.cons (by simp only [List.getElem?_toArray, List.getElem?_cons_succ, List.getElem?_cons_zero]; rfl) (fun K hK => ?_) (AllReadyH.cons (by simp only [List.getElem?_toArray, List.getElem?_cons_succ, List.getElem?_cons_zero]; rfl) (fun K hK => ?_) AllReadyH.nil))
                      · rw [if_pos (by rfl)]
                        go_simp
                        have hps := E.out.s.lt
                        have hb := balloc wg (.cells #[.int .i64 R, .int .i64 r, .int .i64 L, .int .i64 l] 25)
                        have LN := Lib.hid (LsQ.lit (w := wg) hps 25 [⟨R, r, L, l⟩] 1 rfl (by omega))
                        generalize hwa : wg.alloc (.cells #[.int .i64 R, .int .i64 r, .int .i64 L, .int .i64 l] 25) = wh at *
                        replace LN := Lib.hid (show LsQ w.heap.size wh (some ⟨wg.heap.size, 0, none⟩) 1 1 [⟨R, r, L, l⟩] by rw [← hwa]; exact LN.out)
                        clear hwa
                        -- hb the facts (Below) that all things are carried by
                        replace E := Lib.hid (E.out.below hb); replace LS0 := Lib.hid (LS0.out.below hb)
                        try (replace LS4 := Lib.hid (LS4.out.below hb))
                        try (replace LB := Lib.hid (LB.out.below hb LB.out.lt))
                        try (replace LS1 := Lib.hid (LS1.out.below hb))
                        try (replace LS2 := Lib.hid (LS2.out.below hb))
                        try (replace LS3 := Lib.hid (LS3.out.below hb))
                        try (replace DX := Lib.hid (DX.out.below hb DX.out.lt))
                        try (replace F1 := Lib.hid (F1.out.below hb F1.out.lt))
                        try (replace I1 := Lib.hid (I1.out.ext hb))
                        have LS1 := LN
                        generalize wg.heap.size = G1 at *
                        clear LN hb hHeld hps
                        clear f0 f1 f2 f3 hlf g0 g1 g2 g3 hlg
                        obtain ⟨f0, f1, f2, f3, hlf⟩ := E.out.va.q
                        obtain ⟨g0, g1, g2, g3, hlg⟩ := E.out.vl.q
                        dsimp only at f0 f1 f2 f3 g0 g1 g2 g3
                        refine hK.out _ _ (by exact ⟨⟨f0, f1, f2, f3⟩, g0, g1, g2, g3⟩) (fun hHeld => ?_)
                        clear hK K
                        try simp only [Act.put]
                        try simp only [List.setIfInBounds_toArray]
                        try simp only [List.set_cons_succ]
                        try simp only [List.set_cons_zero]
                        refine wpAnyH_ready (rs := [16]) (by kernel_rfl) (by simp) ?_
                        refine (AllReadyH.cons (by simp only [List.getElem?_toArray, List.getElem?_cons_succ, List.getElem?_cons_zero]; rfl) (fun K hK => ?_) AllReadyH.nil)
                        -- a call of the region: srcFr_any w.heap.size 9 2 _ (by exact E.out.s) (by omega) (by omega) (by omega) (by omega) the contract, wi the world behind, u11 u12 the numbers
                        rw [if_pos (by rfl)]
                        go_simp
                        refine (srcFr_any w.heap.size 9 2 _ (by exact E.out.s) (by omega) (by omega) (by omega) (by omega)).mono ?_
                        rintro e wi ⟨u11, u12, _, rfl, hS, hk⟩
                        replace E := Lib.hid (E.out.kept hS hk); replace LS0 := Lib.hid (LS0.out.kept hk)
                        try (replace LS1 := Lib.hid (LS1.out.kept hk))
                        try (replace LS3 := Lib.hid (LS3.out.kept hk))
                        clear hS hk hHeld
                        clear f0 f1 f2 f3 hlf g0 g1 g2 g3 hlg
                        obtain ⟨f0, f1, f2, f3, hlf⟩ := E.out.va.q
                        obtain ⟨g0, g1, g2, g3, hlg⟩ := E.out.vl.q
                        dsimp only at f0 f1 f2 f3 g0 g1 g2 g3
                        refine hK.out _ _ (by exact ⟨⟨f0, f1, f2, f3⟩, g0, g1, g2, g3⟩) (fun hHeld => ?_)
                        clear hK K
                        try simp only [Act.put]
                        try simp only [List.setIfInBounds_toArray]
                        try simp only [List.set_cons_succ]
                        try simp only [List.set_cons_zero]
                        refine wpAnyH_take (i := 17) (oi := _) (v := ?_) (by simp only [List.getElem?_toArray, List.getElem?_cons_succ, List.getElem?_cons_zero]; rfl) (by kernel_rfl) (by kernel_rfl) (by kernel_rfl) (by exact fun _ _ _ h => h) (Or.inl ⟨by rfl, ?_⟩) (by assumption) ?_
                        rotate_left 1
                        · (intro w hSw; (try dsimp only at hSw); go_simp; try with_reducible rfl)
                        all_goals try simp only [Act.put]
                        all_goals try simp only [List.setIfInBounds_toArray]
                        all_goals try simp only [List.set_cons_succ]
                        all_goals try simp only [List.set_cons_zero]
                        refine wpAnyH_ready (rs := [18]) (by kernel_rfl) (by simp) ?_
                        refine (AllReadyH.cons (by simp only [List.getElem?_toArray, List.getElem?_cons_succ, List.getElem?_cons_zero]; rfl) (fun K hK => ?_) AllReadyH.nil)
                        rw [if_pos (by rfl)]
                        go_simp
                        have hps := E.out.s.lt
                        have hb := balloc wi (.cells #[.int .i64 u1, .int .i64 u2, .int .i64 u3, .int .i64 u4, .int .i64 u5, .int .i64 u6, .int .i64 u7, .int .i64 u8, .int .i64 u9, .int .i64 u10, .int .i64 u11, .int .i64 u12] 25)
                        have LN := Lib.hid (LsQ.lit (w := wi) hps 25 [⟨u1, u2, u3, u4⟩, ⟨u5, u6, u7, u8⟩, ⟨u9, u10, u11, u12⟩] 3 rfl (by omega))
                        generalize hwa : wi.alloc (.cells #[.int .i64 u1, .int .i64 u2, .int .i64 u3, .int .i64 u4, .int .i64 u5, .int .i64 u6, .int .i64 u7, .int .i64 u8, .int .i64 u9, .int .i64 u10, .int .i64 u11, .int .i64 u12] 25) = wj at *
                        replace LN := Lib.hid (show LsQ w.heap.size wj (some ⟨wi.heap.size, 0, none⟩) 3 3 [⟨u1, u2, u3, u4⟩, ⟨u5, u6, u7, u8⟩, ⟨u9, u10, u11, u12⟩] by rw [← hwa]; exact LN.out)
                        clear hwa
                        -- hb the facts (Below) that all things are carried by
                        replace E := Lib.hid (E.out.below hb); replace LS0 := Lib.hid (LS0.out.below hb)
                        try (replace LS4 := Lib.hid (LS4.out.below hb))
                        try (replace LB := Lib.hid (LB.out.below hb LB.out.lt))
                        try (replace LS1 := Lib.hid (LS1.out.below hb))
                        try (replace LS2 := Lib.hid (LS2.out.below hb))
                        try (replace LS3 := Lib.hid (LS3.out.below hb))
                        try (replace DX := Lib.hid (DX.out.below hb DX.out.lt))
                        try (replace F1 := Lib.hid (F1.out.below hb F1.out.lt))
                        try (replace I1 := Lib.hid (I1.out.ext hb))
                        have LS2 := LN
                        generalize wi.heap.size = G2 at *
                        clear LN hb hHeld hps
                        clear f0 f1 f2 f3 hlf g0 g1 g2 g3 hlg
                        obtain ⟨f0, f1, f2, f3, hlf⟩ := E.out.va.q
                        obtain ⟨g0, g1, g2, g3, hlg⟩ := E.out.vl.q
                        dsimp only at f0 f1 f2 f3 g0 g1 g2 g3
                        refine hK.out _ _ (by exact ⟨⟨f0, f1, f2, f3⟩, g0, g1, g2, g3⟩) (fun hHeld => ?_)
                        clear hK K
                        try simp only [Act.put]
                        try simp only [List.setIfInBounds_toArray]
                        try simp only [List.set_cons_succ]
                        try simp only [List.set_cons_zero]
                        refine wpAnyH_ready (rs := [20]) (by kernel_rfl) (by simp) ?_
                        refine (AllReadyH.cons (by simp only [List.getElem?_toArray, List.getElem?_cons_succ, List.getElem?_cons_zero]; rfl) (fun K hK => ?_) AllReadyH.nil)
                        rw [if_pos (by rfl)]
                        go_simp
                        have hps := E.out.s.lt
                        have hb := balloc wj (.cells #[.slice A2 n2 c2, .slice none 0 0, .slice (some ⟨G1, 0, none⟩) 1 1, .slice (some ⟨G2, 0, none⟩) 3 3, .slice (some ⟨G, 0, none⟩) nm nm] 28)
                        have LL := Lib.hid (Blk.new wj 28 #[.slice A2 n2 c2, .slice none 0 0, .slice (some ⟨G1, 0, none⟩) 1 1, .slice (some ⟨G2, 0, none⟩) 3 3, .slice (some ⟨G, 0, none⟩) nm nm])
                        generalize hwa : wj.alloc (.cells #[.slice A2 n2 c2, .slice none 0 0, .slice (some ⟨G1, 0, none⟩) 1 1, .slice (some ⟨G2, 0, none⟩) 3 3, .slice (some ⟨G, 0, none⟩) nm nm] 28) = wz at *
                        clear hwa
                        -- hb the facts (Below) that all things are carried by
                        replace E := Lib.hid (E.out.below hb); replace LS0 := Lib.hid (LS0.out.below hb)
                        try (replace LS4 := Lib.hid (LS4.out.below hb))
                        try (replace LB := Lib.hid (LB.out.below hb LB.out.lt))
                        try (replace LS1 := Lib.hid (LS1.out.below hb))
                        try (replace LS2 := Lib.hid (LS2.out.below hb))
                        try (replace LS3 := Lib.hid (LS3.out.below hb))
                        try (replace DX := Lib.hid (DX.out.below hb DX.out.lt))
                        try (replace F1 := Lib.hid (F1.out.below hb F1.out.lt))
                        try (replace I1 := Lib.hid (I1.out.ext hb))
                        generalize wj.heap.size = bb at *
                        clear hb hHeld
                        clear f0 f1 f2 f3 hlf g0 g1 g2 g3 hlg
                        obtain ⟨f0, f1, f2, f3, hlf⟩ := E.out.va.q
                        obtain ⟨g0, g1, g2, g3, hlg⟩ := E.out.vl.q
                        dsimp only at f0 f1 f2 f3 g0 g1 g2 g3
                        refine hK.out _ _ (by exact ⟨⟨f0, f1, f2, f3⟩, g0, g1, g2, g3⟩) (fun hHeld => ?_)
                        clear hK K
                        try simp only [Act.put]
                        try simp only [List.setIfInBounds_toArray]
                        try simp only [List.set_cons_succ]
                        try simp only [List.set_cons_zero]
                        refine wpAnyH_take (i := 21) (oi := _) (v := ?_) (by simp only [List.getElem?_toArray, List.getElem?_cons_succ, List.getElem?_cons_zero]; rfl) (by kernel_rfl) (by kernel_rfl) (by kernel_rfl) (by exact fun _ _ _ h => h) (Or.inl ⟨by rfl, ?_⟩) (by assumption) ?_
                        rotate_left 1
                        · (intro w hSw; (try dsimp only at hSw); go_simp; try with_reducible rfl)
                        all_goals try simp only [Act.put]
                        all_goals try simp only [List.setIfInBounds_toArray]
                        all_goals try simp only [List.set_cons_succ]
                        all_goals try simp only [List.set_cons_zero]
                        refine wpAnyH_done (by kernel_rfl) ?_ _
                        clear hHeld
                        clear f0 f1 f2 f3 hlf g0 g1 g2 g3 hlg
                        go_wp2_with fail
                        go_meet
                        exact ⟨bb, G1, G2, _, rfl, rfl, rfl, E.out, LL.out, Nat.ne_of_gt hps, LS0.out, LS1.out, LS2.out, LS3.out⟩
                      · -- a call of the region: srcFr_any w.heap.size 9 2 _ (by exact E.out.s) (by omega) (by omega) (by omega) (by omega) the contract, wh the world behind, u11 u12 the numbers
                        rw [if_pos (by rfl)]
                        go_simp
                        refine (srcFr_any w.heap.size 9 2 _ (by exact E.out.s) (by omega) (by omega) (by omega) (by omega)).mono ?_
                        rintro e wh ⟨u11, u12, _, rfl, hS, hk⟩
                        replace E := Lib.hid (E.out.kept hS hk); replace LS0 := Lib.hid (LS0.out.kept hk)
                        try (replace LS1 := Lib.hid (LS1.out.kept hk))
                        try (replace LS3 := Lib.hid (LS3.out.kept hk))
                        clear hS hk hHeld
                        clear f0 f1 f2 f3 hlf g0 g1 g2 g3 hlg
                        obtain ⟨f0, f1, f2, f3, hlf⟩ := E.out.va.q
                        obtain ⟨g0, g1, g2, g3, hlg⟩ := E.out.vl.q
                        dsimp only at f0 f1 f2 f3 g0 g1 g2 g3
                        refine hK.out _ _ (by exact ⟨⟨f0, f1, f2, f3⟩, g0, g1, g2, g3⟩) (fun hHeld => ?_)
                        clear hK K
                        try simp only [Act.put]
                        try simp only [List.setIfInBounds_toArray]
                        try simp only [List.set_cons_succ]
                        try simp only [List.set_cons_zero]
                        refine wpAnyH_take (i := 17) (oi := _) (v := ?_) (by simp only [List.getElem?_toArray, List.getElem?_cons_succ, List.getElem?_cons_zero]; rfl) (by kernel_rfl) (by kernel_rfl) (by kernel_rfl) (by exact fun _ _ _ h => h) (Or.inl ⟨by rfl, ?_⟩) (by assumption) ?_
                        rotate_left 1
                        · (intro w hSw; (try dsimp only at hSw); go_simp; try with_reducible rfl)
                        all_goals try simp only [Act.put]
                        all_goals try simp only [List.setIfInBounds_toArray]
                        all_goals try simp only [List.set_cons_succ]
                        all_goals try simp only [List.set_cons_zero]
                        refine wpAnyH_ready (rs := [2, 18]) (by kernel_rfl) (by simp) ?_
                        refine (AllReadyH.cons (by simp only [List.getElem?_toArray, List.getElem?_cons_succ, List.getElem?_cons_zero]; rfl) (fun K hK => ?_) (AllReadyH.cons (by simp only [List.getElem?_toArray, List.getElem?_cons_succ, List.getElem?_cons_zero]; rfl) (fun K hK => ?_) AllReadyH.nil))
                        · rw [if_pos (by rfl)]
                          go_simp
                          have hps := E.out.s.lt
                          have hb := balloc wh (.cells #[.int .i64 R, .int .i64 r, .int .i64 L, .int .i64 l] 25)
                          have LN := Lib.hid (LsQ.lit (w := wh) hps 25 [⟨R, r, L, l⟩] 1 rfl (by omega))
                          generalize hwa : wh.alloc (.cells #[.int .i64 R, .int .i64 r, .int .i64 L, .int .i64 l] 25) = wi at *
                          replace LN := Lib.hid (show LsQ w.heap.size wi (some ⟨wh.heap.size, 0, none⟩) 1 1 [⟨R, r, L, l⟩] by rw [← hwa]; exact LN.out)
                          clear hwa
                          -- hb the facts (Below) that all things are carried by
                          replace E := Lib.hid (E.out.below hb); replace LS0 := Lib.hid (LS0.out.below hb)
                          try (replace LS4 := Lib.hid (LS4.out.below hb))
                          try (replace LB := Lib.hid (LB.out.below hb LB.out.lt))
                          try (replace LS1 := Lib.hid (LS1.out.below hb))
                          try (replace LS2 := Lib.hid (LS2.out.below hb))
                          try (replace LS3 := Lib.hid (LS3.out.below hb))
                          try (replace DX := Lib.hid (DX.out.below hb DX.out.lt))
                          try (replace F1 := Lib.hid (F1.out.below hb F1.out.lt))
                          try (replace I1 := Lib.hid (I1.out.ext hb))
                          have LS1 := LN
                          generalize wh.heap.size = G1 at *
                          clear LN hb hHeld hps
                          clear f0 f1 f2 f3 hlf g0 g1 g2 g3 hlg
                          obtain ⟨f0, f1, f2, f3, hlf⟩ := E.out.va.q
                          obtain ⟨g0, g1, g2, g3, hlg⟩ := E.out.vl.q
                          dsimp only at f0 f1 f2 f3 g0 g1 g2 g3
                          refine hK.out _ _ (by exact ⟨⟨f0, f1, f2, f3⟩, g0, g1, g2, g3⟩) (fun hHeld => ?_)
                          clear hK K
                          try simp only [Act.put]
                          try simp only [List.setIfInBounds_toArray]
                          try simp only [List.set_cons_succ]
                          try simp only [List.set_cons_zero]
                          refine wpAnyH_ready (rs := [18]) (by kernel_rfl) (by simp) ?_
                          refine (AllReadyH.cons (by simp only [List.getElem?_toArray, List.getElem?_cons_succ, List.getElem?_cons_zero]; rfl) (fun K hK => ?_) AllReadyH.nil)
                          rw [if_pos (by rfl)]
                          go_simp
                          have hps := E.out.s.lt
                          have hb := balloc wi (.cells #[.int .i64 u1, .int .i64 u2, .int .i64 u3, .int .i64 u4, .int .i64 u5, .int .i64 u6, .int .i64 u7, .int .i64 u8, .int .i64 u9, .int .i64 u10, .int .i64 u11, .int .i64 u12] 25)
                          have LN := Lib.hid (LsQ.lit (w := wi) hps 25 [⟨u1, u2, u3, u4⟩, ⟨u5, u6, u7, u8⟩, ⟨u9, u10, u11, u12⟩] 3 rfl (by omega))
                          generalize hwa : wi.alloc (.cells #[.int .i64 u1, .int .i64 u2, .int .i64 u3, .int .i64 u4, .int .i64 u5, .int .i64 u6, .int .i64 u7, .int .i64 u8, .int .i64 u9, .int .i64 u10, .int .i64 u11, .int .i64 u12] 25) = wj at *
                          replace LN := Lib.hid (show LsQ w.heap.size wj (some ⟨wi.heap.size, 0, none⟩) 3 3 [⟨u1, u2, u3, u4⟩, ⟨u5, u6, u7, u8⟩, ⟨u9, u10, u11, u12⟩] by rw [← hwa]; exact LN.out)
                          clear hwa
                          -- hb the facts (Below) that all things are carried by
                          replace E := Lib.hid (E.out.below hb); replace LS0 := Lib.hid (LS0.out.below hb)
                          try (replace LS4 := Lib.hid (LS4.out.below hb))
                          try (replace LB := Lib.hid (LB.out.below hb LB.out.lt))
                          try (replace LS1 := Lib.hid (LS1.out.below hb))
                          try (replace LS2 := Lib.hid (LS2.out.below hb))
                          try (replace LS3 := Lib.hid (LS3.out.below hb))
                          try (replace DX := Lib.hid (DX.out.below hb DX.out.lt))
                          try (replace F1 := Lib.hid (F1.out.below hb F1.out.lt))
                          try (replace I1 := Lib.hid (I1.out.ext hb))
                          have LS2 := LN
                          generalize wi.heap.size = G2 at *
                          clear LN hb hHeld hps
                          clear f0 f1 f2 f3 hlf g0 g1 g2 g3 hlg
                          obtain ⟨f0, f1, f2, f3, hlf⟩ := E.out.va.q
                          obtain ⟨g0, g1, g2, g3, hlg⟩ := E.out.vl.q
                          dsimp only at f0 f1 f2 f3 g0 g1 g2 g3
                          refine hK.out _ _ (by exact ⟨⟨f0, f1, f2, f3⟩, g0, g1, g2, g3⟩) (fun hHeld => ?_)
                          clear hK K
                          try simp only [Act.put]
                          try simp only [List.setIfInBounds_toArray]
                          try simp only [List.set_cons_succ]
                          try simp only [List.set_cons_zero]
                          refine wpAnyH_ready (rs := [20]) (by kernel_rfl) (by simp) ?_
                          refine (AllReadyH.cons (by simp only [List.getElem?_toArray, List.getElem?_cons_succ, List.getElem?_cons_zero]; rfl) (fun K hK => ?_) AllReadyH.nil)
                          rw [if_pos (by rfl)]
                          go_simp
                          have hps := E.out.s.lt
                          have hb := balloc wj (.cells #[.slice A2 n2 c2, .slice none 0 0, .slice (some ⟨G1, 0, none⟩) 1 1, .slice (some ⟨G2, 0, none⟩) 3 3, .slice (some ⟨G, 0, none⟩) nm nm] 28)
                          have LL := Lib.hid (Blk.new wj 28 #[.slice A2 n2 c2, .slice none 0 0, .slice (some ⟨G1, 0, none⟩) 1 1, .slice (some ⟨G2, 0, none⟩) 3 3, .slice (some ⟨G, 0, none⟩) nm nm])
                          generalize hwa : wj.alloc (.cells #[.slice A2 n2 c2, .slice none 0 0, .slice (some ⟨G1, 0, none⟩) 1 1, .slice (some ⟨G2, 0, none⟩) 3 3, .slice (some ⟨G, 0, none⟩) nm nm] 28) = wz at *
                          clear hwa
                          -- hb the facts (Below) that all things are carried by
                          replace E := Lib.hid (E.out.below hb); replace LS0 := Lib.hid (LS0.out.below hb)
                          try (replace LS4 := Lib.hid (LS4.out.below hb))
                          try (replace LB := Lib.hid (LB.out.below hb LB.out.lt))
                          try (replace LS1 := Lib.hid (LS1.out.below hb))
                          try (replace LS2 := Lib.hid (LS2.out.below hb))
                          try (replace LS3 := Lib.hid (LS3.out.below hb))
                          try (replace DX := Lib.hid (DX.out.below hb DX.out.lt))
                          try (replace F1 := Lib.hid (F1.out.below hb F1.out.lt))
                          try (replace I1 := Lib.hid (I1.out.ext hb))
                          generalize wj.heap.size = bb at *
                          clear hb hHeld
                          clear f0 f1 f2 f3 hlf g0 g1 g2 g3 hlg
                          obtain ⟨f0, f1, f2, f3, hlf⟩ := E.out.va.q
                          obtain ⟨g0, g1, g2, g3, hlg⟩ := E.out.vl.q
                          dsimp only at f0 f1 f2 f3 g0 g1 g2 g3
                          refine hK.out _ _ (by exact ⟨⟨f0, f1, f2, f3⟩, g0, g1, g2, g3⟩) (fun hHeld => ?_)
                          clear hK K
                          try simp only [Act.put]
                          try simp only [List.setIfInBounds_toArray]
                          try simp only [List.set_cons_succ]
                          try simp only [List.set_cons_zero]
                          refine wpAnyH_take (i := 21) (oi := _) (v := ?_) (by simp only [List.getElem?_toArray, List.getElem?_cons_succ, List.getElem?_cons_zero]; rfl) (by kernel_rfl) (by kernel_rfl) (by kernel_rfl) (by exact fun _ _ _ h => h) (Or.inl ⟨by rfl, ?_⟩) (by assumption) ?_
                          rotate_left 1
                          · (intro w hSw; (try dsimp only at hSw); go_simp; try with_reducible rfl)
                          all_goals try simp only [Act.put]
                          all_goals try simp only [List.setIfInBounds_toArray]
                          all_goals try simp only [List.set_cons_succ]
                          all_goals try simp only [List.set_cons_zero]
                          refine wpAnyH_done (by kernel_rfl) ?_ _
                          clear hHeld
                          clear f0 f1 f2 f3 hlf g0 g1 g2 g3 hlg
                          go_wp2_with fail
                          go_meet
                          exact ⟨bb, G1, G2, _, rfl, rfl, rfl, E.out, LL.out, Nat.ne_of_gt hps, LS0.out, LS1.out, LS2.out, LS3.out⟩
                        · rw [if_pos (by rfl)]
                          go_simp
                          have hps := E.out.s.lt
                          have hb := balloc wh (.cells #[.int .i64 u1, .int .i64 u2, .int .i64 u3, .int .i64 u4, .int .i64 u5, .int .i64 u6, .int .i64 u7, .int .i64 u8, .int .i64 u9, .int .i64 u10, .int .i64 u11, .int .i64 u12] 25)
                          have LN := Lib.hid (LsQ.lit (w := wh) hps 25 [⟨u1, u2, u3, u4⟩, ⟨u5, u6, u7, u8⟩, ⟨u9, u10, u11, u12⟩] 3 rfl (by omega))
                          generalize hwa : wh.alloc (.cells #[.int .i64 u1, .int .i64 u2, .int .i64 u3, .int .i64 u4, .int .i64 u5, .int .i64 u6, .int .i64 u7, .int .i64 u8, .int .i64 u9, .int .i64 u10, .int .i64 u11, .int .i64 u12] 25) = wi at *
                          replace LN := Lib.hid (show LsQ w.heap.size wi (some ⟨wh.heap.size, 0, none⟩) 3 3 [⟨u1, u2, u3, u4⟩, ⟨u5, u6, u7, u8⟩, ⟨u9, u10, u11, u12⟩] by rw [← hwa]; exact LN.out)
                          clear hwa
                          -- hb the facts (Below) that all things are carried by
                          replace E := Lib.hid (E.out.below hb); replace LS0 := Lib.hid (LS0.out.below hb)
                          try (replace LS4 := Lib.hid (LS4.out.below hb))
                          try (replace LB := Lib.hid (LB.out.below hb LB.out.lt))
                          try (replace LS1 := Lib.hid (LS1.out.below hb))
                          try (replace LS2 := Lib.hid (LS2.out.below hb))
                          try (replace LS3 := Lib.hid (LS3.out.below hb))
                          try (replace DX := Lib.hid (DX.out.below hb DX.out.lt))
                          try (replace F1 := Lib.hid (F1.out.below hb F1.out.lt))
                          try (replace I1 := Lib.hid (I1.out.ext hb))
                          have LS2 := LN
                          generalize wh.heap.size = G2 at *
                          clear LN hb hHeld hps
                          clear f0 f1 f2 f3 hlf g0 g1 g2 g3 hlg
                          obtain ⟨f0, f1, f2, f3, hlf⟩ := E.out.va.q
                          obtain ⟨g0, g1, g2, g3, hlg⟩ := E.out.vl.q
                          dsimp only at f0 f1 f2 f3 g0 g1 g2 g3
                          refine hK.out _ _ (by exact ⟨⟨f0, f1, f2, f3⟩, g0, g1, g2, g3⟩) (fun hHeld => ?_)
                          clear hK K
                          try simp only [Act.put]
                          try simp only [List.setIfInBounds_toArray]
                          try simp only [List.set_cons_succ]
                          try simp only [List.set_cons_zero]
                          refine wpAnyH_ready (rs := [2]) (by kernel_rfl) (by simp) ?_
                          refine (AllReadyH.cons (by simp only [List.getElem?_toArray, List.getElem?_cons_succ, List.getElem?_cons_zero]; rfl) (fun K hK => ?_) AllReadyH.nil)
                          rw [if_pos (by rfl)]
                          go_simp
                          have hps := E.out.s.lt
                          have hb := balloc wi (.cells #[.int .i64 R, .int .i64 r, .int .i64 L, .int .i64 l] 25)
                          have LN := Lib.hid (LsQ.lit (w := wi) hps 25 [⟨R, r, L, l⟩] 1 rfl (by omega))
                          generalize hwa : wi.alloc (.cells #[.int .i64 R, .int .i64 r, .int .i64 L, .int .i64 l] 25) = wj at *
                          replace LN := Lib.hid (show LsQ w.heap.size wj (some ⟨wi.heap.size, 0, none⟩) 1 1 [⟨R, r, L, l⟩] by rw [← hwa]; exact LN.out)
                          clear hwa
                          -- hb the facts (Below) that all things are carried by
                          replace E := Lib.hid (E.out.below hb); replace LS0 := Lib.hid (LS0.out.below hb)
                          try (replace LS4 := Lib.hid (LS4.out.below hb))
                          try (replace LB := Lib.hid (LB.out.below hb LB.out.lt))
                          try (replace LS1 := Lib.hid (LS1.out.below hb))
                          try (replace LS2 := Lib.hid (LS2.out.below hb))
                          try (replace LS3 := Lib.hid (LS3.out.below hb))
                          try (replace DX := Lib.hid (DX.out.below hb DX.out.lt))
                          try (replace F1 := Lib.hid (F1.out.below hb F1.out.lt))
                          try (replace I1 := Lib.hid (I1.out.ext hb))
                          have LS1 := LN
                          generalize wi.heap.size = G1 at *
                          clear LN hb hHeld hps
                          clear f0 f1 f2 f3 hlf g0 g1 g2 g3 hlg
                          obtain ⟨f0, f1, f2, f3, hlf⟩ := E.out.va.q
                          obtain ⟨g0, g1, g2, g3, hlg⟩ := E.out.vl.q
                          dsimp only at f0 f1 f2 f3 g0 g1 g2 g3
                          refine hK.out _ _ (by exact ⟨⟨f0, f1, f2, f3⟩, g0, g1, g2, g3⟩) (fun hHeld => ?_)
                          clear hK K
                          try simp only [Act.put]
                          try simp only [List.setIfInBounds_toArray]
                          try simp only [List.set_cons_succ]
                          try simp only [List.set_cons_zero]
                          refine wpAnyH_ready (rs := [20]) (by kernel_rfl) (by simp) ?_
                          refine (AllReadyH.cons (by simp only [List.getElem?_toArray, List.getElem?_cons_succ, List.getElem?_cons_zero]; rfl) (fun K hK => ?_) AllReadyH.nil)
                          rw [if_pos (by rfl)]
                          go_simp
                          have hps := E.out.s.lt
                          have hb := balloc wj (.cells #[.slice A2 n2 c2, .slice none 0 0, .slice (some ⟨G1, 0, none⟩) 1 1, .slice (some ⟨G2, 0, none⟩) 3 3, .slice (some ⟨G, 0, none⟩) nm nm] 28)
                          have LL := Lib.hid (Blk.new wj 28 #[.slice A2 n2 c2, .slice none 0 0, .slice (some ⟨G1, 0, none⟩) 1 1, .slice (some ⟨G2, 0, none⟩) 3 3, .slice (some ⟨G, 0, none⟩) nm nm])
                          generalize hwa : wj.alloc (.cells #[.slice A2 n2 c2, .slice none 0 0, .slice (some ⟨G1, 0, none⟩) 1 1, .slice (some ⟨G2, 0, none⟩) 3 3, .slice (some ⟨G, 0, none⟩) nm nm] 28) = wz at *
                          clear hwa
                          -- hb the facts (Below) that all things are carried by
                          replace E := Lib.hid (E.out.below hb); replace LS0 := Lib.hid (LS0.out.below hb)
                          try (replace LS4 := Lib.hid (LS4.out.below hb))
                          try (replace LB := Lib.hid (LB.out.below hb LB.out.lt))
                          try (replace LS1 := Lib.hid (LS1.out.below hb))
                          try (replace LS2 := Lib.hid (LS2.out.below hb))
                          try (replace LS3 := Lib.hid (LS3.out.below hb))
                          try (replace DX := Lib.hid (DX.out.below hb DX.out.lt))
                          try (replace F1 := Lib.hid (F1.out.below hb F1.out.lt))
                          try (replace I1 := Lib.hid (I1.out.ext hb))
                          generalize wj.heap.size = bb at *
                          clear hb hHeld
                          clear f0 f1 f2 f3 hlf g0 g1 g2 g3 hlg
                          obtain ⟨f0, f1, f2, f3, hlf⟩ := E.out.va.q
                          obtain ⟨g0, g1, g2, g3, hlg⟩ := E.out.vl.q
                          dsimp only at f0 f1 f2 f3 g0 g1 g2 g3
                          refine hK.out _ _ (by exact ⟨⟨f0, f1, f2, f3⟩, g0, g1, g2, g3⟩) (fun hHeld => ?_)
                          clear hK K
                          try simp only [Act.put]
                          try simp only [List.setIfInBounds_toArray]
                          try simp only [List.set_cons_succ]
                          try simp only [List.set_cons_zero]
                          refine wpAnyH_take (i := 21) (oi := _) (v := ?_) (by simp only [List.getElem?_toArray, List.getElem?_cons_succ, List.getElem?_cons_zero]; rfl) (by kernel_rfl) (by kernel_rfl) (by kernel_rfl) (by exact fun _ _ _ h => h) (Or.inl ⟨by rfl, ?_⟩) (by assumption) ?_
                          rotate_left 1
                          · (intro w hSw; (try dsimp only at hSw); go_simp; try with_reducible rfl)
                          all_goals try simp only [Act.put]
                          all_goals try simp only [List.setIfInBounds_toArray]
                          all_goals try simp only [List.set_cons_succ]
                          all_goals try simp only [List.set_cons_zero]
                          refine wpAnyH_done (by kernel_rfl) ?_ _
                          clear hHeld
                          clear f0 f1 f2 f3 hlf g0 g1 g2 g3 hlg
                          go_wp2_with fail
                          go_meet
                          exact ⟨bb, G1, G2, _, rfl, rfl, rfl, E.out, LL.out, Nat.ne_of_gt hps, LS0.out, LS1.out, LS2.out, LS3.out⟩
          case rest =>
            clear E LS0 LS3
            obtain ⟨bb, G1, G2, ms, rfl, rfl, rfl, hE, hB, hbb, h0, h1, h2, h3⟩ := hcut
            have E := Lib.hid hE; have LB := Lib.hid hB; have LS0 := Lib.hid h0; have LS1 := Lib.hid h1; have LS2 := Lib.hid h2; have LS3 := Lib.hid h3
            clear hE hB h0 h1 h2 h3
            go_wp2_with fail
            go_loopg [129] 5 (fun gg s129 wx => ∃ k : Nat, k + gg = 5 ∧ s129 = .int .i64 k ∧ ME w wx w.heap.size W.heap.size ZL ⟨R, r, L, l⟩ ⟨y1, y2, y3, y4⟩ ∧ Blk wx bb 28 #[.slice A2 n2 c2, .slice none 0 0, .slice (some ⟨G1, 0, none⟩) 1 1, .slice (some ⟨G2, 0, none⟩) 3 3, .slice (some ⟨G, 0, none⟩) nm nm] ∧ LsQ w.heap.size wx A2 n2 c2 ps ∧ LsQ w.heap.size wx (some ⟨G1, 0, none⟩) 1 1 [⟨R, r, L, l⟩] ∧ LsQ w.heap.size wx (some ⟨G2, 0, none⟩) 3 3 ms ∧ LsQ w.heap.size wx (some ⟨G, 0, none⟩) nm nm ys)
            case atStart => exact ⟨0, rfl, rfl, E.out, LB.out, LS0.out, LS1.out, LS2.out, LS3.out⟩
            case round =>
              clear E LB LS0 LS1 LS2 LS3
              obtain ⟨k, hkg, rfl, hE, hB, h0, h1, h2, h3⟩ := hrel
              have E := Lib.hid hE; have LB := Lib.hid hB; have LS0 := Lib.hid h0; have LS1 := Lib.hid h1; have LS2 := Lib.hid h2; have LS3 := Lib.hid h3
              clear hE hB h0 h1 h2 h3
              by_cases hk : k < 5
              case pos =>
                have hki : (k : Int) < 5 := by omega
                obtain ⟨A, n, c, xs, hc, hls⟩ : ∃ (A : Option Addr) (n c : Nat) (xs : List PN), wr.cell? ⟨bb, k, none⟩ = some (.slice A n c) ∧ LsQ w.heap.size wr A n c xs := by
                  rcases (show k = 0 ∨ k = 1 ∨ k = 2 ∨ k = 3 ∨ k = 4 by omega) with e | e | e | e | e
                  · exact ⟨_, _, _, _, by rw [e]; exact LB.out.cell 0, LS0.out⟩
                  · exact ⟨_, _, _, _, by rw [e]; exact LB.out.cell 1, LsQ.nil _ _⟩
                  · exact ⟨_, _, _, _, by rw [e]; exact LB.out.cell 2, LS1.out⟩
                  · exact ⟨_, _, _, _, by rw [e]; exact LB.out.cell 3, LS2.out⟩
                  · exact ⟨_, _, _, _, by rw [e]; exact LB.out.cell 4, LS3.out⟩
                have LS4 := Lib.hid hls
                have hlb := LB.out.lt
                clear hls
                go_wp2_with fail
                clear hc hlb
                refine (best_any A n c xs _ LS4.out.1 LS4.out.2.2.1 (fun h => by
                  obtain ⟨g, o, e, _, hr⟩ := LS4.out.2.2.2 h
                  exact ⟨g, o, e, hr⟩)).mono ?_
                rintro e wa ⟨f, er, hS, A3, m3, d3, rfl, hI, hA, hb⟩
                -- the first result f er A3 m3 d3 lies in a new variable: 25 the region behind, best_len its length's law
                have HS := Lib.hid hS
                have hm3 : m3 ≤ 400 := by have h1 := best_len hS; have h2 : f.vals.length = m3 := hI.1; omega
                -- hb the facts (Below) that all things are carried by
                replace E := Lib.hid (E.out.below hb); replace LS0 := Lib.hid (LS0.out.below hb)
                try (replace LS4 := Lib.hid (LS4.out.below hb))
                try (replace LB := Lib.hid (LB.out.below hb LB.out.lt))
                try (replace LS1 := Lib.hid (LS1.out.below hb))
                try (replace LS2 := Lib.hid (LS2.out.below hb))
                try (replace LS3 := Lib.hid (LS3.out.below hb))
                try (replace DX := Lib.hid (DX.out.below hb DX.out.lt))
                try (replace F1 := Lib.hid (F1.out.below hb F1.out.lt))
                try (replace I1 := Lib.hid (I1.out.ext hb))
                have hb2 := balloc wa (.cells #[.slice A3 m3 d3, .int .i64 f.per, .int .i64 f.inc] 46)
                -- hb2 the facts (Below) that all things are carried by
                replace E := Lib.hid (E.out.below hb2); replace LS0 := Lib.hid (LS0.out.below hb2)
                try (replace LS4 := Lib.hid (LS4.out.below hb2))
                try (replace LB := Lib.hid (LB.out.below hb2 LB.out.lt))
                try (replace LS1 := Lib.hid (LS1.out.below hb2))
                try (replace LS2 := Lib.hid (LS2.out.below hb2))
                try (replace LS3 := Lib.hid (LS3.out.below hb2))
                try (replace DX := Lib.hid (DX.out.below hb2 DX.out.lt))
                try (replace F1 := Lib.hid (F1.out.below hb2 F1.out.lt))
                try (replace I1 := Lib.hid (I1.out.ext hb2))
                have F1 := Lib.hid (Blk.new wa 46 #[.slice A3 m3 d3, .int .i64 f.per, .int .i64 f.inc])
                have I1 := Lib.hid (hI.alloc' (.cells #[.slice A3 m3 d3, .int .i64 f.per, .int .i64 f.inc] 46))
                clear hS hI hA hb hb2
                go_upto_region 25 with fail
                generalize hwe : wa.alloc (.cells #[.slice A3 m3 d3, .int .i64 f.per, .int .i64 f.inc] 46) = wc at *
                clear hwe
                generalize wa.heap.size = Z3 at *
                go_wp2_with fail
                refine (refBest_any A n c xs _ LS4.out.1 LS4.out.2.2.1 LS4.out.2.1 (fun h => by
                  obtain ⟨g, o, e, _, hr⟩ := LS4.out.2.2.2 h
                  exact ⟨g, o, e, hr⟩)).mono ?_
                rintro e we ⟨g, eg, A5, m5, d5, hS, hmd5, rfl, hI, hA, hb⟩
                -- the second result g eg A5 m5 d5: 26 the region behind, best_same HS.out hS uniqueness
                obtain ⟨e1, e2⟩ := best_same HS.out hS
                subst e1 e2
                have hm5 : m5 ≤ 400 := by have h2 : f.vals.length = m5 := hI.1; have h3 : f.vals.length = m3 := I1.out.1; omega
                -- hb the facts (Below) that all things are carried by
                replace E := Lib.hid (E.out.below hb); replace LS0 := Lib.hid (LS0.out.below hb)
                try (replace LS4 := Lib.hid (LS4.out.below hb))
                try (replace LB := Lib.hid (LB.out.below hb LB.out.lt))
                try (replace LS1 := Lib.hid (LS1.out.below hb))
                try (replace LS2 := Lib.hid (LS2.out.below hb))
                try (replace LS3 := Lib.hid (LS3.out.below hb))
                try (replace DX := Lib.hid (DX.out.below hb DX.out.lt))
                try (replace F1 := Lib.hid (F1.out.below hb F1.out.lt))
                try (replace I1 := Lib.hid (I1.out.ext hb))
                have hb2 := balloc we (.cells #[.slice A5 m5 d5, .int .i64 f.per, .int .i64 f.inc] 46)
                -- hb2 the facts (Below) that all things are carried by
                replace E := Lib.hid (E.out.below hb2); replace LS0 := Lib.hid (LS0.out.below hb2)
                try (replace LS4 := Lib.hid (LS4.out.below hb2))
                try (replace LB := Lib.hid (LB.out.below hb2 LB.out.lt))
                try (replace LS1 := Lib.hid (LS1.out.below hb2))
                try (replace LS2 := Lib.hid (LS2.out.below hb2))
                try (replace LS3 := Lib.hid (LS3.out.below hb2))
                try (replace DX := Lib.hid (DX.out.below hb2 DX.out.lt))
                try (replace F1 := Lib.hid (F1.out.below hb2 F1.out.lt))
                try (replace I1 := Lib.hid (I1.out.ext hb2))
                have F2 := Lib.hid (Blk.new we 46 #[.slice A5 m5 d5, .int .i64 f.per, .int .i64 f.inc])
                have I2 := Lib.hid (hI.alloc' (.cells #[.slice A5 m5 d5, .int .i64 f.per, .int .i64 f.inc] 46))
                clear hS hI hA hb hb2 HS
                go_upto_region 26 with fail
                generalize hwe : we.alloc (.cells #[.slice A5 m5 d5, .int .i64 f.per, .int .i64 f.inc] 46) = wf at *
                clear hwe
                generalize we.heap.size = Z5 at *
                obtain ⟨⟨k0, k1, k2⟩, _, hlk1⟩ := F1.out.c3
                obtain ⟨⟨l0, l1, l2⟩, _, hlk2⟩ := F2.out.c3
                have h9 : (er != er) = false := by simp
                go_wp2_with fail
                refine (refSame_any A3 A5 m3 m5 d3 d5 f.per f.per f.inc f.inc f.vals f.vals _ (by exact I1.out) (by exact I2.out) (by omega) (by omega)).mono ?_
                rw [(Cv.same_iff _ _).2 rfl]
                rintro e wg ⟨rfl, hb⟩
                clear I1 I2 F2 F1 k0 k1 k2 hlk1 l0 l1 l2 hlk2 h9
                -- hb the facts (Below) that all things are carried by
                replace E := Lib.hid (E.out.below hb); replace LS0 := Lib.hid (LS0.out.below hb)
                try (replace LS4 := Lib.hid (LS4.out.below hb))
                try (replace LB := Lib.hid (LB.out.below hb LB.out.lt))
                try (replace LS1 := Lib.hid (LS1.out.below hb))
                try (replace LS2 := Lib.hid (LS2.out.below hb))
                try (replace LS3 := Lib.hid (LS3.out.below hb))
                try (replace DX := Lib.hid (DX.out.below hb DX.out.lt))
                try (replace F1 := Lib.hid (F1.out.below hb F1.out.lt))
                try (replace I1 := Lib.hid (I1.out.ext hb))
                clear hb
                go_wp2_with fail
                go_roundg (gk - 1)
                case measure => omega
                case rel => exact ⟨k + 1, by omega, by go_num, E.out, LB.out, LS0.out, LS1.out, LS2.out, LS3.out⟩
              case neg =>
                have hki : ¬ (k : Int) < 5 := by omega
                go_wp2_with fail
                refine (awake12_any _).mono ?_
                rintro q wq ⟨rfl, hbq⟩
                have bw := bthen BW.out (bthen (E.out.k.below (Nat.le_refl _)) hbq)
                go_wp2_with fail
                go_ret
                exact ⟨rfl, bw⟩
end Go.Proofs.Ythdibkmjoiipgaa
