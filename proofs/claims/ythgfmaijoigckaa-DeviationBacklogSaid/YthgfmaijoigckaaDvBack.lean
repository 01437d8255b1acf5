/- The statement DeviationBacklog: the walk. -/
import Derived.Test.YthgfmaijoigckaaAwake10
import Derived.Test.YthgfmaijoigckaaEnvL
import Derived.Test.YthgfmaijoigckaaZero
import Derived.Test.YthgfmaijoigckaaDbLaw
import Derived.Test.YthgfmaijoigckaaRefAt
import Derived.Deep.LoopGhost
import Derived.Deep.RegionHeld3
import Derived.Deep.DeepCutAuto
namespace Go.Proofs.Ythgfmaijoigckaa
open Go.RowKit
set_option linter.unusedVariables false

theorem draw_pairs {m k : Nat} {f g : Cv} (hf : DrawC m f) (hg : DrawC k g) {S : Bool → Nat → Nat → Prop} {i : Bool} {v A er : Int} (h : DevE S f g i v A er) : Pairs f g := by
  rcases h with ⟨h, _⟩ | ⟨_, _, ⟨a, b, ha, hb, hc⟩, _⟩
  · exfalso
    rcases h with ⟨h, _⟩ | ⟨_, _, _, a, b, ha, hb, hc⟩
    · exact h ⟨hf.ok, hg.ok⟩
    · have := comm_le (hf.dvd ha) (hg.dvd hb) (show 1 ≤ 12 by omega)
      omega
  · exact ⟨hf.ok, hg.ok, a, b, ha, hb, (nf_small hf.ok ha).1, (nf_small hg.ok hb).1, hc⟩
set_option maxHeartbeats 4000000 in
set_option maxRecDepth 100000 in
theorem dvBack_any (A0 : Option Addr) (n0 c0 : Nat) (L : List Int) (w : World) (hL : Ints w w.heap.size A0 n0 L) (hc0 : n0 ≤ c0) (hn0 : (n0 : Int) ≤ 9223372036854775807) :
    Calls Try.prog 8 #[.slice A0 n0 c0] w fun e w' => e = .returned (.bool true) ∧ Below w.heap.size w w' := by
  go_enter Try.func8, Try.ntmps8
  go_wp2_with fail
  refine (new_any A0 n0 c0 L w hL hc0 hn0).mono ?_
  rintro e w1 ⟨rfl, hS1, hb1⟩
  have E := Lib.hid (EnvL.start hS1 hb1)
  clear hL hS1 hb1
  -- a curve drawn, not yet in a variable: srcCurve2_any the contract, 6 most, _ w2 the worlds, f the curve, A n c, DrawC 6 f its facts
  go_wp2_with fail
  refine (srcCurve2_any w.heap.size 6 _ (by exact E.out.s) (by omega) (by omega)).mono ?_
  rintro e w2 ⟨f, A, n, c, hD, hcf, rfl, hI, hA, hS, hk⟩
  have hps := E.out.s.lt
  have E := Lib.hid (E.out.kept hS hk)
  have Vf := Lib.hid (show (CR.mk A n c f).In w.heap.size w2 from CR.In.new hI hA hps)
  have Hf := Lib.hid (show DrawC 6 f from hD)
  have HCf := Lib.hid hcf
  have hlenf := hI.1
  try simp only at hlenf
  have hnf : n ≤ 20 := by have h1 := Hf.out.len; omega
  clear hlenf
  clear hD hI hA hS hk hps hcf
  -- a curve drawn, not yet in a variable: srcZero3_any the contract, 6 most, _ w3 the worlds, g the curve, B m d, (DrawC 6 g ∧ g.Fin) ∧ nth g.vals 0 = 0 its facts
  go_wp2_with fail
  refine (srcZero3_any w.heap.size 6 _ (by exact E.out.s) (by omega) (by omega)).mono ?_
  rintro e w3 ⟨g, B, m, d, hD, hcf, rfl, hI, hA, hS, hk⟩
  have hps := E.out.s.lt
  have E := Lib.hid (E.out.kept hS hk)
  have Vg := Lib.hid (show (CR.mk B m d g).In w.heap.size w3 from CR.In.new hI hA hps)
  have Hg := Lib.hid (show (DrawC 6 g ∧ g.Fin) ∧ nth g.vals 0 = 0 from hD)
  have HCg := Lib.hid hcf
  have hleng := hI.1
  try simp only at hleng
  have hmg : m ≤ 20 := by have h1 := Hg.out.1.1.len; omega
  clear hleng
  have Vf := Lib.hid (Vf.out.kept hk)
  clear hD hI hA hS hk hps hcf
  have E := Lib.hid (show EnvL w.heap.size w _ _ from E.out.push (X := ⟨A, n, c, f⟩) Vf.out)
  dsimp only [List.cons_append, List.nil_append] at E
  have Vg := Lib.hid (Vg.out.alloc (.cells #[.slice A n c, .int .i64 f.per, .int .i64 f.inc] 44))
  have E := Lib.hid (show EnvL w.heap.size w _ _ from E.out.push (X := ⟨B, m, d, g⟩) Vg.out)
  dsimp only [List.cons_append, List.nil_append] at E
  simp only [World.size_alloc] at E
  clear Vf Vg
  have G0 := Lib.hid (show g.at 0 = 0 from by rw [Cv.at_lt (by have := Hg.out.1.1.ok.n1; omega)]; exact Hg.out.2)
  go_upto_region 3 with fail
  obtain ⟨x0, x1, x2, hlx⟩ := (E.out.get 0 rfl).cells
  obtain ⟨y0, y1, y2, hly⟩ := (E.out.get 1 rfl).cells
  go_wp2_with fail
  refine (backlog_any A B n m c d f.per f.inc g.per g.inc f.vals g.vals _ (by exact (E.out.get 0 rfl).inn.ints) (by exact (E.out.get 1 rfl).inn.ints) (by omega) (by omega)).mono ?_
  rintro e w4 ⟨bi, bv, bA, er, hD, rfl, hb⟩
  have hPP := draw_pairs Hf.out Hg.out.1.1 hD
  obtain ⟨rfl, v, A1, rfl, rfl, hS⟩ := dev_ok hPP hD
  have HP := Lib.hid hPP; have HS := Lib.hid hS
  clear hPP hS hD
  have D1 := Lib.hid (Blk.new w4 72 #[.bool bi, .int .i64 v, .int .i64 A1])
  have E := Lib.hid ((E.out.below hb).alloc (.cells #[.bool bi, .int .i64 v, .int .i64 A1] 72))
  clear hb
  clear x0 x1 x2 hlx y0 y1 y2 hly
  go_upto_region 4 with fail
  generalize hwe : w4.alloc (.cells #[.bool bi, .int .i64 v, .int .i64 A1] 72) = w5 at *
  clear hwe
  generalize w4.heap.size = P1 at *
  obtain ⟨x0, x1, x2, hlx⟩ := (E.out.get 0 rfl).cells
  obtain ⟨y0, y1, y2, hly⟩ := (E.out.get 1 rfl).cells
  go_wp2_with fail
  refine (peak_any A B n m c d f.per f.inc g.per g.inc f.vals g.vals _ (by exact (E.out.get 0 rfl).inn.ints) (by exact (E.out.get 1 rfl).inn.ints) (by omega) (by omega)).mono ?_
  rintro e w6 ⟨pi, pv, pA, er, hD, rfl, hb⟩
  obtain ⟨rfl, u, A2, rfl, rfl, hS⟩ := dev_ok HP.out hD
  obtain rfl := peak_inf HP.out Hg.out.1.2 HS.out hS
  have HU := Lib.hid hS
  clear hS hD
  have D2 := Lib.hid (Blk.new w6 72 #[.bool bi, .int .i64 u, .int .i64 A2])
  replace D1 := Lib.hid ((D1.out.below hb D1.out.lt).alloc (.cells #[.bool bi, .int .i64 u, .int .i64 A2] 72))
  have E := Lib.hid ((E.out.below hb).alloc (.cells #[.bool bi, .int .i64 u, .int .i64 A2] 72))
  clear hb
  clear x0 x1 x2 hlx y0 y1 y2 hly
  go_upto_region 5 with fail
  generalize hwe : w6.alloc (.cells #[.bool bi, .int .i64 u, .int .i64 A2] 72) = w7 at *
  clear hwe
  generalize w6.heap.size = P2 at *
  obtain ⟨x0, x1, x2, hlx⟩ := (E.out.get 0 rfl).cells
  obtain ⟨y0, y1, y2, hly⟩ := (E.out.get 1 rfl).cells
  go_wp2_with fail
  refine (dcfn_any A B n m c d f.per f.inc g.per g.inc f.vals g.vals _ (by exact (E.out.get 0 rfl).inn.ints) (by exact (E.out.get 1 rfl).inn.ints) (by omega) (by omega)).mono ?_
  rintro e w8 ⟨x, j, hS, A3, n3, c3, _, rfl, hI, hA, hb⟩
  have HX := Lib.hid (dc_first HP.out G0.out hS HS.out)
  have XA := Lib.hid (By.new (L := 0) (B := 0) (c := c3) hI (fun b off s e => Nat.zero_le _) (Nat.le_refl _) (Nat.zero_le _))
  have hn3 : x.vals.length = n3 := hI.1
  replace D1 := Lib.hid ((D1.out.below hb D1.out.lt).alloc (.cells #[.slice A3 n3 c3, .int .i64 x.per, .int .i64 x.inc] 44)); replace D2 := Lib.hid ((D2.out.below hb D2.out.lt).alloc (.cells #[.slice A3 n3 c3, .int .i64 x.per, .int .i64 x.inc] 44))
  have E := Lib.hid ((E.out.below hb).alloc (.cells #[.slice A3 n3 c3, .int .i64 x.per, .int .i64 x.inc] 44))
  clear hb hS hI hA
  clear x0 x1 x2 hlx y0 y1 y2 hly
  go_upto_region 6 with fail
  generalize hwe : w8.alloc (.cells #[.slice A3 n3 c3, .int .i64 x.per, .int .i64 x.inc] 44) = w9 at *
  clear hwe
  generalize w8.heap.size = PX at *
  clear HCf HCg
  have hbd := Lib.hid (fun (h : bi = false) => ahead_bd HP.out (show 0 ≤ 1000 by omega) (by rw [← h]; exact HS.out))
  cases bi
  case true =>
    have hv0 : v = 0 := by
      rcases HS.out with ⟨_, h, _⟩ | ⟨h, _⟩
      · exact h
      · cases h
    subst hv0
    clear hbd
    rcases HX.out with rfl | ⟨rfl, hx1, hx2, hx3⟩
    · obtain ⟨d0, d1, d2⟩ : _ ∧ _ ∧ _ := ⟨D1.out.cell 0, D1.out.cell 1, D1.out.cell 2⟩
      obtain ⟨e0, e1, e2⟩ : _ ∧ _ ∧ _ := ⟨D2.out.cell 0, D2.out.cell 1, D2.out.cell 2⟩
      simp at d0 d1 d2 e0 e1 e2
      have hd1 := D1.out.lt; have hd2 := D2.out.lt
      obtain ⟨z0, z1, z2, hlz⟩ := XA.out.cells
      go_wp2_with fail
      go_quiet (fail)
      go_wp2_with fail
      refine (awake10_any _).mono ?_
      rintro e wq ⟨rfl, hb⟩
      have bw := bthen (bdrewN E.out.fin) hb
      go_wp2_with fail
      go_ret
      exact ⟨rfl, bw⟩
    · rw [hn3] at hx1 hx2
      obtain ⟨ad, of, hAe, hbl, hcell⟩ := XA.out.ints.2 (by omega)
      subst hAe
      have hck := hcell 0 (by omega)
      rw [hx3] at hck
      simp only [Nat.add_zero, if_true] at hck
      unfold inf at hck
      clear hcell hx3
      have hp0 : (0 : Int) < (n3 : Int) := by omega
      have hp1 : 0 < n3 := by omega
      have hp2 : decide ((0 : Int) < (n3 : Int)) = true := by simp; omega
      obtain ⟨d0, d1, d2⟩ : _ ∧ _ ∧ _ := ⟨D1.out.cell 0, D1.out.cell 1, D1.out.cell 2⟩
      obtain ⟨e0, e1, e2⟩ : _ ∧ _ ∧ _ := ⟨D2.out.cell 0, D2.out.cell 1, D2.out.cell 2⟩
      simp at d0 d1 d2 e0 e1 e2
      have hd1 := D1.out.lt; have hd2 := D2.out.lt
      obtain ⟨z0, z1, z2, hlz⟩ := XA.out.cells
      go_wp2_with fail
      go_quiet (fail)
      go_wp2_with fail
      refine (awake10_any _).mono ?_
      rintro e wq ⟨rfl, hb⟩
      have bw := bthen (bdrewN E.out.fin) hb
      go_wp2_with fail
      go_ret
      exact ⟨rfl, bw⟩
  case false =>
    obtain ⟨hv1, hA1⟩ := hbd.out rfl
    obtain ⟨hu1, hA2⟩ := ahead_bd HP.out (show 1 ≤ 1000 by omega) HU.out
    have dvi : ((v : Int) == 4611686018427387904) = false := by simp; omega
    clear hbd
    go_cut [50] (fun s50 wx => s50 = .bool false ∧ EnvL w.heap.size w wx [(w3.heap.size, ⟨A, n, c, f⟩), (w3.heap.size + 1, ⟨B, m, d, g⟩)] ∧ Blk wx P1 72 #[.bool false, .int .i64 v, .int .i64 A1] ∧ Blk wx P2 72 #[.bool false, .int .i64 u, .int .i64 A2] ∧ By 0 wx PX A3 n3 c3 x)
    case first =>
      rcases HX.out with hj | ⟨hj, hx1, hx2, hx3⟩
      · obtain ⟨d0, d1, d2⟩ : _ ∧ _ ∧ _ := ⟨D1.out.cell 0, D1.out.cell 1, D1.out.cell 2⟩
        obtain ⟨e0, e1, e2⟩ : _ ∧ _ ∧ _ := ⟨D2.out.cell 0, D2.out.cell 1, D2.out.cell 2⟩
        simp at d0 d1 d2 e0 e1 e2
        have hd1 := D1.out.lt; have hd2 := D2.out.lt
        obtain ⟨z0, z1, z2, hlz⟩ := XA.out.cells
        go_wp2_with fail
        try (go_quiet (fail); go_wp2_with fail)
        go_meet
        exact ⟨rfl, by first | exact E.out | exact E.out.below (bdrewN (Below.refl _ _)), by first | exact D1.out | exact D1.out.below (bdrewN (Below.refl _ _)) D1.out.lt, by first | exact D2.out | exact D2.out.below (bdrewN (Below.refl _ _)) D2.out.lt, by first | exact XA.out | exact XA.out.below (bdrewN (Below.refl _ _))⟩
      · rw [hn3] at hx1 hx2
        obtain ⟨ad, of, hAe, hbl, hcell⟩ := XA.out.ints.2 (by omega)
        have hck := hcell 0 (by omega)
        rw [hx3] at hck
        simp only [Nat.add_zero] at hck
        rw [if_neg (by simp)] at hck
        clear hcell hx3
        have hp0 : (0 : Int) < (n3 : Int) := by omega
        have hp1 : 0 < n3 := by omega
        have hp2 : decide ((0 : Int) < (n3 : Int)) = true := by simp; omega
        have hp3 : ((n3 : Int) == 0) = false := by simp; omega
        have hp4 : (n3 == 0) = false := by simp; omega
        obtain ⟨d0, d1, d2⟩ : _ ∧ _ ∧ _ := ⟨D1.out.cell 0, D1.out.cell 1, D1.out.cell 2⟩
        obtain ⟨e0, e1, e2⟩ : _ ∧ _ ∧ _ := ⟨D2.out.cell 0, D2.out.cell 1, D2.out.cell 2⟩
        simp at d0 d1 d2 e0 e1 e2
        have hd1 := D1.out.lt; have hd2 := D2.out.lt
        obtain ⟨z0, z1, z2, hlz⟩ := XA.out.cells
        go_wp2_with fail
        try (go_quiet (fail); go_wp2_with fail)
        go_meet
        exact ⟨rfl, by first | exact E.out | exact E.out.below (bdrewN (Below.refl _ _)), by first | exact D1.out | exact D1.out.below (bdrewN (Below.refl _ _)) D1.out.lt, by first | exact D2.out | exact D2.out.below (bdrewN (Below.refl _ _)) D2.out.lt, by first | exact XA.out | exact XA.out.below (bdrewN (Below.refl _ _))⟩
    case rest =>
      as_aux_lemma =>
      clear E D1 D2 XA
      obtain ⟨rfl, hE, hD1, hD2, hXA⟩ := hcut
      have E := Lib.hid hE; have D1 := Lib.hid hD1; have D2 := Lib.hid hD2; have XA := Lib.hid hXA
      clear hE hD1 hD2 hXA
      obtain ⟨d0, d1, d2⟩ : _ ∧ _ ∧ _ := ⟨D1.out.cell 0, D1.out.cell 1, D1.out.cell 2⟩
      obtain ⟨e0, e1, e2⟩ : _ ∧ _ ∧ _ := ⟨D2.out.cell 0, D2.out.cell 1, D2.out.cell 2⟩
      simp at d0 d1 d2 e0 e1 e2
      have hd1 := D1.out.lt; have hd2 := D2.out.lt
      obtain ⟨z0, z1, z2, hlz⟩ := XA.out.cells
      go_upto_region 8 with fail
      clear d0 d1 d2 e0 e1 e2 hd1 hd2 z0 z1 z2 hlz
      go_cut [68] (fun s68 wx => s68 = .bool false ∧ EnvL w.heap.size w wx [(w3.heap.size, ⟨A, n, c, f⟩), (w3.heap.size + 1, ⟨B, m, d, g⟩)] ∧ Blk wx P1 72 #[.bool false, .int .i64 v, .int .i64 A1] ∧ Blk wx P2 72 #[.bool false, .int .i64 u, .int .i64 A2] ∧ By 0 wx PX A3 n3 c3 x)
      case first =>
        rcases HX.out with hj | ⟨hj, hx1, hx2, hx3⟩
        · obtain ⟨d0, d1, d2⟩ : _ ∧ _ ∧ _ := ⟨D1.out.cell 0, D1.out.cell 1, D1.out.cell 2⟩
          obtain ⟨e0, e1, e2⟩ : _ ∧ _ ∧ _ := ⟨D2.out.cell 0, D2.out.cell 1, D2.out.cell 2⟩
          simp at d0 d1 d2 e0 e1 e2
          have hd1 := D1.out.lt; have hd2 := D2.out.lt
          obtain ⟨z0, z1, z2, hlz⟩ := XA.out.cells
          go_wp2_with fail
          try (go_quiet (fail); go_wp2_with fail)
          go_meet
          exact ⟨rfl, by first | exact E.out | exact E.out.below (bdrewN (Below.refl _ _)), by first | exact D1.out | exact D1.out.below (bdrewN (Below.refl _ _)) D1.out.lt, by first | exact D2.out | exact D2.out.below (bdrewN (Below.refl _ _)) D2.out.lt, by first | exact XA.out | exact XA.out.below (bdrewN (Below.refl _ _))⟩
        · rw [hn3] at hx1 hx2
          obtain ⟨ad, of, hAe, hbl, hcell⟩ := XA.out.ints.2 (by omega)
          have hck := hcell 0 (by omega)
          rw [hx3] at hck
          simp only [Nat.add_zero] at hck
          rw [if_neg (by simp)] at hck
          clear hcell hx3
          have hp0 : (0 : Int) < (n3 : Int) := by omega
          have hp1 : 0 < n3 := by omega
          have hp2 : decide ((0 : Int) < (n3 : Int)) = true := by simp; omega
          have hp3 : ((n3 : Int) == 0) = false := by simp; omega
          have hp4 : (n3 == 0) = false := by simp; omega
          obtain ⟨d0, d1, d2⟩ : _ ∧ _ ∧ _ := ⟨D1.out.cell 0, D1.out.cell 1, D1.out.cell 2⟩
          obtain ⟨e0, e1, e2⟩ : _ ∧ _ ∧ _ := ⟨D2.out.cell 0, D2.out.cell 1, D2.out.cell 2⟩
          simp at d0 d1 d2 e0 e1 e2
          have hd1 := D1.out.lt; have hd2 := D2.out.lt
          obtain ⟨z0, z1, z2, hlz⟩ := XA.out.cells
          go_wp2_with fail
          try (go_quiet (fail); go_wp2_with fail)
          go_meet
          exact ⟨rfl, by first | exact E.out | exact E.out.below (bdrewN (Below.refl _ _)), by first | exact D1.out | exact D1.out.below (bdrewN (Below.refl _ _)) D1.out.lt, by first | exact D2.out | exact D2.out.below (bdrewN (Below.refl _ _)) D2.out.lt, by first | exact XA.out | exact XA.out.below (bdrewN (Below.refl _ _))⟩
      case rest =>
        as_aux_lemma =>
        clear E D1 D2 XA
        obtain ⟨rfl, hE, hD1, hD2, hXA⟩ := hcut
        have E := Lib.hid hE; have D1 := Lib.hid hD1; have D2 := Lib.hid hD2; have XA := Lib.hid hXA
        clear hE hD1 hD2 hXA
        obtain ⟨d0, d1, d2⟩ : _ ∧ _ ∧ _ := ⟨D1.out.cell 0, D1.out.cell 1, D1.out.cell 2⟩
        obtain ⟨e0, e1, e2⟩ : _ ∧ _ ∧ _ := ⟨D2.out.cell 0, D2.out.cell 1, D2.out.cell 2⟩
        simp at d0 d1 d2 e0 e1 e2
        have hd1 := D1.out.lt; have hd2 := D2.out.lt
        obtain ⟨z0, z1, z2, hlz⟩ := XA.out.cells
        go_upto_region 12 with fail
        clear d0 d1 d2 e0 e1 e2 hd1 hd2 z0 z1 z2 hlz
        go_cut [101] (fun s101 wx => s101 = .bool false ∧ EnvL w.heap.size w wx [(w3.heap.size, ⟨A, n, c, f⟩), (w3.heap.size + 1, ⟨B, m, d, g⟩)] ∧ Blk wx P1 72 #[.bool false, .int .i64 v, .int .i64 A1] ∧ Blk wx P2 72 #[.bool false, .int .i64 u, .int .i64 A2] ∧ By 0 wx PX A3 n3 c3 x)
        case first =>
          rcases HX.out with hj | ⟨hj, hx1, hx2, hx3⟩
          · obtain ⟨d0, d1, d2⟩ : _ ∧ _ ∧ _ := ⟨D1.out.cell 0, D1.out.cell 1, D1.out.cell 2⟩
            obtain ⟨e0, e1, e2⟩ : _ ∧ _ ∧ _ := ⟨D2.out.cell 0, D2.out.cell 1, D2.out.cell 2⟩
            simp at d0 d1 d2 e0 e1 e2
            have hd1 := D1.out.lt; have hd2 := D2.out.lt
            obtain ⟨z0, z1, z2, hlz⟩ := XA.out.cells
            go_wp2_with fail
            try (go_quiet (fail); go_wp2_with fail)
            go_meet
            exact ⟨rfl, by first | exact E.out | exact E.out.below (bdrewN (Below.refl _ _)), by first | exact D1.out | exact D1.out.below (bdrewN (Below.refl _ _)) D1.out.lt, by first | exact D2.out | exact D2.out.below (bdrewN (Below.refl _ _)) D2.out.lt, by first | exact XA.out | exact XA.out.below (bdrewN (Below.refl _ _))⟩
          · rw [hn3] at hx1 hx2
            obtain ⟨ad, of, hAe, hbl, hcell⟩ := XA.out.ints.2 (by omega)
            have hck := hcell 0 (by omega)
            rw [hx3] at hck
            simp only [Nat.add_zero] at hck
            rw [if_neg (by simp)] at hck
            clear hcell hx3
            have hp0 : (0 : Int) < (n3 : Int) := by omega
            have hp1 : 0 < n3 := by omega
            have hp2 : decide ((0 : Int) < (n3 : Int)) = true := by simp; omega
            have hp3 : ((n3 : Int) == 0) = false := by simp; omega
            have hp4 : (n3 == 0) = false := by simp; omega
            obtain ⟨d0, d1, d2⟩ : _ ∧ _ ∧ _ := ⟨D1.out.cell 0, D1.out.cell 1, D1.out.cell 2⟩
            obtain ⟨e0, e1, e2⟩ : _ ∧ _ ∧ _ := ⟨D2.out.cell 0, D2.out.cell 1, D2.out.cell 2⟩
            simp at d0 d1 d2 e0 e1 e2
            have hd1 := D1.out.lt; have hd2 := D2.out.lt
            obtain ⟨z0, z1, z2, hlz⟩ := XA.out.cells
            go_wp2_with fail
            try (go_quiet (fail); go_wp2_with fail)
            go_meet
            exact ⟨rfl, by first | exact E.out | exact E.out.below (bdrewN (Below.refl _ _)), by first | exact D1.out | exact D1.out.below (bdrewN (Below.refl _ _)) D1.out.lt, by first | exact D2.out | exact D2.out.below (bdrewN (Below.refl _ _)) D2.out.lt, by first | exact XA.out | exact XA.out.below (bdrewN (Below.refl _ _))⟩
        case rest =>
          as_aux_lemma =>
          clear E D1 D2 XA
          obtain ⟨rfl, hE, hD1, hD2, hXA⟩ := hcut
          have E := Lib.hid hE; have D1 := Lib.hid hD1; have D2 := Lib.hid hD2; have XA := Lib.hid hXA
          clear hE hD1 hD2 hXA
          clear HX
          obtain ⟨d0, d1, d2⟩ : _ ∧ _ ∧ _ := ⟨D1.out.cell 0, D1.out.cell 1, D1.out.cell 2⟩
          obtain ⟨e0, e1, e2⟩ : _ ∧ _ ∧ _ := ⟨D2.out.cell 0, D2.out.cell 1, D2.out.cell 2⟩
          simp at d0 d1 d2 e0 e1 e2
          have hd1 := D1.out.lt; have hd2 := D2.out.lt
          obtain ⟨z0, z1, z2, hlz⟩ := XA.out.cells
          go_wp2_with fail
          go_loopg [12] 200 (fun gg s12 wx => ∃ t : Nat, t + gg = 200 ∧ s12 = .int .i64 t ∧ EnvL w.heap.size w wx [(w3.heap.size, ⟨A, n, c, f⟩), (w3.heap.size + 1, ⟨B, m, d, g⟩)] ∧ Blk wx P1 72 #[.bool false, .int .i64 v, .int .i64 A1] ∧ Blk wx P2 72 #[.bool false, .int .i64 u, .int .i64 A2])
          case atStart => exact ⟨0, rfl, rfl, E.out, D1.out, D2.out⟩
          case round =>
            clear E D1 D2
            obtain ⟨t, htg, rfl, hE, hD1, hD2⟩ := hrel
            have E := Lib.hid hE; have D1 := Lib.hid hD1; have D2 := Lib.hid hD2
            clear hE hD1 hD2
            by_cases ht : t < 200
            · have hti : (t : Int) < 200 := by omega
              obtain ⟨t1, ht1⟩ : ∃ t1 : Nat, t1 = t + 1 := ⟨_, rfl⟩
              obtain ⟨ft, hft⟩ : ∃ ft, ft = Cv.at ⟨f.vals, f.per, f.inc⟩ t := ⟨_, rfl⟩
              obtain ⟨ft1, hft1⟩ : ∃ ft1, ft1 = Cv.at ⟨f.vals, f.per, f.inc⟩ t1 := ⟨_, rfl⟩
              obtain ⟨gt, hgt⟩ : ∃ gt, gt = Cv.at ⟨g.vals, g.per, g.inc⟩ t := ⟨_, rfl⟩
              have b1 : ft - gt ≤ v := by rw [hft, hgt]; exact back_le Hg.out.1.2 HS.out t
              have b2 : ft1 - gt ≤ u := by rw [hft1, hgt, ht1]; exact back_le Hg.out.1.2 HU.out t
              have n1 : 0 ≤ ft := by rw [hft]; exact Hf.out.ok.up0.nn t
              have n2 : 0 ≤ ft1 := by rw [hft1]; exact Hf.out.ok.up0.nn t1
              have n3' : 0 ≤ gt := by rw [hgt]; exact Hg.out.1.1.ok.up0.nn t
              have n4 : gt ≤ 1152921504606846976 := by
                have h1 := Hg.out.1.2.at_bd t
                have : (t : Int) * 1073741824 ≤ 2000 * 1073741824 := Int.mul_le_mul_of_nonneg_right (by omega) (by omega)
                have e : gt = g.at t := hgt
                omega
              have HFT := Lib.hid hft; have HFT1 := Lib.hid hft1; have HGT := Lib.hid hgt
              have t11 : (t : Int) + 1 = (t1 : Int) := by omega
              have t12 : IntKind.i64.wrap ((t : Int) + 1) = (t1 : Int) := by rw [IntWalk.i64_in _ (by omega)]; omega
              have t13 : IntKind.i64.wrap (t1 : Int) = (t1 : Int) := IntWalk.i64_in _ (by omega)
              have w1' : IntKind.i64.wrap (ft - gt) = ft - gt := IntWalk.i64_in _ (by omega)
              have w2' : IntKind.i64.wrap (ft1 - gt) = ft1 - gt := IntWalk.i64_in _ (by omega)
              have k1 : decide ((v : Int) < ft - gt) = false := by simp; omega
              have k2 : decide ((u : Int) < ft1 - gt) = false := by simp; omega
              have ht1b : t1 ≤ 1000 := by omega
              have fpn : f.per ≤ (n : Int) := by have h1 := Hf.out.ok.pn; have h2 : f.vals.length = n := (E.out.get 0 rfl).inn.ints.1; omega
              have gpn : g.per ≤ (m : Int) := by have h1 := Hg.out.1.1.ok.pn; have h2 : g.vals.length = m := (E.out.get 1 rfl).inn.ints.1; omega
              clear hft hft1 hgt ht1
              obtain ⟨x0, x1, x2, hlx⟩ := (E.out.get 0 rfl).cells
              obtain ⟨y0, y1, y2, hly⟩ := (E.out.get 1 rfl).cells
              obtain ⟨d1, d2⟩ : _ ∧ _ := ⟨D1.out.cell 1, D1.out.cell 2⟩
              obtain ⟨e1, e2⟩ : _ ∧ _ := ⟨D2.out.cell 1, D2.out.cell 2⟩
              simp at d1 d2 e1 e2
              have hd1 := D1.out.lt; have hd2 := D2.out.lt
              go_upto_region 17 with fail
              go_region_held3 (fun w' => w'.cell? ⟨w3.heap.size, 0, none⟩ = some (.slice A n c) ∧ w'.cell? ⟨w3.heap.size, 1, none⟩ = some (.int .i64 f.per) ∧ w'.cell? ⟨w3.heap.size, 2, none⟩ = some (.int .i64 f.inc) ∧ w'.cell? ⟨w3.heap.size + 1, 0, none⟩ = some (.slice B m d) ∧ w'.cell? ⟨w3.heap.size + 1, 1, none⟩ = some (.int .i64 g.per) ∧ w'.cell? ⟨w3.heap.size + 1, 2, none⟩ = some (.int .i64 g.inc) ∧ w'.cell? ⟨P1, 1, none⟩ = some (.int .i64 v) ∧ w'.cell? ⟨P1, 2, none⟩ = some (.int .i64 A1) ∧ w'.cell? ⟨P2, 1, none⟩ = some (.int .i64 u) ∧ w'.cell? ⟨P2, 2, none⟩ = some (.int .i64 A2)) (first | go_keep)
                (first
                  | (go_at_call_of 43 (Value.agg #[.slice A n c, .int .i64 f.per, .int .i64 f.inc])
                     refine (refAt_any A n c f.per f.inc ((_ : Nat) : Int) f.vals _ (by exact (E.out.get 0 rfl).inn.ints) (by omega) Hf.out.ok.p1 (by exact fpn) Hf.out.ok.i1 (by have := Hf.out.ok.i2; omega) Hf.out.ok.nn (by omega) (by omega)).mono ?_
                     rw [Int.toNat_natCast]
                     first | rw [← HFT.out] | rw [← HFT1.out]
                     rintro e wq ⟨rfl, hb⟩
                     replace E := Lib.hid (E.out.below hb); replace D1 := Lib.hid (D1.out.below hb D1.out.lt); replace D2 := Lib.hid (D2.out.below hb D2.out.lt)
                     clear hb
                     clear x0 x1 x2 hlx y0 y1 y2 hly
                     clear d1 d2 e1 e2 hd1 hd2
                     obtain ⟨x0, x1, x2, hlx⟩ := (E.out.get 0 rfl).cells
                     obtain ⟨y0, y1, y2, hly⟩ := (E.out.get 1 rfl).cells
                     obtain ⟨d1, d2⟩ : _ ∧ _ := ⟨D1.out.cell 1, D1.out.cell 2⟩
                     obtain ⟨e1, e2⟩ : _ ∧ _ := ⟨D2.out.cell 1, D2.out.cell 2⟩
                     simp at d1 d2 e1 e2
                     have hd1 := D1.out.lt; have hd2 := D2.out.lt
                     skip)
                  | (go_at_call_of 43 (Value.agg #[.slice A n c, .int .i64 f.per, .int .i64 f.inc])
                     refine (refAt_any A n c f.per f.inc ((_ : Nat) : Int) f.vals _ (by exact (E.out.get 0 rfl).inn.ints.drew) (by omega) Hf.out.ok.p1 (by exact fpn) Hf.out.ok.i1 (by have := Hf.out.ok.i2; omega) Hf.out.ok.nn (by omega) (by omega)).mono ?_
                     rw [Int.toNat_natCast]
                     first | rw [← HFT.out] | rw [← HFT1.out]
                     rintro e wq ⟨rfl, hb⟩
                     have hb := bofdrew hb
                     replace E := Lib.hid (E.out.below hb); replace D1 := Lib.hid (D1.out.below hb D1.out.lt); replace D2 := Lib.hid (D2.out.below hb D2.out.lt)
                     clear hb
                     clear x0 x1 x2 hlx y0 y1 y2 hly
                     clear d1 d2 e1 e2 hd1 hd2
                     obtain ⟨x0, x1, x2, hlx⟩ := (E.out.get 0 rfl).cells
                     obtain ⟨y0, y1, y2, hly⟩ := (E.out.get 1 rfl).cells
                     obtain ⟨d1, d2⟩ : _ ∧ _ := ⟨D1.out.cell 1, D1.out.cell 2⟩
                     obtain ⟨e1, e2⟩ : _ ∧ _ := ⟨D2.out.cell 1, D2.out.cell 2⟩
                     simp at d1 d2 e1 e2
                     have hd1 := D1.out.lt; have hd2 := D2.out.lt
                     skip)
                  | (go_at_call_of 43 (Value.agg #[.slice B m d, .int .i64 g.per, .int .i64 g.inc])
                     refine (refAt_any B m d g.per g.inc ((_ : Nat) : Int) g.vals _ (by exact (E.out.get 1 rfl).inn.ints) (by omega) Hg.out.1.1.ok.p1 (by exact gpn) Hg.out.1.1.ok.i1 (by have := Hg.out.1.1.ok.i2; omega) Hg.out.1.1.ok.nn (by omega) (by omega)).mono ?_
                     rw [Int.toNat_natCast, ← HGT.out]
                     rintro e wq ⟨rfl, hb⟩
                     replace E := Lib.hid (E.out.below hb); replace D1 := Lib.hid (D1.out.below hb D1.out.lt); replace D2 := Lib.hid (D2.out.below hb D2.out.lt)
                     clear hb
                     clear x0 x1 x2 hlx y0 y1 y2 hly
                     clear d1 d2 e1 e2 hd1 hd2
                     obtain ⟨x0, x1, x2, hlx⟩ := (E.out.get 0 rfl).cells
                     obtain ⟨y0, y1, y2, hly⟩ := (E.out.get 1 rfl).cells
                     obtain ⟨d1, d2⟩ : _ ∧ _ := ⟨D1.out.cell 1, D1.out.cell 2⟩
                     obtain ⟨e1, e2⟩ : _ ∧ _ := ⟨D2.out.cell 1, D2.out.cell 2⟩
                     simp at d1 d2 e1 e2
                     have hd1 := D1.out.lt; have hd2 := D2.out.lt
                     skip))
              all_goals
                go_wp2_with fail
                go_roundg (gk - 1)
                case measure => omega
                case rel => exact ⟨t1, by omega, by first | rfl | go_num, E.out, D1.out, D2.out⟩
            · have ht2 : t = 200 := by omega
              subst ht2
              clear ht htg
              have fpn : f.per ≤ (n : Int) := by have h1 := Hf.out.ok.pn; have h2 : f.vals.length = n := (E.out.get 0 rfl).inn.ints.1; omega
              have gpn : g.per ≤ (m : Int) := by have h1 := Hg.out.1.1.ok.pn; have h2 : g.vals.length = m := (E.out.get 1 rfl).inn.ints.1; omega
              obtain ⟨A21, hA21⟩ : ∃ A21 : Nat, A21 = A2 + 1 := ⟨_, rfl⟩
              obtain ⟨fa1, hfa1⟩ : ∃ fa1, fa1 = Cv.at ⟨f.vals, f.per, f.inc⟩ A1 := ⟨_, rfl⟩
              obtain ⟨fa2, hfa2⟩ : ∃ fa2, fa2 = Cv.at ⟨f.vals, f.per, f.inc⟩ A21 := ⟨_, rfl⟩
              obtain ⟨fz, hfz⟩ : ∃ fz, fz = Cv.at ⟨f.vals, f.per, f.inc⟩ 0 := ⟨_, rfl⟩
              obtain ⟨ga1, hga1⟩ : ∃ ga1, ga1 = Cv.at ⟨g.vals, g.per, g.inc⟩ A1 := ⟨_, rfl⟩
              obtain ⟨ga2, hga2⟩ : ∃ ga2, ga2 = Cv.at ⟨g.vals, g.per, g.inc⟩ A2 := ⟨_, rfl⟩
              have q1 : v = 0 ∨ fa1 - ga1 = v := by rw [hfa1, hga1]; exact back_at HS.out
              have q2 : u = 0 ∨ fa2 - ga2 = u := by rw [hfa2, hga2, hA21]; exact back_at HU.out
              have q3 : (v : Int) - fz ≤ u := by rw [hfz]; exact peak_ge Hf.out.ok Hg.out.1.2 G0.out HS.out HU.out
              have q4 : 0 ≤ fz := by rw [hfz]; exact Hf.out.ok.up0.nn 0
              have q5 : fz ≤ v := by
                have h1 : f.at (0 + 0) - g.at 0 ≤ v := back_le Hg.out.1.2 HS.out 0
                have h2 := G0.out
                have h3 : fz = f.at (0 + 0) := hfz
                omega
              have HF1 := Lib.hid hfa1; have HF2 := Lib.hid hfa2; have HFZ := Lib.hid hfz; have HG1 := Lib.hid hga1; have HG2 := Lib.hid hga2
              have t11 : (A2 : Int) + 1 = (A21 : Int) := by omega
              have t12 : IntKind.i64.wrap ((A2 : Int) + 1) = (A21 : Int) := by rw [IntWalk.i64_in _ (by omega)]; omega
              have t13 : IntKind.i64.wrap (A21 : Int) = (A21 : Int) := IntWalk.i64_in _ (by omega)
              obtain ⟨V, hV⟩ : ∃ V : Int, V = (v : Int) := ⟨_, rfl⟩
              obtain ⟨U, hU⟩ : ∃ U : Int, U = (u : Int) := ⟨_, rfl⟩
              rw [← hV] at D1 q1 q3 q5 hv1
              rw [← hU] at D2 q2 q3 hu1
              have hV0 : 0 ≤ V := by omega
              have hU0 : 0 ≤ U := by omega
              have w3' : IntKind.i64.wrap (V - fz) = V - fz := IntWalk.i64_in _ (by omega)
              have wv : IntKind.i64.wrap V = V := IntWalk.i64_in _ (by omega)
              have wu : IntKind.i64.wrap U = U := IntWalk.i64_in _ (by omega)
              have k3 : decide (V - fz ≤ U) = true := by simpa using q3
              have hA21b : A21 ≤ 1000 := by omega
              have q1' : V = 0 ∨ fa1 - ga1 = V := q1.imp (fun h => by omega) id
              have q2' : U = 0 ∨ fa2 - ga2 = U := q2.imp (fun h => by omega) id
              have Q1 := Lib.hid q1'; have Q2 := Lib.hid q2'
              clear hfa1 hfa2 hfz hga1 hga2 hA21 q4 q5 q1 q2 q1' q2' hV hU q3
              go_upto_region 19 with fail
              obtain ⟨x0, x1, x2, hlx⟩ := (E.out.get 0 rfl).cells
              obtain ⟨y0, y1, y2, hly⟩ := (E.out.get 1 rfl).cells
              obtain ⟨d1, d2⟩ : _ ∧ _ := ⟨D1.out.cell 1, D1.out.cell 2⟩
              obtain ⟨e1, e2⟩ : _ ∧ _ := ⟨D2.out.cell 1, D2.out.cell 2⟩
              simp at d1 d2 e1 e2
              have hd1 := D1.out.lt; have hd2 := D2.out.lt
              by_cases hv0 : V = 0
              · have dv : (V == 0) = true := by simpa using hv0
                clear hv0
                refine wp_region_held_drew (S := (fun w' => w'.cell? ⟨w3.heap.size, 0, none⟩ = some (.slice A n c) ∧ w'.cell? ⟨w3.heap.size, 1, none⟩ = some (.int .i64 f.per) ∧ w'.cell? ⟨w3.heap.size, 2, none⟩ = some (.int .i64 f.inc) ∧ w'.cell? ⟨w3.heap.size + 1, 0, none⟩ = some (.slice B m d) ∧ w'.cell? ⟨w3.heap.size + 1, 1, none⟩ = some (.int .i64 g.per) ∧ w'.cell? ⟨w3.heap.size + 1, 2, none⟩ = some (.int .i64 g.inc) ∧ w'.cell? ⟨P1, 1, none⟩ = some (.int .i64 V) ∧ w'.cell? ⟨P1, 2, none⟩ = some (.int .i64 A1) ∧ w'.cell? ⟨P2, 1, none⟩ = some (.int .i64 U) ∧ w'.cell? ⟨P2, 2, none⟩ = some (.int .i64 A2))) (by kernel_rfl) (by (refine ⟨?_, ?_, ?_, ?_, ?_, ?_, ?_, ?_, ?_, ?_⟩ <;> assumption)) (fun hHeld => ?_)
                replace E := Lib.hid E.out.drew; replace D1 := Lib.hid (Blk.drew D1.out); replace D2 := Lib.hid (Blk.drew D2.out)
                clear x0 x1 x2 hlx y0 y1 y2 hly
                clear d1 d2 e1 e2 hd1 hd2
                generalize hwd : wr.drew = wd at *
                clear hwd
                obtain ⟨x0, x1, x2, hlx⟩ := (E.out.get 0 rfl).cells
                obtain ⟨y0, y1, y2, hly⟩ := (E.out.get 1 rfl).cells
                obtain ⟨d1, d2⟩ : _ ∧ _ := ⟨D1.out.cell 1, D1.out.cell 2⟩
                obtain ⟨e1, e2⟩ : _ ∧ _ := ⟨D2.out.cell 1, D2.out.cell 2⟩
                simp at d1 d2 e1 e2
                have hd1 := D1.out.lt; have hd2 := D2.out.lt
                refine wpAnyH_take (i := 0) (oi := _) (v := ?_) (by simp only [List.getElem?_toArray, List.getElem?_cons_zero]; rfl) (by kernel_rfl) (by kernel_rfl) (by kernel_rfl) (by exact fun _ _ _ h => h) (Or.inl ⟨by rfl, ?_⟩) (by assumption) ?_
                rotate_left 1
                · (intro w hSw; (try dsimp only at hSw); go_simp; try with_reducible rfl)
                all_goals try simp only [Act.put]
                all_goals try simp only [List.setIfInBounds_toArray]
                all_goals try simp only [List.set_cons_succ]
                all_goals try simp only [List.set_cons_zero]
                refine wpAnyH_take (i := 1) (oi := _) (v := ?_) (by simp only [List.getElem?_toArray, List.getElem?_cons_succ, List.getElem?_cons_zero]; rfl) (by kernel_rfl) (by kernel_rfl) (by kernel_rfl) (by exact fun _ _ _ h => h) (Or.inl ⟨by rfl, ?_⟩) (by assumption) ?_
                rotate_left 1
                · (intro w hSw; (try dsimp only at hSw); go_simp; try with_reducible rfl)
                all_goals try simp only [Act.put]
                all_goals try simp only [List.setIfInBounds_toArray]
                all_goals try simp only [List.set_cons_succ]
                all_goals try simp only [List.set_cons_zero]
                refine wpAnyH_take (i := 2) (oi := _) (v := ?_) (by simp only [List.getElem?_toArray, List.getElem?_cons_succ, List.getElem?_cons_zero]; rfl) (by kernel_rfl) (by kernel_rfl) (by kernel_rfl) (by exact fun _ _ _ h => h) (Or.inl ⟨by rfl, ?_⟩) (by assumption) ?_
                rotate_left 1
                · (intro w hSw; (try dsimp only at hSw); go_simp; try with_reducible rfl)
                all_goals try simp only [Act.put]
                all_goals try simp only [List.setIfInBounds_toArray]
                all_goals try simp only [List.set_cons_succ]
                all_goals try simp only [List.set_cons_zero]
                refine wpAnyH_take (i := 3) (oi := _) (v := ?_) (by simp only [List.getElem?_toArray, List.getElem?_cons_succ, List.getElem?_cons_zero]; rfl) (by kernel_rfl) (by kernel_rfl) (by kernel_rfl) (by exact fun _ _ _ h => h) (Or.inl ⟨by rfl, ?_⟩) (by assumption) ?_
                rotate_left 1
                · (intro w hSw; (try dsimp only at hSw); go_simp; try with_reducible rfl)
                all_goals try simp only [Act.put]
                all_goals try simp only [List.setIfInBounds_toArray]
                all_goals try simp only [List.set_cons_succ]
                all_goals try simp only [List.set_cons_zero]
                refine wpAnyH_take (i := 4) (oi := _) (v := undef) (by simp only [List.getElem?_toArray, List.getElem?_cons_succ, List.getElem?_cons_zero]; rfl) (by kernel_rfl) (by kernel_rfl) (by kernel_rfl) (by exact fun _ _ _ h => h) (Or.inr ⟨by rfl, rfl⟩) (by assumption) ?_
                try simp only [Act.put]
                try simp only [List.setIfInBounds_toArray]
                try simp only [List.set_cons_succ]
                try simp only [List.set_cons_zero]
                refine wpAnyH_take (i := 5) (oi := _) (v := undef) (by simp only [List.getElem?_toArray, List.getElem?_cons_succ, List.getElem?_cons_zero]; rfl) (by kernel_rfl) (by kernel_rfl) (by kernel_rfl) (by exact fun _ _ _ h => h) (Or.inr ⟨by rfl, rfl⟩) (by assumption) ?_
                try simp only [Act.put]
                try simp only [List.setIfInBounds_toArray]
                try simp only [List.set_cons_succ]
                try simp only [List.set_cons_zero]
                refine wpAnyH_take (i := 6) (oi := _) (v := undef) (by simp only [List.getElem?_toArray, List.getElem?_cons_succ, List.getElem?_cons_zero]; rfl) (by kernel_rfl) (by kernel_rfl) (by kernel_rfl) (by exact fun _ _ _ h => h) (Or.inr ⟨by rfl, rfl⟩) (by assumption) ?_
                try simp only [Act.put]
                try simp only [List.setIfInBounds_toArray]
                try simp only [List.set_cons_succ]
                try simp only [List.set_cons_zero]
                refine wpAnyH_take (i := 7) (oi := _) (v := undef) (by simp only [List.getElem?_toArray, List.getElem?_cons_succ, List.getElem?_cons_zero]; rfl) (by kernel_rfl) (by kernel_rfl) (by kernel_rfl) (by exact fun _ _ _ h => h) (Or.inr ⟨by rfl, rfl⟩) (by assumption) ?_
                try simp only [Act.put]
                try simp only [List.setIfInBounds_toArray]
                try simp only [List.set_cons_succ]
                try simp only [List.set_cons_zero]
                refine wpAnyH_take (i := 8) (oi := _) (v := undef) (by simp only [List.getElem?_toArray, List.getElem?_cons_succ, List.getElem?_cons_zero]; rfl) (by kernel_rfl) (by kernel_rfl) (by kernel_rfl) (by exact fun _ _ _ h => h) (Or.inr ⟨by rfl, rfl⟩) (by assumption) ?_
                try simp only [Act.put]
                try simp only [List.setIfInBounds_toArray]
                try simp only [List.set_cons_succ]
                try simp only [List.set_cons_zero]
                refine wpAnyH_take (i := 9) (oi := _) (v := undef) (by simp only [List.getElem?_toArray, List.getElem?_cons_succ, List.getElem?_cons_zero]; rfl) (by kernel_rfl) (by kernel_rfl) (by kernel_rfl) (by exact fun _ _ _ h => h) (Or.inr ⟨by rfl, rfl⟩) (by assumption) ?_
                try simp only [Act.put]
                try simp only [List.setIfInBounds_toArray]
                try simp only [List.set_cons_succ]
                try simp only [List.set_cons_zero]
                refine wpAnyH_take (i := 10) (oi := _) (v := undef) (by simp only [List.getElem?_toArray, List.getElem?_cons_succ, List.getElem?_cons_zero]; rfl) (by kernel_rfl) (by kernel_rfl) (by kernel_rfl) (by exact fun _ _ _ h => h) (Or.inr ⟨by rfl, rfl⟩) (by assumption) ?_
                try simp only [Act.put]
                try simp only [List.setIfInBounds_toArray]
                try simp only [List.set_cons_succ]
                try simp only [List.set_cons_zero]
                refine wpAnyH_take (i := 11) (oi := _) (v := undef) (by simp only [List.getElem?_toArray, List.getElem?_cons_succ, List.getElem?_cons_zero]; rfl) (by kernel_rfl) (by kernel_rfl) (by kernel_rfl) (by exact fun _ _ _ h => h) (Or.inr ⟨by rfl, rfl⟩) (by assumption) ?_
                try simp only [Act.put]
                try simp only [List.setIfInBounds_toArray]
                try simp only [List.set_cons_succ]
                try simp only [List.set_cons_zero]
                refine wpAnyH_take (i := 12) (oi := _) (v := undef) (by simp only [List.getElem?_toArray, List.getElem?_cons_succ, List.getElem?_cons_zero]; rfl) (by kernel_rfl) (by kernel_rfl) (by kernel_rfl) (by exact fun _ _ _ h => h) (Or.inr ⟨by rfl, rfl⟩) (by assumption) ?_
                try simp only [Act.put]
                try simp only [List.setIfInBounds_toArray]
                try simp only [List.set_cons_succ]
                try simp only [List.set_cons_zero]
                refine wpAnyH_take (i := 13) (oi := _) (v := undef) (by simp only [List.getElem?_toArray, List.getElem?_cons_succ, List.getElem?_cons_zero]; rfl) (by kernel_rfl) (by kernel_rfl) (by kernel_rfl) (by exact fun _ _ _ h => h) (Or.inr ⟨by rfl, rfl⟩) (by assumption) ?_
                try simp only [Act.put]
                try simp only [List.setIfInBounds_toArray]
                try simp only [List.set_cons_succ]
                try simp only [List.set_cons_zero]
                refine wpAnyH_take (i := 14) (oi := _) (v := undef) (by simp only [List.getElem?_toArray, List.getElem?_cons_succ, List.getElem?_cons_zero]; rfl) (by kernel_rfl) (by kernel_rfl) (by kernel_rfl) (by exact fun _ _ _ h => h) (Or.inr ⟨by rfl, rfl⟩) (by assumption) ?_
                try simp only [Act.put]
                try simp only [List.setIfInBounds_toArray]
                try simp only [List.set_cons_succ]
                try simp only [List.set_cons_zero]
                refine wpAnyH_take (i := 15) (oi := _) (v := undef) (by simp only [List.getElem?_toArray, List.getElem?_cons_succ, List.getElem?_cons_zero]; rfl) (by kernel_rfl) (by kernel_rfl) (by kernel_rfl) (by exact fun _ _ _ h => h) (Or.inr ⟨by rfl, rfl⟩) (by assumption) ?_
                try simp only [Act.put]
                try simp only [List.setIfInBounds_toArray]
                try simp only [List.set_cons_succ]
                try simp only [List.set_cons_zero]
                refine wpAnyH_take (i := 16) (oi := _) (v := ?_) (by simp only [List.getElem?_toArray, List.getElem?_cons_succ, List.getElem?_cons_zero]; rfl) (by kernel_rfl) (by kernel_rfl) (by kernel_rfl) (by exact fun _ _ _ h => h) (Or.inl ⟨by rfl, ?_⟩) (by assumption) ?_
                rotate_left 1
                · (intro w hSw; (try dsimp only at hSw); go_simp; try with_reducible rfl)
                all_goals try simp only [Act.put]
                all_goals try simp only [List.setIfInBounds_toArray]
                all_goals try simp only [List.set_cons_succ]
                all_goals try simp only [List.set_cons_zero]
                refine wpAnyH_take (i := 17) (oi := _) (v := ?_) (by simp only [List.getElem?_toArray, List.getElem?_cons_succ, List.getElem?_cons_zero]; rfl) (by kernel_rfl) (by kernel_rfl) (by kernel_rfl) (by exact fun _ _ _ h => h) (Or.inl ⟨by rfl, ?_⟩) (by assumption) ?_
                rotate_left 1
                · (intro w hSw; (try dsimp only at hSw); go_simp; try with_reducible rfl)
                all_goals try simp only [Act.put]
                all_goals try simp only [List.setIfInBounds_toArray]
                all_goals try simp only [List.set_cons_succ]
                all_goals try simp only [List.set_cons_zero]
                by_cases hu0 : U = 0
                · have du : (U == 0) = true := by simpa using hu0
                  clear hu0
                  refine wpAnyH_take (i := 18) (oi := _) (v := ?_) (by simp only [List.getElem?_toArray, List.getElem?_cons_succ, List.getElem?_cons_zero]; rfl) (by kernel_rfl) (by kernel_rfl) (by kernel_rfl) (by exact fun _ _ _ h => h) (Or.inl ⟨by rfl, ?_⟩) (by assumption) ?_
                  rotate_left 1
                  · (intro w hSw; (try dsimp only at hSw); go_simp; try with_reducible rfl)
                  all_goals try simp only [Act.put]
                  all_goals try simp only [List.setIfInBounds_toArray]
                  all_goals try simp only [List.set_cons_succ]
                  all_goals try simp only [List.set_cons_zero]
                  refine wpAnyH_take (i := 19) (oi := _) (v := ?_) (by simp only [List.getElem?_toArray, List.getElem?_cons_succ, List.getElem?_cons_zero]; rfl) (by kernel_rfl) (by kernel_rfl) (by kernel_rfl) (by exact fun _ _ _ h => h) (Or.inl ⟨by rfl, ?_⟩) (by assumption) ?_
                  rotate_left 1
                  · (intro w hSw; (try dsimp only at hSw); go_simp; try with_reducible rfl)
                  all_goals try simp only [Act.put]
                  all_goals try simp only [List.setIfInBounds_toArray]
                  all_goals try simp only [List.set_cons_succ]
                  all_goals try simp only [List.set_cons_zero]
                  refine wpAnyH_take (i := 20) (oi := _) (v := ?_) (by simp only [List.getElem?_toArray, List.getElem?_cons_succ, List.getElem?_cons_zero]; rfl) (by kernel_rfl) (by kernel_rfl) (by kernel_rfl) (by exact fun _ _ _ h => h) (Or.inl ⟨by rfl, ?_⟩) (by assumption) ?_
                  rotate_left 1
                  · (intro w hSw; (try dsimp only at hSw); go_simp; try with_reducible rfl)
                  all_goals try simp only [Act.put]
                  all_goals try simp only [List.setIfInBounds_toArray]
                  all_goals try simp only [List.set_cons_succ]
                  all_goals try simp only [List.set_cons_zero]
                  refine wpAnyH_take (i := 21) (oi := _) (v := ?_) (by simp only [List.getElem?_toArray, List.getElem?_cons_succ, List.getElem?_cons_zero]; rfl) (by kernel_rfl) (by kernel_rfl) (by kernel_rfl) (by exact fun _ _ _ h => h) (Or.inl ⟨by rfl, ?_⟩) (by assumption) ?_
                  rotate_left 1
                  · (intro w hSw; (try dsimp only at hSw); go_simp; try with_reducible rfl)
                  all_goals try simp only [Act.put]
                  all_goals try simp only [List.setIfInBounds_toArray]
                  all_goals try simp only [List.set_cons_succ]
                  all_goals try simp only [List.set_cons_zero]
                  refine wpAnyH_take (i := 22) (oi := _) (v := undef) (by simp only [List.getElem?_toArray, List.getElem?_cons_succ, List.getElem?_cons_zero]; rfl) (by kernel_rfl) (by kernel_rfl) (by kernel_rfl) (by exact fun _ _ _ h => h) (Or.inr ⟨by rfl, rfl⟩) (by assumption) ?_
                  try simp only [Act.put]
                  try simp only [List.setIfInBounds_toArray]
                  try simp only [List.set_cons_succ]
                  try simp only [List.set_cons_zero]
                  refine wpAnyH_take (i := 23) (oi := _) (v := undef) (by simp only [List.getElem?_toArray, List.getElem?_cons_succ, List.getElem?_cons_zero]; rfl) (by kernel_rfl) (by kernel_rfl) (by kernel_rfl) (by exact fun _ _ _ h => h) (Or.inr ⟨by rfl, rfl⟩) (by assumption) ?_
                  try simp only [Act.put]
                  try simp only [List.setIfInBounds_toArray]
                  try simp only [List.set_cons_succ]
                  try simp only [List.set_cons_zero]
                  refine wpAnyH_take (i := 24) (oi := _) (v := undef) (by simp only [List.getElem?_toArray, List.getElem?_cons_succ, List.getElem?_cons_zero]; rfl) (by kernel_rfl) (by kernel_rfl) (by kernel_rfl) (by exact fun _ _ _ h => h) (Or.inr ⟨by rfl, rfl⟩) (by assumption) ?_
                  try simp only [Act.put]
                  try simp only [List.setIfInBounds_toArray]
                  try simp only [List.set_cons_succ]
                  try simp only [List.set_cons_zero]
                  refine wpAnyH_take (i := 25) (oi := _) (v := undef) (by simp only [List.getElem?_toArray, List.getElem?_cons_succ, List.getElem?_cons_zero]; rfl) (by kernel_rfl) (by kernel_rfl) (by kernel_rfl) (by exact fun _ _ _ h => h) (Or.inr ⟨by rfl, rfl⟩) (by assumption) ?_
                  try simp only [Act.put]
                  try simp only [List.setIfInBounds_toArray]
                  try simp only [List.set_cons_succ]
                  try simp only [List.set_cons_zero]
                  refine wpAnyH_take (i := 26) (oi := _) (v := undef) (by simp only [List.getElem?_toArray, List.getElem?_cons_succ, List.getElem?_cons_zero]; rfl) (by kernel_rfl) (by kernel_rfl) (by kernel_rfl) (by exact fun _ _ _ h => h) (Or.inr ⟨by rfl, rfl⟩) (by assumption) ?_
                  try simp only [Act.put]
                  try simp only [List.setIfInBounds_toArray]
                  try simp only [List.set_cons_succ]
                  try simp only [List.set_cons_zero]
                  refine wpAnyH_take (i := 27) (oi := _) (v := undef) (by simp only [List.getElem?_toArray, List.getElem?_cons_succ, List.getElem?_cons_zero]; rfl) (by kernel_rfl) (by kernel_rfl) (by kernel_rfl) (by exact fun _ _ _ h => h) (Or.inr ⟨by rfl, rfl⟩) (by assumption) ?_
                  try simp only [Act.put]
                  try simp only [List.setIfInBounds_toArray]
                  try simp only [List.set_cons_succ]
                  try simp only [List.set_cons_zero]
                  refine wpAnyH_take (i := 28) (oi := _) (v := undef) (by simp only [List.getElem?_toArray, List.getElem?_cons_succ, List.getElem?_cons_zero]; rfl) (by kernel_rfl) (by kernel_rfl) (by kernel_rfl) (by exact fun _ _ _ h => h) (Or.inr ⟨by rfl, rfl⟩) (by assumption) ?_
                  try simp only [Act.put]
                  try simp only [List.setIfInBounds_toArray]
                  try simp only [List.set_cons_succ]
                  try simp only [List.set_cons_zero]
                  refine wpAnyH_take (i := 29) (oi := _) (v := undef) (by simp only [List.getElem?_toArray, List.getElem?_cons_succ, List.getElem?_cons_zero]; rfl) (by kernel_rfl) (by kernel_rfl) (by kernel_rfl) (by exact fun _ _ _ h => h) (Or.inr ⟨by rfl, rfl⟩) (by assumption) ?_
                  try simp only [Act.put]
                  try simp only [List.setIfInBounds_toArray]
                  try simp only [List.set_cons_succ]
                  try simp only [List.set_cons_zero]
                  refine wpAnyH_take (i := 30) (oi := _) (v := undef) (by simp only [List.getElem?_toArray, List.getElem?_cons_succ, List.getElem?_cons_zero]; rfl) (by kernel_rfl) (by kernel_rfl) (by kernel_rfl) (by exact fun _ _ _ h => h) (Or.inr ⟨by rfl, rfl⟩) (by assumption) ?_
                  try simp only [Act.put]
                  try simp only [List.setIfInBounds_toArray]
                  try simp only [List.set_cons_succ]
                  try simp only [List.set_cons_zero]
                  refine wpAnyH_take (i := 31) (oi := _) (v := undef) (by simp only [List.getElem?_toArray, List.getElem?_cons_succ, List.getElem?_cons_zero]; rfl) (by kernel_rfl) (by kernel_rfl) (by kernel_rfl) (by exact fun _ _ _ h => h) (Or.inr ⟨by rfl, rfl⟩) (by assumption) ?_
                  try simp only [Act.put]
                  try simp only [List.setIfInBounds_toArray]
                  try simp only [List.set_cons_succ]
                  try simp only [List.set_cons_zero]
                  refine wpAnyH_take (i := 32) (oi := _) (v := undef) (by simp only [List.getElem?_toArray, List.getElem?_cons_succ, List.getElem?_cons_zero]; rfl) (by kernel_rfl) (by kernel_rfl) (by kernel_rfl) (by exact fun _ _ _ h => h) (Or.inr ⟨by rfl, rfl⟩) (by assumption) ?_
                  try simp only [Act.put]
                  try simp only [List.setIfInBounds_toArray]
                  try simp only [List.set_cons_succ]
                  try simp only [List.set_cons_zero]
                  refine wpAnyH_take (i := 33) (oi := _) (v := undef) (by simp only [List.getElem?_toArray, List.getElem?_cons_succ, List.getElem?_cons_zero]; rfl) (by kernel_rfl) (by kernel_rfl) (by kernel_rfl) (by exact fun _ _ _ h => h) (Or.inr ⟨by rfl, rfl⟩) (by assumption) ?_
                  try simp only [Act.put]
                  try simp only [List.setIfInBounds_toArray]
                  try simp only [List.set_cons_succ]
                  try simp only [List.set_cons_zero]
                  refine wpAnyH_take (i := 34) (oi := _) (v := undef) (by simp only [List.getElem?_toArray, List.getElem?_cons_succ, List.getElem?_cons_zero]; rfl) (by kernel_rfl) (by kernel_rfl) (by kernel_rfl) (by exact fun _ _ _ h => h) (Or.inr ⟨by rfl, rfl⟩) (by assumption) ?_
                  try simp only [Act.put]
                  try simp only [List.setIfInBounds_toArray]
                  try simp only [List.set_cons_succ]
                  try simp only [List.set_cons_zero]
                  refine wpAnyH_take (i := 35) (oi := _) (v := ?_) (by simp only [List.getElem?_toArray, List.getElem?_cons_succ, List.getElem?_cons_zero]; rfl) (by kernel_rfl) (by kernel_rfl) (by kernel_rfl) (by exact fun _ _ _ h => h) (Or.inl ⟨by rfl, ?_⟩) (by assumption) ?_
                  rotate_left 1
                  · (intro w hSw; (try dsimp only at hSw); go_simp; try with_reducible rfl)
                  all_goals try simp only [Act.put]
                  all_goals try simp only [List.setIfInBounds_toArray]
                  all_goals try simp only [List.set_cons_succ]
                  all_goals try simp only [List.set_cons_zero]
                  refine wpAnyH_take (i := 36) (oi := _) (v := ?_) (by simp only [List.getElem?_toArray, List.getElem?_cons_succ, List.getElem?_cons_zero]; rfl) (by kernel_rfl) (by kernel_rfl) (by kernel_rfl) (by exact fun _ _ _ h => h) (Or.inl ⟨by rfl, ?_⟩) (by assumption) ?_
                  rotate_left 1
                  · (intro w hSw; (try dsimp only at hSw); go_simp; try with_reducible rfl)
                  all_goals try simp only [Act.put]
                  all_goals try simp only [List.setIfInBounds_toArray]
                  all_goals try simp only [List.set_cons_succ]
                  all_goals try simp only [List.set_cons_zero]
                  refine wpAnyH_take (i := 37) (oi := _) (v := ?_) (by simp only [List.getElem?_toArray, List.getElem?_cons_succ, List.getElem?_cons_zero]; rfl) (by kernel_rfl) (by kernel_rfl) (by kernel_rfl) (by exact fun _ _ _ h => h) (Or.inl ⟨by rfl, ?_⟩) (by assumption) ?_
                  rotate_left 1
                  · (intro w hSw; (try dsimp only at hSw); go_simp; try with_reducible rfl)
                  all_goals try simp only [Act.put]
                  all_goals try simp only [List.setIfInBounds_toArray]
                  all_goals try simp only [List.set_cons_succ]
                  all_goals try simp only [List.set_cons_zero]
                  refine wpAnyH_take (i := 38) (oi := _) (v := ?_) (by simp only [List.getElem?_toArray, List.getElem?_cons_succ, List.getElem?_cons_zero]; rfl) (by kernel_rfl) (by kernel_rfl) (by kernel_rfl) (by exact fun _ _ _ h => h) (Or.inl ⟨by rfl, ?_⟩) (by assumption) ?_
                  rotate_left 1
                  · (intro w hSw; (try dsimp only at hSw); go_simp; try with_reducible rfl)
                  all_goals try simp only [Act.put]
                  all_goals try simp only [List.setIfInBounds_toArray]
                  all_goals try simp only [List.set_cons_succ]
                  all_goals try simp only [List.set_cons_zero]
                  refine wpAnyH_take (i := 39) (oi := _) (v := ?_) (by simp only [List.getElem?_toArray, List.getElem?_cons_succ, List.getElem?_cons_zero]; rfl) (by kernel_rfl) (by kernel_rfl) (by kernel_rfl) (by exact fun _ _ _ h => h) (Or.inl ⟨by rfl, ?_⟩) (by assumption) ?_
                  rotate_left 1
                  · (intro w hSw; (try dsimp only at hSw); go_simp; try with_reducible rfl)
                  all_goals try simp only [Act.put]
                  all_goals try simp only [List.setIfInBounds_toArray]
                  all_goals try simp only [List.set_cons_succ]
                  all_goals try simp only [List.set_cons_zero]
                  refine wpAnyH_take (i := 40) (oi := _) (v := ?_) (by simp only [List.getElem?_toArray, List.getElem?_cons_succ, List.getElem?_cons_zero]; rfl) (by kernel_rfl) (by kernel_rfl) (by kernel_rfl) (by exact fun _ _ _ h => h) (Or.inl ⟨by rfl, ?_⟩) (by assumption) ?_
                  rotate_left 1
                  · (intro w hSw; (try dsimp only at hSw); go_simp; try with_reducible rfl)
                  all_goals try simp only [Act.put]
                  all_goals try simp only [List.setIfInBounds_toArray]
                  all_goals try simp only [List.set_cons_succ]
                  all_goals try simp only [List.set_cons_zero]
                  refine wpAnyH_take (i := 41) (oi := _) (v := ?_) (by simp only [List.getElem?_toArray, List.getElem?_cons_succ, List.getElem?_cons_zero]; rfl) (by kernel_rfl) (by kernel_rfl) (by kernel_rfl) (by exact fun _ _ _ h => h) (Or.inl ⟨by rfl, ?_⟩) (by assumption) ?_
                  rotate_left 1
                  · (intro w hSw; (try dsimp only at hSw); go_simp; try with_reducible rfl)
                  all_goals try simp only [Act.put]
                  all_goals try simp only [List.setIfInBounds_toArray]
                  all_goals try simp only [List.set_cons_succ]
                  all_goals try simp only [List.set_cons_zero]
                  refine wpAnyH_take (i := 42) (oi := _) (v := ?_) (by simp only [List.getElem?_toArray, List.getElem?_cons_succ, List.getElem?_cons_zero]; rfl) (by kernel_rfl) (by kernel_rfl) (by kernel_rfl) (by exact fun _ _ _ h => h) (Or.inl ⟨by rfl, ?_⟩) (by assumption) ?_
                  rotate_left 1
                  · (intro w hSw; (try dsimp only at hSw); go_simp; try with_reducible rfl)
                  all_goals try simp only [Act.put]
                  all_goals try simp only [List.setIfInBounds_toArray]
                  all_goals try simp only [List.set_cons_succ]
                  all_goals try simp only [List.set_cons_zero]
                  refine wpAnyH_ready (rs := [43]) (by kernel_rfl) (by simp) ?_
                  refine (AllReadyH.cons (by simp only [List.getElem?_toArray, List.getElem?_cons_succ, List.getElem?_cons_zero]; rfl) (fun K hK => ?_) AllReadyH.nil)
                  rw [if_pos (by rfl)]
                  go_simp
                  refine (refAt_any A n c f.per f.inc 0 f.vals _ (by exact (E.out.get 0 rfl).inn.ints) (by omega) Hf.out.ok.p1 (by exact fpn) Hf.out.ok.i1 (by have := Hf.out.ok.i2; omega) Hf.out.ok.nn (by omega) (by omega)).mono ?_
                  rw [show Cv.at ⟨f.vals, f.per, f.inc⟩ ((0 : Int)).toNat = fz from HFZ.out.symm]
                  rintro e wq ⟨rfl, hb⟩
                  clear hHeld
                  replace E := Lib.hid (E.out.below hb); replace D1 := Lib.hid (D1.out.below hb D1.out.lt); replace D2 := Lib.hid (D2.out.below hb D2.out.lt)
                  clear hb
                  clear x0 x1 x2 hlx y0 y1 y2 hly
                  clear d1 d2 e1 e2 hd1 hd2
                  obtain ⟨x0, x1, x2, hlx⟩ := (E.out.get 0 rfl).cells
                  obtain ⟨y0, y1, y2, hly⟩ := (E.out.get 1 rfl).cells
                  obtain ⟨d1, d2⟩ : _ ∧ _ := ⟨D1.out.cell 1, D1.out.cell 2⟩
                  obtain ⟨e1, e2⟩ : _ ∧ _ := ⟨D2.out.cell 1, D2.out.cell 2⟩
                  simp at d1 d2 e1 e2
                  have hd1 := D1.out.lt; have hd2 := D2.out.lt
                  refine hK.out _ _ (by (refine ⟨?_, ?_, ?_, ?_, ?_, ?_, ?_, ?_, ?_, ?_⟩ <;> assumption)) (fun hHeld => ?_)
                  clear hK K
                  try simp only [Act.put]
                  try simp only [List.setIfInBounds_toArray]
                  try simp only [List.set_cons_succ]
                  try simp only [List.set_cons_zero]
                  refine wpAnyH_take (i := 44) (oi := _) (v := ?_) (by simp only [List.getElem?_toArray, List.getElem?_cons_succ, List.getElem?_cons_zero]; rfl) (by kernel_rfl) (by kernel_rfl) (by kernel_rfl) (by exact fun _ _ _ h => h) (Or.inl ⟨by rfl, ?_⟩) (by assumption) ?_
                  rotate_left 1
                  · (intro w hSw; (try dsimp only at hSw); go_simp; try with_reducible rfl)
                  all_goals try simp only [Act.put]
                  all_goals try simp only [List.setIfInBounds_toArray]
                  all_goals try simp only [List.set_cons_succ]
                  all_goals try simp only [List.set_cons_zero]
                  refine wpAnyH_take (i := 45) (oi := _) (v := ?_) (by simp only [List.getElem?_toArray, List.getElem?_cons_succ, List.getElem?_cons_zero]; rfl) (by kernel_rfl) (by kernel_rfl) (by kernel_rfl) (by exact fun _ _ _ h => h) (Or.inl ⟨by rfl, ?_⟩) (by assumption) ?_
                  rotate_left 1
                  · (intro w hSw; (try dsimp only at hSw); go_simp; try with_reducible rfl)
                  all_goals try simp only [Act.put]
                  all_goals try simp only [List.setIfInBounds_toArray]
                  all_goals try simp only [List.set_cons_succ]
                  all_goals try simp only [List.set_cons_zero]
                  refine wpAnyH_take (i := 46) (oi := _) (v := ?_) (by simp only [List.getElem?_toArray, List.getElem?_cons_succ, List.getElem?_cons_zero]; rfl) (by kernel_rfl) (by kernel_rfl) (by kernel_rfl) (by exact fun _ _ _ h => h) (Or.inl ⟨by rfl, ?_⟩) (by assumption) ?_
                  rotate_left 1
                  · (intro w hSw; (try dsimp only at hSw); go_simp; try with_reducible rfl)
                  all_goals try simp only [Act.put]
                  all_goals try simp only [List.setIfInBounds_toArray]
                  all_goals try simp only [List.set_cons_succ]
                  all_goals try simp only [List.set_cons_zero]
                  refine wpAnyH_take (i := 47) (oi := _) (v := ?_) (by simp only [List.getElem?_toArray, List.getElem?_cons_succ, List.getElem?_cons_zero]; rfl) (by kernel_rfl) (by kernel_rfl) (by kernel_rfl) (by exact fun _ _ _ h => h) (Or.inl ⟨by rfl, ?_⟩) (by assumption) ?_
                  rotate_left 1
                  · (intro w hSw; (try dsimp only at hSw); go_simp; try with_reducible rfl)
                  all_goals try simp only [Act.put]
                  all_goals try simp only [List.setIfInBounds_toArray]
                  all_goals try simp only [List.set_cons_succ]
                  all_goals try simp only [List.set_cons_zero]
                  refine wpAnyH_ready (rs := [48]) (by kernel_rfl) (by simp) ?_
                  refine (AllReadyH.cons (by simp only [List.getElem?_toArray, List.getElem?_cons_succ, List.getElem?_cons_zero]; rfl) (fun K hK => ?_) AllReadyH.nil)
                  rw [if_pos (by rfl)]
                  go_simp
                  refine (awake10_any _).mono ?_
                  rintro e wq ⟨rfl, hb⟩
                  clear hHeld
                  replace E := Lib.hid (E.out.below hb); replace D1 := Lib.hid (D1.out.below hb D1.out.lt); replace D2 := Lib.hid (D2.out.below hb D2.out.lt)
                  clear hb
                  clear x0 x1 x2 hlx y0 y1 y2 hly
                  clear d1 d2 e1 e2 hd1 hd2
                  obtain ⟨x0, x1, x2, hlx⟩ := (E.out.get 0 rfl).cells
                  obtain ⟨y0, y1, y2, hly⟩ := (E.out.get 1 rfl).cells
                  obtain ⟨d1, d2⟩ : _ ∧ _ := ⟨D1.out.cell 1, D1.out.cell 2⟩
                  obtain ⟨e1, e2⟩ : _ ∧ _ := ⟨D2.out.cell 1, D2.out.cell 2⟩
                  simp at d1 d2 e1 e2
                  have hd1 := D1.out.lt; have hd2 := D2.out.lt
                  refine hK.out _ _ (by (refine ⟨?_, ?_, ?_, ?_, ?_, ?_, ?_, ?_, ?_, ?_⟩ <;> assumption)) (fun hHeld => ?_)
                  clear hK K
                  try simp only [Act.put]
                  try simp only [List.setIfInBounds_toArray]
                  try simp only [List.set_cons_succ]
                  try simp only [List.set_cons_zero]
                  refine wpAnyH_take (i := 49) (oi := _) (v := ?_) (by simp only [List.getElem?_toArray, List.getElem?_cons_succ, List.getElem?_cons_zero]; rfl) (by kernel_rfl) (by kernel_rfl) (by kernel_rfl) (by exact fun _ _ _ h => h) (Or.inl ⟨by rfl, ?_⟩) (by assumption) ?_
                  rotate_left 1
                  · (intro w hSw; (try dsimp only at hSw); go_simp; try with_reducible rfl)
                  all_goals try simp only [Act.put]
                  all_goals try simp only [List.setIfInBounds_toArray]
                  all_goals try simp only [List.set_cons_succ]
                  all_goals try simp only [List.set_cons_zero]
                  refine wpAnyH_take (i := 50) (oi := _) (v := ?_) (by simp only [List.getElem?_toArray, List.getElem?_cons_succ, List.getElem?_cons_zero]; rfl) (by kernel_rfl) (by kernel_rfl) (by kernel_rfl) (by exact fun _ _ _ h => h) (Or.inl ⟨by rfl, ?_⟩) (by assumption) ?_
                  rotate_left 1
                  · (intro w hSw; (try dsimp only at hSw); go_simp; try with_reducible rfl)
                  all_goals try simp only [Act.put]
                  all_goals try simp only [List.setIfInBounds_toArray]
                  all_goals try simp only [List.set_cons_succ]
                  all_goals try simp only [List.set_cons_zero]
                  refine wpAnyH_done (by kernel_rfl) ?_ _
                  have bw := E.out.fin
                  go_wp2_with fail
                  go_ret
                  exact ⟨rfl, bw⟩
                · have du : (U == 0) = false := by simpa using hu0
                  have w2' : IntKind.i64.wrap (fa2 - ga2) = U := by rw [Q2.out.resolve_left hu0]; exact wu
                  clear hu0
                  refine wpAnyH_take (i := 18) (oi := _) (v := ?_) (by simp only [List.getElem?_toArray, List.getElem?_cons_succ, List.getElem?_cons_zero]; rfl) (by kernel_rfl) (by kernel_rfl) (by kernel_rfl) (by exact fun _ _ _ h => h) (Or.inl ⟨by rfl, ?_⟩) (by assumption) ?_
                  rotate_left 1
                  · (intro w hSw; (try dsimp only at hSw); go_simp; try with_reducible rfl)
                  all_goals try simp only [Act.put]
                  all_goals try simp only [List.setIfInBounds_toArray]
                  all_goals try simp only [List.set_cons_succ]
                  all_goals try simp only [List.set_cons_zero]
                  refine wpAnyH_take (i := 19) (oi := _) (v := ?_) (by simp only [List.getElem?_toArray, List.getElem?_cons_succ, List.getElem?_cons_zero]; rfl) (by kernel_rfl) (by kernel_rfl) (by kernel_rfl) (by exact fun _ _ _ h => h) (Or.inl ⟨by rfl, ?_⟩) (by assumption) ?_
                  rotate_left 1
                  · (intro w hSw; (try dsimp only at hSw); go_simp; try with_reducible rfl)
                  all_goals try simp only [Act.put]
                  all_goals try simp only [List.setIfInBounds_toArray]
                  all_goals try simp only [List.set_cons_succ]
                  all_goals try simp only [List.set_cons_zero]
                  refine wpAnyH_take (i := 20) (oi := _) (v := ?_) (by simp only [List.getElem?_toArray, List.getElem?_cons_succ, List.getElem?_cons_zero]; rfl) (by kernel_rfl) (by kernel_rfl) (by kernel_rfl) (by exact fun _ _ _ h => h) (Or.inl ⟨by rfl, ?_⟩) (by assumption) ?_
                  rotate_left 1
                  · (intro w hSw; (try dsimp only at hSw); go_simp; try with_reducible rfl)
                  all_goals try simp only [Act.put]
                  all_goals try simp only [List.setIfInBounds_toArray]
                  all_goals try simp only [List.set_cons_succ]
                  all_goals try simp only [List.set_cons_zero]
                  refine wpAnyH_take (i := 21) (oi := _) (v := ?_) (by simp only [List.getElem?_toArray, List.getElem?_cons_succ, List.getElem?_cons_zero]; rfl) (by kernel_rfl) (by kernel_rfl) (by kernel_rfl) (by exact fun _ _ _ h => h) (Or.inl ⟨by rfl, ?_⟩) (by assumption) ?_
                  rotate_left 1
                  · (intro w hSw; (try dsimp only at hSw); go_simp; try with_reducible rfl)
                  all_goals try simp only [Act.put]
                  all_goals try simp only [List.setIfInBounds_toArray]
                  all_goals try simp only [List.set_cons_succ]
                  all_goals try simp only [List.set_cons_zero]
                  refine wpAnyH_take (i := 22) (oi := _) (v := ?_) (by simp only [List.getElem?_toArray, List.getElem?_cons_succ, List.getElem?_cons_zero]; rfl) (by kernel_rfl) (by kernel_rfl) (by kernel_rfl) (by exact fun _ _ _ h => h) (Or.inl ⟨by rfl, ?_⟩) (by assumption) ?_
                  rotate_left 1
                  · (intro w hSw; (try dsimp only at hSw); go_simp; try with_reducible rfl)
                  all_goals try simp only [Act.put]
                  all_goals try simp only [List.setIfInBounds_toArray]
                  all_goals try simp only [List.set_cons_succ]
                  all_goals try simp only [List.set_cons_zero]
                  refine wpAnyH_take (i := 23) (oi := _) (v := ?_) (by simp only [List.getElem?_toArray, List.getElem?_cons_succ, List.getElem?_cons_zero]; rfl) (by kernel_rfl) (by kernel_rfl) (by kernel_rfl) (by exact fun _ _ _ h => h) (Or.inl ⟨by rfl, ?_⟩) (by assumption) ?_
                  rotate_left 1
                  · (intro w hSw; (try dsimp only at hSw); go_simp; try with_reducible rfl)
                  all_goals try simp only [Act.put]
                  all_goals try simp only [List.setIfInBounds_toArray]
                  all_goals try simp only [List.set_cons_succ]
                  all_goals try simp only [List.set_cons_zero]
                  refine wpAnyH_take (i := 24) (oi := _) (v := ?_) (by simp only [List.getElem?_toArray, List.getElem?_cons_succ, List.getElem?_cons_zero]; rfl) (by kernel_rfl) (by kernel_rfl) (by kernel_rfl) (by exact fun _ _ _ h => h) (Or.inl ⟨by rfl, ?_⟩) (by assumption) ?_
                  rotate_left 1
                  · (intro w hSw; (try dsimp only at hSw); go_simp; try with_reducible rfl)
                  all_goals try simp only [Act.put]
                  all_goals try simp only [List.setIfInBounds_toArray]
                  all_goals try simp only [List.set_cons_succ]
                  all_goals try simp only [List.set_cons_zero]
                  refine wpAnyH_take (i := 25) (oi := _) (v := ?_) (by simp only [List.getElem?_toArray, List.getElem?_cons_succ, List.getElem?_cons_zero]; rfl) (by kernel_rfl) (by kernel_rfl) (by kernel_rfl) (by exact fun _ _ _ h => h) (Or.inl ⟨by rfl, ?_⟩) (by assumption) ?_
                  rotate_left 1
                  · (intro w hSw; (try dsimp only at hSw); go_simp; try with_reducible rfl)
                  all_goals try simp only [Act.put]
                  all_goals try simp only [List.setIfInBounds_toArray]
                  all_goals try simp only [List.set_cons_succ]
                  all_goals try simp only [List.set_cons_zero]
                  refine wpAnyH_take (i := 27) (oi := _) (v := ?_) (by simp only [List.getElem?_toArray, List.getElem?_cons_succ, List.getElem?_cons_zero]; rfl) (by kernel_rfl) (by kernel_rfl) (by kernel_rfl) (by exact fun _ _ _ h => h) (Or.inl ⟨by rfl, ?_⟩) (by assumption) ?_
                  rotate_left 1
                  · (intro w hSw; (try dsimp only at hSw); go_simp; try with_reducible rfl)
                  all_goals try simp only [Act.put]
                  all_goals try simp only [List.setIfInBounds_toArray]
                  all_goals try simp only [List.set_cons_succ]
                  all_goals try simp only [List.set_cons_zero]
                  refine wpAnyH_take (i := 28) (oi := _) (v := ?_) (by simp only [List.getElem?_toArray, List.getElem?_cons_succ, List.getElem?_cons_zero]; rfl) (by kernel_rfl) (by kernel_rfl) (by kernel_rfl) (by exact fun _ _ _ h => h) (Or.inl ⟨by rfl, ?_⟩) (by assumption) ?_
                  rotate_left 1
                  · (intro w hSw; (try dsimp only at hSw); go_simp; try with_reducible rfl)
                  all_goals try simp only [Act.put]
                  all_goals try simp only [List.setIfInBounds_toArray]
                  all_goals try simp only [List.set_cons_succ]
                  all_goals try simp only [List.set_cons_zero]
                  refine wpAnyH_take (i := 29) (oi := _) (v := ?_) (by simp only [List.getElem?_toArray, List.getElem?_cons_succ, List.getElem?_cons_zero]; rfl) (by kernel_rfl) (by kernel_rfl) (by kernel_rfl) (by exact fun _ _ _ h => h) (Or.inl ⟨by rfl, ?_⟩) (by assumption) ?_
                  rotate_left 1
                  · (intro w hSw; (try dsimp only at hSw); go_simp; try with_reducible rfl)
                  all_goals try simp only [Act.put]
                  all_goals try simp only [List.setIfInBounds_toArray]
                  all_goals try simp only [List.set_cons_succ]
                  all_goals try simp only [List.set_cons_zero]
                  refine wpAnyH_take (i := 32) (oi := _) (v := ?_) (by simp only [List.getElem?_toArray, List.getElem?_cons_succ, List.getElem?_cons_zero]; rfl) (by kernel_rfl) (by kernel_rfl) (by kernel_rfl) (by exact fun _ _ _ h => h) (Or.inl ⟨by rfl, ?_⟩) (by assumption) ?_
                  rotate_left 1
                  · (intro w hSw; (try dsimp only at hSw); go_simp; try with_reducible rfl)
                  all_goals try simp only [Act.put]
                  all_goals try simp only [List.setIfInBounds_toArray]
                  all_goals try simp only [List.set_cons_succ]
                  all_goals try simp only [List.set_cons_zero]
                  refine wpAnyH_take (i := 33) (oi := _) (v := ?_) (by simp only [List.getElem?_toArray, List.getElem?_cons_succ, List.getElem?_cons_zero]; rfl) (by kernel_rfl) (by kernel_rfl) (by kernel_rfl) (by exact fun _ _ _ h => h) (Or.inl ⟨by rfl, ?_⟩) (by assumption) ?_
                  rotate_left 1
                  · (intro w hSw; (try dsimp only at hSw); go_simp; try with_reducible rfl)
                  all_goals try simp only [Act.put]
                  all_goals try simp only [List.setIfInBounds_toArray]
                  all_goals try simp only [List.set_cons_succ]
                  all_goals try simp only [List.set_cons_zero]
                  refine wpAnyH_ready (rs := [26]) (by kernel_rfl) (by simp) ?_
                  refine (AllReadyH.cons (by simp only [List.getElem?_toArray, List.getElem?_cons_succ, List.getElem?_cons_zero]; rfl) (fun K hK => ?_) AllReadyH.nil)
                  rw [if_pos (by rfl)]
                  go_simp
                  refine (refAt_any A n c f.per f.inc ((A21 : Nat) : Int) f.vals _ (by exact (E.out.get 0 rfl).inn.ints) (by omega) Hf.out.ok.p1 (by exact fpn) Hf.out.ok.i1 (by have := Hf.out.ok.i2; omega) Hf.out.ok.nn (by omega) (by omega)).mono ?_
                  rw [Int.toNat_natCast, ← HF2.out]
                  rintro e wq ⟨rfl, hb⟩
                  clear hHeld
                  replace E := Lib.hid (E.out.below hb); replace D1 := Lib.hid (D1.out.below hb D1.out.lt); replace D2 := Lib.hid (D2.out.below hb D2.out.lt)
                  clear hb
                  clear x0 x1 x2 hlx y0 y1 y2 hly
                  clear d1 d2 e1 e2 hd1 hd2
                  obtain ⟨x0, x1, x2, hlx⟩ := (E.out.get 0 rfl).cells
                  obtain ⟨y0, y1, y2, hly⟩ := (E.out.get 1 rfl).cells
                  obtain ⟨d1, d2⟩ : _ ∧ _ := ⟨D1.out.cell 1, D1.out.cell 2⟩
                  obtain ⟨e1, e2⟩ : _ ∧ _ := ⟨D2.out.cell 1, D2.out.cell 2⟩
                  simp at d1 d2 e1 e2
                  have hd1 := D1.out.lt; have hd2 := D2.out.lt
                  refine hK.out _ _ (by (refine ⟨?_, ?_, ?_, ?_, ?_, ?_, ?_, ?_, ?_, ?_⟩ <;> assumption)) (fun hHeld => ?_)
                  clear hK K
                  try simp only [Act.put]
                  try simp only [List.setIfInBounds_toArray]
                  try simp only [List.set_cons_succ]
                  try simp only [List.set_cons_zero]
                  refine wpAnyH_ready (rs := [30]) (by kernel_rfl) (by simp) ?_
                  refine (AllReadyH.cons (by simp only [List.getElem?_toArray, List.getElem?_cons_succ, List.getElem?_cons_zero]; rfl) (fun K hK => ?_) AllReadyH.nil)
                  rw [if_pos (by rfl)]
                  go_simp
                  refine (refAt_any B m d g.per g.inc ((A2 : Nat) : Int) g.vals _ (by exact (E.out.get 1 rfl).inn.ints) (by omega) Hg.out.1.1.ok.p1 (by exact gpn) Hg.out.1.1.ok.i1 (by have := Hg.out.1.1.ok.i2; omega) Hg.out.1.1.ok.nn (by omega) (by omega)).mono ?_
                  rw [Int.toNat_natCast, ← HG2.out]
                  rintro e wq ⟨rfl, hb⟩
                  clear hHeld
                  replace E := Lib.hid (E.out.below hb); replace D1 := Lib.hid (D1.out.below hb D1.out.lt); replace D2 := Lib.hid (D2.out.below hb D2.out.lt)
                  clear hb
                  clear x0 x1 x2 hlx y0 y1 y2 hly
                  clear d1 d2 e1 e2 hd1 hd2
                  obtain ⟨x0, x1, x2, hlx⟩ := (E.out.get 0 rfl).cells
                  obtain ⟨y0, y1, y2, hly⟩ := (E.out.get 1 rfl).cells
                  obtain ⟨d1, d2⟩ : _ ∧ _ := ⟨D1.out.cell 1, D1.out.cell 2⟩
                  obtain ⟨e1, e2⟩ : _ ∧ _ := ⟨D2.out.cell 1, D2.out.cell 2⟩
                  simp at d1 d2 e1 e2
                  have hd1 := D1.out.lt; have hd2 := D2.out.lt
                  refine hK.out _ _ (by (refine ⟨?_, ?_, ?_, ?_, ?_, ?_, ?_, ?_, ?_, ?_⟩ <;> assumption)) (fun hHeld => ?_)
                  clear hK K
                  try simp only [Act.put]
                  try simp only [List.setIfInBounds_toArray]
                  try simp only [List.set_cons_succ]
                  try simp only [List.set_cons_zero]
                  refine wpAnyH_take (i := 31) (oi := _) (v := ?_) (by simp only [List.getElem?_toArray, List.getElem?_cons_succ, List.getElem?_cons_zero]; rfl) (by kernel_rfl) (by kernel_rfl) (by kernel_rfl) (by exact fun _ _ _ h => h) (Or.inl ⟨by rfl, ?_⟩) (by assumption) ?_
                  rotate_left 1
                  · (intro w hSw; (try dsimp only at hSw); go_simp; try with_reducible rfl)
                  all_goals try simp only [Act.put]
                  all_goals try simp only [List.setIfInBounds_toArray]
                  all_goals try simp only [List.set_cons_succ]
                  all_goals try simp only [List.set_cons_zero]
                  refine wpAnyH_take (i := 34) (oi := _) (v := ?_) (by simp only [List.getElem?_toArray, List.getElem?_cons_succ, List.getElem?_cons_zero]; rfl) (by kernel_rfl) (by kernel_rfl) (by kernel_rfl) (by exact fun _ _ _ h => h) (Or.inl ⟨by rfl, ?_⟩) (by assumption) ?_
                  rotate_left 1
                  · (intro w hSw; (try dsimp only at hSw); go_simp; try with_reducible rfl)
                  all_goals try simp only [Act.put]
                  all_goals try simp only [List.setIfInBounds_toArray]
                  all_goals try simp only [List.set_cons_succ]
                  all_goals try simp only [List.set_cons_zero]
                  refine wpAnyH_take (i := 35) (oi := _) (v := ?_) (by simp only [List.getElem?_toArray, List.getElem?_cons_succ, List.getElem?_cons_zero]; rfl) (by kernel_rfl) (by kernel_rfl) (by kernel_rfl) (by exact fun _ _ _ h => h) (Or.inl ⟨by rfl, ?_⟩) (by assumption) ?_
                  rotate_left 1
                  · (intro w hSw; (try dsimp only at hSw); go_simp; try with_reducible rfl)
                  all_goals try simp only [Act.put]
                  all_goals try simp only [List.setIfInBounds_toArray]
                  all_goals try simp only [List.set_cons_succ]
                  all_goals try simp only [List.set_cons_zero]
                  refine wpAnyH_take (i := 36) (oi := _) (v := ?_) (by simp only [List.getElem?_toArray, List.getElem?_cons_succ, List.getElem?_cons_zero]; rfl) (by kernel_rfl) (by kernel_rfl) (by kernel_rfl) (by exact fun _ _ _ h => h) (Or.inl ⟨by rfl, ?_⟩) (by assumption) ?_
                  rotate_left 1
                  · (intro w hSw; (try dsimp only at hSw); go_simp; try with_reducible rfl)
                  all_goals try simp only [Act.put]
                  all_goals try simp only [List.setIfInBounds_toArray]
                  all_goals try simp only [List.set_cons_succ]
                  all_goals try simp only [List.set_cons_zero]
                  refine wpAnyH_take (i := 37) (oi := _) (v := ?_) (by simp only [List.getElem?_toArray, List.getElem?_cons_succ, List.getElem?_cons_zero]; rfl) (by kernel_rfl) (by kernel_rfl) (by kernel_rfl) (by exact fun _ _ _ h => h) (Or.inl ⟨by rfl, ?_⟩) (by assumption) ?_
                  rotate_left 1
                  · (intro w hSw; (try dsimp only at hSw); go_simp; try with_reducible rfl)
                  all_goals try simp only [Act.put]
                  all_goals try simp only [List.setIfInBounds_toArray]
                  all_goals try simp only [List.set_cons_succ]
                  all_goals try simp only [List.set_cons_zero]
                  refine wpAnyH_take (i := 38) (oi := _) (v := ?_) (by simp only [List.getElem?_toArray, List.getElem?_cons_succ, List.getElem?_cons_zero]; rfl) (by kernel_rfl) (by kernel_rfl) (by kernel_rfl) (by exact fun _ _ _ h => h) (Or.inl ⟨by rfl, ?_⟩) (by assumption) ?_
                  rotate_left 1
                  · (intro w hSw; (try dsimp only at hSw); go_simp; try with_reducible rfl)
                  all_goals try simp only [Act.put]
                  all_goals try simp only [List.setIfInBounds_toArray]
                  all_goals try simp only [List.set_cons_succ]
                  all_goals try simp only [List.set_cons_zero]
                  refine wpAnyH_take (i := 39) (oi := _) (v := ?_) (by simp only [List.getElem?_toArray, List.getElem?_cons_succ, List.getElem?_cons_zero]; rfl) (by kernel_rfl) (by kernel_rfl) (by kernel_rfl) (by exact fun _ _ _ h => h) (Or.inl ⟨by rfl, ?_⟩) (by assumption) ?_
                  rotate_left 1
                  · (intro w hSw; (try dsimp only at hSw); go_simp; try with_reducible rfl)
                  all_goals try simp only [Act.put]
                  all_goals try simp only [List.setIfInBounds_toArray]
                  all_goals try simp only [List.set_cons_succ]
                  all_goals try simp only [List.set_cons_zero]
                  refine wpAnyH_take (i := 40) (oi := _) (v := ?_) (by simp only [List.getElem?_toArray, List.getElem?_cons_succ, List.getElem?_cons_zero]; rfl) (by kernel_rfl) (by kernel_rfl) (by kernel_rfl) (by exact fun _ _ _ h => h) (Or.inl ⟨by rfl, ?_⟩) (by assumption) ?_
                  rotate_left 1
                  · (intro w hSw; (try dsimp only at hSw); go_simp; try with_reducible rfl)
                  all_goals try simp only [Act.put]
                  all_goals try simp only [List.setIfInBounds_toArray]
                  all_goals try simp only [List.set_cons_succ]
                  all_goals try simp only [List.set_cons_zero]
                  refine wpAnyH_take (i := 41) (oi := _) (v := ?_) (by simp only [List.getElem?_toArray, List.getElem?_cons_succ, List.getElem?_cons_zero]; rfl) (by kernel_rfl) (by kernel_rfl) (by kernel_rfl) (by exact fun _ _ _ h => h) (Or.inl ⟨by rfl, ?_⟩) (by assumption) ?_
                  rotate_left 1
                  · (intro w hSw; (try dsimp only at hSw); go_simp; try with_reducible rfl)
                  all_goals try simp only [Act.put]
                  all_goals try simp only [List.setIfInBounds_toArray]
                  all_goals try simp only [List.set_cons_succ]
                  all_goals try simp only [List.set_cons_zero]
                  refine wpAnyH_take (i := 42) (oi := _) (v := ?_) (by simp only [List.getElem?_toArray, List.getElem?_cons_succ, List.getElem?_cons_zero]; rfl) (by kernel_rfl) (by kernel_rfl) (by kernel_rfl) (by exact fun _ _ _ h => h) (Or.inl ⟨by rfl, ?_⟩) (by assumption) ?_
                  rotate_left 1
                  · (intro w hSw; (try dsimp only at hSw); go_simp; try with_reducible rfl)
                  all_goals try simp only [Act.put]
                  all_goals try simp only [List.setIfInBounds_toArray]
                  all_goals try simp only [List.set_cons_succ]
                  all_goals try simp only [List.set_cons_zero]
                  refine wpAnyH_ready (rs := [43]) (by kernel_rfl) (by simp) ?_
                  refine (AllReadyH.cons (by simp only [List.getElem?_toArray, List.getElem?_cons_succ, List.getElem?_cons_zero]; rfl) (fun K hK => ?_) AllReadyH.nil)
                  rw [if_pos (by rfl)]
                  go_simp
                  refine (refAt_any A n c f.per f.inc 0 f.vals _ (by exact (E.out.get 0 rfl).inn.ints) (by omega) Hf.out.ok.p1 (by exact fpn) Hf.out.ok.i1 (by have := Hf.out.ok.i2; omega) Hf.out.ok.nn (by omega) (by omega)).mono ?_
                  rw [show Cv.at ⟨f.vals, f.per, f.inc⟩ ((0 : Int)).toNat = fz from HFZ.out.symm]
                  rintro e wq ⟨rfl, hb⟩
                  clear hHeld
                  replace E := Lib.hid (E.out.below hb); replace D1 := Lib.hid (D1.out.below hb D1.out.lt); replace D2 := Lib.hid (D2.out.below hb D2.out.lt)
                  clear hb
                  clear x0 x1 x2 hlx y0 y1 y2 hly
                  clear d1 d2 e1 e2 hd1 hd2
                  obtain ⟨x0, x1, x2, hlx⟩ := (E.out.get 0 rfl).cells
                  obtain ⟨y0, y1, y2, hly⟩ := (E.out.get 1 rfl).cells
                  obtain ⟨d1, d2⟩ : _ ∧ _ := ⟨D1.out.cell 1, D1.out.cell 2⟩
                  obtain ⟨e1, e2⟩ : _ ∧ _ := ⟨D2.out.cell 1, D2.out.cell 2⟩
                  simp at d1 d2 e1 e2
                  have hd1 := D1.out.lt; have hd2 := D2.out.lt
                  refine hK.out _ _ (by (refine ⟨?_, ?_, ?_, ?_, ?_, ?_, ?_, ?_, ?_, ?_⟩ <;> assumption)) (fun hHeld => ?_)
                  clear hK K
                  try simp only [Act.put]
                  try simp only [List.setIfInBounds_toArray]
                  try simp only [List.set_cons_succ]
                  try simp only [List.set_cons_zero]
                  refine wpAnyH_take (i := 44) (oi := _) (v := ?_) (by simp only [List.getElem?_toArray, List.getElem?_cons_succ, List.getElem?_cons_zero]; rfl) (by kernel_rfl) (by kernel_rfl) (by kernel_rfl) (by exact fun _ _ _ h => h) (Or.inl ⟨by rfl, ?_⟩) (by assumption) ?_
                  rotate_left 1
                  · (intro w hSw; (try dsimp only at hSw); go_simp; try with_reducible rfl)
                  all_goals try simp only [Act.put]
                  all_goals try simp only [List.setIfInBounds_toArray]
                  all_goals try simp only [List.set_cons_succ]
                  all_goals try simp only [List.set_cons_zero]
                  refine wpAnyH_take (i := 45) (oi := _) (v := ?_) (by simp only [List.getElem?_toArray, List.getElem?_cons_succ, List.getElem?_cons_zero]; rfl) (by kernel_rfl) (by kernel_rfl) (by kernel_rfl) (by exact fun _ _ _ h => h) (Or.inl ⟨by rfl, ?_⟩) (by assumption) ?_
                  rotate_left 1
                  · (intro w hSw; (try dsimp only at hSw); go_simp; try with_reducible rfl)
                  all_goals try simp only [Act.put]
                  all_goals try simp only [List.setIfInBounds_toArray]
                  all_goals try simp only [List.set_cons_succ]
                  all_goals try simp only [List.set_cons_zero]
                  refine wpAnyH_take (i := 46) (oi := _) (v := ?_) (by simp only [List.getElem?_toArray, List.getElem?_cons_succ, List.getElem?_cons_zero]; rfl) (by kernel_rfl) (by kernel_rfl) (by kernel_rfl) (by exact fun _ _ _ h => h) (Or.inl ⟨by rfl, ?_⟩) (by assumption) ?_
                  rotate_left 1
                  · (intro w hSw; (try dsimp only at hSw); go_simp; try with_reducible rfl)
                  all_goals try simp only [Act.put]
                  all_goals try simp only [List.setIfInBounds_toArray]
                  all_goals try simp only [List.set_cons_succ]
                  all_goals try simp only [List.set_cons_zero]
                  refine wpAnyH_take (i := 47) (oi := _) (v := ?_) (by simp only [List.getElem?_toArray, List.getElem?_cons_succ, List.getElem?_cons_zero]; rfl) (by kernel_rfl) (by kernel_rfl) (by kernel_rfl) (by exact fun _ _ _ h => h) (Or.inl ⟨by rfl, ?_⟩) (by assumption) ?_
                  rotate_left 1
                  · (intro w hSw; (try dsimp only at hSw); go_simp; try with_reducible rfl)
                  all_goals try simp only [Act.put]
                  all_goals try simp only [List.setIfInBounds_toArray]
                  all_goals try simp only [List.set_cons_succ]
                  all_goals try simp only [List.set_cons_zero]
                  refine wpAnyH_ready (rs := [48]) (by kernel_rfl) (by simp) ?_
                  refine (AllReadyH.cons (by simp only [List.getElem?_toArray, List.getElem?_cons_succ, List.getElem?_cons_zero]; rfl) (fun K hK => ?_) AllReadyH.nil)
                  rw [if_pos (by rfl)]
                  go_simp
                  refine (awake10_any _).mono ?_
                  rintro e wq ⟨rfl, hb⟩
                  clear hHeld
                  replace E := Lib.hid (E.out.below hb); replace D1 := Lib.hid (D1.out.below hb D1.out.lt); replace D2 := Lib.hid (D2.out.below hb D2.out.lt)
                  clear hb
                  clear x0 x1 x2 hlx y0 y1 y2 hly
                  clear d1 d2 e1 e2 hd1 hd2
                  obtain ⟨x0, x1, x2, hlx⟩ := (E.out.get 0 rfl).cells
                  obtain ⟨y0, y1, y2, hly⟩ := (E.out.get 1 rfl).cells
                  obtain ⟨d1, d2⟩ : _ ∧ _ := ⟨D1.out.cell 1, D1.out.cell 2⟩
                  obtain ⟨e1, e2⟩ : _ ∧ _ := ⟨D2.out.cell 1, D2.out.cell 2⟩
                  simp at d1 d2 e1 e2
                  have hd1 := D1.out.lt; have hd2 := D2.out.lt
                  refine hK.out _ _ (by (refine ⟨?_, ?_, ?_, ?_, ?_, ?_, ?_, ?_, ?_, ?_⟩ <;> assumption)) (fun hHeld => ?_)
                  clear hK K
                  try simp only [Act.put]
                  try simp only [List.setIfInBounds_toArray]
                  try simp only [List.set_cons_succ]
                  try simp only [List.set_cons_zero]
                  refine wpAnyH_take (i := 49) (oi := _) (v := ?_) (by simp only [List.getElem?_toArray, List.getElem?_cons_succ, List.getElem?_cons_zero]; rfl) (by kernel_rfl) (by kernel_rfl) (by kernel_rfl) (by exact fun _ _ _ h => h) (Or.inl ⟨by rfl, ?_⟩) (by assumption) ?_
                  rotate_left 1
                  · (intro w hSw; (try dsimp only at hSw); go_simp; try with_reducible rfl)
                  all_goals try simp only [Act.put]
                  all_goals try simp only [List.setIfInBounds_toArray]
                  all_goals try simp only [List.set_cons_succ]
                  all_goals try simp only [List.set_cons_zero]
                  refine wpAnyH_take (i := 50) (oi := _) (v := ?_) (by simp only [List.getElem?_toArray, List.getElem?_cons_succ, List.getElem?_cons_zero]; rfl) (by kernel_rfl) (by kernel_rfl) (by kernel_rfl) (by exact fun _ _ _ h => h) (Or.inl ⟨by rfl, ?_⟩) (by assumption) ?_
                  rotate_left 1
                  · (intro w hSw; (try dsimp only at hSw); go_simp; try with_reducible rfl)
                  all_goals try simp only [Act.put]
                  all_goals try simp only [List.setIfInBounds_toArray]
                  all_goals try simp only [List.set_cons_succ]
                  all_goals try simp only [List.set_cons_zero]
                  refine wpAnyH_done (by kernel_rfl) ?_ _
                  have bw := E.out.fin
                  go_wp2_with fail
                  go_ret
                  exact ⟨rfl, bw⟩
              · have dv : (V == 0) = false := by simpa using hv0
                have w1' : IntKind.i64.wrap (fa1 - ga1) = V := by rw [Q1.out.resolve_left hv0]; exact wv
                clear hv0
                refine wp_region_held_drew (S := (fun w' => w'.cell? ⟨w3.heap.size, 0, none⟩ = some (.slice A n c) ∧ w'.cell? ⟨w3.heap.size, 1, none⟩ = some (.int .i64 f.per) ∧ w'.cell? ⟨w3.heap.size, 2, none⟩ = some (.int .i64 f.inc) ∧ w'.cell? ⟨w3.heap.size + 1, 0, none⟩ = some (.slice B m d) ∧ w'.cell? ⟨w3.heap.size + 1, 1, none⟩ = some (.int .i64 g.per) ∧ w'.cell? ⟨w3.heap.size + 1, 2, none⟩ = some (.int .i64 g.inc) ∧ w'.cell? ⟨P1, 1, none⟩ = some (.int .i64 V) ∧ w'.cell? ⟨P1, 2, none⟩ = some (.int .i64 A1) ∧ w'.cell? ⟨P2, 1, none⟩ = some (.int .i64 U) ∧ w'.cell? ⟨P2, 2, none⟩ = some (.int .i64 A2))) (by kernel_rfl) (by (refine ⟨?_, ?_, ?_, ?_, ?_, ?_, ?_, ?_, ?_, ?_⟩ <;> assumption)) (fun hHeld => ?_)
                replace E := Lib.hid E.out.drew; replace D1 := Lib.hid (Blk.drew D1.out); replace D2 := Lib.hid (Blk.drew D2.out)
                clear x0 x1 x2 hlx y0 y1 y2 hly
                clear d1 d2 e1 e2 hd1 hd2
                generalize hwd : wr.drew = wd at *
                clear hwd
                obtain ⟨x0, x1, x2, hlx⟩ := (E.out.get 0 rfl).cells
                obtain ⟨y0, y1, y2, hly⟩ := (E.out.get 1 rfl).cells
                obtain ⟨d1, d2⟩ : _ ∧ _ := ⟨D1.out.cell 1, D1.out.cell 2⟩
                obtain ⟨e1, e2⟩ : _ ∧ _ := ⟨D2.out.cell 1, D2.out.cell 2⟩
                simp at d1 d2 e1 e2
                have hd1 := D1.out.lt; have hd2 := D2.out.lt
                refine wpAnyH_take (i := 0) (oi := _) (v := ?_) (by simp only [List.getElem?_toArray, List.getElem?_cons_zero]; rfl) (by kernel_rfl) (by kernel_rfl) (by kernel_rfl) (by exact fun _ _ _ h => h) (Or.inl ⟨by rfl, ?_⟩) (by assumption) ?_
                rotate_left 1
                · (intro w hSw; (try dsimp only at hSw); go_simp; try with_reducible rfl)
                all_goals try simp only [Act.put]
                all_goals try simp only [List.setIfInBounds_toArray]
                all_goals try simp only [List.set_cons_succ]
                all_goals try simp only [List.set_cons_zero]
                refine wpAnyH_take (i := 1) (oi := _) (v := ?_) (by simp only [List.getElem?_toArray, List.getElem?_cons_succ, List.getElem?_cons_zero]; rfl) (by kernel_rfl) (by kernel_rfl) (by kernel_rfl) (by exact fun _ _ _ h => h) (Or.inl ⟨by rfl, ?_⟩) (by assumption) ?_
                rotate_left 1
                · (intro w hSw; (try dsimp only at hSw); go_simp; try with_reducible rfl)
                all_goals try simp only [Act.put]
                all_goals try simp only [List.setIfInBounds_toArray]
                all_goals try simp only [List.set_cons_succ]
                all_goals try simp only [List.set_cons_zero]
                refine wpAnyH_take (i := 2) (oi := _) (v := ?_) (by simp only [List.getElem?_toArray, List.getElem?_cons_succ, List.getElem?_cons_zero]; rfl) (by kernel_rfl) (by kernel_rfl) (by kernel_rfl) (by exact fun _ _ _ h => h) (Or.inl ⟨by rfl, ?_⟩) (by assumption) ?_
                rotate_left 1
                · (intro w hSw; (try dsimp only at hSw); go_simp; try with_reducible rfl)
                all_goals try simp only [Act.put]
                all_goals try simp only [List.setIfInBounds_toArray]
                all_goals try simp only [List.set_cons_succ]
                all_goals try simp only [List.set_cons_zero]
                refine wpAnyH_take (i := 3) (oi := _) (v := ?_) (by simp only [List.getElem?_toArray, List.getElem?_cons_succ, List.getElem?_cons_zero]; rfl) (by kernel_rfl) (by kernel_rfl) (by kernel_rfl) (by exact fun _ _ _ h => h) (Or.inl ⟨by rfl, ?_⟩) (by assumption) ?_
                rotate_left 1
                · (intro w hSw; (try dsimp only at hSw); go_simp; try with_reducible rfl)
                all_goals try simp only [Act.put]
                all_goals try simp only [List.setIfInBounds_toArray]
                all_goals try simp only [List.set_cons_succ]
                all_goals try simp only [List.set_cons_zero]
                refine wpAnyH_take (i := 4) (oi := _) (v := ?_) (by simp only [List.getElem?_toArray, List.getElem?_cons_succ, List.getElem?_cons_zero]; rfl) (by kernel_rfl) (by kernel_rfl) (by kernel_rfl) (by exact fun _ _ _ h => h) (Or.inl ⟨by rfl, ?_⟩) (by assumption) ?_
                rotate_left 1
                · (intro w hSw; (try dsimp only at hSw); go_simp; try with_reducible rfl)
                all_goals try simp only [Act.put]
                all_goals try simp only [List.setIfInBounds_toArray]
                all_goals try simp only [List.set_cons_succ]
                all_goals try simp only [List.set_cons_zero]
                refine wpAnyH_take (i := 5) (oi := _) (v := ?_) (by simp only [List.getElem?_toArray, List.getElem?_cons_succ, List.getElem?_cons_zero]; rfl) (by kernel_rfl) (by kernel_rfl) (by kernel_rfl) (by exact fun _ _ _ h => h) (Or.inl ⟨by rfl, ?_⟩) (by assumption) ?_
                rotate_left 1
                · (intro w hSw; (try dsimp only at hSw); go_simp; try with_reducible rfl)
                all_goals try simp only [Act.put]
                all_goals try simp only [List.setIfInBounds_toArray]
                all_goals try simp only [List.set_cons_succ]
                all_goals try simp only [List.set_cons_zero]
                refine wpAnyH_take (i := 6) (oi := _) (v := ?_) (by simp only [List.getElem?_toArray, List.getElem?_cons_succ, List.getElem?_cons_zero]; rfl) (by kernel_rfl) (by kernel_rfl) (by kernel_rfl) (by exact fun _ _ _ h => h) (Or.inl ⟨by rfl, ?_⟩) (by assumption) ?_
                rotate_left 1
                · (intro w hSw; (try dsimp only at hSw); go_simp; try with_reducible rfl)
                all_goals try simp only [Act.put]
                all_goals try simp only [List.setIfInBounds_toArray]
                all_goals try simp only [List.set_cons_succ]
                all_goals try simp only [List.set_cons_zero]
                refine wpAnyH_take (i := 8) (oi := _) (v := ?_) (by simp only [List.getElem?_toArray, List.getElem?_cons_succ, List.getElem?_cons_zero]; rfl) (by kernel_rfl) (by kernel_rfl) (by kernel_rfl) (by exact fun _ _ _ h => h) (Or.inl ⟨by rfl, ?_⟩) (by assumption) ?_
                rotate_left 1
                · (intro w hSw; (try dsimp only at hSw); go_simp; try with_reducible rfl)
                all_goals try simp only [Act.put]
                all_goals try simp only [List.setIfInBounds_toArray]
                all_goals try simp only [List.set_cons_succ]
                all_goals try simp only [List.set_cons_zero]
                refine wpAnyH_take (i := 9) (oi := _) (v := ?_) (by simp only [List.getElem?_toArray, List.getElem?_cons_succ, List.getElem?_cons_zero]; rfl) (by kernel_rfl) (by kernel_rfl) (by kernel_rfl) (by exact fun _ _ _ h => h) (Or.inl ⟨by rfl, ?_⟩) (by assumption) ?_
                rotate_left 1
                · (intro w hSw; (try dsimp only at hSw); go_simp; try with_reducible rfl)
                all_goals try simp only [Act.put]
                all_goals try simp only [List.setIfInBounds_toArray]
                all_goals try simp only [List.set_cons_succ]
                all_goals try simp only [List.set_cons_zero]
                refine wpAnyH_take (i := 10) (oi := _) (v := ?_) (by simp only [List.getElem?_toArray, List.getElem?_cons_succ, List.getElem?_cons_zero]; rfl) (by kernel_rfl) (by kernel_rfl) (by kernel_rfl) (by exact fun _ _ _ h => h) (Or.inl ⟨by rfl, ?_⟩) (by assumption) ?_
                rotate_left 1
                · (intro w hSw; (try dsimp only at hSw); go_simp; try with_reducible rfl)
                all_goals try simp only [Act.put]
                all_goals try simp only [List.setIfInBounds_toArray]
                all_goals try simp only [List.set_cons_succ]
                all_goals try simp only [List.set_cons_zero]
                refine wpAnyH_take (i := 13) (oi := _) (v := ?_) (by simp only [List.getElem?_toArray, List.getElem?_cons_succ, List.getElem?_cons_zero]; rfl) (by kernel_rfl) (by kernel_rfl) (by kernel_rfl) (by exact fun _ _ _ h => h) (Or.inl ⟨by rfl, ?_⟩) (by assumption) ?_
                rotate_left 1
                · (intro w hSw; (try dsimp only at hSw); go_simp; try with_reducible rfl)
                all_goals try simp only [Act.put]
                all_goals try simp only [List.setIfInBounds_toArray]
                all_goals try simp only [List.set_cons_succ]
                all_goals try simp only [List.set_cons_zero]
                refine wpAnyH_take (i := 14) (oi := _) (v := ?_) (by simp only [List.getElem?_toArray, List.getElem?_cons_succ, List.getElem?_cons_zero]; rfl) (by kernel_rfl) (by kernel_rfl) (by kernel_rfl) (by exact fun _ _ _ h => h) (Or.inl ⟨by rfl, ?_⟩) (by assumption) ?_
                rotate_left 1
                · (intro w hSw; (try dsimp only at hSw); go_simp; try with_reducible rfl)
                all_goals try simp only [Act.put]
                all_goals try simp only [List.setIfInBounds_toArray]
                all_goals try simp only [List.set_cons_succ]
                all_goals try simp only [List.set_cons_zero]
                refine wpAnyH_ready (rs := [7]) (by kernel_rfl) (by simp) ?_
                refine (AllReadyH.cons (by simp only [List.getElem?_toArray, List.getElem?_cons_succ, List.getElem?_cons_zero]; rfl) (fun K hK => ?_) AllReadyH.nil)
                rw [if_pos (by rfl)]
                go_simp
                refine (refAt_any A n c f.per f.inc ((A1 : Nat) : Int) f.vals _ (by exact (E.out.get 0 rfl).inn.ints) (by omega) Hf.out.ok.p1 (by exact fpn) Hf.out.ok.i1 (by have := Hf.out.ok.i2; omega) Hf.out.ok.nn (by omega) (by omega)).mono ?_
                rw [Int.toNat_natCast, ← HF1.out]
                rintro e wq ⟨rfl, hb⟩
                clear hHeld
                replace E := Lib.hid (E.out.below hb); replace D1 := Lib.hid (D1.out.below hb D1.out.lt); replace D2 := Lib.hid (D2.out.below hb D2.out.lt)
                clear hb
                clear x0 x1 x2 hlx y0 y1 y2 hly
                clear d1 d2 e1 e2 hd1 hd2
                obtain ⟨x0, x1, x2, hlx⟩ := (E.out.get 0 rfl).cells
                obtain ⟨y0, y1, y2, hly⟩ := (E.out.get 1 rfl).cells
                obtain ⟨d1, d2⟩ : _ ∧ _ := ⟨D1.out.cell 1, D1.out.cell 2⟩
                obtain ⟨e1, e2⟩ : _ ∧ _ := ⟨D2.out.cell 1, D2.out.cell 2⟩
                simp at d1 d2 e1 e2
                have hd1 := D1.out.lt; have hd2 := D2.out.lt
                refine hK.out _ _ (by (refine ⟨?_, ?_, ?_, ?_, ?_, ?_, ?_, ?_, ?_, ?_⟩ <;> assumption)) (fun hHeld => ?_)
                clear hK K
                try simp only [Act.put]
                try simp only [List.setIfInBounds_toArray]
                try simp only [List.set_cons_succ]
                try simp only [List.set_cons_zero]
                refine wpAnyH_ready (rs := [11]) (by kernel_rfl) (by simp) ?_
                refine (AllReadyH.cons (by simp only [List.getElem?_toArray, List.getElem?_cons_succ, List.getElem?_cons_zero]; rfl) (fun K hK => ?_) AllReadyH.nil)
                rw [if_pos (by rfl)]
                go_simp
                refine (refAt_any B m d g.per g.inc ((A1 : Nat) : Int) g.vals _ (by exact (E.out.get 1 rfl).inn.ints) (by omega) Hg.out.1.1.ok.p1 (by exact gpn) Hg.out.1.1.ok.i1 (by have := Hg.out.1.1.ok.i2; omega) Hg.out.1.1.ok.nn (by omega) (by omega)).mono ?_
                rw [Int.toNat_natCast, ← HG1.out]
                rintro e wq ⟨rfl, hb⟩
                clear hHeld
                replace E := Lib.hid (E.out.below hb); replace D1 := Lib.hid (D1.out.below hb D1.out.lt); replace D2 := Lib.hid (D2.out.below hb D2.out.lt)
                clear hb
                clear x0 x1 x2 hlx y0 y1 y2 hly
                clear d1 d2 e1 e2 hd1 hd2
                obtain ⟨x0, x1, x2, hlx⟩ := (E.out.get 0 rfl).cells
                obtain ⟨y0, y1, y2, hly⟩ := (E.out.get 1 rfl).cells
                obtain ⟨d1, d2⟩ : _ ∧ _ := ⟨D1.out.cell 1, D1.out.cell 2⟩
                obtain ⟨e1, e2⟩ : _ ∧ _ := ⟨D2.out.cell 1, D2.out.cell 2⟩
                simp at d1 d2 e1 e2
                have hd1 := D1.out.lt; have hd2 := D2.out.lt
                refine hK.out _ _ (by (refine ⟨?_, ?_, ?_, ?_, ?_, ?_, ?_, ?_, ?_, ?_⟩ <;> assumption)) (fun hHeld => ?_)
                clear hK K
                try simp only [Act.put]
                try simp only [List.setIfInBounds_toArray]
                try simp only [List.set_cons_succ]
                try simp only [List.set_cons_zero]
                refine wpAnyH_take (i := 12) (oi := _) (v := ?_) (by simp only [List.getElem?_toArray, List.getElem?_cons_succ, List.getElem?_cons_zero]; rfl) (by kernel_rfl) (by kernel_rfl) (by kernel_rfl) (by exact fun _ _ _ h => h) (Or.inl ⟨by rfl, ?_⟩) (by assumption) ?_
                rotate_left 1
                · (intro w hSw; (try dsimp only at hSw); go_simp; try with_reducible rfl)
                all_goals try simp only [Act.put]
                all_goals try simp only [List.setIfInBounds_toArray]
                all_goals try simp only [List.set_cons_succ]
                all_goals try simp only [List.set_cons_zero]
                refine wpAnyH_take (i := 15) (oi := _) (v := ?_) (by simp only [List.getElem?_toArray, List.getElem?_cons_succ, List.getElem?_cons_zero]; rfl) (by kernel_rfl) (by kernel_rfl) (by kernel_rfl) (by exact fun _ _ _ h => h) (Or.inl ⟨by rfl, ?_⟩) (by assumption) ?_
                rotate_left 1
                · (intro w hSw; (try dsimp only at hSw); go_simp; try with_reducible rfl)
                all_goals try simp only [Act.put]
                all_goals try simp only [List.setIfInBounds_toArray]
                all_goals try simp only [List.set_cons_succ]
                all_goals try simp only [List.set_cons_zero]
                refine wpAnyH_take (i := 16) (oi := _) (v := ?_) (by simp only [List.getElem?_toArray, List.getElem?_cons_succ, List.getElem?_cons_zero]; rfl) (by kernel_rfl) (by kernel_rfl) (by kernel_rfl) (by exact fun _ _ _ h => h) (Or.inl ⟨by rfl, ?_⟩) (by assumption) ?_
                rotate_left 1
                · (intro w hSw; (try dsimp only at hSw); go_simp; try with_reducible rfl)
                all_goals try simp only [Act.put]
                all_goals try simp only [List.setIfInBounds_toArray]
                all_goals try simp only [List.set_cons_succ]
                all_goals try simp only [List.set_cons_zero]
                refine wpAnyH_take (i := 17) (oi := _) (v := ?_) (by simp only [List.getElem?_toArray, List.getElem?_cons_succ, List.getElem?_cons_zero]; rfl) (by kernel_rfl) (by kernel_rfl) (by kernel_rfl) (by exact fun _ _ _ h => h) (Or.inl ⟨by rfl, ?_⟩) (by assumption) ?_
                rotate_left 1
                · (intro w hSw; (try dsimp only at hSw); go_simp; try with_reducible rfl)
                all_goals try simp only [Act.put]
                all_goals try simp only [List.setIfInBounds_toArray]
                all_goals try simp only [List.set_cons_succ]
                all_goals try simp only [List.set_cons_zero]
                by_cases hu0 : U = 0
                · have du : (U == 0) = true := by simpa using hu0
                  clear hu0
                  refine wpAnyH_take (i := 18) (oi := _) (v := ?_) (by simp only [List.getElem?_toArray, List.getElem?_cons_succ, List.getElem?_cons_zero]; rfl) (by kernel_rfl) (by kernel_rfl) (by kernel_rfl) (by exact fun _ _ _ h => h) (Or.inl ⟨by rfl, ?_⟩) (by assumption) ?_
                  rotate_left 1
                  · (intro w hSw; (try dsimp only at hSw); go_simp; try with_reducible rfl)
                  all_goals try simp only [Act.put]
                  all_goals try simp only [List.setIfInBounds_toArray]
                  all_goals try simp only [List.set_cons_succ]
                  all_goals try simp only [List.set_cons_zero]
                  refine wpAnyH_take (i := 19) (oi := _) (v := ?_) (by simp only [List.getElem?_toArray, List.getElem?_cons_succ, List.getElem?_cons_zero]; rfl) (by kernel_rfl) (by kernel_rfl) (by kernel_rfl) (by exact fun _ _ _ h => h) (Or.inl ⟨by rfl, ?_⟩) (by assumption) ?_
                  rotate_left 1
                  · (intro w hSw; (try dsimp only at hSw); go_simp; try with_reducible rfl)
                  all_goals try simp only [Act.put]
                  all_goals try simp only [List.setIfInBounds_toArray]
                  all_goals try simp only [List.set_cons_succ]
                  all_goals try simp only [List.set_cons_zero]
                  refine wpAnyH_take (i := 20) (oi := _) (v := ?_) (by simp only [List.getElem?_toArray, List.getElem?_cons_succ, List.getElem?_cons_zero]; rfl) (by kernel_rfl) (by kernel_rfl) (by kernel_rfl) (by exact fun _ _ _ h => h) (Or.inl ⟨by rfl, ?_⟩) (by assumption) ?_
                  rotate_left 1
                  · (intro w hSw; (try dsimp only at hSw); go_simp; try with_reducible rfl)
                  all_goals try simp only [Act.put]
                  all_goals try simp only [List.setIfInBounds_toArray]
                  all_goals try simp only [List.set_cons_succ]
                  all_goals try simp only [List.set_cons_zero]
                  refine wpAnyH_take (i := 21) (oi := _) (v := ?_) (by simp only [List.getElem?_toArray, List.getElem?_cons_succ, List.getElem?_cons_zero]; rfl) (by kernel_rfl) (by kernel_rfl) (by kernel_rfl) (by exact fun _ _ _ h => h) (Or.inl ⟨by rfl, ?_⟩) (by assumption) ?_
                  rotate_left 1
                  · (intro w hSw; (try dsimp only at hSw); go_simp; try with_reducible rfl)
                  all_goals try simp only [Act.put]
                  all_goals try simp only [List.setIfInBounds_toArray]
                  all_goals try simp only [List.set_cons_succ]
                  all_goals try simp only [List.set_cons_zero]
                  refine wpAnyH_take (i := 22) (oi := _) (v := undef) (by simp only [List.getElem?_toArray, List.getElem?_cons_succ, List.getElem?_cons_zero]; rfl) (by kernel_rfl) (by kernel_rfl) (by kernel_rfl) (by exact fun _ _ _ h => h) (Or.inr ⟨by rfl, rfl⟩) (by assumption) ?_
                  try simp only [Act.put]
                  try simp only [List.setIfInBounds_toArray]
                  try simp only [List.set_cons_succ]
                  try simp only [List.set_cons_zero]
                  refine wpAnyH_take (i := 23) (oi := _) (v := undef) (by simp only [List.getElem?_toArray, List.getElem?_cons_succ, List.getElem?_cons_zero]; rfl) (by kernel_rfl) (by kernel_rfl) (by kernel_rfl) (by exact fun _ _ _ h => h) (Or.inr ⟨by rfl, rfl⟩) (by assumption) ?_
                  try simp only [Act.put]
                  try simp only [List.setIfInBounds_toArray]
                  try simp only [List.set_cons_succ]
                  try simp only [List.set_cons_zero]
                  refine wpAnyH_take (i := 24) (oi := _) (v := undef) (by simp only [List.getElem?_toArray, List.getElem?_cons_succ, List.getElem?_cons_zero]; rfl) (by kernel_rfl) (by kernel_rfl) (by kernel_rfl) (by exact fun _ _ _ h => h) (Or.inr ⟨by rfl, rfl⟩) (by assumption) ?_
                  try simp only [Act.put]
                  try simp only [List.setIfInBounds_toArray]
                  try simp only [List.set_cons_succ]
                  try simp only [List.set_cons_zero]
                  refine wpAnyH_take (i := 25) (oi := _) (v := undef) (by simp only [List.getElem?_toArray, List.getElem?_cons_succ, List.getElem?_cons_zero]; rfl) (by kernel_rfl) (by kernel_rfl) (by kernel_rfl) (by exact fun _ _ _ h => h) (Or.inr ⟨by rfl, rfl⟩) (by assumption) ?_
                  try simp only [Act.put]
                  try simp only [List.setIfInBounds_toArray]
                  try simp only [List.set_cons_succ]
                  try simp only [List.set_cons_zero]
                  refine wpAnyH_take (i := 26) (oi := _) (v := undef) (by simp only [List.getElem?_toArray, List.getElem?_cons_succ, List.getElem?_cons_zero]; rfl) (by kernel_rfl) (by kernel_rfl) (by kernel_rfl) (by exact fun _ _ _ h => h) (Or.inr ⟨by rfl, rfl⟩) (by assumption) ?_
                  try simp only [Act.put]
                  try simp only [List.setIfInBounds_toArray]
                  try simp only [List.set_cons_succ]
                  try simp only [List.set_cons_zero]
                  refine wpAnyH_take (i := 27) (oi := _) (v := undef) (by simp only [List.getElem?_toArray, List.getElem?_cons_succ, List.getElem?_cons_zero]; rfl) (by kernel_rfl) (by kernel_rfl) (by kernel_rfl) (by exact fun _ _ _ h => h) (Or.inr ⟨by rfl, rfl⟩) (by assumption) ?_
                  try simp only [Act.put]
                  try simp only [List.setIfInBounds_toArray]
                  try simp only [List.set_cons_succ]
                  try simp only [List.set_cons_zero]
                  refine wpAnyH_take (i := 28) (oi := _) (v := undef) (by simp only [List.getElem?_toArray, List.getElem?_cons_succ, List.getElem?_cons_zero]; rfl) (by kernel_rfl) (by kernel_rfl) (by kernel_rfl) (by exact fun _ _ _ h => h) (Or.inr ⟨by rfl, rfl⟩) (by assumption) ?_
                  try simp only [Act.put]
                  try simp only [List.setIfInBounds_toArray]
                  try simp only [List.set_cons_succ]
                  try simp only [List.set_cons_zero]
                  refine wpAnyH_take (i := 29) (oi := _) (v := undef) (by simp only [List.getElem?_toArray, List.getElem?_cons_succ, List.getElem?_cons_zero]; rfl) (by kernel_rfl) (by kernel_rfl) (by kernel_rfl) (by exact fun _ _ _ h => h) (Or.inr ⟨by rfl, rfl⟩) (by assumption) ?_
                  try simp only [Act.put]
                  try simp only [List.setIfInBounds_toArray]
                  try simp only [List.set_cons_succ]
                  try simp only [List.set_cons_zero]
                  refine wpAnyH_take (i := 30) (oi := _) (v := undef) (by simp only [List.getElem?_toArray, List.getElem?_cons_succ, List.getElem?_cons_zero]; rfl) (by kernel_rfl) (by kernel_rfl) (by kernel_rfl) (by exact fun _ _ _ h => h) (Or.inr ⟨by rfl, rfl⟩) (by assumption) ?_
                  try simp only [Act.put]
                  try simp only [List.setIfInBounds_toArray]
                  try simp only [List.set_cons_succ]
                  try simp only [List.set_cons_zero]
                  refine wpAnyH_take (i := 31) (oi := _) (v := undef) (by simp only [List.getElem?_toArray, List.getElem?_cons_succ, List.getElem?_cons_zero]; rfl) (by kernel_rfl) (by kernel_rfl) (by kernel_rfl) (by exact fun _ _ _ h => h) (Or.inr ⟨by rfl, rfl⟩) (by assumption) ?_
                  try simp only [Act.put]
                  try simp only [List.setIfInBounds_toArray]
                  try simp only [List.set_cons_succ]
                  try simp only [List.set_cons_zero]
                  refine wpAnyH_take (i := 32) (oi := _) (v := undef) (by simp only [List.getElem?_toArray, List.getElem?_cons_succ, List.getElem?_cons_zero]; rfl) (by kernel_rfl) (by kernel_rfl) (by kernel_rfl) (by exact fun _ _ _ h => h) (Or.inr ⟨by rfl, rfl⟩) (by assumption) ?_
                  try simp only [Act.put]
                  try simp only [List.setIfInBounds_toArray]
                  try simp only [List.set_cons_succ]
                  try simp only [List.set_cons_zero]
                  refine wpAnyH_take (i := 33) (oi := _) (v := undef) (by simp only [List.getElem?_toArray, List.getElem?_cons_succ, List.getElem?_cons_zero]; rfl) (by kernel_rfl) (by kernel_rfl) (by kernel_rfl) (by exact fun _ _ _ h => h) (Or.inr ⟨by rfl, rfl⟩) (by assumption) ?_
                  try simp only [Act.put]
                  try simp only [List.setIfInBounds_toArray]
                  try simp only [List.set_cons_succ]
                  try simp only [List.set_cons_zero]
                  refine wpAnyH_take (i := 34) (oi := _) (v := undef) (by simp only [List.getElem?_toArray, List.getElem?_cons_succ, List.getElem?_cons_zero]; rfl) (by kernel_rfl) (by kernel_rfl) (by kernel_rfl) (by exact fun _ _ _ h => h) (Or.inr ⟨by rfl, rfl⟩) (by assumption) ?_
                  try simp only [Act.put]
                  try simp only [List.setIfInBounds_toArray]
                  try simp only [List.set_cons_succ]
                  try simp only [List.set_cons_zero]
                  refine wpAnyH_take (i := 35) (oi := _) (v := ?_) (by simp only [List.getElem?_toArray, List.getElem?_cons_succ, List.getElem?_cons_zero]; rfl) (by kernel_rfl) (by kernel_rfl) (by kernel_rfl) (by exact fun _ _ _ h => h) (Or.inl ⟨by rfl, ?_⟩) (by assumption) ?_
                  rotate_left 1
                  · (intro w hSw; (try dsimp only at hSw); go_simp; try with_reducible rfl)
                  all_goals try simp only [Act.put]
                  all_goals try simp only [List.setIfInBounds_toArray]
                  all_goals try simp only [List.set_cons_succ]
                  all_goals try simp only [List.set_cons_zero]
                  refine wpAnyH_take (i := 36) (oi := _) (v := ?_) (by simp only [List.getElem?_toArray, List.getElem?_cons_succ, List.getElem?_cons_zero]; rfl) (by kernel_rfl) (by kernel_rfl) (by kernel_rfl) (by exact fun _ _ _ h => h) (Or.inl ⟨by rfl, ?_⟩) (by assumption) ?_
                  rotate_left 1
                  · (intro w hSw; (try dsimp only at hSw); go_simp; try with_reducible rfl)
                  all_goals try simp only [Act.put]
                  all_goals try simp only [List.setIfInBounds_toArray]
                  all_goals try simp only [List.set_cons_succ]
                  all_goals try simp only [List.set_cons_zero]
                  refine wpAnyH_take (i := 37) (oi := _) (v := ?_) (by simp only [List.getElem?_toArray, List.getElem?_cons_succ, List.getElem?_cons_zero]; rfl) (by kernel_rfl) (by kernel_rfl) (by kernel_rfl) (by exact fun _ _ _ h => h) (Or.inl ⟨by rfl, ?_⟩) (by assumption) ?_
                  rotate_left 1
                  · (intro w hSw; (try dsimp only at hSw); go_simp; try with_reducible rfl)
                  all_goals try simp only [Act.put]
                  all_goals try simp only [List.setIfInBounds_toArray]
                  all_goals try simp only [List.set_cons_succ]
                  all_goals try simp only [List.set_cons_zero]
                  refine wpAnyH_take (i := 38) (oi := _) (v := ?_) (by simp only [List.getElem?_toArray, List.getElem?_cons_succ, List.getElem?_cons_zero]; rfl) (by kernel_rfl) (by kernel_rfl) (by kernel_rfl) (by exact fun _ _ _ h => h) (Or.inl ⟨by rfl, ?_⟩) (by assumption) ?_
                  rotate_left 1
                  · (intro w hSw; (try dsimp only at hSw); go_simp; try with_reducible rfl)
                  all_goals try simp only [Act.put]
                  all_goals try simp only [List.setIfInBounds_toArray]
                  all_goals try simp only [List.set_cons_succ]
                  all_goals try simp only [List.set_cons_zero]
                  refine wpAnyH_take (i := 39) (oi := _) (v := ?_) (by simp only [List.getElem?_toArray, List.getElem?_cons_succ, List.getElem?_cons_zero]; rfl) (by kernel_rfl) (by kernel_rfl) (by kernel_rfl) (by exact fun _ _ _ h => h) (Or.inl ⟨by rfl, ?_⟩) (by assumption) ?_
                  rotate_left 1
                  · (intro w hSw; (try dsimp only at hSw); go_simp; try with_reducible rfl)
                  all_goals try simp only [Act.put]
                  all_goals try simp only [List.setIfInBounds_toArray]
                  all_goals try simp only [List.set_cons_succ]
                  all_goals try simp only [List.set_cons_zero]
                  refine wpAnyH_take (i := 40) (oi := _) (v := ?_) (by simp only [List.getElem?_toArray, List.getElem?_cons_succ, List.getElem?_cons_zero]; rfl) (by kernel_rfl) (by kernel_rfl) (by kernel_rfl) (by exact fun _ _ _ h => h) (Or.inl ⟨by rfl, ?_⟩) (by assumption) ?_
                  rotate_left 1
                  · (intro w hSw; (try dsimp only at hSw); go_simp; try with_reducible rfl)
                  all_goals try simp only [Act.put]
                  all_goals try simp only [List.setIfInBounds_toArray]
                  all_goals try simp only [List.set_cons_succ]
                  all_goals try simp only [List.set_cons_zero]
                  refine wpAnyH_take (i := 41) (oi := _) (v := ?_) (by simp only [List.getElem?_toArray, List.getElem?_cons_succ, List.getElem?_cons_zero]; rfl) (by kernel_rfl) (by kernel_rfl) (by kernel_rfl) (by exact fun _ _ _ h => h) (Or.inl ⟨by rfl, ?_⟩) (by assumption) ?_
                  rotate_left 1
                  · (intro w hSw; (try dsimp only at hSw); go_simp; try with_reducible rfl)
                  all_goals try simp only [Act.put]
                  all_goals try simp only [List.setIfInBounds_toArray]
                  all_goals try simp only [List.set_cons_succ]
                  all_goals try simp only [List.set_cons_zero]
                  refine wpAnyH_take (i := 42) (oi := _) (v := ?_) (by simp only [List.getElem?_toArray, List.getElem?_cons_succ, List.getElem?_cons_zero]; rfl) (by kernel_rfl) (by kernel_rfl) (by kernel_rfl) (by exact fun _ _ _ h => h) (Or.inl ⟨by rfl, ?_⟩) (by assumption) ?_
                  rotate_left 1
                  · (intro w hSw; (try dsimp only at hSw); go_simp; try with_reducible rfl)
                  all_goals try simp only [Act.put]
                  all_goals try simp only [List.setIfInBounds_toArray]
                  all_goals try simp only [List.set_cons_succ]
                  all_goals try simp only [List.set_cons_zero]
                  refine wpAnyH_ready (rs := [43]) (by kernel_rfl) (by simp) ?_
                  refine (AllReadyH.cons (by simp only [List.getElem?_toArray, List.getElem?_cons_succ, List.getElem?_cons_zero]; rfl) (fun K hK => ?_) AllReadyH.nil)
                  rw [if_pos (by rfl)]
                  go_simp
                  refine (refAt_any A n c f.per f.inc 0 f.vals _ (by exact (E.out.get 0 rfl).inn.ints) (by omega) Hf.out.ok.p1 (by exact fpn) Hf.out.ok.i1 (by have := Hf.out.ok.i2; omega) Hf.out.ok.nn (by omega) (by omega)).mono ?_
                  rw [show Cv.at ⟨f.vals, f.per, f.inc⟩ ((0 : Int)).toNat = fz from HFZ.out.symm]
                  rintro e wq ⟨rfl, hb⟩
                  clear hHeld
                  replace E := Lib.hid (E.out.below hb); replace D1 := Lib.hid (D1.out.below hb D1.out.lt); replace D2 := Lib.hid (D2.out.below hb D2.out.lt)
                  clear hb
                  clear x0 x1 x2 hlx y0 y1 y2 hly
                  clear d1 d2 e1 e2 hd1 hd2
                  obtain ⟨x0, x1, x2, hlx⟩ := (E.out.get 0 rfl).cells
                  obtain ⟨y0, y1, y2, hly⟩ := (E.out.get 1 rfl).cells
                  obtain ⟨d1, d2⟩ : _ ∧ _ := ⟨D1.out.cell 1, D1.out.cell 2⟩
                  obtain ⟨e1, e2⟩ : _ ∧ _ := ⟨D2.out.cell 1, D2.out.cell 2⟩
                  simp at d1 d2 e1 e2
                  have hd1 := D1.out.lt; have hd2 := D2.out.lt
                  refine hK.out _ _ (by (refine ⟨?_, ?_, ?_, ?_, ?_, ?_, ?_, ?_, ?_, ?_⟩ <;> assumption)) (fun hHeld => ?_)
                  clear hK K
                  try simp only [Act.put]
                  try simp only [List.setIfInBounds_toArray]
                  try simp only [List.set_cons_succ]
                  try simp only [List.set_cons_zero]
                  refine wpAnyH_take (i := 44) (oi := _) (v := ?_) (by simp only [List.getElem?_toArray, List.getElem?_cons_succ, List.getElem?_cons_zero]; rfl) (by kernel_rfl) (by kernel_rfl) (by kernel_rfl) (by exact fun _ _ _ h => h) (Or.inl ⟨by rfl, ?_⟩) (by assumption) ?_
                  rotate_left 1
                  · (intro w hSw; (try dsimp only at hSw); go_simp; try with_reducible rfl)
                  all_goals try simp only [Act.put]
                  all_goals try simp only [List.setIfInBounds_toArray]
                  all_goals try simp only [List.set_cons_succ]
                  all_goals try simp only [List.set_cons_zero]
                  refine wpAnyH_take (i := 45) (oi := _) (v := ?_) (by simp only [List.getElem?_toArray, List.getElem?_cons_succ, List.getElem?_cons_zero]; rfl) (by kernel_rfl) (by kernel_rfl) (by kernel_rfl) (by exact fun _ _ _ h => h) (Or.inl ⟨by rfl, ?_⟩) (by assumption) ?_
                  rotate_left 1
                  · (intro w hSw; (try dsimp only at hSw); go_simp; try with_reducible rfl)
                  all_goals try simp only [Act.put]
                  all_goals try simp only [List.setIfInBounds_toArray]
                  all_goals try simp only [List.set_cons_succ]
                  all_goals try simp only [List.set_cons_zero]
                  refine wpAnyH_take (i := 46) (oi := _) (v := ?_) (by simp only [List.getElem?_toArray, List.getElem?_cons_succ, List.getElem?_cons_zero]; rfl) (by kernel_rfl) (by kernel_rfl) (by kernel_rfl) (by exact fun _ _ _ h => h) (Or.inl ⟨by rfl, ?_⟩) (by assumption) ?_
                  rotate_left 1
                  · (intro w hSw; (try dsimp only at hSw); go_simp; try with_reducible rfl)
                  all_goals try simp only [Act.put]
                  all_goals try simp only [List.setIfInBounds_toArray]
                  all_goals try simp only [List.set_cons_succ]
                  all_goals try simp only [List.set_cons_zero]
                  refine wpAnyH_take (i := 47) (oi := _) (v := ?_) (by simp only [List.getElem?_toArray, List.getElem?_cons_succ, List.getElem?_cons_zero]; rfl) (by kernel_rfl) (by kernel_rfl) (by kernel_rfl) (by exact fun _ _ _ h => h) (Or.inl ⟨by rfl, ?_⟩) (by assumption) ?_
                  rotate_left 1
                  · (intro w hSw; (try dsimp only at hSw); go_simp; try with_reducible rfl)
                  all_goals try simp only [Act.put]
                  all_goals try simp only [List.setIfInBounds_toArray]
                  all_goals try simp only [List.set_cons_succ]
                  all_goals try simp only [List.set_cons_zero]
                  refine wpAnyH_ready (rs := [48]) (by kernel_rfl) (by simp) ?_
                  refine (AllReadyH.cons (by simp only [List.getElem?_toArray, List.getElem?_cons_succ, List.getElem?_cons_zero]; rfl) (fun K hK => ?_) AllReadyH.nil)
                  rw [if_pos (by rfl)]
                  go_simp
                  refine (awake10_any _).mono ?_
                  rintro e wq ⟨rfl, hb⟩
                  clear hHeld
                  replace E := Lib.hid (E.out.below hb); replace D1 := Lib.hid (D1.out.below hb D1.out.lt); replace D2 := Lib.hid (D2.out.below hb D2.out.lt)
                  clear hb
                  clear x0 x1 x2 hlx y0 y1 y2 hly
                  clear d1 d2 e1 e2 hd1 hd2
                  obtain ⟨x0, x1, x2, hlx⟩ := (E.out.get 0 rfl).cells
                  obtain ⟨y0, y1, y2, hly⟩ := (E.out.get 1 rfl).cells
                  obtain ⟨d1, d2⟩ : _ ∧ _ := ⟨D1.out.cell 1, D1.out.cell 2⟩
                  obtain ⟨e1, e2⟩ : _ ∧ _ := ⟨D2.out.cell 1, D2.out.cell 2⟩
                  simp at d1 d2 e1 e2
                  have hd1 := D1.out.lt; have hd2 := D2.out.lt
                  refine hK.out _ _ (by (refine ⟨?_, ?_, ?_, ?_, ?_, ?_, ?_, ?_, ?_, ?_⟩ <;> assumption)) (fun hHeld => ?_)
                  clear hK K
                  try simp only [Act.put]
                  try simp only [List.setIfInBounds_toArray]
                  try simp only [List.set_cons_succ]
                  try simp only [List.set_cons_zero]
                  refine wpAnyH_take (i := 49) (oi := _) (v := ?_) (by simp only [List.getElem?_toArray, List.getElem?_cons_succ, List.getElem?_cons_zero]; rfl) (by kernel_rfl) (by kernel_rfl) (by kernel_rfl) (by exact fun _ _ _ h => h) (Or.inl ⟨by rfl, ?_⟩) (by assumption) ?_
                  rotate_left 1
                  · (intro w hSw; (try dsimp only at hSw); go_simp; try with_reducible rfl)
                  all_goals try simp only [Act.put]
                  all_goals try simp only [List.setIfInBounds_toArray]
                  all_goals try simp only [List.set_cons_succ]
                  all_goals try simp only [List.set_cons_zero]
                  refine wpAnyH_take (i := 50) (oi := _) (v := ?_) (by simp only [List.getElem?_toArray, List.getElem?_cons_succ, List.getElem?_cons_zero]; rfl) (by kernel_rfl) (by kernel_rfl) (by kernel_rfl) (by exact fun _ _ _ h => h) (Or.inl ⟨by rfl, ?_⟩) (by assumption) ?_
                  rotate_left 1
                  · (intro w hSw; (try dsimp only at hSw); go_simp; try with_reducible rfl)
                  all_goals try simp only [Act.put]
                  all_goals try simp only [List.setIfInBounds_toArray]
                  all_goals try simp only [List.set_cons_succ]
                  all_goals try simp only [List.set_cons_zero]
                  refine wpAnyH_done (by kernel_rfl) ?_ _
                  have bw := E.out.fin
                  go_wp2_with fail
                  go_ret
                  exact ⟨rfl, bw⟩
                · have du : (U == 0) = false := by simpa using hu0
                  have w2' : IntKind.i64.wrap (fa2 - ga2) = U := by rw [Q2.out.resolve_left hu0]; exact wu
                  clear hu0
                  refine wpAnyH_take (i := 18) (oi := _) (v := ?_) (by simp only [List.getElem?_toArray, List.getElem?_cons_succ, List.getElem?_cons_zero]; rfl) (by kernel_rfl) (by kernel_rfl) (by kernel_rfl) (by exact fun _ _ _ h => h) (Or.inl ⟨by rfl, ?_⟩) (by assumption) ?_
                  rotate_left 1
                  · (intro w hSw; (try dsimp only at hSw); go_simp; try with_reducible rfl)
                  all_goals try simp only [Act.put]
                  all_goals try simp only [List.setIfInBounds_toArray]
                  all_goals try simp only [List.set_cons_succ]
                  all_goals try simp only [List.set_cons_zero]
                  refine wpAnyH_take (i := 19) (oi := _) (v := ?_) (by simp only [List.getElem?_toArray, List.getElem?_cons_succ, List.getElem?_cons_zero]; rfl) (by kernel_rfl) (by kernel_rfl) (by kernel_rfl) (by exact fun _ _ _ h => h) (Or.inl ⟨by rfl, ?_⟩) (by assumption) ?_
                  rotate_left 1
                  · (intro w hSw; (try dsimp only at hSw); go_simp; try with_reducible rfl)
                  all_goals try simp only [Act.put]
                  all_goals try simp only [List.setIfInBounds_toArray]
                  all_goals try simp only [List.set_cons_succ]
                  all_goals try simp only [List.set_cons_zero]
                  refine wpAnyH_take (i := 20) (oi := _) (v := ?_) (by simp only [List.getElem?_toArray, List.getElem?_cons_succ, List.getElem?_cons_zero]; rfl) (by kernel_rfl) (by kernel_rfl) (by kernel_rfl) (by exact fun _ _ _ h => h) (Or.inl ⟨by rfl, ?_⟩) (by assumption) ?_
                  rotate_left 1
                  · (intro w hSw; (try dsimp only at hSw); go_simp; try with_reducible rfl)
                  all_goals try simp only [Act.put]
                  all_goals try simp only [List.setIfInBounds_toArray]
                  all_goals try simp only [List.set_cons_succ]
                  all_goals try simp only [List.set_cons_zero]
                  refine wpAnyH_take (i := 21) (oi := _) (v := ?_) (by simp only [List.getElem?_toArray, List.getElem?_cons_succ, List.getElem?_cons_zero]; rfl) (by kernel_rfl) (by kernel_rfl) (by kernel_rfl) (by exact fun _ _ _ h => h) (Or.inl ⟨by rfl, ?_⟩) (by assumption) ?_
                  rotate_left 1
                  · (intro w hSw; (try dsimp only at hSw); go_simp; try with_reducible rfl)
                  all_goals try simp only [Act.put]
                  all_goals try simp only [List.setIfInBounds_toArray]
                  all_goals try simp only [List.set_cons_succ]
                  all_goals try simp only [List.set_cons_zero]
                  refine wpAnyH_take (i := 22) (oi := _) (v := ?_) (by simp only [List.getElem?_toArray, List.getElem?_cons_succ, List.getElem?_cons_zero]; rfl) (by kernel_rfl) (by kernel_rfl) (by kernel_rfl) (by exact fun _ _ _ h => h) (Or.inl ⟨by rfl, ?_⟩) (by assumption) ?_
                  rotate_left 1
                  · (intro w hSw; (try dsimp only at hSw); go_simp; try with_reducible rfl)
                  all_goals try simp only [Act.put]
                  all_goals try simp only [List.setIfInBounds_toArray]
                  all_goals try simp only [List.set_cons_succ]
                  all_goals try simp only [List.set_cons_zero]
                  refine wpAnyH_take (i := 23) (oi := _) (v := ?_) (by simp only [List.getElem?_toArray, List.getElem?_cons_succ, List.getElem?_cons_zero]; rfl) (by kernel_rfl) (by kernel_rfl) (by kernel_rfl) (by exact fun _ _ _ h => h) (Or.inl ⟨by rfl, ?_⟩) (by assumption) ?_
                  rotate_left 1
                  · (intro w hSw; (try dsimp only at hSw); go_simp; try with_reducible rfl)
                  all_goals try simp only [Act.put]
                  all_goals try simp only [List.setIfInBounds_toArray]
                  all_goals try simp only [List.set_cons_succ]
                  all_goals try simp only [List.set_cons_zero]
                  refine wpAnyH_take (i := 24) (oi := _) (v := ?_) (by simp only [List.getElem?_toArray, List.getElem?_cons_succ, List.getElem?_cons_zero]; rfl) (by kernel_rfl) (by kernel_rfl) (by kernel_rfl) (by exact fun _ _ _ h => h) (Or.inl ⟨by rfl, ?_⟩) (by assumption) ?_
                  rotate_left 1
                  · (intro w hSw; (try dsimp only at hSw); go_simp; try with_reducible rfl)
                  all_goals try simp only [Act.put]
                  all_goals try simp only [List.setIfInBounds_toArray]
                  all_goals try simp only [List.set_cons_succ]
                  all_goals try simp only [List.set_cons_zero]
                  refine wpAnyH_take (i := 25) (oi := _) (v := ?_) (by simp only [List.getElem?_toArray, List.getElem?_cons_succ, List.getElem?_cons_zero]; rfl) (by kernel_rfl) (by kernel_rfl) (by kernel_rfl) (by exact fun _ _ _ h => h) (Or.inl ⟨by rfl, ?_⟩) (by assumption) ?_
                  rotate_left 1
                  · (intro w hSw; (try dsimp only at hSw); go_simp; try with_reducible rfl)
                  all_goals try simp only [Act.put]
                  all_goals try simp only [List.setIfInBounds_toArray]
                  all_goals try simp only [List.set_cons_succ]
                  all_goals try simp only [List.set_cons_zero]
                  refine wpAnyH_take (i := 27) (oi := _) (v := ?_) (by simp only [List.getElem?_toArray, List.getElem?_cons_succ, List.getElem?_cons_zero]; rfl) (by kernel_rfl) (by kernel_rfl) (by kernel_rfl) (by exact fun _ _ _ h => h) (Or.inl ⟨by rfl, ?_⟩) (by assumption) ?_
                  rotate_left 1
                  · (intro w hSw; (try dsimp only at hSw); go_simp; try with_reducible rfl)
                  all_goals try simp only [Act.put]
                  all_goals try simp only [List.setIfInBounds_toArray]
                  all_goals try simp only [List.set_cons_succ]
                  all_goals try simp only [List.set_cons_zero]
                  refine wpAnyH_take (i := 28) (oi := _) (v := ?_) (by simp only [List.getElem?_toArray, List.getElem?_cons_succ, List.getElem?_cons_zero]; rfl) (by kernel_rfl) (by kernel_rfl) (by kernel_rfl) (by exact fun _ _ _ h => h) (Or.inl ⟨by rfl, ?_⟩) (by assumption) ?_
                  rotate_left 1
                  · (intro w hSw; (try dsimp only at hSw); go_simp; try with_reducible rfl)
                  all_goals try simp only [Act.put]
                  all_goals try simp only [List.setIfInBounds_toArray]
                  all_goals try simp only [List.set_cons_succ]
                  all_goals try simp only [List.set_cons_zero]
                  refine wpAnyH_take (i := 29) (oi := _) (v := ?_) (by simp only [List.getElem?_toArray, List.getElem?_cons_succ, List.getElem?_cons_zero]; rfl) (by kernel_rfl) (by kernel_rfl) (by kernel_rfl) (by exact fun _ _ _ h => h) (Or.inl ⟨by rfl, ?_⟩) (by assumption) ?_
                  rotate_left 1
                  · (intro w hSw; (try dsimp only at hSw); go_simp; try with_reducible rfl)
                  all_goals try simp only [Act.put]
                  all_goals try simp only [List.setIfInBounds_toArray]
                  all_goals try simp only [List.set_cons_succ]
                  all_goals try simp only [List.set_cons_zero]
                  refine wpAnyH_take (i := 32) (oi := _) (v := ?_) (by simp only [List.getElem?_toArray, List.getElem?_cons_succ, List.getElem?_cons_zero]; rfl) (by kernel_rfl) (by kernel_rfl) (by kernel_rfl) (by exact fun _ _ _ h => h) (Or.inl ⟨by rfl, ?_⟩) (by assumption) ?_
                  rotate_left 1
                  · (intro w hSw; (try dsimp only at hSw); go_simp; try with_reducible rfl)
                  all_goals try simp only [Act.put]
                  all_goals try simp only [List.setIfInBounds_toArray]
                  all_goals try simp only [List.set_cons_succ]
                  all_goals try simp only [List.set_cons_zero]
                  refine wpAnyH_take (i := 33) (oi := _) (v := ?_) (by simp only [List.getElem?_toArray, List.getElem?_cons_succ, List.getElem?_cons_zero]; rfl) (by kernel_rfl) (by kernel_rfl) (by kernel_rfl) (by exact fun _ _ _ h => h) (Or.inl ⟨by rfl, ?_⟩) (by assumption) ?_
                  rotate_left 1
                  · (intro w hSw; (try dsimp only at hSw); go_simp; try with_reducible rfl)
                  all_goals try simp only [Act.put]
                  all_goals try simp only [List.setIfInBounds_toArray]
                  all_goals try simp only [List.set_cons_succ]
                  all_goals try simp only [List.set_cons_zero]
                  refine wpAnyH_ready (rs := [26]) (by kernel_rfl) (by simp) ?_
                  refine (AllReadyH.cons (by simp only [List.getElem?_toArray, List.getElem?_cons_succ, List.getElem?_cons_zero]; rfl) (fun K hK => ?_) AllReadyH.nil)
                  rw [if_pos (by rfl)]
                  go_simp
                  refine (refAt_any A n c f.per f.inc ((A21 : Nat) : Int) f.vals _ (by exact (E.out.get 0 rfl).inn.ints) (by omega) Hf.out.ok.p1 (by exact fpn) Hf.out.ok.i1 (by have := Hf.out.ok.i2; omega) Hf.out.ok.nn (by omega) (by omega)).mono ?_
                  rw [Int.toNat_natCast, ← HF2.out]
                  rintro e wq ⟨rfl, hb⟩
                  clear hHeld
                  replace E := Lib.hid (E.out.below hb); replace D1 := Lib.hid (D1.out.below hb D1.out.lt); replace D2 := Lib.hid (D2.out.below hb D2.out.lt)
                  clear hb
                  clear x0 x1 x2 hlx y0 y1 y2 hly
                  clear d1 d2 e1 e2 hd1 hd2
                  obtain ⟨x0, x1, x2, hlx⟩ := (E.out.get 0 rfl).cells
                  obtain ⟨y0, y1, y2, hly⟩ := (E.out.get 1 rfl).cells
                  obtain ⟨d1, d2⟩ : _ ∧ _ := ⟨D1.out.cell 1, D1.out.cell 2⟩
                  obtain ⟨e1, e2⟩ : _ ∧ _ := ⟨D2.out.cell 1, D2.out.cell 2⟩
                  simp at d1 d2 e1 e2
                  have hd1 := D1.out.lt; have hd2 := D2.out.lt
                  refine hK.out _ _ (by (refine ⟨?_, ?_, ?_, ?_, ?_, ?_, ?_, ?_, ?_, ?_⟩ <;> assumption)) (fun hHeld => ?_)
                  clear hK K
                  try simp only [Act.put]
                  try simp only [List.setIfInBounds_toArray]
                  try simp only [List.set_cons_succ]
                  try simp only [List.set_cons_zero]
                  refine wpAnyH_ready (rs := [30]) (by kernel_rfl) (by simp) ?_
                  refine (AllReadyH.cons (by simp only [List.getElem?_toArray, List.getElem?_cons_succ, List.getElem?_cons_zero]; rfl) (fun K hK => ?_) AllReadyH.nil)
                  rw [if_pos (by rfl)]
                  go_simp
                  refine (refAt_any B m d g.per g.inc ((A2 : Nat) : Int) g.vals _ (by exact (E.out.get 1 rfl).inn.ints) (by omega) Hg.out.1.1.ok.p1 (by exact gpn) Hg.out.1.1.ok.i1 (by have := Hg.out.1.1.ok.i2; omega) Hg.out.1.1.ok.nn (by omega) (by omega)).mono ?_
                  rw [Int.toNat_natCast, ← HG2.out]
                  rintro e wq ⟨rfl, hb⟩
                  clear hHeld
                  replace E := Lib.hid (E.out.below hb); replace D1 := Lib.hid (D1.out.below hb D1.out.lt); replace D2 := Lib.hid (D2.out.below hb D2.out.lt)
                  clear hb
                  clear x0 x1 x2 hlx y0 y1 y2 hly
                  clear d1 d2 e1 e2 hd1 hd2
                  obtain ⟨x0, x1, x2, hlx⟩ := (E.out.get 0 rfl).cells
                  obtain ⟨y0, y1, y2, hly⟩ := (E.out.get 1 rfl).cells
                  obtain ⟨d1, d2⟩ : _ ∧ _ := ⟨D1.out.cell 1, D1.out.cell 2⟩
                  obtain ⟨e1, e2⟩ : _ ∧ _ := ⟨D2.out.cell 1, D2.out.cell 2⟩
                  simp at d1 d2 e1 e2
                  have hd1 := D1.out.lt; have hd2 := D2.out.lt
                  refine hK.out _ _ (by (refine ⟨?_, ?_, ?_, ?_, ?_, ?_, ?_, ?_, ?_, ?_⟩ <;> assumption)) (fun hHeld => ?_)
                  clear hK K
                  try simp only [Act.put]
                  try simp only [List.setIfInBounds_toArray]
                  try simp only [List.set_cons_succ]
                  try simp only [List.set_cons_zero]
                  refine wpAnyH_take (i := 31) (oi := _) (v := ?_) (by simp only [List.getElem?_toArray, List.getElem?_cons_succ, List.getElem?_cons_zero]; rfl) (by kernel_rfl) (by kernel_rfl) (by kernel_rfl) (by exact fun _ _ _ h => h) (Or.inl ⟨by rfl, ?_⟩) (by assumption) ?_
                  rotate_left 1
                  · (intro w hSw; (try dsimp only at hSw); go_simp; try with_reducible rfl)
                  all_goals try simp only [Act.put]
                  all_goals try simp only [List.setIfInBounds_toArray]
                  all_goals try simp only [List.set_cons_succ]
                  all_goals try simp only [List.set_cons_zero]
                  refine wpAnyH_take (i := 34) (oi := _) (v := ?_) (by simp only [List.getElem?_toArray, List.getElem?_cons_succ, List.getElem?_cons_zero]; rfl) (by kernel_rfl) (by kernel_rfl) (by kernel_rfl) (by exact fun _ _ _ h => h) (Or.inl ⟨by rfl, ?_⟩) (by assumption) ?_
                  rotate_left 1
                  · (intro w hSw; (try dsimp only at hSw); go_simp; try with_reducible rfl)
                  all_goals try simp only [Act.put]
                  all_goals try simp only [List.setIfInBounds_toArray]
                  all_goals try simp only [List.set_cons_succ]
                  all_goals try simp only [List.set_cons_zero]
                  refine wpAnyH_take (i := 35) (oi := _) (v := ?_) (by simp only [List.getElem?_toArray, List.getElem?_cons_succ, List.getElem?_cons_zero]; rfl) (by kernel_rfl) (by kernel_rfl) (by kernel_rfl) (by exact fun _ _ _ h => h) (Or.inl ⟨by rfl, ?_⟩) (by assumption) ?_
                  rotate_left 1
                  · (intro w hSw; (try dsimp only at hSw); go_simp; try with_reducible rfl)
                  all_goals try simp only [Act.put]
                  all_goals try simp only [List.setIfInBounds_toArray]
                  all_goals try simp only [List.set_cons_succ]
                  all_goals try simp only [List.set_cons_zero]
                  refine wpAnyH_take (i := 36) (oi := _) (v := ?_) (by simp only [List.getElem?_toArray, List.getElem?_cons_succ, List.getElem?_cons_zero]; rfl) (by kernel_rfl) (by kernel_rfl) (by kernel_rfl) (by exact fun _ _ _ h => h) (Or.inl ⟨by rfl, ?_⟩) (by assumption) ?_
                  rotate_left 1
                  · (intro w hSw; (try dsimp only at hSw); go_simp; try with_reducible rfl)
                  all_goals try simp only [Act.put]
                  all_goals try simp only [List.setIfInBounds_toArray]
                  all_goals try simp only [List.set_cons_succ]
                  all_goals try simp only [List.set_cons_zero]
                  refine wpAnyH_take (i := 37) (oi := _) (v := ?_) (by simp only [List.getElem?_toArray, List.getElem?_cons_succ, List.getElem?_cons_zero]; rfl) (by kernel_rfl) (by kernel_rfl) (by kernel_rfl) (by exact fun _ _ _ h => h) (Or.inl ⟨by rfl, ?_⟩) (by assumption) ?_
                  rotate_left 1
                  · (intro w hSw; (try dsimp only at hSw); go_simp; try with_reducible rfl)
                  all_goals try simp only [Act.put]
                  all_goals try simp only [List.setIfInBounds_toArray]
                  all_goals try simp only [List.set_cons_succ]
                  all_goals try simp only [List.set_cons_zero]
                  refine wpAnyH_take (i := 38) (oi := _) (v := ?_) (by simp only [List.getElem?_toArray, List.getElem?_cons_succ, List.getElem?_cons_zero]; rfl) (by kernel_rfl) (by kernel_rfl) (by kernel_rfl) (by exact fun _ _ _ h => h) (Or.inl ⟨by rfl, ?_⟩) (by assumption) ?_
                  rotate_left 1
                  · (intro w hSw; (try dsimp only at hSw); go_simp; try with_reducible rfl)
                  all_goals try simp only [Act.put]
                  all_goals try simp only [List.setIfInBounds_toArray]
                  all_goals try simp only [List.set_cons_succ]
                  all_goals try simp only [List.set_cons_zero]
                  refine wpAnyH_take (i := 39) (oi := _) (v := ?_) (by simp only [List.getElem?_toArray, List.getElem?_cons_succ, List.getElem?_cons_zero]; rfl) (by kernel_rfl) (by kernel_rfl) (by kernel_rfl) (by exact fun _ _ _ h => h) (Or.inl ⟨by rfl, ?_⟩) (by assumption) ?_
                  rotate_left 1
                  · (intro w hSw; (try dsimp only at hSw); go_simp; try with_reducible rfl)
                  all_goals try simp only [Act.put]
                  all_goals try simp only [List.setIfInBounds_toArray]
                  all_goals try simp only [List.set_cons_succ]
                  all_goals try simp only [List.set_cons_zero]
                  refine wpAnyH_take (i := 40) (oi := _) (v := ?_) (by simp only [List.getElem?_toArray, List.getElem?_cons_succ, List.getElem?_cons_zero]; rfl) (by kernel_rfl) (by kernel_rfl) (by kernel_rfl) (by exact fun _ _ _ h => h) (Or.inl ⟨by rfl, ?_⟩) (by assumption) ?_
                  rotate_left 1
                  · (intro w hSw; (try dsimp only at hSw); go_simp; try with_reducible rfl)
                  all_goals try simp only [Act.put]
                  all_goals try simp only [List.setIfInBounds_toArray]
                  all_goals try simp only [List.set_cons_succ]
                  all_goals try simp only [List.set_cons_zero]
                  refine wpAnyH_take (i := 41) (oi := _) (v := ?_) (by simp only [List.getElem?_toArray, List.getElem?_cons_succ, List.getElem?_cons_zero]; rfl) (by kernel_rfl) (by kernel_rfl) (by kernel_rfl) (by exact fun _ _ _ h => h) (Or.inl ⟨by rfl, ?_⟩) (by assumption) ?_
                  rotate_left 1
                  · (intro w hSw; (try dsimp only at hSw); go_simp; try with_reducible rfl)
                  all_goals try simp only [Act.put]
                  all_goals try simp only [List.setIfInBounds_toArray]
                  all_goals try simp only [List.set_cons_succ]
                  all_goals try simp only [List.set_cons_zero]
                  refine wpAnyH_take (i := 42) (oi := _) (v := ?_) (by simp only [List.getElem?_toArray, List.getElem?_cons_succ, List.getElem?_cons_zero]; rfl) (by kernel_rfl) (by kernel_rfl) (by kernel_rfl) (by exact fun _ _ _ h => h) (Or.inl ⟨by rfl, ?_⟩) (by assumption) ?_
                  rotate_left 1
                  · (intro w hSw; (try dsimp only at hSw); go_simp; try with_reducible rfl)
                  all_goals try simp only [Act.put]
                  all_goals try simp only [List.setIfInBounds_toArray]
                  all_goals try simp only [List.set_cons_succ]
                  all_goals try simp only [List.set_cons_zero]
                  refine wpAnyH_ready (rs := [43]) (by kernel_rfl) (by simp) ?_
                  refine (AllReadyH.cons (by simp only [List.getElem?_toArray, List.getElem?_cons_succ, List.getElem?_cons_zero]; rfl) (fun K hK => ?_) AllReadyH.nil)
                  rw [if_pos (by rfl)]
                  go_simp
                  refine (refAt_any A n c f.per f.inc 0 f.vals _ (by exact (E.out.get 0 rfl).inn.ints) (by omega) Hf.out.ok.p1 (by exact fpn) Hf.out.ok.i1 (by have := Hf.out.ok.i2; omega) Hf.out.ok.nn (by omega) (by omega)).mono ?_
                  rw [show Cv.at ⟨f.vals, f.per, f.inc⟩ ((0 : Int)).toNat = fz from HFZ.out.symm]
                  rintro e wq ⟨rfl, hb⟩
                  clear hHeld
                  replace E := Lib.hid (E.out.below hb); replace D1 := Lib.hid (D1.out.below hb D1.out.lt); replace D2 := Lib.hid (D2.out.below hb D2.out.lt)
                  clear hb
                  clear x0 x1 x2 hlx y0 y1 y2 hly
                  clear d1 d2 e1 e2 hd1 hd2
                  obtain ⟨x0, x1, x2, hlx⟩ := (E.out.get 0 rfl).cells
                  obtain ⟨y0, y1, y2, hly⟩ := (E.out.get 1 rfl).cells
                  obtain ⟨d1, d2⟩ : _ ∧ _ := ⟨D1.out.cell 1, D1.out.cell 2⟩
                  obtain ⟨e1, e2⟩ : _ ∧ _ := ⟨D2.out.cell 1, D2.out.cell 2⟩
                  simp at d1 d2 e1 e2
                  have hd1 := D1.out.lt; have hd2 := D2.out.lt
                  refine hK.out _ _ (by (refine ⟨?_, ?_, ?_, ?_, ?_, ?_, ?_, ?_, ?_, ?_⟩ <;> assumption)) (fun hHeld => ?_)
                  clear hK K
                  try simp only [Act.put]
                  try simp only [List.setIfInBounds_toArray]
                  try simp only [List.set_cons_succ]
                  try simp only [List.set_cons_zero]
                  refine wpAnyH_take (i := 44) (oi := _) (v := ?_) (by simp only [List.getElem?_toArray, List.getElem?_cons_succ, List.getElem?_cons_zero]; rfl) (by kernel_rfl) (by kernel_rfl) (by kernel_rfl) (by exact fun _ _ _ h => h) (Or.inl ⟨by rfl, ?_⟩) (by assumption) ?_
                  rotate_left 1
                  · (intro w hSw; (try dsimp only at hSw); go_simp; try with_reducible rfl)
                  all_goals try simp only [Act.put]
                  all_goals try simp only [List.setIfInBounds_toArray]
                  all_goals try simp only [List.set_cons_succ]
                  all_goals try simp only [List.set_cons_zero]
                  refine wpAnyH_take (i := 45) (oi := _) (v := ?_) (by simp only [List.getElem?_toArray, List.getElem?_cons_succ, List.getElem?_cons_zero]; rfl) (by kernel_rfl) (by kernel_rfl) (by kernel_rfl) (by exact fun _ _ _ h => h) (Or.inl ⟨by rfl, ?_⟩) (by assumption) ?_
                  rotate_left 1
                  · (intro w hSw; (try dsimp only at hSw); go_simp; try with_reducible rfl)
                  all_goals try simp only [Act.put]
                  all_goals try simp only [List.setIfInBounds_toArray]
                  all_goals try simp only [List.set_cons_succ]
                  all_goals try simp only [List.set_cons_zero]
                  refine wpAnyH_take (i := 46) (oi := _) (v := ?_) (by simp only [List.getElem?_toArray, List.getElem?_cons_succ, List.getElem?_cons_zero]; rfl) (by kernel_rfl) (by kernel_rfl) (by kernel_rfl) (by exact fun _ _ _ h => h) (Or.inl ⟨by rfl, ?_⟩) (by assumption) ?_
                  rotate_left 1
                  · (intro w hSw; (try dsimp only at hSw); go_simp; try with_reducible rfl)
                  all_goals try simp only [Act.put]
                  all_goals try simp only [List.setIfInBounds_toArray]
                  all_goals try simp only [List.set_cons_succ]
                  all_goals try simp only [List.set_cons_zero]
                  refine wpAnyH_take (i := 47) (oi := _) (v := ?_) (by simp only [List.getElem?_toArray, List.getElem?_cons_succ, List.getElem?_cons_zero]; rfl) (by kernel_rfl) (by kernel_rfl) (by kernel_rfl) (by exact fun _ _ _ h => h) (Or.inl ⟨by rfl, ?_⟩) (by assumption) ?_
                  rotate_left 1
                  · (intro w hSw; (try dsimp only at hSw); go_simp; try with_reducible rfl)
                  all_goals try simp only [Act.put]
                  all_goals try simp only [List.setIfInBounds_toArray]
                  all_goals try simp only [List.set_cons_succ]
                  all_goals try simp only [List.set_cons_zero]
                  refine wpAnyH_ready (rs := [48]) (by kernel_rfl) (by simp) ?_
                  refine (AllReadyH.cons (by simp only [List.getElem?_toArray, List.getElem?_cons_succ, List.getElem?_cons_zero]; rfl) (fun K hK => ?_) AllReadyH.nil)
                  rw [if_pos (by rfl)]
                  go_simp
                  refine (awake10_any _).mono ?_
                  rintro e wq ⟨rfl, hb⟩
                  clear hHeld
                  replace E := Lib.hid (E.out.below hb); replace D1 := Lib.hid (D1.out.below hb D1.out.lt); replace D2 := Lib.hid (D2.out.below hb D2.out.lt)
                  clear hb
                  clear x0 x1 x2 hlx y0 y1 y2 hly
                  clear d1 d2 e1 e2 hd1 hd2
                  obtain ⟨x0, x1, x2, hlx⟩ := (E.out.get 0 rfl).cells
                  obtain ⟨y0, y1, y2, hly⟩ := (E.out.get 1 rfl).cells
                  obtain ⟨d1, d2⟩ : _ ∧ _ := ⟨D1.out.cell 1, D1.out.cell 2⟩
                  obtain ⟨e1, e2⟩ : _ ∧ _ := ⟨D2.out.cell 1, D2.out.cell 2⟩
                  simp at d1 d2 e1 e2
                  have hd1 := D1.out.lt; have hd2 := D2.out.lt
                  refine hK.out _ _ (by (refine ⟨?_, ?_, ?_, ?_, ?_, ?_, ?_, ?_, ?_, ?_⟩ <;> assumption)) (fun hHeld => ?_)
                  clear hK K
                  try simp only [Act.put]
                  try simp only [List.setIfInBounds_toArray]
                  try simp only [List.set_cons_succ]
                  try simp only [List.set_cons_zero]
                  refine wpAnyH_take (i := 49) (oi := _) (v := ?_) (by simp only [List.getElem?_toArray, List.getElem?_cons_succ, List.getElem?_cons_zero]; rfl) (by kernel_rfl) (by kernel_rfl) (by kernel_rfl) (by exact fun _ _ _ h => h) (Or.inl ⟨by rfl, ?_⟩) (by assumption) ?_
                  rotate_left 1
                  · (intro w hSw; (try dsimp only at hSw); go_simp; try with_reducible rfl)
                  all_goals try simp only [Act.put]
                  all_goals try simp only [List.setIfInBounds_toArray]
                  all_goals try simp only [List.set_cons_succ]
                  all_goals try simp only [List.set_cons_zero]
                  refine wpAnyH_take (i := 50) (oi := _) (v := ?_) (by simp only [List.getElem?_toArray, List.getElem?_cons_succ, List.getElem?_cons_zero]; rfl) (by kernel_rfl) (by kernel_rfl) (by kernel_rfl) (by exact fun _ _ _ h => h) (Or.inl ⟨by rfl, ?_⟩) (by assumption) ?_
                  rotate_left 1
                  · (intro w hSw; (try dsimp only at hSw); go_simp; try with_reducible rfl)
                  all_goals try simp only [Act.put]
                  all_goals try simp only [List.setIfInBounds_toArray]
                  all_goals try simp only [List.set_cons_succ]
                  all_goals try simp only [List.set_cons_zero]
                  refine wpAnyH_done (by kernel_rfl) ?_ _
                  have bw := E.out.fin
                  go_wp2_with fail
                  go_ret
                  exact ⟨rfl, bw⟩
end Go.Proofs.Ythgfmaijoigckaa
