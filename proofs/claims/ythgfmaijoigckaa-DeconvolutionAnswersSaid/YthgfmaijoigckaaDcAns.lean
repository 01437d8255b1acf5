/- The statement DeconvolutionAnswers: the walk. -/
import Derived.Test.YthgfmaijoigckaaAwake8
import Derived.Test.YthgfmaijoigckaaSecond
import Derived.Test.YthgfmaijoigckaaRef8A
import Derived.Test.YthgfmaijoigckaaAnsKit
import Derived.Test.YthgfmaijoigckaaBent
import Derived.Test.YthgfmaijoigckaaZero
import Derived.Test.YthgfmaijoigckaaSteps
import Derived.Deep.LoopGhost
import Derived.Deep.RegionHeld3
import Derived.Deep.DeepCutAuto
namespace Go.Proofs.Ythgfmaijoigckaa
open Go.RowKit
set_option linter.unusedVariables false

theorem dcS_len {f g r : Cv} {er : Int} (H : DcS f g r er) : r.vals.length ≤ 400 := by
  rcases H with ⟨_, rfl⟩ | ⟨_, _, _, _, D, _, g', _, h⟩
  · exact Nat.zero_le _
  · rcases h with ⟨h, rfl, _⟩ | ⟨_, rfl, _⟩
    · exact h.1
    · exact Nat.zero_le _
theorem prv_len {f g r : Cv} {cs : List Int} {er : Int} (H : ProveS f g r cs er) : cs.length ≤ 920 := by
  obtain ⟨h1, h2⟩ := H
  have hr := dcS_len h1
  rcases h2 with ⟨_, rfl⟩ | ⟨rfl, a, b, hna, hnb, h3⟩
  · exact Nat.zero_le _
  · rcases h3 with ⟨_, rfl⟩ | ⟨_, h3⟩
    · exact Nat.zero_le _
    · rw [h3.1]
      rcases h1 with ⟨h1, _⟩ | ⟨hf, _⟩
      · exfalso
        rcases h1 with ⟨_, h⟩ | ⟨_, _, _, h⟩ | ⟨_, _, _, h, _⟩ <;> cases h
      · obtain ⟨hao, _⟩ := nf_small hf hna
        have := hao.n2; have := hao.p2; have := hao.p1; have := hao.pn
        unfold dcExt; omega
set_option maxHeartbeats 8000000 in
set_option maxRecDepth 100000 in
theorem dcAns_any (A1 : Option Addr) (n1 c1 : Nat) (p1 i1 : Int) (L1 : List Int) (A2 : Option Addr) (n2 c2 : Nat) (p2 i2 : Int) (L2 : List Int) (A0 : Option Addr) (n0 c0 : Nat) (L : List Int) (W : World)
    (hI1 : Ints W W.heap.size A1 n1 L1) (hc1 : n1 ≤ c1) (hn1 : (n1 : Int) ≤ 9223372036854775807) (hI2 : Ints W W.heap.size A2 n2 L2) (hc2 : n2 ≤ c2) (hn2 : (n2 : Int) ≤ 9223372036854775807) (hL0 : Ints W W.heap.size A0 n0 L) (hc0 : n0 ≤ c0) (hn0 : (n0 : Int) ≤ 9223372036854775807) :
    Calls Try.prog 4 #[.agg #[.slice A1 n1 c1, .int .i64 p1, .int .i64 i1], .agg #[.slice A2 n2 c2, .int .i64 p2, .int .i64 i2], .slice A0 n0 c0] W fun e w' => e = .returned (.bool true) ∧ Below W.heap.size W w' := by
  have RI := Lib.hid ((hI1.alloc' (.cells #[.slice A1 n1 c1, .int .i64 p1, .int .i64 i1] 44)).alloc' (.cells #[.slice A2 n2 c2, .int .i64 p2, .int .i64 i2] 44))
  have OI := Lib.hid ((hI2.alloc' (.cells #[.slice A1 n1 c1, .int .i64 p1, .int .i64 i1] 44)).alloc' (.cells #[.slice A2 n2 c2, .int .i64 p2, .int .i64 i2] 44))
  have LI := Lib.hid ((hL0.alloc' (.cells #[.slice A1 n1 c1, .int .i64 p1, .int .i64 i1] 44)).alloc' (.cells #[.slice A2 n2 c2, .int .i64 p2, .int .i64 i2] 44))
  have RX := Lib.hid ((Blk.new W 44 #[.slice A1 n1 c1, .int .i64 p1, .int .i64 i1]).alloc (.cells #[.slice A2 n2 c2, .int .i64 p2, .int .i64 i2] 44))
  have OX := Lib.hid (show Blk ((W.alloc (.cells #[.slice A1 n1 c1, .int .i64 p1, .int .i64 i1] 44)).alloc (.cells #[.slice A2 n2 c2, .int .i64 p2, .int .i64 i2] 44)) (W.heap.size + 1) 44 #[.slice A2 n2 c2, .int .i64 p2, .int .i64 i2] from by
    have := Blk.new (W.alloc (.cells #[.slice A1 n1 c1, .int .i64 p1, .int .i64 i1] 44)) 44 #[.slice A2 n2 c2, .int .i64 p2, .int .i64 i2]
    simpa using this)
  have BW := Lib.hid (bthen (balloc W (.cells #[.slice A1 n1 c1, .int .i64 p1, .int .i64 i1] 44)) (balloc _ (.cells #[.slice A2 n2 c2, .int .i64 p2, .int .i64 i2] 44)))
  have HC1 := Lib.hid hc1; have HC2 := Lib.hid hc2
  clear hI1 hI2 hL0 hc1 hc2
  go_enter Try.func4, Try.ntmps4
  go_upto_region 1 with fail
  generalize hwe : (W.alloc (.cells #[.slice A1 n1 c1, .int .i64 p1, .int .i64 i1] 44)).alloc (.cells #[.slice A2 n2 c2, .int .i64 p2, .int .i64 i2] 44) = W2 at *
  clear hwe
  obtain ⟨s0, s1, s2⟩ : _ ∧ _ ∧ _ := ⟨RX.out.cell 0, RX.out.cell 1, RX.out.cell 2⟩
  obtain ⟨t0, t1, t2⟩ : _ ∧ _ ∧ _ := ⟨OX.out.cell 0, OX.out.cell 1, OX.out.cell 2⟩
  simp at s0 s1 s2 t0 t1 t2
  have hls := RX.out.lt; have hlt := OX.out.lt
  have RW := Lib.hid (show Row (W2.alloc (.cells #[.slice A1 n1 c1, .int .i64 p1, .int .i64 i1, .slice A2 n2 c2, .int .i64 p2, .int .i64 i2] 44)).heap.size (W2.alloc (.cells #[.slice A1 n1 c1, .int .i64 p1, .int .i64 i1, .slice A2 n2 c2, .int .i64 p2, .int .i64 i2] 44)) W2.heap.size [⟨A1, n1, c1, ⟨L1, p1, i1⟩⟩, ⟨A2, n2, c2, ⟨L2, p2, i2⟩⟩] from ⟨Blk.new _ _ _, (by
    intro x hx
    simp only [List.mem_cons, List.not_mem_nil, or_false] at hx
    rcases hx with rfl | rfl
    · exact CR.In.old (RI.out.alloc' _)
    · exact CR.In.old (OI.out.alloc' _)), by rw [World.size_alloc]; omega⟩)
  have hbq := balloc W2 (.cells #[.slice A1 n1 c1, .int .i64 p1, .int .i64 i1, .slice A2 n2 c2, .int .i64 p2, .int .i64 i2] 44)
  have RI := Lib.hid (RI.out.ext hbq); have OI := Lib.hid (OI.out.ext hbq); have LI := Lib.hid (LI.out.ext hbq)
  have RX := Lib.hid (RX.out.below hbq RX.out.lt); have OX := Lib.hid (OX.out.below hbq OX.out.lt); have BW := Lib.hid (bthen BW.out hbq)
  clear hbq
  go_wp2_with fail
  refine (short_any W2.heap.size 2 2 _ _ rfl (by omega) RW.out (by
    intro x hx
    simp only [List.mem_cons, List.not_mem_nil, or_false] at hx
    rcases hx with rfl | rfl
    · exact hn1
    · exact hn2)).mono ?_
  rintro e w ⟨z, rfl, hz, hb⟩
  have RI := Lib.hid (RI.out.ext hb); have OI := Lib.hid (OI.out.ext hb); have LI := Lib.hid (LI.out.ext hb)
  have RX := Lib.hid (RX.out.below hb RX.out.lt); have OX := Lib.hid (OX.out.below hb OX.out.lt); have BW := Lib.hid (bthen BW.out hb)
  clear hb RW s0 s1 s2 t0 t1 t2 hls hlt
  cases z
  case false =>
    clear hz
    go_wp2_with fail
    refine (awake8_any _).mono ?_
    rintro q wq ⟨rfl, hbq⟩
    have bw := bthen BW.out hbq
    go_wp2_with fail
    go_ret
    exact ⟨rfl, bw⟩
  case true =>
      have h1 : n1 ≤ 800 := hz rfl _ (List.mem_cons_self ..)
      have h2 : n2 ≤ 800 := hz rfl _ (List.mem_cons_of_mem _ (List.mem_cons_self ..))
      clear hz
      have R0 := Lib.hid (show Lc w.heap.size w W.heap.size ⟨A1, n1, c1, ⟨L1, p1, i1⟩⟩ from ⟨RX.out, CR.In.old RI.out, Nat.ne_of_lt RX.out.lt⟩)
      have O0 := Lib.hid (show Lc w.heap.size w (W.heap.size + 1) ⟨A2, n2, c2, ⟨L2, p2, i2⟩⟩ from ⟨OX.out, CR.In.old OI.out, Nat.ne_of_lt OX.out.lt⟩)
      have hL := LI.out
      have FIT1 := Lib.hid (show (CR.mk A1 n1 c1 ⟨L1, p1, i1⟩).FitD from ⟨by show n1 ≤ 1000; omega, HC1.out⟩)
      have FIT2 := Lib.hid (show (CR.mk A2 n2 c2 ⟨L2, p2, i2⟩).FitD from ⟨by show n2 ≤ 1000; omega, HC2.out⟩)
      clear RI OI LI RX OX HC1 HC2 h1 h2 hn1 hn2
      go_wp2_with fail
      refine (new_any A0 n0 c0 L w hL hc0 hn0).mono ?_
      rintro e w1 ⟨rfl, hS1, hb1⟩
      have E := Lib.hid (show EnvL w.heap.size w w1 [(W.heap.size, ⟨A1, n1, c1, ⟨L1, p1, i1⟩⟩), (W.heap.size + 1, ⟨A2, n2, c2, ⟨L2, p2, i2⟩⟩)] from ((EnvL.start hS1 hb1).addD (R0.out.below hb1)).addD (O0.out.below hb1))
      clear hL hS1 hb1 R0 O0
      -- a curve drawn, not yet in a variable: srcCurve2_any the contract, 8 most, _ w2 the worlds, f the curve, A n c, DrawC 8 f its facts
      go_wp2_with fail
      refine (srcCurve2_any w.heap.size 8 _ (by exact E.out.s) (by omega) (by omega)).mono ?_
      rintro e w2 ⟨f, A, n, c, hD, hcf, rfl, hI, hA, hS, hk⟩
      have hps := E.out.s.lt
      have E := Lib.hid (E.out.kept hS hk)
      have Vf := Lib.hid (show (CR.mk A n c f).In w.heap.size w2 from CR.In.new hI hA hps)
      have Hf := Lib.hid (show DrawC 8 f from hD)
      have HCf := Lib.hid hcf
      have hlenf := hI.1
      try simp only at hlenf
      have hnf : n ≤ 20 := by have h1 := Hf.out.len; omega
      clear hlenf
      clear hD hI hA hS hk hps hcf
      go_wp2_with fail
      refine (second_any w.heap.size 8 _ (by exact E.out.s) (by omega) (by omega)).mono ?_
      rintro e w3 ⟨g, B, m, d, hD, hcf, rfl, hI, hA, hS, hk⟩
      have hps := E.out.s.lt
      have E := Lib.hid (E.out.kept hS hk)
      have Vf := Lib.hid (Vf.out.kept hk)
      have Vg := Lib.hid (show (CR.mk B m d g).In w.heap.size w3 from CR.In.new hI hA hps)
      have Hg := Lib.hid (show DrawC 9 g ∧ nth g.vals 0 = 0 from hD)
      have HCg := Lib.hid hcf
      have hmg : m ≤ 20 := by have h1 := Hg.out.1.len; have h2 : g.vals.length = m := hI.1; omega
      clear hD hI hA hS hk hps hcf
      have E := Lib.hid (show EnvL w.heap.size w _ _ from E.out.push (X := ⟨A, n, c, f⟩) Vf.out)
      dsimp only [List.cons_append, List.nil_append] at E
      have Vg := Lib.hid (Vg.out.alloc (.cells #[.slice A n c, .int .i64 f.per, .int .i64 f.inc] 44))
      have E := Lib.hid (show EnvL w.heap.size w _ _ from E.out.push (X := ⟨B, m, d, g⟩) Vg.out)
      dsimp only [List.cons_append, List.nil_append] at E
      have FITF := Lib.hid (show (CR.mk A n c f).FitD from ⟨by show n ≤ 1000; omega, HCf.out⟩)
      have FITG := Lib.hid (show (CR.mk B m d g).FitD from ⟨by show m ≤ 1000; omega, HCg.out⟩)
      clear Vf Vg HCf HCg Hf Hg
      go_upto_region 5 with fail
      generalize hwe : (w3.alloc (.cells #[.slice A n c, .int .i64 f.per, .int .i64 f.inc] 44)).alloc (.cells #[.slice B m d, .int .i64 g.per, .int .i64 g.inc] 44) = we at E ⊢
      clear hwe
      simp only [World.size_alloc] at E
      go_cut [63, 64, 65] (fun s63 s64 s65 wx => ∃ (b : Nat) (xs : List (CR × CR)), s63 = .slice (some ⟨b, 0, none⟩) 8 8 ∧ s64 = .int .i64 8 ∧ s65 = .int .i64 0 ∧ xs.length = 8 ∧ (∀ q ∈ xs, q.1.FitD ∧ q.2.FitD) ∧ EnvL w.heap.size w wx [(W.heap.size, ⟨A1, n1, c1, ⟨L1, p1, i1⟩⟩), (W.heap.size + 1, ⟨A2, n2, c2, ⟨L2, p2, i2⟩⟩), (w3.heap.size, ⟨A, n, c, f⟩), (w3.heap.size + 1, ⟨B, m, d, g⟩)] ∧ RowP w.heap.size wx b xs)
      case first =>
        obtain ⟨s0, s1, s2, hls⟩ := (E.out.get 0 rfl).cells
        obtain ⟨t0, t1, t2, hlt⟩ := (E.out.get 1 rfl).cells
        obtain ⟨u0, u1, u2, hlu⟩ := (E.out.get 2 rfl).cells
        obtain ⟨v0, v1, v2, hlv⟩ := (E.out.get 3 rfl).cells
        go_region_held3 (fun w' => (w'.cell? ⟨W.heap.size, 0, none⟩ = some (.slice A1 n1 c1) ∧ w'.cell? ⟨W.heap.size, 1, none⟩ = some (.int .i64 p1) ∧ w'.cell? ⟨W.heap.size, 2, none⟩ = some (.int .i64 i1)) ∧ (w'.cell? ⟨W.heap.size + 1, 0, none⟩ = some (.slice A2 n2 c2) ∧ w'.cell? ⟨W.heap.size + 1, 1, none⟩ = some (.int .i64 p2) ∧ w'.cell? ⟨W.heap.size + 1, 2, none⟩ = some (.int .i64 i2)) ∧ (w'.cell? ⟨w3.heap.size, 0, none⟩ = some (.slice A n c) ∧ w'.cell? ⟨w3.heap.size, 1, none⟩ = some (.int .i64 f.per) ∧ w'.cell? ⟨w3.heap.size, 2, none⟩ = some (.int .i64 f.inc)) ∧ w'.cell? ⟨w3.heap.size + 1, 0, none⟩ = some (.slice B m d) ∧ w'.cell? ⟨w3.heap.size + 1, 1, none⟩ = some (.int .i64 g.per) ∧ w'.cell? ⟨w3.heap.size + 1, 2, none⟩ = some (.int .i64 g.inc)) (first | go_keep)
          (first
            | (go_at_call 26
               have TOK := FVB
               refine (srcBent2_any w.heap.size B m d g.per g.inc g.vals _ (by exact E.out.s) (by exact (E.out.get 3 rfl).inn.ints) (by omega)).mono ?_
               rintro e w8 ⟨k2, AB2, nB2, cB2, hlz, hcz, rfl, hIz, hBz, hSz, hkz⟩
               -- a curve is drawn inside the region: VB2 the contract, w8 the new world, k2 the curve, AB2 nB2 cB2, omega its length's bound
               have hps := E.out.s.lt
               have E := Lib.hid (E.out.kept hSz hkz)
               try (have VB := Lib.hid (VB.out.kept hkz))
               try (have VB2 := Lib.hid (VB2.out.kept hkz))
               try (have VC := Lib.hid (VC.out.kept hkz))
               try (have VS1 := Lib.hid (VS1.out.kept hkz))
               have VB2 := Lib.hid (show (CR.mk AB2 nB2 cB2 k2).In w.heap.size w8 from CR.In.new hIz hBz (by simpa using hps))
               have FVB2 := Lib.hid (show (CR.mk AB2 nB2 cB2 k2).FitD from ⟨by have h2 : k2.vals.length = nB2 := hIz.1; show nB2 ≤ 1000; omega, hcz⟩)
               clear hIz hBz hSz hkz hlz hcz hps
               clear s0 s1 s2 hls t0 t1 t2 hlt u0 u1 u2 hlu v0 v1 v2 hlv
               obtain ⟨s0, s1, s2, hls⟩ := (E.out.get 0 rfl).cells
               obtain ⟨t0, t1, t2, hlt⟩ := (E.out.get 1 rfl).cells
               obtain ⟨u0, u1, u2, hlu⟩ := (E.out.get 2 rfl).cells
               obtain ⟨v0, v1, v2, hlv⟩ := (E.out.get 3 rfl).cells
               dsimp only)
            | (go_at_call 26
               refine (srcBent2_any w.heap.size A n c f.per f.inc f.vals _ (by exact E.out.s.drew) (by exact (E.out.get 2 rfl).inn.drew.ints) (by omega)).mono ?_
               rintro e w7 ⟨k, AB, nB, cB, hlz, hcz, rfl, hIz, hBz, hSz, hkz⟩
               have hkz := kofdrew hkz
               -- a curve is drawn inside the region: VB the contract, w7 the new world, k the curve, AB nB cB, omega its length's bound
               have hps := E.out.s.lt
               have E := Lib.hid (E.out.kept hSz hkz)
               try (have VB := Lib.hid (VB.out.kept hkz))
               try (have VB2 := Lib.hid (VB2.out.kept hkz))
               try (have VC := Lib.hid (VC.out.kept hkz))
               try (have VS1 := Lib.hid (VS1.out.kept hkz))
               have VB := Lib.hid (show (CR.mk AB nB cB k).In w.heap.size w7 from CR.In.new hIz hBz (by simpa using hps))
               have FVB := Lib.hid (show (CR.mk AB nB cB k).FitD from ⟨by have h2 : k.vals.length = nB := hIz.1; show nB ≤ 1000; omega, hcz⟩)
               clear hIz hBz hSz hkz hlz hcz hps
               clear s0 s1 s2 hls t0 t1 t2 hlt u0 u1 u2 hlu v0 v1 v2 hlv
               obtain ⟨s0, s1, s2, hls⟩ := (E.out.get 0 rfl).cells
               obtain ⟨t0, t1, t2, hlt⟩ := (E.out.get 1 rfl).cells
               obtain ⟨u0, u1, u2, hlu⟩ := (E.out.get 2 rfl).cells
               obtain ⟨v0, v1, v2, hlv⟩ := (E.out.get 3 rfl).cells
               dsimp only)
            | (go_at_call 24
               refine (srcCurve2_any w.heap.size 4 _ (by exact E.out.s) (by omega) (by omega)).mono ?_
               rintro e w9 ⟨z1, AZ1, nZ1, cZ1, hlz, hcz, rfl, hIz, hBz, hSz, hkz⟩
               -- a curve is drawn inside the region: VC the contract, w9 the new world, z1 the curve, AZ1 nZ1 cZ1, have h3 := hlz.len; omega its length's bound
               have hps := E.out.s.lt
               have E := Lib.hid (E.out.kept hSz hkz)
               try (have VB := Lib.hid (VB.out.kept hkz))
               try (have VB2 := Lib.hid (VB2.out.kept hkz))
               try (have VC := Lib.hid (VC.out.kept hkz))
               try (have VS1 := Lib.hid (VS1.out.kept hkz))
               have VC := Lib.hid (show (CR.mk AZ1 nZ1 cZ1 z1).In w.heap.size w9 from CR.In.new hIz hBz (by simpa using hps))
               have FVC := Lib.hid (show (CR.mk AZ1 nZ1 cZ1 z1).FitD from ⟨by have h2 : z1.vals.length = nZ1 := hIz.1; show nZ1 ≤ 1000; have h3 := hlz.len; omega, hcz⟩)
               clear hIz hBz hSz hkz hlz hcz hps
               clear s0 s1 s2 hls t0 t1 t2 hlt u0 u1 u2 hlu v0 v1 v2 hlv
               obtain ⟨s0, s1, s2, hls⟩ := (E.out.get 0 rfl).cells
               obtain ⟨t0, t1, t2, hlt⟩ := (E.out.get 1 rfl).cells
               obtain ⟨u0, u1, u2, hlu⟩ := (E.out.get 2 rfl).cells
               obtain ⟨v0, v1, v2, hlv⟩ := (E.out.get 3 rfl).cells
               dsimp only)
            | (go_at_call 27
               have TOK := FVS1
               refine (srcSteps_any w.heap.size _ (by exact E.out.s)).mono ?_
               rintro e w11 ⟨s4, AS2, nS2, cS2, hlz, hcz, rfl, hIz, hBz, hSz, hkz⟩
               -- a curve is drawn inside the region: VS2 the contract, w11 the new world, s4 the curve, AS2 nS2 cS2, omega its length's bound
               have hps := E.out.s.lt
               have E := Lib.hid (E.out.kept hSz hkz)
               try (have VB := Lib.hid (VB.out.kept hkz))
               try (have VB2 := Lib.hid (VB2.out.kept hkz))
               try (have VC := Lib.hid (VC.out.kept hkz))
               try (have VS1 := Lib.hid (VS1.out.kept hkz))
               have VS2 := Lib.hid (show (CR.mk AS2 nS2 cS2 s4).In w.heap.size w11 from CR.In.new hIz hBz (by simpa using hps))
               have FVS2 := Lib.hid (show (CR.mk AS2 nS2 cS2 s4).FitD from ⟨by have h2 : s4.vals.length = nS2 := hIz.1; show nS2 ≤ 1000; omega, hcz⟩)
               clear hIz hBz hSz hkz hlz hcz hps
               clear s0 s1 s2 hls t0 t1 t2 hlt u0 u1 u2 hlu v0 v1 v2 hlv
               obtain ⟨s0, s1, s2, hls⟩ := (E.out.get 0 rfl).cells
               obtain ⟨t0, t1, t2, hlt⟩ := (E.out.get 1 rfl).cells
               obtain ⟨u0, u1, u2, hlu⟩ := (E.out.get 2 rfl).cells
               obtain ⟨v0, v1, v2, hlv⟩ := (E.out.get 3 rfl).cells
               dsimp only)
            | (go_at_call 27
               refine (srcSteps_any w.heap.size _ (by exact E.out.s)).mono ?_
               rintro e w10 ⟨s3, AS1, nS1, cS1, hlz, hcz, rfl, hIz, hBz, hSz, hkz⟩
               -- a curve is drawn inside the region: VS1 the contract, w10 the new world, s3 the curve, AS1 nS1 cS1, omega its length's bound
               have hps := E.out.s.lt
               have E := Lib.hid (E.out.kept hSz hkz)
               try (have VB := Lib.hid (VB.out.kept hkz))
               try (have VB2 := Lib.hid (VB2.out.kept hkz))
               try (have VC := Lib.hid (VC.out.kept hkz))
               try (have VS1 := Lib.hid (VS1.out.kept hkz))
               have VS1 := Lib.hid (show (CR.mk AS1 nS1 cS1 s3).In w.heap.size w10 from CR.In.new hIz hBz (by simpa using hps))
               have FVS1 := Lib.hid (show (CR.mk AS1 nS1 cS1 s3).FitD from ⟨by have h2 : s3.vals.length = nS1 := hIz.1; show nS1 ≤ 1000; omega, hcz⟩)
               clear hIz hBz hSz hkz hlz hcz hps
               clear s0 s1 s2 hls t0 t1 t2 hlt u0 u1 u2 hlu v0 v1 v2 hlv
               obtain ⟨s0, s1, s2, hls⟩ := (E.out.get 0 rfl).cells
               obtain ⟨t0, t1, t2, hlt⟩ := (E.out.get 1 rfl).cells
               obtain ⟨u0, u1, u2, hlu⟩ := (E.out.get 2 rfl).cells
               obtain ⟨v0, v1, v2, hlv⟩ := (E.out.get 3 rfl).cells
               dsimp only))
        all_goals
          go_wp2_with fail
          go_meet
          exact ⟨w11.heap.size, [(⟨A, n, c, f⟩, ⟨B, m, d, g⟩), (⟨A1, n1, c1, ⟨L1, p1, i1⟩⟩, ⟨B, m, d, g⟩), (⟨A, n, c, f⟩, ⟨A2, n2, c2, ⟨L2, p2, i2⟩⟩), (⟨AB, nB, cB, k⟩, ⟨B, m, d, g⟩), (⟨A, n, c, f⟩, ⟨AB2, nB2, cB2, k2⟩), (⟨A, n, c, f⟩, ⟨AZ1, nZ1, cZ1, z1⟩), (⟨AS1, nS1, cS1, s3⟩, ⟨AS2, nS2, cS2, s4⟩), (⟨A1, n1, c1, ⟨L1, p1, i1⟩⟩, ⟨A2, n2, c2, ⟨L2, p2, i2⟩⟩)], rfl, rfl, rfl, rfl, (by
            intro x hx
            simp only [List.mem_cons, List.not_mem_nil, or_false] at hx
            rcases hx with rfl | rfl | rfl | rfl | rfl | rfl | rfl | rfl
            · exact ⟨FITF.out, FITG.out⟩
            · exact ⟨FIT1.out, FITG.out⟩
            · exact ⟨FITF.out, FIT2.out⟩
            · exact ⟨FVB.out, FITG.out⟩
            · exact ⟨FITF.out, FVB2.out⟩
            · exact ⟨FITF.out, FVC.out⟩
            · exact ⟨FVS1.out, FVS2.out⟩
            · exact ⟨FIT1.out, FIT2.out⟩), E.out.alloc _, Blk.new _ _ _, (by
            intro x hx
            simp only [List.mem_cons, List.not_mem_nil, or_false] at hx
            have j1 := (E.out.get 0 rfl).inn; have j2 := (E.out.get 1 rfl).inn; have jf := (E.out.get 2 rfl).inn; have jg := (E.out.get 3 rfl).inn
            rcases hx with rfl | rfl | rfl | rfl | rfl | rfl | rfl | rfl
            · exact ⟨jf.alloc _, jg.alloc _⟩
            · exact ⟨j1.alloc _, jg.alloc _⟩
            · exact ⟨jf.alloc _, j2.alloc _⟩
            · exact ⟨VB.out.alloc _, jg.alloc _⟩
            · exact ⟨jf.alloc _, VB2.out.alloc _⟩
            · exact ⟨jf.alloc _, VC.out.alloc _⟩
            · exact ⟨VS1.out.alloc _, VS2.out.alloc _⟩
            · exact ⟨j1.alloc _, j2.alloc _⟩), Nat.ne_of_gt E.out.s.lt⟩
      case rest =>
        obtain ⟨b, xs, rfl, rfl, rfl, hxl, hxf, hE, hR⟩ := hcut
        clear E
        have E := Lib.hid hE; have ROW := Lib.hid hR; have HXL := Lib.hid hxl; have HXF := Lib.hid hxf
        clear hE hR hxl hxf
        go_wp2_with fail
        go_loopg [65] 8 (fun gg s65 wx => ∃ k : Nat, k + gg = 8 ∧ s65 = .int .i64 k ∧ EnvL w.heap.size w wx [(W.heap.size, ⟨A1, n1, c1, ⟨L1, p1, i1⟩⟩), (W.heap.size + 1, ⟨A2, n2, c2, ⟨L2, p2, i2⟩⟩), (w3.heap.size, ⟨A, n, c, f⟩), (w3.heap.size + 1, ⟨B, m, d, g⟩)] ∧ RowP w.heap.size wx b xs)
        case atStart => exact ⟨0, rfl, rfl, E.out, ROW.out⟩
        case round =>
          clear E ROW
          obtain ⟨k, hkg, rfl, hE, hR⟩ := hrel
          have E := Lib.hid hE; have ROW := Lib.hid hR
          clear hE hR
          by_cases hk : k < 8
          · have hki : (k : Int) < 8 := by omega
            obtain ⟨X, Y, hXm, hXi, hYi, k0, k1, k2, k3, k4, k5⟩ := ROW.out.get (k := k) (by rw [HXL.out]; exact hk)
            have hlw := ROW.out.lt
            have hps := E.out.s.lt
            have HFX := Lib.hid (HXF.out _ hXm)
            have hfx := HFX.out.1.1; have hfx2 := HFX.out.1.2; have hfy := HFX.out.2.1; have hfy2 := HFX.out.2.2
            simp only at hfx hfx2 hfy hfy2
            have LX := Lib.hid (LcP.new hXi hYi)
            have E := Lib.hid (E.out.alloc (.cells #[.slice X.A X.n X.c, .int .i64 X.f.per, .int .i64 X.f.inc, .slice Y.A Y.n Y.c, .int .i64 Y.f.per, .int .i64 Y.f.inc] 48))
            have ROW := Lib.hid (ROW.out.alloc (.cells #[.slice X.A X.n X.c, .int .i64 X.f.per, .int .i64 X.f.inc, .slice Y.A Y.n Y.c, .int .i64 Y.f.per, .int .i64 Y.f.inc] 48))
            go_upto_region 8 with fail
            clear k0 k1 k2 k3 k4 k5 hXi hYi hXm hlw
            have hzx : w.heap.size < wr.heap.size := hps
            generalize hwe : wr.alloc (.cells #[.slice X.A X.n X.c, .int .i64 X.f.per, .int .i64 X.f.inc, .slice Y.A Y.n Y.c, .int .i64 Y.f.per, .int .i64 Y.f.inc] 48) = wo at E ROW LX ⊢
            clear hwe hps
            generalize wr.heap.size = ZX at LX hzx ⊢
            obtain ⟨go, hgo⟩ : ∃ go : Nat, go = gk := ⟨_, rfl⟩
            subst hgo
            have BI := Lib.hid (Below.refl wo.heap.size wo)
            obtain ⟨x0, x1, x2, x3, x4, x5, hlx⟩ := (LX.out.below BI.out).cells
            go_wp2_with fail
            refine (dcfn_any X.A Y.A X.n Y.n X.c Y.c X.f.per X.f.inc Y.f.per Y.f.inc X.f.vals Y.f.vals _ (by exact (LX.out.below BI.out).ix.ints) (by exact (LX.out.below BI.out).iy.ints) (by omega) (by omega)).mono ?_
            rintro e wa ⟨f1, r1, hS, A5, n5, c5, hc5, rfl, hI5, hA5, hb⟩
            have HS := Lib.hid hS
            have I5 := Lib.hid (hI5.alloc' (.cells #[.slice A5 n5 c5, .int .i64 f1.per, .int .i64 f1.inc] 44))
            have D5 := Lib.hid (Blk.new wa 44 #[.slice A5 n5 c5, .int .i64 f1.per, .int .i64 f1.inc])
            clear x0 x1 x2 x3 x4 x5 hlx
            replace BI := Lib.hid (bthen (bthen BI.out hb) (balloc _ (.cells #[.slice A5 n5 c5, .int .i64 f1.per, .int .i64 f1.inc] 44)))
            clear hS hb hc5 hI5 hA5
            go_upto_region 9 with fail
            generalize hwe : wa.alloc (.cells #[.slice A5 n5 c5, .int .i64 f1.per, .int .i64 f1.inc] 44) = wc at *
            clear hwe
            generalize wa.heap.size = Z1 at *
            obtain ⟨x0, x1, x2, x3, x4, x5, hlx⟩ := (LX.out.below BI.out).cells
            go_wp2_with fail
            refine (refDc_any X.A Y.A X.n Y.n X.c Y.c X.f.per X.f.inc Y.f.per Y.f.inc X.f.vals Y.f.vals _ (by exact (LX.out.below BI.out).ix.ints) (by exact (LX.out.below BI.out).iy.ints) (by omega) (by omega) hfx2 hfy2).mono ?_
            rintro e wb ⟨f2, r2, A6, n6, c6, hS, hc6, rfl, hI6, hA6, hb⟩
            obtain ⟨e1, e2⟩ := DcS.unique HS.out hS
            subst e1 e2
            have hn5 : n5 ≤ 400 := by have h1 := dcS_len hS; rw [I5.out.1] at h1; exact h1
            have hn6 : n6 ≤ 400 := by have h1 := dcS_len hS; rw [hI6.1] at h1; exact h1
            have I6 := Lib.hid (hI6.alloc' (.cells #[.slice A6 n6 c6, .int .i64 f1.per, .int .i64 f1.inc] 44))
            have D6 := Lib.hid (Blk.new wb 44 #[.slice A6 n6 c6, .int .i64 f1.per, .int .i64 f1.inc])
            clear x0 x1 x2 x3 x4 x5 hlx
            have hbq := bthen hb (balloc _ (.cells #[.slice A6 n6 c6, .int .i64 f1.per, .int .i64 f1.inc] 44))
            replace BI := Lib.hid (bthen BI.out hbq); have I5 := Lib.hid (I5.out.ext hbq); have D5 := Lib.hid (D5.out.below hbq D5.out.lt)
            clear hS hb hbq hc6 hI6 hA6 HS
            go_upto_region 10 with fail
            generalize hwe : wb.alloc (.cells #[.slice A6 n6 c6, .int .i64 f1.per, .int .i64 f1.inc] 44) = wc2 at *
            clear hwe
            generalize wb.heap.size = Z2 at *
            obtain ⟨x0, x1, x2, x3, x4, x5, hlx⟩ := (LX.out.below BI.out).cells
            go_wp2_with fail
            refine (dcprv_any X.A Y.A X.n Y.n X.c Y.c X.f.per X.f.inc Y.f.per Y.f.inc X.f.vals Y.f.vals _ (by exact (LX.out.below BI.out).ix.ints) (by exact (LX.out.below BI.out).iy.ints) (by omega) (by omega)).mono ?_
            rintro e we ⟨f3, cs, r3, hS, A7, n7, c7, B7, m7, d7, hc7, hd7, rfl, hI7, hJ7, hA7, hB7, hb⟩
            have HS := Lib.hid hS
            have hn7 : n7 ≤ 400 := by have h1 := dcS_len hS.1; rw [hI7.1] at h1; exact h1
            have hm7 : m7 ≤ 920 := by have h1 := prv_len hS; rw [hJ7.1] at h1; exact h1
            have I7 := Lib.hid (hI7.alloc' (.cells #[.slice A7 n7 c7, .int .i64 f3.per, .int .i64 f3.inc, .slice B7 m7 d7] 55))
            have J7 := Lib.hid (hJ7.alloc' (.cells #[.slice A7 n7 c7, .int .i64 f3.per, .int .i64 f3.inc, .slice B7 m7 d7] 55))
            have D7 := Lib.hid (Blk.new we 55 #[.slice A7 n7 c7, .int .i64 f3.per, .int .i64 f3.inc, .slice B7 m7 d7])
            clear x0 x1 x2 x3 x4 x5 hlx
            have hbq := bthen hb (balloc _ (.cells #[.slice A7 n7 c7, .int .i64 f3.per, .int .i64 f3.inc, .slice B7 m7 d7] 55))
            replace BI := Lib.hid (bthen BI.out hbq); have I5 := Lib.hid (I5.out.ext hbq); have D5 := Lib.hid (D5.out.below hbq D5.out.lt); have I6 := Lib.hid (I6.out.ext hbq); have D6 := Lib.hid (D6.out.below hbq D6.out.lt)
            clear hS hb hbq hc7 hd7 hI7 hJ7 hA7 hB7
            go_upto_region 11 with fail
            generalize hwe : we.alloc (.cells #[.slice A7 n7 c7, .int .i64 f3.per, .int .i64 f3.inc, .slice B7 m7 d7] 55) = wf at *
            clear hwe
            generalize we.heap.size = Z3 at *
            obtain ⟨x0, x1, x2, x3, x4, x5, hlx⟩ := (LX.out.below BI.out).cells
            go_wp2_with fail
            refine (refPrv_any X.A Y.A X.n Y.n X.c Y.c X.f.per X.f.inc Y.f.per Y.f.inc X.f.vals Y.f.vals _ (by exact (LX.out.below BI.out).ix.ints) (by exact (LX.out.below BI.out).iy.ints) (by omega) (by omega) hfx2 hfy2).mono ?_
            rintro e wg ⟨f4, ds, r4, hS, A8, n8, c8, B8, m8, d8, hc8, hd8, rfl, hI8, hJ8, hA8, hB8, hb⟩
            obtain ⟨e1, e2, e3⟩ := ProveS.unique HS.out hS
            subst e1 e2 e3
            have hn8 : n8 ≤ 400 := by have h1 := dcS_len hS.1; rw [hI8.1] at h1; exact h1
            have hm8 : m8 ≤ 920 := by have h1 := prv_len hS; rw [hJ8.1] at h1; exact h1
            have I8 := Lib.hid (hI8.alloc' (.cells #[.slice A8 n8 c8, .int .i64 f3.per, .int .i64 f3.inc, .slice B8 m8 d8] 55))
            have J8 := Lib.hid (hJ8.alloc' (.cells #[.slice A8 n8 c8, .int .i64 f3.per, .int .i64 f3.inc, .slice B8 m8 d8] 55))
            have D8 := Lib.hid (Blk.new wg 55 #[.slice A8 n8 c8, .int .i64 f3.per, .int .i64 f3.inc, .slice B8 m8 d8])
            clear x0 x1 x2 x3 x4 x5 hlx
            have hbq := bthen hb (balloc _ (.cells #[.slice A8 n8 c8, .int .i64 f3.per, .int .i64 f3.inc, .slice B8 m8 d8] 55))
            replace BI := Lib.hid (bthen BI.out hbq); have I5 := Lib.hid (I5.out.ext hbq); have D5 := Lib.hid (D5.out.below hbq D5.out.lt); have I6 := Lib.hid (I6.out.ext hbq); have D6 := Lib.hid (D6.out.below hbq D6.out.lt); have I7 := Lib.hid (I7.out.ext hbq); have J7 := Lib.hid (J7.out.ext hbq); have D7 := Lib.hid (D7.out.below hbq D7.out.lt)
            clear hS hb hbq hc8 hd8 hI8 hJ8 hA8 hB8 HS
            go_upto_region 12 with fail
            generalize hwe : wg.alloc (.cells #[.slice A8 n8 c8, .int .i64 f3.per, .int .i64 f3.inc, .slice B8 m8 d8] 55) = wh at *
            clear hwe
            generalize wg.heap.size = Z4 at *
            have g1 : (r1 != r1) = false := by simp
            have g3 : (r3 != r3) = false := by simp
            obtain ⟨⟨k0, k1, k2⟩, _, hlk⟩ := D5.out.c3
            obtain ⟨⟨l0, l1, l2⟩, _, hll⟩ := D6.out.c3
            obtain ⟨⟨y0, y1, y2, y3⟩, _, hly⟩ := D7.out.c4
            obtain ⟨⟨z0, z1, z2, z3⟩, _, hlz⟩ := D8.out.c4
            go_wp2_with fail
            refine (refSame_any A5 A6 n5 n6 c5 c6 f1.per f1.per f1.inc f1.inc f1.vals f1.vals _ (by exact I5.out) (by exact I6.out) (by omega) (by omega)).mono ?_
            rw [show Cv.same ⟨f1.vals, f1.per, f1.inc⟩ ⟨f1.vals, f1.per, f1.inc⟩ = true from (Cv.same_iff _ _).2 rfl]
            rintro e wi ⟨rfl, hb⟩
            replace BI := Lib.hid (bthen BI.out hb); have I7 := Lib.hid (I7.out.ext hb); have J7 := Lib.hid (J7.out.ext hb); have D7 := Lib.hid (D7.out.below hb D7.out.lt); have I8 := Lib.hid (I8.out.ext hb); have J8 := Lib.hid (J8.out.ext hb); have D8 := Lib.hid (D8.out.below hb D8.out.lt)
            clear hb k0 k1 k2 hlk l0 l1 l2 hll y0 y1 y2 y3 hly z0 z1 z2 z3 hlz D5 D6 I5 I6
            obtain ⟨⟨y0, y1, y2, y3⟩, _, hly⟩ := D7.out.c4
            obtain ⟨⟨z0, z1, z2, z3⟩, _, hlz⟩ := D8.out.c4
            go_wp2_with fail
            refine (sameG_any A7 B7 A8 B8 n7 c7 m7 d7 n8 c8 m8 d8 f3 f3 cs cs _ (by exact I7.out) (by exact J7.out) (by exact I8.out) (by exact J8.out) (by omega) (by omega) (by omega) (by omega)).mono ?_
            rintro e wj ⟨⟨zz, hzz, rfl⟩, hb⟩
            obtain rfl : zz = true := hzz.2 ⟨rfl, rfl⟩
            replace BI := Lib.hid (bthen BI.out hb)
            clear hb hzz y0 y1 y2 y3 hly z0 z1 z2 z3 hlz D7 D8 I7 I8 J7 J8
            go_wp2_with fail
            go_roundg (go - 1)
            case measure => omega
            case rel => exact ⟨k + 1, by omega, by go_num, E.out.below BI.out, ROW.out.below BI.out⟩
          · have hk8 : k = 8 := by omega
            subst hk8
            clear hk hkg
            go_wp2_with fail
            refine (awake8_any _).mono ?_
            rintro q wq ⟨rfl, hbq⟩
            have bw := bthen BW.out (E.out.below hbq).fin
            go_wp2_with fail
            go_ret
            exact ⟨rfl, bw⟩
end Go.Proofs.Ythgfmaijoigckaa
