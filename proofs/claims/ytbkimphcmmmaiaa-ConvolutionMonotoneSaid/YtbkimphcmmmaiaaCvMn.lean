/- The statement ConvolutionMonotone: the walk. -/
import Derived.Test.YtbkimphcmmmaiaaAwake7
import Derived.Test.YtbkimphcmmmaiaaEnvL
import Derived.Test.YtbkimphcmmmaiaaRefSum
import Derived.Test.YtbkimphcmmmaiaaRefExc
import Derived.Test.YtbkimphcmmmaiaaPwKit
import Derived.Test.YtbkimphcmmmaiaaMnLaw
namespace Go.Proofs.Ytbkimphcmmmaiaa
open Go.RowKit
set_option linter.unusedVariables false

set_option maxHeartbeats 4000000 in
set_option maxRecDepth 100000 in
theorem cvMn_any (A0 : Option Addr) (n0 c0 : Nat) (L : List Int) (w : World) (hL : Ints w w.heap.size A0 n0 L) (hc0 : n0 ≤ c0) (hn0 : (n0 : Int) ≤ 9223372036854775807) :
    Calls Try.prog 10 #[.slice A0 n0 c0] w fun e w' => e = .returned (.bool true) ∧ Below w.heap.size w w' := by
  go_enter Try.func10, Try.ntmps10
  go_wp2_with fail
  refine (new_any A0 n0 c0 L w hL hc0 hn0).mono ?_
  rintro e w1 ⟨rfl, hS1, hb1⟩
  have E := Lib.hid (EnvL.start hS1 hb1)
  clear hL hS1 hb1
  go_wp2_with fail
  refine (srcCurve2_any w.heap.size 4 _ (by exact E.out.s) (by omega) (by omega)).mono ?_
  rintro e w2 ⟨f, A, n, c, hD, hcf, rfl, hI, hA, hS, hk⟩
  have hps := E.out.s.lt
  have E := Lib.hid (E.out.kept hS hk)
  have Vf := Lib.hid (show (CR.mk A n c f).In w.heap.size w2 from CR.In.new hI hA hps)
  have Hf := Lib.hid (show DrawC 4 f from hD)
  have HCf := Lib.hid hcf
  have hlenf := hI.1
  try simp only at hlenf
  have hnl : n ≤ 20 := by have h1 := Hf.out.len; omega
  clear hlenf
  clear hD hI hA hS hk hps hcf
  go_wp2_with fail
  refine (srcCurve2_any w.heap.size 4 _ (by exact E.out.s) (by omega) (by omega)).mono ?_
  rintro e w3 ⟨g, B, m, d, hD, hcf, rfl, hI, hA, hS, hk⟩
  have hps := E.out.s.lt
  have E := Lib.hid (E.out.kept hS hk)
  have Vg := Lib.hid (show (CR.mk B m d g).In w.heap.size w3 from CR.In.new hI hA hps)
  have Hg := Lib.hid (show DrawC 4 g from hD)
  have HCg := Lib.hid hcf
  have hleng := hI.1
  try simp only at hleng
  have hml : m ≤ 20 := by have h1 := Hg.out.len; omega
  clear hleng
  have Vf := Lib.hid (Vf.out.kept hk)
  clear hD hI hA hS hk hps hcf
  go_wp2_with fail
  refine (srcCurve2_any w.heap.size 2 _ (by exact E.out.s) (by omega) (by omega)).mono ?_
  rintro e w4 ⟨h, C, l, k, hD, hcf, rfl, hI, hA, hS, hk⟩
  have hps := E.out.s.lt
  have E := Lib.hid (E.out.kept hS hk)
  have Vh := Lib.hid (show (CR.mk C l k h).In w.heap.size w4 from CR.In.new hI hA hps)
  have Hh := Lib.hid (show DrawC 2 h from hD)
  have HCh := Lib.hid hcf
  have hlenh := hI.1
  try simp only at hlenh
  have hll : l ≤ 20 := by have h1 := Hh.out.len; omega
  clear hlenh
  have Vf := Lib.hid (Vf.out.kept hk)
  have Vg := Lib.hid (Vg.out.kept hk)
  clear hD hI hA hS hk hps hcf
  have E := Lib.hid (show EnvL w.heap.size w _ _ from E.out.push (X := ⟨A, n, c, f⟩) Vf.out)
  dsimp only [List.cons_append, List.nil_append] at E
  have Vg := Lib.hid (Vg.out.alloc (.cells #[.slice A n c, .int .i64 f.per, .int .i64 f.inc] 31))
  have Vh := Lib.hid (Vh.out.alloc (.cells #[.slice A n c, .int .i64 f.per, .int .i64 f.inc] 31))
  have E := Lib.hid (show EnvL w.heap.size w _ _ from E.out.push (X := ⟨B, m, d, g⟩) Vg.out)
  dsimp only [List.cons_append, List.nil_append] at E
  have Vh := Lib.hid (Vh.out.alloc (.cells #[.slice B m d, .int .i64 g.per, .int .i64 g.inc] 31))
  have E := Lib.hid (show EnvL w.heap.size w _ _ from E.out.push (X := ⟨C, l, k, h⟩) Vh.out)
  dsimp only [List.cons_append, List.nil_append] at E
  clear Vf Vg Vh HCg
  go_upto_region 3 with fail
  simp only [World.size_alloc] at E
  generalize hwe : ((w4.alloc (.cells #[.slice A n c, .int .i64 f.per, .int .i64 f.inc] 31)).alloc (.cells #[.slice B m d, .int .i64 g.per, .int .i64 g.inc] 31)).alloc (.cells #[.slice C l k, .int .i64 h.per, .int .i64 h.inc] 31) = we at *
  clear hwe
  generalize w4.heap.size + 1 + 1 = ZH at *
  generalize w4.heap.size + 1 = ZG at *
  generalize w4.heap.size = ZF at *
  have OKF := Lib.hid Hf.out.ok; have OKG := Lib.hid Hg.out.ok
  obtain ⟨x0, x1, x2, hlx⟩ := (E.out.get 0 rfl).cells
  obtain ⟨y0, y1, y2, hly⟩ := (E.out.get 2 rfl).cells
  go_wp2_with fail
  refine (refSum_any A C n l c k f.per f.inc h.per h.inc f.vals h.vals _ (by exact (E.out.get 0 rfl).inn.ints) (by exact (E.out.get 2 rfl).inn.ints) (by omega) (by omega) HCf.out HCh.out).mono ?_
  rintro e w5 ⟨r, es, A6, n6, c6, hSS, hle, rfl, hI, hA, hb⟩
  obtain ⟨rfl, hro, hri, hrv⟩ := sum_ge (by omega) (by omega) Hf.out Hh.out (show SumS f h r es from hSS)
  have OKR := Lib.hid hro; have RI := Lib.hid hri; have RV := Lib.hid hrv
  have hl6 : n6 ≤ 400 := by have h1 := hro.n2; have h2 := hI.1; omega
  have hps := E.out.s.lt
  have E := Lib.hid (show EnvL w.heap.size w _ _ from (E.out.below hb).push (X := ⟨A6, n6, c6, r⟩) (CR.In.new hI hA hps))
  dsimp only [List.cons_append, List.nil_append] at E
  clear hSS hI hA hb hps hle hro hri hrv x0 x1 x2 hlx y0 y1 y2 hly
  go_upto_region 4 with fail
  generalize hwe : w5.alloc (.cells #[.slice A6 n6 c6, .int .i64 r.per, .int .i64 r.inc] 31) = wf at *
  clear hwe
  generalize w5.heap.size = ZR at *
  obtain ⟨x0, x1, x2, hlx⟩ := (E.out.get 0 rfl).cells
  obtain ⟨y0, y1, y2, hly⟩ := (E.out.get 1 rfl).cells
  go_wp2_with fail
  refine (cvfn_any A B n m c d f.per f.inc g.per g.inc f.vals g.vals _ (by exact (E.out.get 0 rfl).inn.ints) (by exact (E.out.get 1 rfl).inn.ints) (by omega) (by omega)).mono ?_
  rintro e w6 ⟨a, ea, hSS, A4, n4, c4, hle, rfl, hI, hA, hb⟩
  have Sa := Lib.hid (show CvS f g a ea from hSS)
  have HCa := Lib.hid hle
  have hps := E.out.s.lt
  have E := Lib.hid (show EnvL w.heap.size w _ _ from (E.out.below hb).push (X := ⟨A4, n4, c4, a⟩) (CR.In.new hI hA hps))
  dsimp only [List.cons_append, List.nil_append] at E
  clear hSS hI hA hb hps hle x0 x1 x2 hlx y0 y1 y2 hly
  go_upto_region 5 with fail
  generalize hwe : w6.alloc (.cells #[.slice A4 n4 c4, .int .i64 a.per, .int .i64 a.inc] 31) = we at *
  clear hwe
  generalize w6.heap.size = Za at *
  obtain ⟨x0, x1, x2, hlx⟩ := (E.out.get 3 rfl).cells
  obtain ⟨y0, y1, y2, hly⟩ := (E.out.get 1 rfl).cells
  go_wp2_with fail
  refine (cvfn_any A6 B n6 m c6 d r.per r.inc g.per g.inc r.vals g.vals _ (by exact (E.out.get 3 rfl).inn.ints) (by exact (E.out.get 1 rfl).inn.ints) (by omega) (by omega)).mono ?_
  rintro e w7 ⟨b, eb, hSS, A5, n5, c5, hle, rfl, hI, hA, hb⟩
  have Sb := Lib.hid (show CvS r g b eb from hSS)
  have HCb := Lib.hid hle
  have hps := E.out.s.lt
  have E := Lib.hid (show EnvL w.heap.size w _ _ from (E.out.below hb).push (X := ⟨A5, n5, c5, b⟩) (CR.In.new hI hA hps))
  dsimp only [List.cons_append, List.nil_append] at E
  clear hSS hI hA hb hps hle x0 x1 x2 hlx y0 y1 y2 hly
  go_upto_region 6 with fail
  generalize hwe : w7.alloc (.cells #[.slice A5 n5 c5, .int .i64 b.per, .int .i64 b.inc] 31) = we at *
  clear hwe
  generalize w7.heap.size = Zb at *
  rcases cv_er2 OKF.out OKG.out Sa.out with ⟨rfl, hao⟩ | ⟨rfl, _⟩
  case inr =>
    go_wp2_with fail
    refine (awake7_any _).mono ?_
    rintro e wq ⟨rfl, hb⟩
    have bw := (E.out.below hb).fin
    go_wp2_with fail
    go_ret
    exact ⟨rfl, bw⟩
  case inl =>
  have OKA := Lib.hid hao
  clear hao
  rcases cv_er2 OKR.out OKG.out Sb.out with ⟨rfl, hbo⟩ | ⟨rfl, _⟩
  case inr =>
    go_wp2_with fail
    refine (awake7_any _).mono ?_
    rintro e wq ⟨rfl, hb⟩
    have bw := (E.out.below hb).fin
    go_wp2_with fail
    go_ret
    exact ⟨rfl, bw⟩
  case inl =>
  have OKB := Lib.hid hbo
  clear hbo
  have hl4 : n4 ≤ 400 := by have h1 := OKA.out.n2; have h2 : a.vals.length = n4 := (E.out.get 4 rfl).inn.ints.1; omega
  have hl5 : n5 ≤ 400 := by have h1 := OKB.out.n2; have h2 : b.vals.length = n5 := (E.out.get 5 rfl).inn.ints.1; omega
  have T1 := Lib.hid (show AtM a b true from .inl ⟨OKA.out, OKB.out, ⟨fun _ => (cv_mono Sa.out Sb.out RI.out RV.out).up, fun _ => rfl⟩⟩)
  have f1 := OKF.out.p1; have f2 := OKF.out.pn; have f3 := OKF.out.i1; have f4 := OKF.out.i2
  have g1 := OKG.out.p1; have g2 := OKG.out.pn; have g3 := OKG.out.i1; have g4 := OKG.out.i2
  have hlf : f.vals.length = n := (E.out.get 0 rfl).inn.ints.1
  have hlg : g.vals.length = m := (E.out.get 1 rfl).inn.ints.1
  rw [hlf] at f2
  rw [hlg] at g2
  clear hlf hlg
  go_wp2_with fail
  go_loopg [13, 14, 15, 16, 17] 60 (fun gg s13 s14 s15 s16 s17 wx => ∃ t : Nat, t + gg = 60 ∧ s13 = .int .i64 t ∧ EnvL w.heap.size w wx [(ZF, ⟨A, n, c, f⟩), (ZG, ⟨B, m, d, g⟩), (ZH, ⟨C, l, k, h⟩), (ZR, ⟨A6, n6, c6, r⟩), (Za, ⟨A4, n4, c4, a⟩), (Zb, ⟨A5, n5, c5, b⟩)])
  case atStart => exact ⟨0, by omega, rfl, E.out⟩
  case round =>
    clear E
    obtain ⟨t, htg, rfl, hE⟩ := hrel
    have E := Lib.hid hE
    clear hE
    by_cases ht : t < 60
    · have hti : (t : Int) < 60 := by omega
      obtain ⟨va, hva⟩ : ∃ va, va = a.at t := ⟨_, rfl⟩
      obtain ⟨vf, hvf⟩ : ∃ vf, vf = f.at t := ⟨_, rfl⟩
      obtain ⟨vg, hvg⟩ : ∃ vg, vg = g.at 0 := ⟨_, rfl⟩
      have nf := at_near OKF.out (t := t) (by omega); have ng := at_near OKG.out (t := 0) (by omega)
      rw [← hvf] at nf
      rw [← hvg] at ng
      have NF1 := Lib.hid nf; have NG1 := Lib.hid ng
      have LE := Lib.hid (show vf ≠ inf → vg ≠ inf → va ≤ vf + vg from by rw [hva, hvf, hvg]; exact cv_le0 Sa.out (by omega))
      have HVA := Lib.hid hva; have HVF := Lib.hid hvf; have HVG := Lib.hid hvg
      clear hva hvf hvg nf ng
      obtain ⟨x0, x1, x2, hlx⟩ := (E.out.get 4 rfl).cells
      go_wp2_with fail
      refine (cval_any A4 n4 c4 a.per a.inc (t : Int) a.vals _ (by exact (E.out.get 4 rfl).inn.ints) OKA.out (by omega) (by omega)).mono ?_
      rw [Int.toNat_natCast, ← HVA.out]
      rintro e w8 ⟨rfl, hb⟩
      have E := Lib.hid (E.out.below hb)
      clear hb x0 x1 x2 hlx
      go_upto_region 14 with fail
      have E := Lib.hid E.out.drew
      obtain ⟨x0, x1, x2, hlx⟩ := (E.out.get 0 rfl).cells
      obtain ⟨y0, y1, y2, hly⟩ := (E.out.get 1 rfl).cells
      refine wp_region_held_drew (S := (fun w' => w'.cell? ⟨ZF, 0, none⟩ = some (.slice A n c) ∧ w'.cell? ⟨ZF, 1, none⟩ = some (.int .i64 f.per) ∧ w'.cell? ⟨ZF, 2, none⟩ = some (.int .i64 f.inc) ∧ w'.cell? ⟨ZG, 0, none⟩ = some (.slice B m d) ∧ w'.cell? ⟨ZG, 1, none⟩ = some (.int .i64 g.per) ∧ w'.cell? ⟨ZG, 2, none⟩ = some (.int .i64 g.inc))) (by kernel_rfl) (by exact ⟨x0, x1, x2, y0, y1, y2⟩) (fun hHeld => ?_)
      generalize hwd : w8.drew = wd at *
      clear hwd
      refine wpAnyH_take (i := 0) (oi := _) (v := ?_) (by simp only [g8a, g8z]; rfl) (by kernel_rfl) (by kernel_rfl) (by kernel_rfl) (by exact fun _ _ _ h => h) (Or.inl ⟨by rfl, ?_⟩) (by assumption) ?_
      rotate_left 1
      · (intro w hSw; (try dsimp only at hSw); go_simp; try with_reducible rfl)
      all_goals ((try simp only [Act.put]); (try simp only [g8b]); (try simp only [g8c]); (try simp only [g8d]))
      refine wpAnyH_take (i := 1) (oi := _) (v := ?_) (by simp only [g8a, g8s, g8z]; rfl) (by kernel_rfl) (by kernel_rfl) (by kernel_rfl) (by exact fun _ _ _ h => h) (Or.inl ⟨by rfl, ?_⟩) (by assumption) ?_
      rotate_left 1
      · (intro w hSw; (try dsimp only at hSw); go_simp; try with_reducible rfl)
      all_goals ((try simp only [Act.put]); (try simp only [g8b]); (try simp only [g8c]); (try simp only [g8d]))
      refine wpAnyH_take (i := 3) (oi := _) (v := ?_) (by simp only [g8a, g8s, g8z]; rfl) (by kernel_rfl) (by kernel_rfl) (by kernel_rfl) (by exact fun _ _ _ h => h) (Or.inl ⟨by rfl, ?_⟩) (by assumption) ?_
      rotate_left 1
      · (intro w hSw; (try dsimp only at hSw); go_simp; try with_reducible rfl)
      all_goals ((try simp only [Act.put]); (try simp only [g8b]); (try simp only [g8c]); (try simp only [g8d]))
      refine wpAnyH_ready (rs := [2]) (by kernel_rfl) (by simp) ?_
      refine (AllReadyH.cons (by simp only [g8a, g8s, g8z]; rfl) (fun K hK => ?_) AllReadyH.nil)
      rw [if_pos (by rfl)]
      go_simp
      refine (refAt_any A n c f.per f.inc (t : Int) f.vals _ (by exact (E.out.get 0 rfl).inn.ints) (by omega) (by omega) (by omega) (by omega) (by omega) OKF.out.nn (by omega) (by omega)).mono ?_
      rw [Int.toNat_natCast, ← HVF.out]
      rintro e w9 ⟨rfl, hb⟩
      have E := Lib.hid (E.out.below hb)
      clear hb hHeld
      clear x0 x1 x2 hlx y0 y1 y2 hly
      obtain ⟨x0, x1, x2, hlx⟩ := (E.out.get 0 rfl).cells
      obtain ⟨y0, y1, y2, hly⟩ := (E.out.get 1 rfl).cells
      refine hK.out _ _ (by exact ⟨x0, x1, x2, y0, y1, y2⟩) (fun hHeld => ?_)
      clear hK K
      (try simp only [Act.put]); (try simp only [g8b]); (try simp only [g8c]); (try simp only [g8d])
      refine wpAnyH_ready (rs := [4]) (by kernel_rfl) (by simp) ?_
      refine (AllReadyH.cons (by simp only [g8a, g8s, g8z]; rfl) (fun K hK => ?_) AllReadyH.nil)
      rw [if_pos (by rfl)]
      go_simp
      have t0 := refAt_any B m d g.per g.inc 0 g.vals w9 (by exact (E.out.get 1 rfl).inn.ints) (by omega) (by omega) (by omega) (by omega) (by omega) OKG.out.nn (by omega) (by omega)
      have T0 := Lib.hid t0
      clear t0
      refine T0.out.mono ?_
      rw [show (0 : Int).toNat = 0 from rfl, ← HVG.out]
      rintro e wi ⟨rfl, hb⟩
      have E := Lib.hid (E.out.below hb)
      clear hb hHeld T0
      clear x0 x1 x2 hlx y0 y1 y2 hly
      obtain ⟨x0, x1, x2, hlx⟩ := (E.out.get 0 rfl).cells
      obtain ⟨y0, y1, y2, hly⟩ := (E.out.get 1 rfl).cells
      refine hK.out _ _ (by exact ⟨x0, x1, x2, y0, y1, y2⟩) (fun hHeld => ?_)
      clear hK K
      (try simp only [Act.put]); (try simp only [g8b]); (try simp only [g8c]); (try simp only [g8d])
      refine wpAnyH_take (i := 5) (oi := _) (v := ?_) (by simp only [g8a, g8s, g8z]; rfl) (by kernel_rfl) (by kernel_rfl) (by kernel_rfl) (by exact fun _ _ _ h => h) (Or.inl ⟨by rfl, ?_⟩) (by assumption) ?_
      rotate_left 1
      · (intro w hSw; (try dsimp only at hSw); go_simp; try with_reducible rfl)
      all_goals ((try simp only [Act.put]); (try simp only [g8b]); (try simp only [g8c]); (try simp only [g8d]))
      refine wpAnyH_take (i := 6) (oi := _) (v := ?_) (by simp only [g8a, g8s, g8z]; rfl) (by kernel_rfl) (by kernel_rfl) (by kernel_rfl) (by exact fun _ _ _ h => h) (Or.inl ⟨by rfl, ?_⟩) (by assumption) ?_
      rotate_left 1
      · (intro w hSw; (try dsimp only at hSw); go_simp; try with_reducible rfl)
      all_goals ((try simp only [Act.put]); (try simp only [g8b]); (try simp only [g8c]); (try simp only [g8d]))
      refine wpAnyH_done (by kernel_rfl) ?_ _
      clear hHeld
      clear x0 x1 x2 hlx y0 y1 y2 hly
      by_cases i1 : vf = inf
      · have d1 : (vf != 4611686018427387904) = false := by unfold inf at i1; simpa using i1
        clear i1
        go_wp2_with fail
        go_roundg (gk - 1)
        case measure => omega
        case rel => exact ⟨t + 1, by omega, by go_num, E.out⟩
      · have d1 : (vf != 4611686018427387904) = true := by unfold inf at i1; simpa using i1
        by_cases i2 : vg = inf
        · have d2 : (vg != 4611686018427387904) = false := by unfold inf at i2; simpa using i2
          clear i1 i2
          go_wp2_with fail
          go_roundg (gk - 1)
          case measure => omega
          case rel => exact ⟨t + 1, by omega, by go_num, E.out⟩
        · have d2 : (vg != 4611686018427387904) = true := by unfold inf at i2; simpa using i2
          have le := LE.out i1 i2
          have b1 := NF1.out.1; have b2 := NF1.out.2.resolve_left i1
          have b3 := NG1.out.1; have b4 := NG1.out.2.resolve_left i2
          clear i1 i2
          have d3 : decide (va > vf + vg) = false := by simp; omega
          have d4 : decide (vf + vg < va) = false := by simp; omega
          go_wp2_with fail
          go_roundg (gk - 1)
          case measure => omega
          case rel => exact ⟨t + 1, by omega, by go_num, E.out⟩
    · obtain ⟨x0, x1, x2, hlx⟩ := (E.out.get 4 rfl).cells
      obtain ⟨y0, y1, y2, hly⟩ := (E.out.get 5 rfl).cells
      have hti : ¬ (t : Int) < 60 := by omega
      go_wp2_with fail
      refine (refAtMost_any A4 A5 n4 n5 c4 c5 a.per a.inc b.per b.inc a.vals b.vals _ (by exact (E.out.get 4 rfl).inn.ints) (by exact (E.out.get 5 rfl).inn.ints) (by omega) (by omega)).mono ?_
      intro e wq hr
      obtain ⟨rfl, hb⟩ := RetM.of T1.out hr
      have E := Lib.hid (E.out.below hb)
      clear hr hb x0 x1 x2 hlx y0 y1 y2 hly
      go_wp2_with fail
      refine (awake7_any _).mono ?_
      rintro e wq ⟨rfl, hb⟩
      have bw := (E.out.below hb).fin
      go_wp2_with fail
      go_ret
      exact ⟨rfl, bw⟩
end Go.Proofs.Ytbkimphcmmmaiaa
