/- The statement DeviationScales: the walk. -/
import Derived.Test.YtjlinbmjgijpiaaAwake10
import Derived.Test.YtjlinbmjgijpiaaEnvL2
import Derived.Test.YtjlinbmjgijpiaaZero
import Derived.Test.YtjlinbmjgijpiaaRefScale
import Derived.Test.YtjlinbmjgijpiaaScaleLaw
namespace Go.Proofs.Ytjlinbmjgijpiaa
open Go.RowKit
set_option linter.unusedVariables false

theorem Blk.far3' {w : World} {g h : Nat} {t : TypeId} {cs : Array Value} (H : Blk w h t cs) (hne : h ≠ g) (x y z : Value) : Blk (((w.setCell ⟨g, 0, none⟩ x).setCell ⟨g, 1, none⟩ y).setCell ⟨g, 2, none⟩ z) h t cs :=
  ((H.far (p := ⟨g, 0, none⟩) hne x).far (p := ⟨g, 1, none⟩) hne y).far (p := ⟨g, 2, none⟩) hne z
theorem AheadS.bd {f g : Cv} (ff : f.Fin) (fg : g.Fin) {K v A : Nat} {i : Bool} (hK : K ≤ 1) (h : AheadS f g K i v A) : (v : Int) ≤ 20000000000000 := by
  cases i
  · exact h.small ff fg hK
  · rcases h with ⟨_, h, _⟩ | ⟨h, _⟩
    · omega
    · cases h

set_option maxHeartbeats 4000000 in
set_option maxRecDepth 100000 in
theorem scaleLaw_any (A0 : Option Addr) (n0 c0 : Nat) (L : List Int) (w : World) (hL : Ints w w.heap.size A0 n0 L) (hc0 : n0 ≤ c0) (hn0 : (n0 : Int) ≤ 9223372036854775807) :
    Calls Try.prog 6 #[.slice A0 n0 c0] w fun e w' => e = .returned (.bool true) ∧ Below w.heap.size w w' := by
  go_enter Try.func6, Try.ntmps6
  go_wp2_with fail
  refine (new_any A0 n0 c0 L w hL hc0 hn0).mono ?_
  rintro e w1 ⟨rfl, hS1, hb1⟩
  have E := Lib.hid (EnvL.start hS1 hb1)
  clear hL hS1 hb1
  go_wp2_with fail
  refine (srcZero2_any w.heap.size 6 w1 (by exact E.out.s) (by omega) (by omega)).mono ?_
  rintro e w2 ⟨f, A, n, c, hD, hcf, rfl, hI, hA, hS, hk⟩
  have hps := E.out.s.lt
  have E := Lib.hid (E.out.kept hS hk)
  have F1 := Lib.hid (show (CR.mk A n c f).In w.heap.size w2 from CR.In.new hI hA hps)
  have HD := Lib.hid (show DrawC 6 f ∧ f.Fin from hD)
  have HNC := Lib.hid hcf
  have hnl : n ≤ 14 := by have h1 := HD.out.1.len; have h2 : f.vals.length = n := hI.1; omega
  clear hD hI hA hS hk hps hcf
  go_wp2_with fail
  refine (srcZero2_any w.heap.size 6 w2 (by exact E.out.s) (by omega) (by omega)).mono ?_
  rintro e w3 ⟨g, B, m, d, hD, hcf, rfl, hI, hA, hS, hk⟩
  have hps := E.out.s.lt
  have E := Lib.hid (E.out.kept hS hk)
  have F1 := Lib.hid (F1.out.kept hk)
  have G1 := Lib.hid (show (CR.mk B m d g).In w.heap.size w3 from CR.In.new hI hA hps)
  have HD2 := Lib.hid (show DrawC 6 g ∧ g.Fin from hD)
  have HMD := Lib.hid hcf
  have hml : m ≤ 14 := by have h1 := HD2.out.1.len; have h2 : g.vals.length = m := hI.1; omega
  clear hD hI hA hS hk hps hcf
  go_wp2_with fail
  refine (n_any w.heap.size 9 w3 (by exact E.out.s) (by omega) (by omega)).mono ?_
  rintro e w4 ⟨z, hz0, hz1, rfl, hS, hk⟩
  have E := Lib.hid (E.out.kept hS hk)
  have F1 := Lib.hid (F1.out.kept hk)
  have G1 := Lib.hid (G1.out.kept hk)
  have E := Lib.hid (show EnvL w.heap.size w _ [(w4.heap.size, ⟨A, n, c, f⟩)] from E.out.push F1.out)
  have G1 := Lib.hid (G1.out.alloc (.cells #[.slice A n c, .int .i64 f.per, .int .i64 f.inc] 24))
  have E := Lib.hid (show EnvL w.heap.size w ((w4.alloc (.cells #[.slice A n c, .int .i64 f.per, .int .i64 f.inc] 24)).alloc (.cells #[.slice B m d, .int .i64 g.per, .int .i64 g.inc] 24)) [(w4.heap.size, ⟨A, n, c, f⟩), (w4.heap.size + 1, ⟨B, m, d, g⟩)] from by
    have := E.out.push G1.out
    simpa using this)
  clear hS hk F1 G1
  go_upto_region 3 with fail
  generalize hkk : (1 : Int) + z = kk at *
  obtain ⟨K, rfl⟩ := Int.eq_ofNat_of_zero_le (show 0 ≤ kk by omega)
  have hK1 : 1 ≤ K := by omega
  have hK9 : K ≤ 9 := by omega
  clear hkk hz0 hz1
  obtain ⟨x0, x1, x2, hlx⟩ := (E.out.get 0 rfl).cells
  obtain ⟨y0, y1, y2, hly⟩ := (E.out.get 1 rfl).cells
  go_wp2_with fail
  refine (refScale_any A n c f.per f.inc (K : Int) f.vals _ (by exact (E.out.get 0 rfl).inn.ints) (by omega) HNC.out).mono ?_
  rintro e w5 ⟨a, er, A1, n1, c1, hSS, hc1, rfl, hI, hA, hb⟩
  obtain ⟨rfl, hfa, hat1⟩ := scale_made HD.out.1 HD.out.2 (by omega) (by omega) hSS
  have HFA := Lib.hid hfa; have HAT1 := Lib.hid hat1
  have hn1 : n1 ≤ 400 := by have h1 := hfa.1.n2; have h2 : a.vals.length = n1 := hI.1; omega
  have hps := E.out.s.lt
  have E := Lib.hid (show EnvL w.heap.size w _ _ from (E.out.below hb).push (X := ⟨A1, n1, c1, a⟩) (CR.In.new hI hA hps))
  dsimp only [List.cons_append, List.nil_append] at E
  clear hSS hI hA hb hfa hat1 hps hc1
  clear x0 x1 x2 hlx y0 y1 y2 hly
  obtain ⟨x0, x1, x2, hlx⟩ := (E.out.get 0 rfl).cells
  obtain ⟨y0, y1, y2, hly⟩ := (E.out.get 1 rfl).cells
  go_wp2_with fail
  refine (refScale_any B m d g.per g.inc (K : Int) g.vals _ (by exact (E.out.get 1 rfl).inn.ints) (by omega) HMD.out).mono ?_
  rintro e w6 ⟨b, er, A2, n2, c2, hSS, hc2, rfl, hI, hA, hb⟩
  obtain ⟨rfl, hfb, hat2⟩ := scale_made HD2.out.1 HD2.out.2 (by omega) (by omega) hSS
  have HFB := Lib.hid hfb; have HAT2 := Lib.hid hat2
  have hn2 : n2 ≤ 400 := by have h1 := hfb.1.n2; have h2 : b.vals.length = n2 := hI.1; omega
  have hps := E.out.s.lt
  have E := Lib.hid (show EnvL w.heap.size w _ _ from (E.out.below hb).push (X := ⟨A2, n2, c2, b⟩) (CR.In.new hI hA hps))
  dsimp only [List.cons_append, List.nil_append] at E
  clear hSS hI hA hb hfb hat2 hps hc2 HNC HMD
  have P1 := Lib.hid (nf_pair HD.out.1.ok HD2.out.1.ok (n := 12) (by omega) (by omega) (fun a ha => HD.out.1.dvd ha) (fun b hb => HD2.out.1.dvd hb))
  have P2 := Lib.hid (nf_pair HFA.out.1 HFB.out.1 (n := 12) (by omega) (by omega) (fun x hx => scale_dvd HD.out.1 HAT1.out hx) (fun y hy => scale_dvd HD2.out.1 HAT2.out hy))
  clear x0 x1 x2 hlx y0 y1 y2 hly
  obtain ⟨x0, x1, x2, hlx⟩ := (E.out.get 0 rfl).cells
  obtain ⟨y0, y1, y2, hly⟩ := (E.out.get 1 rfl).cells
  obtain ⟨u0, u1, u2, hlu⟩ := (E.out.get 2 rfl).cells
  obtain ⟨t0, t1, t2, hlt⟩ := (E.out.get 3 rfl).cells
  go_wp2_with fail
  refine (delay_any A B n m c d f.per f.inc g.per g.inc f.vals g.vals _ (by exact (E.out.get 0 rfl).inn.ints) (by exact (E.out.get 1 rfl).inn.ints) (by omega) (by omega)).mono ?_
  rintro e w7 ⟨i1, v1, a1, er1, hE, rfl, hb⟩
  rcases hE with ⟨h, _⟩ | ⟨_, _, _, rfl, v1, a1, rfl, rfl, hS⟩
  · exact absurd P1.out (h.not HD.out.1.ok HD2.out.1.ok)
  have HS := Lib.hid hS
  clear hS
  go_upto_region 6 with fail
  have E0 := E.out.below hb
  have hz1 := E0.s.lt
  have HA1 := Lib.hid E0.apart
  have E := Lib.hid (E0.alloc (.cells #[.bool i1, .int .i64 v1, .int .i64 a1] 35))
  have D1 := Lib.hid (Blk.new w7 35 #[.bool i1, .int .i64 v1, .int .i64 a1])
  generalize hwe : w7.alloc (.cells #[.bool i1, .int .i64 v1, .int .i64 a1] 35) = we at *
  clear hwe
  generalize w7.heap.size = d1 at *
  clear hb E0
  clear x0 x1 x2 hlx y0 y1 y2 hly
  clear u0 u1 u2 hlu
  clear t0 t1 t2 hlt
  obtain ⟨x0, x1, x2, hlx⟩ := (E.out.get 0 rfl).cells
  obtain ⟨y0, y1, y2, hly⟩ := (E.out.get 1 rfl).cells
  obtain ⟨u0, u1, u2, hlu⟩ := (E.out.get 2 rfl).cells
  obtain ⟨t0, t1, t2, hlt⟩ := (E.out.get 3 rfl).cells
  go_wp2_with fail
  refine (delay_any A1 A2 n1 n2 c1 c2 a.per a.inc b.per b.inc a.vals b.vals _ (by exact (E.out.get 2 rfl).inn.ints) (by exact (E.out.get 3 rfl).inn.ints) (by omega) (by omega)).mono ?_
  intro e w8 hr
  obtain ⟨rfl, hb⟩ := RetDv.of HFA.out.1 HFB.out.1 P2.out (fun h k => h.unique HFB.out.1 k) (scale_delay HD.out.2 HD2.out.2 HFA.out HFB.out hK1 HAT1.out HAT2.out HS.out) hr
  clear hr
  have hz12 : d1 < w8.heap.size := (D1.out.below hb D1.out.lt).lt
  have D1 := Lib.hid ((D1.out.below hb D1.out.lt).alloc (.cells #[.bool i1, .int .i64 v1, .int .i64 a1] 35))
  go_upto_region 7 with fail
  have E0 := E.out.below hb
  have hz2 := E0.s.lt
  have HA2 := Lib.hid E0.apart
  have E := Lib.hid (E0.alloc (.cells #[.bool i1, .int .i64 v1, .int .i64 a1] 35))
  have D2 := Lib.hid (Blk.new w8 35 #[.bool i1, .int .i64 v1, .int .i64 a1])
  generalize hwe : w8.alloc (.cells #[.bool i1, .int .i64 v1, .int .i64 a1] 35) = we at *
  clear hwe
  generalize w8.heap.size = d2 at *
  clear hb E0
  clear x0 x1 x2 hlx y0 y1 y2 hly
  clear u0 u1 u2 hlu
  clear t0 t1 t2 hlt
  obtain ⟨x0, x1, x2, hlx⟩ := (E.out.get 0 rfl).cells
  obtain ⟨y0, y1, y2, hly⟩ := (E.out.get 1 rfl).cells
  obtain ⟨u0, u1, u2, hlu⟩ := (E.out.get 2 rfl).cells
  obtain ⟨t0, t1, t2, hlt⟩ := (E.out.get 3 rfl).cells
  clear HS
  have p0 := D1.out.cell 0; have p1 := D1.out.cell 1; have p2 := D1.out.cell 2
  have q0 := D2.out.cell 0; have q1 := D2.out.cell 1; have q2 := D2.out.cell 2
  have hv0 := D1.out.frozen 0; have hv1 := D1.out.frozen 1; have hv2 := D1.out.frozen 2
  have hq0 := D2.out.frozen 0; have hq1 := D2.out.frozen 1; have hq2 := D2.out.frozen 2
  simp at p0 p1 p2 q0 q1 q2
  have hlp := D1.out.lt
  have hlq := D2.out.lt
  go_wp2_with fail
  refine (backlog_any A B n m c d f.per f.inc g.per g.inc f.vals g.vals _ (by exact (E.out.get 0 rfl).inn.ints) (by exact (E.out.get 1 rfl).inn.ints) (by omega) (by omega)).mono ?_
  rintro e w9 ⟨i3, v3, a3, er3, hE, rfl, hb⟩
  rcases hE with ⟨h, _⟩ | ⟨_, _, _, rfl, v3, a3, rfl, rfl, hS⟩
  · exact absurd P1.out (h.not HD.out.1.ok HD2.out.1.ok)
  have HS := Lib.hid hS
  have hvb := hS.bd HD.out.2 HD2.out.2 (by omega)
  clear hS
  have E := Lib.hid (E.out.below hb)
  have D1 := Lib.hid (D1.out.below hb D1.out.lt); have D2 := Lib.hid (D2.out.below hb D2.out.lt)
  clear hb
  clear x0 x1 x2 hlx y0 y1 y2 hly
  clear u0 u1 u2 hlu
  clear t0 t1 t2 hlt
  clear p0 p1 p2 q0 q1 q2 hv0 hv1 hv2 hq0 hq1 hq2 hlp hlq
  obtain ⟨x0, x1, x2, hlx⟩ := (E.out.get 0 rfl).cells
  obtain ⟨y0, y1, y2, hly⟩ := (E.out.get 1 rfl).cells
  obtain ⟨u0, u1, u2, hlu⟩ := (E.out.get 2 rfl).cells
  obtain ⟨t0, t1, t2, hlt⟩ := (E.out.get 3 rfl).cells
  have p0 := D1.out.cell 0; have p1 := D1.out.cell 1; have p2 := D1.out.cell 2
  have q0 := D2.out.cell 0; have q1 := D2.out.cell 1; have q2 := D2.out.cell 2
  have hv0 := D1.out.frozen 0; have hv1 := D1.out.frozen 1; have hv2 := D1.out.frozen 2
  have hq0 := D2.out.frozen 0; have hq1 := D2.out.frozen 1; have hq2 := D2.out.frozen 2
  simp at p0 p1 p2 q0 q1 q2
  have hlp := D1.out.lt
  have hlq := D2.out.lt
  go_upto_region 10 with fail
  clear x0 x1 x2 hlx y0 y1 y2 hly
  clear u0 u1 u2 hlu
  clear t0 t1 t2 hlt
  clear p0 p1 p2 q0 q1 q2 hv0 hv1 hv2 hq0 hq1 hq2 hlp hlq
  have E := Lib.hid (E.out.far3 (Nat.le_of_lt hz1) hz1 HA1.out (.bool i3) (.int .i64 v3) (.int .i64 a3))
  have D1 := Lib.hid (D1.out.store3 (.bool i3) (.int .i64 v3) (.int .i64 a3))
  have D2 := Lib.hid (D2.out.far3' (g := d1) (by omega) (.bool i3) (.int .i64 v3) (.int .i64 a3))
  generalize hws : ((w9.setCell ⟨d1, 0, none⟩ (.bool i3)).setCell ⟨d1, 1, none⟩ (.int .i64 v3)).setCell ⟨d1, 2, none⟩ (.int .i64 a3) = ws at *
  clear hws
  obtain ⟨x0, x1, x2, hlx⟩ := (E.out.get 0 rfl).cells
  obtain ⟨y0, y1, y2, hly⟩ := (E.out.get 1 rfl).cells
  obtain ⟨u0, u1, u2, hlu⟩ := (E.out.get 2 rfl).cells
  obtain ⟨t0, t1, t2, hlt⟩ := (E.out.get 3 rfl).cells
  have p0 := D1.out.cell 0; have p1 := D1.out.cell 1; have p2 := D1.out.cell 2
  have q0 := D2.out.cell 0; have q1 := D2.out.cell 1; have q2 := D2.out.cell 2
  have hv0 := D1.out.frozen 0; have hv1 := D1.out.frozen 1; have hv2 := D1.out.frozen 2
  have hq0 := D2.out.frozen 0; have hq1 := D2.out.frozen 1; have hq2 := D2.out.frozen 2
  simp at p0 p1 p2 q0 q1 q2
  have hlp := D1.out.lt
  have hlq := D2.out.lt
  obtain ⟨VK3, hVK⟩ : ∃ VK : Int, VK = (v3 : Int) * (K : Int) := ⟨_, rfl⟩
  have hVK2 : (v3 : Int) * (K : Int) ≤ 20000000000000 * 9 := Int.mul_le_mul hvb (by omega) (by omega) (by omega)
  have hVK3 : 0 ≤ (v3 : Int) * (K : Int) := Int.mul_nonneg (by omega) (by omega)
  have e7 : IntKind.i64.wrap ((v3 : Int) * (K : Int)) = VK3 := by rw [hVK]; exact IntWalk.i64_in _ (by omega)
  have HVK := Lib.hid (show ((v3 * K : Nat) : Int) = VK3 from by rw [hVK]; exact Int.natCast_mul _ _)
  clear hVK hVK2 hVK3 hvb
  go_wp2_with fail
  refine (backlog_any A1 A2 n1 n2 c1 c2 a.per a.inc b.per b.inc a.vals b.vals _ (by exact (E.out.get 2 rfl).inn.ints) (by exact (E.out.get 3 rfl).inn.ints) (by omega) (by omega)).mono ?_
  intro e w9 hr
  obtain ⟨he, hb⟩ := RetDv.of HFA.out.1 HFB.out.1 P2.out (fun h k => h.unique k) (scale_ahead HD.out.2 HD2.out.2 HFA.out HFB.out hK1 HAT1.out HAT2.out HS.out) hr
  rw [HVK.out] at he
  subst he
  clear hr HS
  have E := Lib.hid (E.out.below hb)
  have D1 := Lib.hid (D1.out.below hb D1.out.lt); have D2 := Lib.hid (D2.out.below hb D2.out.lt)
  clear hb
  clear x0 x1 x2 hlx y0 y1 y2 hly
  clear u0 u1 u2 hlu
  clear t0 t1 t2 hlt
  clear p0 p1 p2 q0 q1 q2 hv0 hv1 hv2 hq0 hq1 hq2 hlp hlq
  obtain ⟨x0, x1, x2, hlx⟩ := (E.out.get 0 rfl).cells
  obtain ⟨y0, y1, y2, hly⟩ := (E.out.get 1 rfl).cells
  obtain ⟨u0, u1, u2, hlu⟩ := (E.out.get 2 rfl).cells
  obtain ⟨t0, t1, t2, hlt⟩ := (E.out.get 3 rfl).cells
  have p0 := D1.out.cell 0; have p1 := D1.out.cell 1; have p2 := D1.out.cell 2
  have q0 := D2.out.cell 0; have q1 := D2.out.cell 1; have q2 := D2.out.cell 2
  have hv0 := D1.out.frozen 0; have hv1 := D1.out.frozen 1; have hv2 := D1.out.frozen 2
  have hq0 := D2.out.frozen 0; have hq1 := D2.out.frozen 1; have hq2 := D2.out.frozen 2
  simp at p0 p1 p2 q0 q1 q2
  have hlp := D1.out.lt
  have hlq := D2.out.lt
  go_upto_region 11 with fail
  clear x0 x1 x2 hlx y0 y1 y2 hly
  clear u0 u1 u2 hlu
  clear t0 t1 t2 hlt
  clear p0 p1 p2 q0 q1 q2 hv0 hv1 hv2 hq0 hq1 hq2 hlp hlq
  have E := Lib.hid (E.out.far3 (Nat.le_of_lt hz2) hz2 HA2.out (.bool i3) (.int .i64 VK3) (.int .i64 a3))
  have D2 := Lib.hid (D2.out.store3 (.bool i3) (.int .i64 VK3) (.int .i64 a3))
  have D1 := Lib.hid (D1.out.far3' (g := d2) (by omega) (.bool i3) (.int .i64 VK3) (.int .i64 a3))
  generalize hws : ((w9.setCell ⟨d2, 0, none⟩ (.bool i3)).setCell ⟨d2, 1, none⟩ (.int .i64 VK3)).setCell ⟨d2, 2, none⟩ (.int .i64 a3) = ws at *
  clear hws
  obtain ⟨x0, x1, x2, hlx⟩ := (E.out.get 0 rfl).cells
  obtain ⟨y0, y1, y2, hly⟩ := (E.out.get 1 rfl).cells
  obtain ⟨u0, u1, u2, hlu⟩ := (E.out.get 2 rfl).cells
  obtain ⟨t0, t1, t2, hlt⟩ := (E.out.get 3 rfl).cells
  have p0 := D1.out.cell 0; have p1 := D1.out.cell 1; have p2 := D1.out.cell 2
  have q0 := D2.out.cell 0; have q1 := D2.out.cell 1; have q2 := D2.out.cell 2
  have hv0 := D1.out.frozen 0; have hv1 := D1.out.frozen 1; have hv2 := D1.out.frozen 2
  have hq0 := D2.out.frozen 0; have hq1 := D2.out.frozen 1; have hq2 := D2.out.frozen 2
  simp at p0 p1 p2 q0 q1 q2
  have hlp := D1.out.lt
  have hlq := D2.out.lt
  go_upto_region 12 with fail
  have D1 := Lib.hid (D1.out.set_ 1 (.int .i64 VK3))
  have D2 := Lib.hid (D2.out.far (p := ⟨d1, 1, none⟩) (by show d2 ≠ d1; omega) (.int .i64 VK3))
  have E := Lib.hid (E.out.far (Nat.le_of_lt hz1) hz1 HA1.out 1 (.int .i64 VK3))
  clear x0 x1 x2 hlx y0 y1 y2 hly
  clear u0 u1 u2 hlu
  clear t0 t1 t2 hlt
  clear p0 p1 p2 q0 q1 q2 hv0 hv1 hv2 hq0 hq1 hq2 hlp hlq
  generalize hws : ws.setCell ⟨d1, 1, none⟩ (.int .i64 VK3) = wt at *
  clear hws e7 HVK
  simp only [List.setIfInBounds_toArray, List.set_cons_succ, List.set_cons_zero] at D1
  obtain ⟨x0, x1, x2, hlx⟩ := (E.out.get 0 rfl).cells
  obtain ⟨y0, y1, y2, hly⟩ := (E.out.get 1 rfl).cells
  obtain ⟨u0, u1, u2, hlu⟩ := (E.out.get 2 rfl).cells
  obtain ⟨t0, t1, t2, hlt⟩ := (E.out.get 3 rfl).cells
  have p0 := D1.out.cell 0; have p1 := D1.out.cell 1; have p2 := D1.out.cell 2
  have q0 := D2.out.cell 0; have q1 := D2.out.cell 1; have q2 := D2.out.cell 2
  have hv0 := D1.out.frozen 0; have hv1 := D1.out.frozen 1; have hv2 := D1.out.frozen 2
  have hq0 := D2.out.frozen 0; have hq1 := D2.out.frozen 1; have hq2 := D2.out.frozen 2
  simp at p0 p1 p2 q0 q1 q2
  have hlp := D1.out.lt
  have hlq := D2.out.lt
  go_wp2_with fail
  refine (peak_any A B n m c d f.per f.inc g.per g.inc f.vals g.vals _ (by exact (E.out.get 0 rfl).inn.ints) (by exact (E.out.get 1 rfl).inn.ints) (by omega) (by omega)).mono ?_
  rintro e w9 ⟨i4, v4, a4, er4, hE, rfl, hb⟩
  rcases hE with ⟨h, _⟩ | ⟨_, _, _, rfl, v4, a4, rfl, rfl, hS⟩
  · exact absurd P1.out (h.not HD.out.1.ok HD2.out.1.ok)
  have HS := Lib.hid hS
  have hvb := hS.bd HD.out.2 HD2.out.2 (by omega)
  clear hS
  have E := Lib.hid (E.out.below hb)
  have D1 := Lib.hid (D1.out.below hb D1.out.lt); have D2 := Lib.hid (D2.out.below hb D2.out.lt)
  clear hb
  clear x0 x1 x2 hlx y0 y1 y2 hly
  clear u0 u1 u2 hlu
  clear t0 t1 t2 hlt
  clear p0 p1 p2 q0 q1 q2 hv0 hv1 hv2 hq0 hq1 hq2 hlp hlq
  obtain ⟨x0, x1, x2, hlx⟩ := (E.out.get 0 rfl).cells
  obtain ⟨y0, y1, y2, hly⟩ := (E.out.get 1 rfl).cells
  obtain ⟨u0, u1, u2, hlu⟩ := (E.out.get 2 rfl).cells
  obtain ⟨t0, t1, t2, hlt⟩ := (E.out.get 3 rfl).cells
  have p0 := D1.out.cell 0; have p1 := D1.out.cell 1; have p2 := D1.out.cell 2
  have q0 := D2.out.cell 0; have q1 := D2.out.cell 1; have q2 := D2.out.cell 2
  have hv0 := D1.out.frozen 0; have hv1 := D1.out.frozen 1; have hv2 := D1.out.frozen 2
  have hq0 := D2.out.frozen 0; have hq1 := D2.out.frozen 1; have hq2 := D2.out.frozen 2
  simp at p0 p1 p2 q0 q1 q2
  have hlp := D1.out.lt
  have hlq := D2.out.lt
  go_upto_region 15 with fail
  clear x0 x1 x2 hlx y0 y1 y2 hly
  clear u0 u1 u2 hlu
  clear t0 t1 t2 hlt
  clear p0 p1 p2 q0 q1 q2 hv0 hv1 hv2 hq0 hq1 hq2 hlp hlq
  have E := Lib.hid (E.out.far3 (Nat.le_of_lt hz1) hz1 HA1.out (.bool i4) (.int .i64 v4) (.int .i64 a4))
  have D1 := Lib.hid (D1.out.store3 (.bool i4) (.int .i64 v4) (.int .i64 a4))
  have D2 := Lib.hid (D2.out.far3' (g := d1) (by omega) (.bool i4) (.int .i64 v4) (.int .i64 a4))
  generalize hws : ((w9.setCell ⟨d1, 0, none⟩ (.bool i4)).setCell ⟨d1, 1, none⟩ (.int .i64 v4)).setCell ⟨d1, 2, none⟩ (.int .i64 a4) = ws at *
  clear hws
  obtain ⟨x0, x1, x2, hlx⟩ := (E.out.get 0 rfl).cells
  obtain ⟨y0, y1, y2, hly⟩ := (E.out.get 1 rfl).cells
  obtain ⟨u0, u1, u2, hlu⟩ := (E.out.get 2 rfl).cells
  obtain ⟨t0, t1, t2, hlt⟩ := (E.out.get 3 rfl).cells
  have p0 := D1.out.cell 0; have p1 := D1.out.cell 1; have p2 := D1.out.cell 2
  have q0 := D2.out.cell 0; have q1 := D2.out.cell 1; have q2 := D2.out.cell 2
  have hv0 := D1.out.frozen 0; have hv1 := D1.out.frozen 1; have hv2 := D1.out.frozen 2
  have hq0 := D2.out.frozen 0; have hq1 := D2.out.frozen 1; have hq2 := D2.out.frozen 2
  simp at p0 p1 p2 q0 q1 q2
  have hlp := D1.out.lt
  have hlq := D2.out.lt
  obtain ⟨VK4, hVK⟩ : ∃ VK : Int, VK = (v4 : Int) * (K : Int) := ⟨_, rfl⟩
  have hVK2 : (v4 : Int) * (K : Int) ≤ 20000000000000 * 9 := Int.mul_le_mul hvb (by omega) (by omega) (by omega)
  have hVK3 : 0 ≤ (v4 : Int) * (K : Int) := Int.mul_nonneg (by omega) (by omega)
  have e7 : IntKind.i64.wrap ((v4 : Int) * (K : Int)) = VK4 := by rw [hVK]; exact IntWalk.i64_in _ (by omega)
  have HVK := Lib.hid (show ((v4 * K : Nat) : Int) = VK4 from by rw [hVK]; exact Int.natCast_mul _ _)
  clear hVK hVK2 hVK3 hvb
  go_wp2_with fail
  refine (peak_any A1 A2 n1 n2 c1 c2 a.per a.inc b.per b.inc a.vals b.vals _ (by exact (E.out.get 2 rfl).inn.ints) (by exact (E.out.get 3 rfl).inn.ints) (by omega) (by omega)).mono ?_
  intro e w9 hr
  obtain ⟨he, hb⟩ := RetDv.of HFA.out.1 HFB.out.1 P2.out (fun h k => h.unique k) (scale_ahead HD.out.2 HD2.out.2 HFA.out HFB.out hK1 HAT1.out HAT2.out HS.out) hr
  rw [HVK.out] at he
  subst he
  clear hr HS
  have E := Lib.hid (E.out.below hb)
  have D1 := Lib.hid (D1.out.below hb D1.out.lt); have D2 := Lib.hid (D2.out.below hb D2.out.lt)
  clear hb
  clear x0 x1 x2 hlx y0 y1 y2 hly
  clear u0 u1 u2 hlu
  clear t0 t1 t2 hlt
  clear p0 p1 p2 q0 q1 q2 hv0 hv1 hv2 hq0 hq1 hq2 hlp hlq
  obtain ⟨x0, x1, x2, hlx⟩ := (E.out.get 0 rfl).cells
  obtain ⟨y0, y1, y2, hly⟩ := (E.out.get 1 rfl).cells
  obtain ⟨u0, u1, u2, hlu⟩ := (E.out.get 2 rfl).cells
  obtain ⟨t0, t1, t2, hlt⟩ := (E.out.get 3 rfl).cells
  have p0 := D1.out.cell 0; have p1 := D1.out.cell 1; have p2 := D1.out.cell 2
  have q0 := D2.out.cell 0; have q1 := D2.out.cell 1; have q2 := D2.out.cell 2
  have hv0 := D1.out.frozen 0; have hv1 := D1.out.frozen 1; have hv2 := D1.out.frozen 2
  have hq0 := D2.out.frozen 0; have hq1 := D2.out.frozen 1; have hq2 := D2.out.frozen 2
  simp at p0 p1 p2 q0 q1 q2
  have hlp := D1.out.lt
  have hlq := D2.out.lt
  go_upto_region 16 with fail
  clear x0 x1 x2 hlx y0 y1 y2 hly
  clear u0 u1 u2 hlu
  clear t0 t1 t2 hlt
  clear p0 p1 p2 q0 q1 q2 hv0 hv1 hv2 hq0 hq1 hq2 hlp hlq
  have E := Lib.hid (E.out.far3 (Nat.le_of_lt hz2) hz2 HA2.out (.bool i4) (.int .i64 VK4) (.int .i64 a4))
  have D2 := Lib.hid (D2.out.store3 (.bool i4) (.int .i64 VK4) (.int .i64 a4))
  have D1 := Lib.hid (D1.out.far3' (g := d2) (by omega) (.bool i4) (.int .i64 VK4) (.int .i64 a4))
  generalize hws : ((w9.setCell ⟨d2, 0, none⟩ (.bool i4)).setCell ⟨d2, 1, none⟩ (.int .i64 VK4)).setCell ⟨d2, 2, none⟩ (.int .i64 a4) = ws at *
  clear hws
  obtain ⟨x0, x1, x2, hlx⟩ := (E.out.get 0 rfl).cells
  obtain ⟨y0, y1, y2, hly⟩ := (E.out.get 1 rfl).cells
  obtain ⟨u0, u1, u2, hlu⟩ := (E.out.get 2 rfl).cells
  obtain ⟨t0, t1, t2, hlt⟩ := (E.out.get 3 rfl).cells
  have p0 := D1.out.cell 0; have p1 := D1.out.cell 1; have p2 := D1.out.cell 2
  have q0 := D2.out.cell 0; have q1 := D2.out.cell 1; have q2 := D2.out.cell 2
  have hv0 := D1.out.frozen 0; have hv1 := D1.out.frozen 1; have hv2 := D1.out.frozen 2
  have hq0 := D2.out.frozen 0; have hq1 := D2.out.frozen 1; have hq2 := D2.out.frozen 2
  simp at p0 p1 p2 q0 q1 q2
  have hlp := D1.out.lt
  have hlq := D2.out.lt
  go_upto_region 17 with fail
  have D1 := Lib.hid (D1.out.set_ 1 (.int .i64 VK4))
  have D2 := Lib.hid (D2.out.far (p := ⟨d1, 1, none⟩) (by show d2 ≠ d1; omega) (.int .i64 VK4))
  have E := Lib.hid (E.out.far (Nat.le_of_lt hz1) hz1 HA1.out 1 (.int .i64 VK4))
  clear x0 x1 x2 hlx y0 y1 y2 hly
  clear u0 u1 u2 hlu
  clear t0 t1 t2 hlt
  clear p0 p1 p2 q0 q1 q2 hv0 hv1 hv2 hq0 hq1 hq2 hlp hlq
  generalize hws : ws.setCell ⟨d1, 1, none⟩ (.int .i64 VK4) = wt at *
  clear hws e7 HVK
  simp only [List.setIfInBounds_toArray, List.set_cons_succ, List.set_cons_zero] at D1
  obtain ⟨x0, x1, x2, hlx⟩ := (E.out.get 0 rfl).cells
  obtain ⟨y0, y1, y2, hly⟩ := (E.out.get 1 rfl).cells
  obtain ⟨u0, u1, u2, hlu⟩ := (E.out.get 2 rfl).cells
  obtain ⟨t0, t1, t2, hlt⟩ := (E.out.get 3 rfl).cells
  have p0 := D1.out.cell 0; have p1 := D1.out.cell 1; have p2 := D1.out.cell 2
  have q0 := D2.out.cell 0; have q1 := D2.out.cell 1; have q2 := D2.out.cell 2
  have hv0 := D1.out.frozen 0; have hv1 := D1.out.frozen 1; have hv2 := D1.out.frozen 2
  have hq0 := D2.out.frozen 0; have hq1 := D2.out.frozen 1; have hq2 := D2.out.frozen 2
  simp at p0 p1 p2 q0 q1 q2
  have hlp := D1.out.lt
  have hlq := D2.out.lt
  go_wp2_with fail
  refine (awake10_any _).mono ?_
  rintro e wq ⟨rfl, hb⟩
  have bw := (E.out.below hb).fin
  go_wp2_with fail
  go_ret
  exact ⟨rfl, bw⟩
end Go.Proofs.Ytjlinbmjgijpiaa
