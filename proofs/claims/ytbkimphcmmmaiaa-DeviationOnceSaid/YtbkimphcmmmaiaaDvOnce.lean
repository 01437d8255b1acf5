/- The statement DeviationOnce: the walk. -/
import Derived.Test.YtbkimphcmmmaiaaAwake10
import Derived.Test.YtbkimphcmmmaiaaEnvL2
import Derived.Test.YtbkimphcmmmaiaaZero
import Derived.Test.YtbkimphcmmmaiaaCvFn
import Derived.Test.YtbkimphcmmmaiaaDcFn
import Derived.Test.YtbkimphcmmmaiaaOnLaw
import Derived.Deep.DeepCutAuto
namespace Go.Proofs.Ytbkimphcmmmaiaa
open Go.RowKit
set_option linter.unusedVariables false

set_option maxHeartbeats 4000000 in
set_option maxRecDepth 100000 in
theorem dvOnce_any (A0 : Option Addr) (n0 c0 : Nat) (L : List Int) (w : World) (hL : Ints w w.heap.size A0 n0 L) (hc0 : n0 ≤ c0) (hn0 : (n0 : Int) ≤ 9223372036854775807) :
    Calls Try.prog 13 #[.slice A0 n0 c0] w fun e w' => e = .returned (.bool true) ∧ Below w.heap.size w w' := by
  go_enter Try.func13, Try.ntmps13
  go_wp2_with fail
  refine (new_any A0 n0 c0 L w hL hc0 hn0).mono ?_
  rintro e w1 ⟨rfl, hS1, hb1⟩
  have E := Lib.hid (EnvL.start hS1 hb1)
  clear hL hS1 hb1
  -- a curve drawn, not yet in a variable: srcZero3_any the contract, 4 most, _ w2 the worlds, f the curve, A n c, (DrawC 4 f ∧ f.Fin) ∧ nth f.vals 0 = 0 its facts
  go_wp2_with fail
  refine (srcZero3_any w.heap.size 4 _ (by exact E.out.s) (by omega) (by omega)).mono ?_
  rintro e w2 ⟨f, A, n, c, hD, hcf, rfl, hI, hA, hS, hk⟩
  have hps := E.out.s.lt
  have E := Lib.hid (E.out.kept hS hk)
  have Vf := Lib.hid (show (CR.mk A n c f).In w.heap.size w2 from CR.In.new hI hA hps)
  have Hf := Lib.hid (show (DrawC 4 f ∧ f.Fin) ∧ nth f.vals 0 = 0 from hD)
  have HCf := Lib.hid hcf
  have hlenf := hI.1
  try simp only at hlenf
  have hn : n ≤ 20 := by have h1 := Hf.out.1.1.len; omega
  clear hlenf
  clear hD hI hA hS hk hps hcf
  -- a curve drawn, not yet in a variable: srcZero3_any the contract, 4 most, _ w3 the worlds, g the curve, B m d, (DrawC 4 g ∧ g.Fin) ∧ nth g.vals 0 = 0 its facts
  go_wp2_with fail
  refine (srcZero3_any w.heap.size 4 _ (by exact E.out.s) (by omega) (by omega)).mono ?_
  rintro e w3 ⟨g, B, m, d, hD, hcf, rfl, hI, hA, hS, hk⟩
  have hps := E.out.s.lt
  have E := Lib.hid (E.out.kept hS hk)
  have Vg := Lib.hid (show (CR.mk B m d g).In w.heap.size w3 from CR.In.new hI hA hps)
  have Hg := Lib.hid (show (DrawC 4 g ∧ g.Fin) ∧ nth g.vals 0 = 0 from hD)
  have HCg := Lib.hid hcf
  have hleng := hI.1
  try simp only at hleng
  have hm : m ≤ 20 := by have h1 := Hg.out.1.1.len; omega
  clear hleng
  have Vf := Lib.hid (Vf.out.kept hk)
  clear hD hI hA hS hk hps hcf
  -- a curve drawn, not yet in a variable: srcZero3_any the contract, 4 most, _ w4 the worlds, h the curve, C l k, (DrawC 4 h ∧ h.Fin) ∧ nth h.vals 0 = 0 its facts
  go_wp2_with fail
  refine (srcZero3_any w.heap.size 4 _ (by exact E.out.s) (by omega) (by omega)).mono ?_
  rintro e w4 ⟨h, C, l, k, hD, hcf, rfl, hI, hA, hS, hk⟩
  have hps := E.out.s.lt
  have E := Lib.hid (E.out.kept hS hk)
  have Vh := Lib.hid (show (CR.mk C l k h).In w.heap.size w4 from CR.In.new hI hA hps)
  have Hh := Lib.hid (show (DrawC 4 h ∧ h.Fin) ∧ nth h.vals 0 = 0 from hD)
  have HCh := Lib.hid hcf
  have hlenh := hI.1
  try simp only at hlenh
  have hl : l ≤ 20 := by have h1 := Hh.out.1.1.len; omega
  clear hlenh
  have Vf := Lib.hid (Vf.out.kept hk)
  have Vg := Lib.hid (Vg.out.kept hk)
  clear hD hI hA hS hk hps hcf
  have E := Lib.hid (show EnvL w.heap.size w _ _ from E.out.push (X := ⟨A, n, c, f⟩) Vf.out)
  dsimp only [List.cons_append, List.nil_append] at E
  have Vg := Lib.hid (Vg.out.alloc (.cells #[.slice A n c, .int .i64 f.per, .int .i64 f.inc] 31))
  have Vh := Lib.hid (Vh.out.alloc (.cells #[.slice A n c, .int .i64 f.per, .int .i64 f.inc] 31))
  have E := Lib.hid (show EnvL w.heap.size w _ _ from E.out.push (X := ⟨B, m, d, g⟩) Vg.out)
  dsimp only [List.cons_append, List.nil_append] at E
  have Vh := Lib.hid (Vh.out.alloc (.cells #[.slice B m d, .int .i64 g.per, .int .i64 g.inc] 31))
  have E := Lib.hid (show EnvL w.heap.size w _ _ from E.out.push (X := ⟨C, l, k, h⟩) Vh.out)
  dsimp only [List.cons_append, List.nil_append] at E
  clear Vf Vg Vh HCf HCg HCh
  go_upto_region 3 with fail
  simp only [World.size_alloc] at E
  generalize hwe : ((w4.alloc (.cells #[.slice A n c, .int .i64 f.per, .int .i64 f.inc] 31)).alloc (.cells #[.slice B m d, .int .i64 g.per, .int .i64 g.inc] 31)).alloc (.cells #[.slice C l k, .int .i64 h.per, .int .i64 h.inc] 31) = we at *
  clear hwe
  have GZ := Lib.hid (show g.at 0 = 0 from by rw [Cv.at_lt (by have := Hg.out.1.1.ok.n1; omega)]; exact Hg.out.2)
  obtain ⟨x0, x1, x2, hlx⟩ := (E.out.get 1 rfl).cells
  obtain ⟨y0, y1, y2, hly⟩ := (E.out.get 2 rfl).cells
  go_wp2_with fail
  refine (cvfn_any B C m l d k g.per g.inc h.per h.inc g.vals h.vals _ (by exact (E.out.get 1 rfl).inn.ints) (by exact (E.out.get 2 rfl).inn.ints) (by omega) (by omega)).mono ?_
  rintro e w5 ⟨r, er, hSS, A3, n3, c3, hle, rfl, hI, hA, hb⟩
  have S1 := Lib.hid (show CvS g h r er from hSS)
  have LR := Lib.hid (show r.vals.length = n3 from hI.1)
  clear hle
  have hps := E.out.s.lt
  have E := Lib.hid (show EnvL w.heap.size w _ _ from (E.out.below hb).push (X := ⟨A3, n3, c3, r⟩) (CR.In.new hI hA hps))
  dsimp only [List.cons_append, List.nil_append] at E
  clear hSS hI hA hb hps
  clear x0 x1 x2 hlx
  clear y0 y1 y2 hly
  go_upto_region 4 with fail
  generalize hwe : w5.alloc (.cells #[.slice A3 n3 c3, .int .i64 r.per, .int .i64 r.inc] 31) = wf at *
  clear hwe
  obtain ⟨x0, x1, x2, hlx⟩ := (E.out.get 0 rfl).cells
  obtain ⟨y0, y1, y2, hly⟩ := (E.out.get 1 rfl).cells
  go_wp2_with fail
  refine (dcfn_any A B n m c d f.per f.inc g.per g.inc f.vals g.vals _ (by exact (E.out.get 0 rfl).inn.ints) (by exact (E.out.get 1 rfl).inn.ints) (by omega) (by omega)).mono ?_
  rintro e w6 ⟨x, j, hSS, A4, n4, c4, hle, rfl, hI, hA, hb⟩
  have S2 := Lib.hid (show DcS f g x j from hSS)
  have LX := Lib.hid (show x.vals.length = n4 from hI.1)
  clear hle
  have hps := E.out.s.lt
  have E := Lib.hid (show EnvL w.heap.size w _ _ from (E.out.below hb).push (X := ⟨A4, n4, c4, x⟩) (CR.In.new hI hA hps))
  dsimp only [List.cons_append, List.nil_append] at E
  clear hSS hI hA hb hps
  clear x0 x1 x2 hlx
  clear y0 y1 y2 hly
  go_upto_region 5 with fail
  generalize hwe : w6.alloc (.cells #[.slice A4 n4 c4, .int .i64 x.per, .int .i64 x.inc] 31) = wg at *
  clear hwe
  rcases cvS_er Hg.out.1.1.ok Hh.out.1.1.ok S1.out with rfl | rfl
  rcases dcS_er Hf.out.1.1.ok Hg.out.1.1.ok GZ.out S2.out with rfl | rfl
  · obtain ⟨hr, hC⟩ := cvS_ok Hg.out.1.2 Hh.out.1.2 S1.out
    obtain ⟨hxo, D, hD, hnx, hxa, hxi⟩ := dcS_ok S2.out
    have RF := Lib.hid hr; have RC := Lib.hid hC; have XO := Lib.hid hxo; have XD := Lib.hid hD; have XA := Lib.hid hxa; have XI := Lib.hid hxi
    have hn3 : n3 ≤ 400 := by have h1 := hr.1.n2; have h2 := LR.out; omega
    have hn4 : n4 ≤ 400 := by have h1 := hxo.n2; have h2 := LX.out; omega
    have PF := Lib.hid (show ∀ a, NF f.at a → a.per.toNat ∣ 12 from fun a ha => Hf.out.1.1.dvd ha)
    have PG := Lib.hid (show ∀ a, NF g.at a → a.per.toNat ∣ 12 from fun a ha => Hg.out.1.1.dvd ha)
    have PH := Lib.hid (show ∀ a, NF h.at a → a.per.toNat ∣ 12 from fun a ha => Hh.out.1.1.dvd ha)
    have PR := Lib.hid (show ∀ a, NF r.at a → a.per.toNat ∣ 12 from fun a ha => conv_dvd Hg.out.1.1 Hh.out.1.1 hr hC ha)
    have PX := Lib.hid (show ∀ a, NF x.at a → a.per.toNat ∣ 12 from fun a ha => dc_dvd Hf.out.1.1 Hf.out.1.2 Hg.out.1.1.ok GZ.out hD hxa ha)
    clear S1 S2 LR LX hr hC hxo hD hnx hxa hxi
    obtain ⟨x0, x1, x2, hlx⟩ := (E.out.get 0 rfl).cells
    obtain ⟨y0, y1, y2, hly⟩ := (E.out.get 3 rfl).cells
    go_wp2_with fail
    refine (delay_any A A3 n n3 c c3 f.per f.inc r.per r.inc f.vals r.vals _ (by exact (E.out.get 0 rfl).inn.ints) (by exact (E.out.get 3 rfl).inn.ints) (by omega) (by omega)).mono ?_
    rintro e w7 ⟨i1, v1, a1, er, hE, rfl, hb⟩
    obtain ⟨rfl, u, B1, rfl, rfl, hS⟩ := del_ok Hf.out.1.1.ok RF.out.1 PF.out PR.out hE
    have T1 := Lib.hid hS
    clear hE hS
    go_upto_region 8 with fail
    clear x0 x1 x2 hlx
    clear y0 y1 y2 hly
    have E := Lib.hid ((E.out.below hb).alloc (.cells #[.bool i1, .int .i64 (u : Int), .int .i64 (B1 : Int)] 76))
    have D1 := Lib.hid (Blk.new w7 76 #[.bool i1, .int .i64 (u : Int), .int .i64 (B1 : Int)])
    generalize hwe : w7.alloc (.cells #[.bool i1, .int .i64 (u : Int), .int .i64 (B1 : Int)] 76) = we at *
    clear hwe hb
    generalize w7.heap.size = d1 at *
    obtain ⟨x0, x1, x2, hlx⟩ := (E.out.get 0 rfl).cells
    obtain ⟨y0, y1, y2, hly⟩ := (E.out.get 1 rfl).cells
    go_wp2_with fail
    refine (delay_any A B n m c d f.per f.inc g.per g.inc f.vals g.vals _ (by exact (E.out.get 0 rfl).inn.ints) (by exact (E.out.get 1 rfl).inn.ints) (by omega) (by omega)).mono ?_
    rintro e w8 ⟨i2, v2, a2, er, hE, rfl, hb⟩
    obtain ⟨rfl, v, B2, rfl, rfl, hS⟩ := del_ok Hf.out.1.1.ok Hg.out.1.1.ok PF.out PG.out hE
    have T2 := Lib.hid hS
    clear hE hS
    go_upto_region 9 with fail
    clear x0 x1 x2 hlx
    clear y0 y1 y2 hly
    have D1 := Lib.hid ((D1.out.below hb D1.out.lt).alloc (.cells #[.bool i2, .int .i64 (v : Int), .int .i64 (B2 : Int)] 76))
    have E := Lib.hid ((E.out.below hb).alloc (.cells #[.bool i2, .int .i64 (v : Int), .int .i64 (B2 : Int)] 76))
    have D2 := Lib.hid (Blk.new w8 76 #[.bool i2, .int .i64 (v : Int), .int .i64 (B2 : Int)])
    generalize hwe : w8.alloc (.cells #[.bool i2, .int .i64 (v : Int), .int .i64 (B2 : Int)] 76) = we at *
    clear hwe hb
    generalize w8.heap.size = d2 at *
    obtain ⟨x0, x1, x2, hlx⟩ := (E.out.get 4 rfl).cells
    obtain ⟨y0, y1, y2, hly⟩ := (E.out.get 2 rfl).cells
    go_wp2_with fail
    refine (delay_any A4 C n4 l c4 k x.per x.inc h.per h.inc x.vals h.vals _ (by exact (E.out.get 4 rfl).inn.ints) (by exact (E.out.get 2 rfl).inn.ints) (by omega) (by omega)).mono ?_
    rintro e w9 ⟨i3, v3, a3, er, hE, rfl, hb⟩
    obtain ⟨rfl, z, B3, rfl, rfl, hS⟩ := del_ok XO.out Hh.out.1.1.ok PX.out PH.out hE
    have T3 := Lib.hid hS
    clear hE hS
    go_upto_region 10 with fail
    clear x0 x1 x2 hlx
    clear y0 y1 y2 hly
    have D1 := Lib.hid ((D1.out.below hb D1.out.lt).alloc (.cells #[.bool i3, .int .i64 (z : Int), .int .i64 (B3 : Int)] 76))
    have D2 := Lib.hid ((D2.out.below hb D2.out.lt).alloc (.cells #[.bool i3, .int .i64 (z : Int), .int .i64 (B3 : Int)] 76))
    have E := Lib.hid ((E.out.below hb).alloc (.cells #[.bool i3, .int .i64 (z : Int), .int .i64 (B3 : Int)] 76))
    have D3 := Lib.hid (Blk.new w9 76 #[.bool i3, .int .i64 (z : Int), .int .i64 (B3 : Int)])
    generalize hwe : w9.alloc (.cells #[.bool i3, .int .i64 (z : Int), .int .i64 (B3 : Int)] 76) = we at *
    clear hwe hb
    generalize w9.heap.size = d3 at *
    have hlaw := del_once Hf.out.1.2 Hg.out.1.2 Hh.out.1.2 RF.out RC.out XD.out XA.out XO.out XI.out T1.out T2.out T3.out
    have b1 := E.out.fin
    have p0 := D1.out.cell 0; have p1 := D1.out.cell 1
    have q0 := D2.out.cell 0; have q1 := D2.out.cell 1
    have r0 := D3.out.cell 0; have r1 := D3.out.cell 1
    simp at p0 p1 q0 q1 r0 r1
    have hd1 := D1.out.lt; have hd2 := D2.out.lt; have hd3 := D3.out.lt
    clear T1 T2 T3 RF RC XD XA XO XI PF PG PH PR PX GZ Hf Hg Hh
    rcases hlaw with rfl | rfl | ⟨rfl, rfl, rfl, k1, k2, k3⟩
    · go_wp2_with fail
      refine (awake10_any _).mono ?_
      rintro e wq ⟨rfl, hb⟩
      have bw := bthen b1 hb
      go_wp2_with fail
      go_ret
      exact ⟨rfl, bw⟩
    · cases i2
      · go_wp2_with fail
        refine (awake10_any _).mono ?_
        rintro e wq ⟨rfl, hb⟩
        have bw := bthen b1 hb
        go_wp2_with fail
        go_ret
        exact ⟨rfl, bw⟩
      · go_wp2_with fail
        refine (awake10_any _).mono ?_
        rintro e wq ⟨rfl, hb⟩
        have bw := bthen b1 hb
        go_wp2_with fail
        go_ret
        exact ⟨rfl, bw⟩
    · have t1 : IntKind.i64.wrap ((v : Int) + (z : Int)) = (v : Int) + z := IntWalk.i64_in _ (by omega)
      have t2 : decide ((u : Int) ≤ (v : Int) + z) = true := by simpa using k1
      clear k1 k2 k3
      go_wp2_with fail
      refine (awake10_any _).mono ?_
      rintro e wq ⟨rfl, hb⟩
      have bw := bthen b1 hb
      go_wp2_with fail
      go_ret
      exact ⟨rfl, bw⟩
  · have b1 := E.out.fin
    go_wp2_with fail
    refine (awake10_any _).mono ?_
    rintro e wq ⟨rfl, hb⟩
    have bw := bthen b1 hb
    go_wp2_with fail
    go_ret
    exact ⟨rfl, bw⟩
  · have b1 := E.out.fin
    go_wp2_with fail
    refine (awake10_any _).mono ?_
    rintro e wq ⟨rfl, hb⟩
    have bw := bthen b1 hb
    go_wp2_with fail
    go_ret
    exact ⟨rfl, bw⟩
end Go.Proofs.Ytbkimphcmmmaiaa
