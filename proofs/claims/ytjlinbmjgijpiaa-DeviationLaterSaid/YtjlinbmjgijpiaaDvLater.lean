/- The statement DeviationLater: the walk. -/
import Derived.Test.YtjlinbmjgijpiaaAwake10
import Derived.Test.YtjlinbmjgijpiaaEnvL
import Derived.Test.YtjlinbmjgijpiaaZero
import Derived.Test.YtjlinbmjgijpiaaRefLater
import Derived.Test.YtjlinbmjgijpiaaLaterLaw
import Derived.Test.YtjlinbmjgijpiaaDevSmall
namespace Go.Proofs.Ytjlinbmjgijpiaa
open Go.RowKit
set_option linter.unusedVariables false

/-- what the statement asks of the two delays -/
def LaterQ (i : Bool) (v n x : Int) : Prop := i = false → x ≤ v + n ∧ v ≤ x ∧ (v = 0 ∨ x = v + n)

set_option maxHeartbeats 4000000 in
set_option maxRecDepth 100000 in
theorem laterLaw_any (A0 : Option Addr) (n0 c0 : Nat) (L : List Int) (w : World) (hL : Ints w w.heap.size A0 n0 L) (hc0 : n0 ≤ c0) (hn0 : (n0 : Int) ≤ 9223372036854775807) :
    Calls Try.prog 7 #[.slice A0 n0 c0] w fun e w' => e = .returned (.bool true) ∧ Below w.heap.size w w' := by
  go_enter Try.func7, Try.ntmps7
  go_wp2_with fail
  refine (new_any A0 n0 c0 L w hL hc0 hn0).mono ?_
  rintro e w1 ⟨rfl, hS1, hb1⟩
  have E := Lib.hid (EnvL.start hS1 hb1)
  clear hL hS1 hb1
  go_wp2_with fail
  refine (srcZero2_any w.heap.size 6 w1 (by exact E.out.s) (by omega) (by omega)).mono ?_
  rintro e w2 ⟨f, A, n, c, hD, hcf, rfl, hI, hA, hS, hk⟩
  have hps := E.out.s.lt
  have E := Lib.hid (E.out.kept hS hk)
  have F1 := Lib.hid (show (CR.mk A n c f).In w.heap.size w2 from CR.In.new hI hA hps)
  have HD := Lib.hid (show DrawC 6 f ∧ f.Fin from hD)
  have HNC := Lib.hid hcf
  have hnl : n ≤ 14 := by have h1 := HD.out.1.len; have h2 : f.vals.length = n := hI.1; omega
  clear hD hI hA hS hk hps hcf
  go_wp2_with fail
  refine (srcZero2_any w.heap.size 6 w2 (by exact E.out.s) (by omega) (by omega)).mono ?_
  rintro e w3 ⟨g, B, m, d, hD, hcf, rfl, hI, hA, hS, hk⟩
  have hps := E.out.s.lt
  have E := Lib.hid (E.out.kept hS hk)
  have F1 := Lib.hid (F1.out.kept hk)
  have G1 := Lib.hid (show (CR.mk B m d g).In w.heap.size w3 from CR.In.new hI hA hps)
  have HD2 := Lib.hid (show DrawC 6 g ∧ g.Fin from hD)
  have HMD := Lib.hid hcf
  have hml : m ≤ 14 := by have h1 := HD2.out.1.len; have h2 : g.vals.length = m := hI.1; omega
  have HGL := Lib.hid (show g.vals.length ≤ 14 from HD2.out.1.len)
  clear hD hI hA hS hk hps hcf
  go_wp2_with fail
  refine (n_any w.heap.size 30 w3 (by exact E.out.s) (by omega) (by omega)).mono ?_
  rintro e w4 ⟨nn, hz0, hz1, rfl, hS, hk⟩
  obtain ⟨N, rfl⟩ := Int.eq_ofNat_of_zero_le hz0
  have E := Lib.hid (E.out.kept hS hk)
  have F1 := Lib.hid (F1.out.kept hk)
  have G1 := Lib.hid (G1.out.kept hk)
  have E := Lib.hid (show EnvL w.heap.size w _ [(w4.heap.size, ⟨A, n, c, f⟩)] from E.out.push F1.out)
  have G1 := Lib.hid (G1.out.alloc (.cells #[.slice A n c, .int .i64 f.per, .int .i64 f.inc] 24))
  have E := Lib.hid (show EnvL w.heap.size w ((w4.alloc (.cells #[.slice A n c, .int .i64 f.per, .int .i64 f.inc] 24)).alloc (.cells #[.slice B m d, .int .i64 g.per, .int .i64 g.inc] 24)) [(w4.heap.size, ⟨A, n, c, f⟩), (w4.heap.size + 1, ⟨B, m, d, g⟩)] from by
    have := E.out.push G1.out
    simpa using this)
  clear hS hk F1 G1 hz0
  obtain ⟨x0, x1, x2, hlx⟩ := (E.out.get 0 rfl).cells
  obtain ⟨y0, y1, y2, hly⟩ := (E.out.get 1 rfl).cells
  go_wp2_with fail
  refine (refLater_any B m d g.per g.inc (N : Int) g.vals _ (by exact (E.out.get 1 rfl).inn.ints) (by omega) HMD.out).mono ?_
  rintro e w5 ⟨l, er, A2, n2, c2, hLS, hc2, rfl, hI, hA, hb⟩
  obtain ⟨rfl, hlo, hlat⟩ := later_made HD2.out.1.ok (by have := HGL.out; omega) hLS
  have HLO := Lib.hid hlo; have HLAT := Lib.hid hlat
  have hnl2 : n2 ≤ 400 := by have h1 := hlo.n2; have h2 : l.vals.length = n2 := hI.1; omega
  have hps := E.out.s.lt
  have E := Lib.hid (show EnvL w.heap.size w _ _ from (E.out.below hb).push (X := ⟨A2, n2, c2, l⟩) (CR.In.new hI hA hps))
  clear hLS hI hA hb hlo hlat hps x0 x1 x2 hlx y0 y1 y2 hly
  obtain ⟨x0, x1, x2, hlx⟩ := (E.out.get 0 rfl).cells
  obtain ⟨y0, y1, y2, hly⟩ := (E.out.get 1 rfl).cells
  obtain ⟨z0, z1, z2, hlz⟩ := (E.out.get 2 rfl).cells
  go_wp2_with fail
  refine (delay_any A B n m c d f.per f.inc g.per g.inc f.vals g.vals _ (by exact (E.out.get 0 rfl).inn.ints) (by exact (E.out.get 1 rfl).inn.ints) (by omega) (by omega)).mono ?_
  rintro e w6 ⟨i1, v1, a1, er1, hE1, rfl, hb⟩
  have hE1' : er1 = 0 ∧ ∃ v' A' : Nat, v1 = v' ∧ a1 = A' ∧ DelayS f g i1 v' A' := by
    rcases hE1 with ⟨h, _⟩ | ⟨_, _, _, h1, h2⟩
    · exact absurd (nf_pair HD.out.1.ok HD2.out.1.ok (n := 12) (by omega) (by omega) (fun a ha => HD.out.1.dvd ha) (fun b hb => HD2.out.1.dvd hb)) (h.not HD.out.1.ok HD2.out.1.ok)
    · exact ⟨h1, h2⟩
  obtain ⟨rfl, v1, a1, rfl, rfl, hS1⟩ := hE1'
  have HS1 := Lib.hid hS1
  have E := Lib.hid ((E.out.below hb).alloc (.cells #[.bool i1, .int .i64 v1, .int .i64 a1] 35))
  have D1 := Lib.hid (Blk.new w6 35 #[.bool i1, .int .i64 v1, .int .i64 a1])
  clear hE1 hS1 hb x0 x1 x2 hlx y0 y1 y2 hly z0 z1 z2 hlz
  obtain ⟨x0, x1, x2, hlx⟩ := (E.out.get 0 rfl).cells
  obtain ⟨z0, z1, z2, hlz⟩ := (E.out.get 2 rfl).cells
  go_wp2_with fail
  refine (delay_any A A2 n n2 c c2 f.per f.inc l.per l.inc f.vals l.vals _ (by exact (E.out.get 0 rfl).inn.ints) (by exact (E.out.get 2 rfl).inn.ints) (by omega) (by omega)).mono ?_
  rintro e w7 ⟨i2, v2, a2, er2, hE2, rfl, hb⟩
  have hE2' : er2 = 0 ∧ ∃ v' A' : Nat, v2 = v' ∧ a2 = A' ∧ DelayS f l i2 v' A' := by
    rcases hE2 with ⟨h, _⟩ | ⟨_, _, _, h1, h2⟩
    · exact absurd (nf_pair HD.out.1.ok HLO.out (n := 12) (by omega) (by omega) (fun a ha => HD.out.1.dvd ha) (fun b hb => later_dvd HD2.out.1 HLAT.out hb)) (h.not HD.out.1.ok HLO.out)
    · exact ⟨h1, h2⟩
  obtain ⟨rfl, v2', a2', hv2, ha2, hS2⟩ := hE2'
  obtain ⟨rfl, hq⟩ := later_law HD2.out.2 HLO.out HLAT.out HS1.out hS2
  have HQ := Lib.hid (show LaterQ i1 v1 N v2 from fun h => by have := hq h; rw [hv2]; omega)
  have D1 := Lib.hid ((D1.out.below hb D1.out.lt).alloc (.cells #[.bool i1, .int .i64 v2, .int .i64 a2] 35))
  have bw7 := (E.out.below hb).fin
  have D2 := Lib.hid (Blk.new w7 35 #[.bool i1, .int .i64 v2, .int .i64 a2])
  have BW := Lib.hid (bthen bw7 (balloc w7 (.cells #[.bool i1, .int .i64 v2, .int .i64 a2] 35)))
  clear hE2 hS2 hb hq hv2 ha2 bw7 E HLO HLAT HNC HMD HGL x0 x1 x2 hlx z0 z1 z2 hlz
  have a0 := D1.out.cell 0; have a1' := D1.out.cell 1
  have b0 := D2.out.cell 0; have b1 := D2.out.cell 1
  simp at a0 a1' b0 b1
  cases i1
  · have hq := HQ.out rfl
    obtain ⟨h1, h2, h3⟩ := hq
    have hvb := HS1.out.small HD.out.2 HD2.out.2
    clear HS1 HD HD2
    by_cases hv0 : v1 = 0
    · subst hv0
      go_wp2_with fail
      refine (awake10_any _).mono ?_
      rintro e wq ⟨rfl, hb⟩
      have bw := bthen BW.out hb
      go_wp2_with fail
      go_ret
      exact ⟨rfl, bw⟩
    · have h4 : v2 = v1 + N := h3.resolve_left (by omega)
      have hb0 : ((v1 : Int) == 0) = false := by simp; omega
      subst h4
      clear h1 h2 h3 hv0
      go_wp2_with fail
      refine (awake10_any _).mono ?_
      rintro e wq ⟨rfl, hb⟩
      have bw := bthen BW.out hb
      go_wp2_with fail
      go_ret
      exact ⟨rfl, bw⟩
  · go_wp2_with fail
    refine (awake10_any _).mono ?_
    rintro e wq ⟨rfl, hb⟩
    have bw := bthen BW.out hb
    go_wp2_with fail
    go_ret
    exact ⟨rfl, bw⟩
end Go.Proofs.Ytjlinbmjgijpiaa
