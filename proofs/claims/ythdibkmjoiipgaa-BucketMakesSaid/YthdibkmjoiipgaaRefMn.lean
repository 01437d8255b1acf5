/- netcalculusref05.Minimum. -/
import Derived.Test.YthdibkmjoiipgaaRefExt
import Derived.Test.YthdibkmjoiipgaaPwKit
namespace Go.Proofs.Ythdibkmjoiipgaa
open Go.RowKit
set_option linter.unusedVariables false
-- netcalculus/netcalculusref05.Minimum the function, true flag, refMin_any the name
set_option maxHeartbeats 1000000 in
set_option maxRecDepth 100000 in
theorem refMin_any (A0 B0 : Option Addr) (n0 m0 c0 d0 : Nat) (p i q j : Int) (xs ys : List Int) (w : World) (hA : Ints w w.heap.size A0 n0 xs) (hB : Ints w w.heap.size B0 m0 ys) (hn : (n0 : Int) ≤ 1000000) (hm : (m0 : Int) ≤ 1000000) (hnc : n0 ≤ c0) (hmd : m0 ≤ d0) :
    Calls Try.prog 50 #[.agg #[.slice A0 n0 c0, .int .i64 p, .int .i64 i], .agg #[.slice B0 m0 d0, .int .i64 q, .int .i64 j]] w (RetS2 (ExtS true ⟨xs, p, i⟩ ⟨ys, q, j⟩) w) := by
  have P := Lib.hid ((PT.new (c := c0) (p := p) (i := i) (d := d0) (q := q) (j := j) hA hB).alloc (.cells #[.slice none 0 0, .int .i64 0, .int .i64 0] 46))
  have rb := Blk.new ((w.alloc (.cells #[.slice A0 n0 c0, .int .i64 p, .int .i64 i] 46)).alloc (.cells #[.slice B0 m0 d0, .int .i64 q, .int .i64 j] 46)) 46 #[.slice none 0 0, .int .i64 0, .int .i64 0]
  rw [World.size_alloc, World.size_alloc] at rb
  have RB := Lib.hid rb
  have HNC := Lib.hid hnc; have HMD := Lib.hid hmd
  clear hA hB rb hnc hmd
  go_enter Try.func50, Try.ntmps50
  go_wp2_with fail
  refine (refExt_any A0 B0 n0 m0 c0 d0 p i q j true xs ys _ P.out.ia P.out.ib hn hm HNC.out HMD.out).mono ?_
  rintro e w1 ⟨r, er, A5, n5, c5, hS, hc5, rfl, hI5, hA5, hb⟩
  have hs0 := RB.out.lt
  replace RB := Lib.hid (RB.out.below hb RB.out.lt)
  have BW := Lib.hid (bthen P.out.bw hb)
  have FN := Lib.hid hS; have HI5 := Lib.hid hI5; have HA5 := Lib.hid hA5
  clear hS hI5 hA5 hb P
  obtain ⟨⟨r0, r1, r2⟩, ⟨y0, y1, y2⟩, hlr⟩ := RB.out.c3
  go_wp2_with fail
  have rb := RB.out.store3 (.slice A5 n5 c5) (.int .i64 r.per) (.int .i64 r.inc)
  refine bodyPost_ret (v := .tuple #[.agg #[.slice A5 n5 c5, .int .i64 r.per, .int .i64 r.inc], .int .i64 er]) (by simp [results, Try.results50, go_sem, rb.cell]) rfl ?_
  exact retS2_store FN.out hc5 HA5.out (by omega) hs0 HI5.out BW.out
end Go.Proofs.Ythdibkmjoiipgaa
