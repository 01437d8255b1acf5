/- netcalculusref02's Normal: what it returns. -/
import Derived.Test.YthdibkmjoiipgaaLeast
import Derived.Test.YthdibkmjoiipgaaSto
import Derived.Test.YthdibkmjoiipgaaMade
namespace Go.Proofs.Ythdibkmjoiipgaa
open Go.RowKit
set_option linter.unusedVariables false


set_option maxHeartbeats 1000000 in
theorem refNormal_any (A : Option Addr) (n c : Nat) (p i : Int) (zs : List Int) (w : World) (hA : Ints w w.heap.size A n zs) (hc : n ≤ c) (hn : (n : Int) ≤ 1000000) :
    Calls Try.prog 95 #[.agg #[.slice A n c, .int .i64 p, .int .i64 i]] w (RetS (NormR ⟨zs, p, i⟩) w) := by
  have E0 := Lib.hid (LB.new (p := p) (i := i) (c := c) hA)
  by_cases ok : Cv.Ok ⟨zs, p, i⟩
  · have hob := Cv.okB_true ok
    have OK := Lib.hid ok
    clear ok hA
    go_enter Try.func95, Try.ntmps95
    go_wp2_with fail
    refine (refValid_any A n c p i zs _ E0.out.ints hn).mono ?_
    rintro e w1 ⟨rfl, hb⟩
    rw [hob]
    have E := Lib.hid (E0.out.below hb)
    clear E0 hb
    obtain ⟨f0, f1, f2, hlf⟩ := E.out.cells
    obtain ⟨r0, r1, r2, z0, z1, z2, hlr⟩ := E.out.rcells
    go_wp2_with fail
    refine (refLeast_any A n c p i zs _ E.out.ints hc OK.out.pre).mono ?_
    rintro e w2 ⟨g, A2, n2, c2, hS, hc2, rfl, hI, hge, hb⟩
    obtain ⟨hnf, hok, _⟩ := LeastS.ok OK.out hS
    have F := Lib.hid (show NormR ⟨zs, p, i⟩ g 0 from .inl ⟨OK.out, hnf, hok, rfl⟩)
    have HI := Lib.hid hI
    have hl1 := Nat.lt_of_lt_of_le hlr hb.size
    have E := Lib.hid (E.out.below hb)
    clear hb hI hnf hok hS f0 f1 f2 r0 r1 r2 z0 z1 z2
    obtain ⟨r0, r1, r2, z0, z1, z2, hlr2⟩ := E.out.rcells
    go_wp2_with fail
    have rb := E.out.rb.store3 (.slice A2 n2 c2) (.int .i64 g.per) (.int .i64 g.inc)
    have bw := E.out.bw
    exact bodyPost_ret (v := .tuple #[.agg #[.slice A2 n2 c2, .int .i64 g.per, .int .i64 g.inc], .int .i64 0]) (by simp [results, Try.results95, go_sem, rb.cell]) rfl
      ⟨g, 0, F.out, retC_store3' hge (by omega) hlr HI.out bw⟩
  · have hob := Cv.okB_false ok
    have F := Lib.hid (show NormR ⟨zs, p, i⟩ Cv.none 1 from .inr ⟨ok, rfl, rfl⟩)
    clear ok hA
    go_enter Try.func95, Try.ntmps95
    go_wp2_with fail
    refine (refValid_any A n c p i zs _ E0.out.ints hn).mono ?_
    rintro e w1 ⟨rfl, hb⟩
    rw [hob]
    have E := Lib.hid (E0.out.below hb)
    clear E0 hb
    obtain ⟨f0, f1, f2, hlf⟩ := E.out.cells
    obtain ⟨r0, r1, r2, z0, z1, z2, hlr⟩ := E.out.rcells
    go_wp2_with fail
    have rb := E.out.rb.store3 (.slice none 0 0) (.int .i64 0) (.int .i64 0)
    have bw := E.out.bw
    exact bodyPost_ret (v := .tuple #[.agg #[.slice none 0 0, .int .i64 0, .int .i64 0], .int .i64 1]) (by simp [results, Try.results95, go_sem, rb.cell]) rfl
      ⟨Cv.none, 1, F.out, none, 0, 0, rfl, Ints.none_, (fun b off s h => by cases h), ((bw.setCell (by simp) _).setCell (by simp) _).setCell (by simp) _⟩

end Go.Proofs.Ythdibkmjoiipgaa
