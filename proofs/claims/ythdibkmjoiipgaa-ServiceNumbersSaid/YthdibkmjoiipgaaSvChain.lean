/- service.Chain: what it returns. -/
import Derived.Test.YthdibkmjoiipgaaPace
import Derived.Test.YthdibkmjoiipgaaArith
import Derived.Deep.LoopGhost
namespace Go.Proofs.Ythdibkmjoiipgaa
open Go.RowKit
set_option linter.unusedVariables false

/-- two servers, one after the other -/
def chJ (s x : PN) : PN := ⟨if fcmp x.R x.r s.R s.r < 0 then x.R else s.R, if fcmp x.R x.r s.R s.r < 0 then x.r else s.r, (fadd s.L s.l x.L x.l).1, (fadd s.L s.l x.L x.l).2.1⟩
def chE (s x : PN) : Int := (fadd s.L s.l x.L x.l).2.2
theorem chJ_good {s x : PN} (hs : s.Good) (hx : x.Good) (he : chE s x = 0) : (chJ s x).Good := by
  unfold chE fadd at he
  rw [if_pos ⟨hs.2.1, hx.2.1⟩] at he
  have hd : 1 ≤ s.l * x.l := by
    have : 1 * 1 ≤ s.l * x.l := Int.mul_le_mul hs.2.1.1 hx.2.1.1 (by omega) (by have := hs.2.1.1; omega)
    omega
  have h0 : 0 ≤ s.L * x.l + x.L * s.l := by
    have h1 : 0 ≤ s.L * x.l := Int.mul_nonneg hs.2.2 (by have := hx.2.1.1; omega)
    have h2 : 0 ≤ x.L * s.l := Int.mul_nonneg hx.2.2 (by have := hs.2.1.1; omega)
    omega
  unfold PN.Good chJ fadd
  rw [if_pos (⟨hs.2.1, hx.2.1⟩ : FOk s.L s.l ∧ FOk x.L x.l)]
  dsimp only
  refine ⟨?_, fnew_ok hd he, ?_⟩
  · split
    · exact hx.1
    · exact hs.1
  · unfold fnew at he ⊢
    split
    · rename_i h
      rw [if_pos h] at he
      rw [if_neg (by omega)]
      exact Int.natCast_nonneg _
    · simp
def foldP : PN → List PN → PN × Int
  | s, [] => (s, 0)
  | s, x :: xs => if chE s x = 0 then foldP (chJ s x) xs else (⟨0, 0, 0, 0⟩, chE s x)
set_option maxHeartbeats 2000000 in
set_option maxRecDepth 100000 in
theorem chain1_any (s x : PN) (w : World) (hs : s.Good) (hx : x.Good) :
    Calls Try.prog 65 #[.agg #[.int .i64 s.R, .int .i64 s.r, .int .i64 s.L, .int .i64 s.l], .agg #[.int .i64 x.R, .int .i64 x.r, .int .i64 x.L, .int .i64 x.l]] w fun e w' =>
      e = .returned (.tuple #[.agg #[.int .i64 (chJ s x).R, .int .i64 (chJ s x).r, .int .i64 (chJ s x).L, .int .i64 (chJ s x).l], .int .i64 (chE s x)]) ∧ Below w.heap.size w w' := by
  have SB := Lib.hid (((Blk.new w 25 #[.int .i64 s.R, .int .i64 s.r, .int .i64 s.L, .int .i64 s.l]).alloc (.cells #[.int .i64 x.R, .int .i64 x.r, .int .i64 x.L, .int .i64 x.l] 25)).alloc (.cells #[.int .i64 0, .int .i64 0, .int .i64 0, .int .i64 0] 25))
  have xb := (Blk.new (w.alloc (.cells #[.int .i64 s.R, .int .i64 s.r, .int .i64 s.L, .int .i64 s.l] 25)) 25 #[.int .i64 x.R, .int .i64 x.r, .int .i64 x.L, .int .i64 x.l]).alloc (.cells #[.int .i64 0, .int .i64 0, .int .i64 0, .int .i64 0] 25)
  have rb := Blk.new ((w.alloc (.cells #[.int .i64 s.R, .int .i64 s.r, .int .i64 s.L, .int .i64 s.l] 25)).alloc (.cells #[.int .i64 x.R, .int .i64 x.r, .int .i64 x.L, .int .i64 x.l] 25)) 25 #[.int .i64 0, .int .i64 0, .int .i64 0, .int .i64 0]
  simp only [World.size_alloc] at xb rb
  have XB := Lib.hid xb; have RB := Lib.hid rb
  have BW := Lib.hid (bthen (bthen (balloc w (.cells #[.int .i64 s.R, .int .i64 s.r, .int .i64 s.L, .int .i64 s.l] 25)) (balloc _ (.cells #[.int .i64 x.R, .int .i64 x.r, .int .i64 x.L, .int .i64 x.l] 25))) (balloc _ (.cells #[.int .i64 0, .int .i64 0, .int .i64 0, .int .i64 0] 25)))
  clear xb rb
  have HS := Lib.hid hs; have HX := Lib.hid hx
  clear hs hx
  obtain ⟨vR, hvR⟩ : ∃ v, v = (chJ s x).R := ⟨_, rfl⟩
  obtain ⟨vr, hvr⟩ : ∃ v, v = (chJ s x).r := ⟨_, rfl⟩
  obtain ⟨vL, hvL⟩ : ∃ v, v = (chJ s x).L := ⟨_, rfl⟩
  obtain ⟨vl, hvl⟩ : ∃ v, v = (chJ s x).l := ⟨_, rfl⟩
  obtain ⟨er, her⟩ : ∃ v, v = chE s x := ⟨_, rfl⟩
  rw [← hvR, ← hvr, ← hvL, ← hvl, ← her]
  have HVR := Lib.hid hvR; have HVr := Lib.hid hvr
  have HV := Lib.hid (show (fadd s.L s.l x.L x.l).1 = vL from hvL.symm); have HL := Lib.hid (show (fadd s.L s.l x.L x.l).2.1 = vl from hvl.symm); have HE := Lib.hid (show (fadd s.L s.l x.L x.l).2.2 = er from her.symm)
  clear hvR hvr hvL hvl her
  go_enter Try.func65, Try.ntmps65
  go_upto_region 1 with fail
  generalize hwe : ((w.alloc (.cells #[.int .i64 s.R, .int .i64 s.r, .int .i64 s.L, .int .i64 s.l] 25)).alloc (.cells #[.int .i64 x.R, .int .i64 x.r, .int .i64 x.L, .int .i64 x.l] 25)).alloc (.cells #[.int .i64 0, .int .i64 0, .int .i64 0, .int .i64 0] 25) = we at *
  clear hwe
  obtain ⟨s0, s1, s2, s3⟩ : _ ∧ _ ∧ _ ∧ _ := ⟨SB.out.cell 0, SB.out.cell 1, SB.out.cell 2, SB.out.cell 3⟩
  obtain ⟨x0, x1, x2, x3⟩ : _ ∧ _ ∧ _ ∧ _ := ⟨XB.out.cell 0, XB.out.cell 1, XB.out.cell 2, XB.out.cell 3⟩
  obtain ⟨f0, f1, f2, f3⟩ : _ ∧ _ ∧ _ ∧ _ := ⟨SB.out.frozen 0, SB.out.frozen 1, SB.out.frozen 2, SB.out.frozen 3⟩
  simp at s0 s1 s2 s3 x0 x1 x2 x3
  have hls := SB.out.lt; have hlx := XB.out.lt
  go_wp2_with fail
  refine (fcmp_any x.R x.r s.R s.r _ HX.out.1.1 HS.out.1.1).mono ?_
  generalize hcv : fcmp x.R x.r s.R s.r = cv
  have HCV := Lib.hid hcv
  clear hcv
  rintro e w1 ⟨rfl, hb⟩
  replace SB := Lib.hid (SB.out.below hb SB.out.lt); replace XB := Lib.hid (XB.out.below hb XB.out.lt); replace RB := Lib.hid (RB.out.below hb RB.out.lt); replace BW := Lib.hid (bthen BW.out hb)
  clear hb
  clear s0 s1 s2 s3 x0 x1 x2 x3 f0 f1 f2 f3 hls hlx
  obtain ⟨s0, s1, s2, s3⟩ : _ ∧ _ ∧ _ ∧ _ := ⟨SB.out.cell 0, SB.out.cell 1, SB.out.cell 2, SB.out.cell 3⟩
  obtain ⟨x0, x1, x2, x3⟩ : _ ∧ _ ∧ _ ∧ _ := ⟨XB.out.cell 0, XB.out.cell 1, XB.out.cell 2, XB.out.cell 3⟩
  obtain ⟨f0, f1, f2, f3⟩ : _ ∧ _ ∧ _ ∧ _ := ⟨SB.out.frozen 0, SB.out.frozen 1, SB.out.frozen 2, SB.out.frozen 3⟩
  simp at s0 s1 s2 s3 x0 x1 x2 x3
  have hls := SB.out.lt; have hlx := XB.out.lt
  by_cases hc : cv < 0
  · have dc : decide (cv < 0) = true := by simpa using hc
    have e1 : vR = x.R := by rw [HVR.out]; unfold chJ; exact if_pos (by rw [HCV.out]; exact hc)
    have e2 : vr = x.r := by rw [HVr.out]; unfold chJ; exact if_pos (by rw [HCV.out]; exact hc)
    subst e1
    subst e2
    clear hc HVR HVr HCV
    go_upto_region 3 with fail
    have hws := hls
    have hxs := hlx
    clear s0 s1 s2 s3 x0 x1 x2 x3 f0 f1 f2 f3 hls hlx
    replace SB := Lib.hid ((SB.out.set_ 0 (.int .i64 x.R)).set_ 1 (.int .i64 x.r))
    replace XB := Lib.hid ((XB.out.far (p := ⟨w.heap.size, 0, none⟩) (by simp) (.int .i64 x.R)).far (p := ⟨w.heap.size, 1, none⟩) (by simp) (.int .i64 x.r))
    replace RB := Lib.hid ((RB.out.far (p := ⟨w.heap.size, 0, none⟩) (by simp; omega) (.int .i64 x.R)).far (p := ⟨w.heap.size, 1, none⟩) (by simp; omega) (.int .i64 x.r))
    replace BW := Lib.hid ((BW.out.setCell (p := ⟨w.heap.size, 0, none⟩) (Nat.le_refl _) (.int .i64 x.R)).setCell (p := ⟨w.heap.size, 1, none⟩) (Nat.le_refl _) (.int .i64 x.r))
    generalize hwe : (w1.setCell ⟨w.heap.size, 0, none⟩ (.int .i64 x.R)).setCell ⟨w.heap.size, 1, none⟩ (.int .i64 x.r) = w2 at *
    clear hwe dc
    obtain ⟨s0, s1, s2, s3⟩ : _ ∧ _ ∧ _ ∧ _ := ⟨SB.out.cell 0, SB.out.cell 1, SB.out.cell 2, SB.out.cell 3⟩
    obtain ⟨x0, x1, x2, x3⟩ : _ ∧ _ ∧ _ ∧ _ := ⟨XB.out.cell 0, XB.out.cell 1, XB.out.cell 2, XB.out.cell 3⟩
    obtain ⟨f0, f1, f2, f3⟩ : _ ∧ _ ∧ _ ∧ _ := ⟨SB.out.frozen 0, SB.out.frozen 1, SB.out.frozen 2, SB.out.frozen 3⟩
    simp at s0 s1 s2 s3 x0 x1 x2 x3
    have hls := SB.out.lt; have hlx := XB.out.lt
    go_wp2_with fail
    refine (fadd_any s.L s.l x.L x.l _).mono ?_
    rw [HV.out, HL.out, HE.out]
    rintro e w3 ⟨rfl, hb⟩
    replace SB := Lib.hid (SB.out.below hb SB.out.lt); replace XB := Lib.hid (XB.out.below hb XB.out.lt); replace RB := Lib.hid (RB.out.below hb RB.out.lt); replace BW := Lib.hid (bthen BW.out hb)
    clear hb
    clear s0 s1 s2 s3 x0 x1 x2 x3 f0 f1 f2 f3 hls hlx
    obtain ⟨s0, s1, s2, s3⟩ : _ ∧ _ ∧ _ ∧ _ := ⟨SB.out.cell 0, SB.out.cell 1, SB.out.cell 2, SB.out.cell 3⟩
    obtain ⟨x0, x1, x2, x3⟩ : _ ∧ _ ∧ _ ∧ _ := ⟨XB.out.cell 0, XB.out.cell 1, XB.out.cell 2, XB.out.cell 3⟩
    obtain ⟨f0, f1, f2, f3⟩ : _ ∧ _ ∧ _ ∧ _ := ⟨SB.out.frozen 0, SB.out.frozen 1, SB.out.frozen 2, SB.out.frozen 3⟩
    simp at s0 s1 s2 s3 x0 x1 x2 x3
    have hls := SB.out.lt; have hlx := XB.out.lt
    clear s0 s1 s2 s3 x0 x1 x2 x3 f0 f1 f2 f3 hls hlx
    replace SB := Lib.hid (SB.out.alloc (.cells #[.int .i64 vL, .int .i64 vl] 23)); replace RB := Lib.hid (RB.out.alloc (.cells #[.int .i64 vL, .int .i64 vl] 23))
    replace BW := Lib.hid (bthen BW.out (balloc _ (.cells #[.int .i64 vL, .int .i64 vl] 23)))
    have FB := Lib.hid (Blk.new w3 23 #[.int .i64 vL, .int .i64 vl])
    have hf3 : w.heap.size < w3.heap.size := by have := XB.out.lt; omega
    clear XB
    go_upto_region 4 with fail
    generalize hwe : w3.alloc (.cells #[.int .i64 vL, .int .i64 vl] 23) = w4 at *
    clear hwe
    generalize w3.heap.size = F at *
    obtain ⟨s0, s1, s2, s3⟩ : _ ∧ _ ∧ _ ∧ _ := ⟨SB.out.cell 0, SB.out.cell 1, SB.out.cell 2, SB.out.cell 3⟩
    obtain ⟨f0, f1, f2, f3⟩ : _ ∧ _ ∧ _ ∧ _ := ⟨SB.out.frozen 0, SB.out.frozen 1, SB.out.frozen 2, SB.out.frozen 3⟩
    obtain ⟨q0, q1⟩ : _ ∧ _ := ⟨FB.out.cell 0, FB.out.cell 1⟩
    simp at s0 s1 s2 s3 q0 q1
    have hls := SB.out.lt; have hlf := FB.out.lt
    go_upto_region 5 with fail
    clear s0 s1 s2 s3 f0 f1 f2 f3 q0 q1 hlf
    replace SB := Lib.hid ((SB.out.set_ 2 (.int .i64 vL)).set_ 3 (.int .i64 vl))
    replace RB := Lib.hid ((RB.out.far (p := ⟨w.heap.size, 2, none⟩) (by simp; omega) (.int .i64 vL)).far (p := ⟨w.heap.size, 3, none⟩) (by simp; omega) (.int .i64 vl))
    replace BW := Lib.hid ((BW.out.setCell (p := ⟨w.heap.size, 2, none⟩) (Nat.le_refl _) (.int .i64 vL)).setCell (p := ⟨w.heap.size, 3, none⟩) (Nat.le_refl _) (.int .i64 vl))
    generalize hwe : (w4.setCell ⟨w.heap.size, 2, none⟩ (.int .i64 vL)).setCell ⟨w.heap.size, 3, none⟩ (.int .i64 vl) = w5 at *
    clear hwe FB
    obtain ⟨s0, s1, s2, s3⟩ : _ ∧ _ ∧ _ ∧ _ := ⟨SB.out.cell 0, SB.out.cell 1, SB.out.cell 2, SB.out.cell 3⟩
    obtain ⟨f0, f1, f2, f3⟩ : _ ∧ _ ∧ _ ∧ _ := ⟨RB.out.frozen 0, RB.out.frozen 1, RB.out.frozen 2, RB.out.frozen 3⟩
    obtain ⟨r0, r1, r2, r3⟩ : _ ∧ _ ∧ _ ∧ _ := ⟨RB.out.cell 0, RB.out.cell 1, RB.out.cell 2, RB.out.cell 3⟩
    simp at s0 s1 s2 s3 r0 r1 r2 r3
    have hls := SB.out.lt; have hlr := RB.out.lt
    go_wp2_with fail
    have rb := (((RB.out.set_ 0 (.int .i64 x.R)).set_ 1 (.int .i64 x.r)).set_ 2 (.int .i64 vL)).set_ 3 (.int .i64 vl)
    exact bodyPost_ret (v := .tuple #[.agg #[.int .i64 x.R, .int .i64 x.r, .int .i64 vL, .int .i64 vl], .int .i64 er]) (by simp [results, Try.results65, go_sem, rb.cell]) rfl ⟨rfl, (((BW.out.setCell (by simp; omega) _).setCell (by simp; omega) _).setCell (by simp; omega) _).setCell (by simp; omega) _⟩
  · have dc : decide (cv < 0) = false := by simpa using hc
    have e1 : vR = s.R := by rw [HVR.out]; unfold chJ; exact if_neg (by rw [HCV.out]; exact hc)
    have e2 : vr = s.r := by rw [HVr.out]; unfold chJ; exact if_neg (by rw [HCV.out]; exact hc)
    subst e1
    subst e2
    clear hc HVR HVr HCV
    go_upto_region 3 with fail
    clear dc
    clear s0 s1 s2 s3 x0 x1 x2 x3 f0 f1 f2 f3 hls hlx
    obtain ⟨s0, s1, s2, s3⟩ : _ ∧ _ ∧ _ ∧ _ := ⟨SB.out.cell 0, SB.out.cell 1, SB.out.cell 2, SB.out.cell 3⟩
    obtain ⟨x0, x1, x2, x3⟩ : _ ∧ _ ∧ _ ∧ _ := ⟨XB.out.cell 0, XB.out.cell 1, XB.out.cell 2, XB.out.cell 3⟩
    obtain ⟨f0, f1, f2, f3⟩ : _ ∧ _ ∧ _ ∧ _ := ⟨SB.out.frozen 0, SB.out.frozen 1, SB.out.frozen 2, SB.out.frozen 3⟩
    simp at s0 s1 s2 s3 x0 x1 x2 x3
    have hls := SB.out.lt; have hlx := XB.out.lt
    go_wp2_with fail
    refine (fadd_any s.L s.l x.L x.l _).mono ?_
    rw [HV.out, HL.out, HE.out]
    rintro e w3 ⟨rfl, hb⟩
    replace SB := Lib.hid (SB.out.below hb SB.out.lt); replace XB := Lib.hid (XB.out.below hb XB.out.lt); replace RB := Lib.hid (RB.out.below hb RB.out.lt); replace BW := Lib.hid (bthen BW.out hb)
    clear hb
    clear s0 s1 s2 s3 x0 x1 x2 x3 f0 f1 f2 f3 hls hlx
    obtain ⟨s0, s1, s2, s3⟩ : _ ∧ _ ∧ _ ∧ _ := ⟨SB.out.cell 0, SB.out.cell 1, SB.out.cell 2, SB.out.cell 3⟩
    obtain ⟨x0, x1, x2, x3⟩ : _ ∧ _ ∧ _ ∧ _ := ⟨XB.out.cell 0, XB.out.cell 1, XB.out.cell 2, XB.out.cell 3⟩
    obtain ⟨f0, f1, f2, f3⟩ : _ ∧ _ ∧ _ ∧ _ := ⟨SB.out.frozen 0, SB.out.frozen 1, SB.out.frozen 2, SB.out.frozen 3⟩
    simp at s0 s1 s2 s3 x0 x1 x2 x3
    have hls := SB.out.lt; have hlx := XB.out.lt
    clear s0 s1 s2 s3 x0 x1 x2 x3 f0 f1 f2 f3 hls hlx
    replace SB := Lib.hid (SB.out.alloc (.cells #[.int .i64 vL, .int .i64 vl] 23)); replace RB := Lib.hid (RB.out.alloc (.cells #[.int .i64 vL, .int .i64 vl] 23))
    replace BW := Lib.hid (bthen BW.out (balloc _ (.cells #[.int .i64 vL, .int .i64 vl] 23)))
    have FB := Lib.hid (Blk.new w3 23 #[.int .i64 vL, .int .i64 vl])
    have hf3 : w.heap.size < w3.heap.size := by have := XB.out.lt; omega
    clear XB
    go_upto_region 4 with fail
    generalize hwe : w3.alloc (.cells #[.int .i64 vL, .int .i64 vl] 23) = w4 at *
    clear hwe
    generalize w3.heap.size = F at *
    obtain ⟨s0, s1, s2, s3⟩ : _ ∧ _ ∧ _ ∧ _ := ⟨SB.out.cell 0, SB.out.cell 1, SB.out.cell 2, SB.out.cell 3⟩
    obtain ⟨f0, f1, f2, f3⟩ : _ ∧ _ ∧ _ ∧ _ := ⟨SB.out.frozen 0, SB.out.frozen 1, SB.out.frozen 2, SB.out.frozen 3⟩
    obtain ⟨q0, q1⟩ : _ ∧ _ := ⟨FB.out.cell 0, FB.out.cell 1⟩
    simp at s0 s1 s2 s3 q0 q1
    have hls := SB.out.lt; have hlf := FB.out.lt
    go_upto_region 5 with fail
    clear s0 s1 s2 s3 f0 f1 f2 f3 q0 q1 hlf
    replace SB := Lib.hid ((SB.out.set_ 2 (.int .i64 vL)).set_ 3 (.int .i64 vl))
    replace RB := Lib.hid ((RB.out.far (p := ⟨w.heap.size, 2, none⟩) (by simp; omega) (.int .i64 vL)).far (p := ⟨w.heap.size, 3, none⟩) (by simp; omega) (.int .i64 vl))
    replace BW := Lib.hid ((BW.out.setCell (p := ⟨w.heap.size, 2, none⟩) (Nat.le_refl _) (.int .i64 vL)).setCell (p := ⟨w.heap.size, 3, none⟩) (Nat.le_refl _) (.int .i64 vl))
    generalize hwe : (w4.setCell ⟨w.heap.size, 2, none⟩ (.int .i64 vL)).setCell ⟨w.heap.size, 3, none⟩ (.int .i64 vl) = w5 at *
    clear hwe FB
    obtain ⟨s0, s1, s2, s3⟩ : _ ∧ _ ∧ _ ∧ _ := ⟨SB.out.cell 0, SB.out.cell 1, SB.out.cell 2, SB.out.cell 3⟩
    obtain ⟨f0, f1, f2, f3⟩ : _ ∧ _ ∧ _ ∧ _ := ⟨RB.out.frozen 0, RB.out.frozen 1, RB.out.frozen 2, RB.out.frozen 3⟩
    obtain ⟨r0, r1, r2, r3⟩ : _ ∧ _ ∧ _ ∧ _ := ⟨RB.out.cell 0, RB.out.cell 1, RB.out.cell 2, RB.out.cell 3⟩
    simp at s0 s1 s2 s3 r0 r1 r2 r3
    have hls := SB.out.lt; have hlr := RB.out.lt
    go_wp2_with fail
    have rb := (((RB.out.set_ 0 (.int .i64 s.R)).set_ 1 (.int .i64 s.r)).set_ 2 (.int .i64 vL)).set_ 3 (.int .i64 vl)
    exact bodyPost_ret (v := .tuple #[.agg #[.int .i64 s.R, .int .i64 s.r, .int .i64 vL, .int .i64 vl], .int .i64 er]) (by simp [results, Try.results65, go_sem, rb.cell]) rfl ⟨rfl, (((BW.out.setCell (by simp; omega) _).setCell (by simp; omega) _).setCell (by simp; omega) _).setCell (by simp; omega) _⟩
theorem RowQ.tail {w : World} {b o : Nat} {x : PN} {xs : List PN} (h : RowQ w b o (x :: xs)) : RowQ w b (o + 4) xs :=
  ⟨h.lt, fun k j y hy hj => by
    have := h.cell (k + 1) j y (by simpa using hy) hj
    rwa [show o + (k + 1) * 4 + j = o + 4 + k * 4 + j by omega] at this⟩
set_option maxHeartbeats 4000000 in
set_option maxRecDepth 100000 in
theorem foldP_any (b o c n : Nat) (hd : PN) (xs : List PN) (w : World) (hl : xs.length + 1 = n) (hn : (n : Int) ≤ 9223372036854775807) (hnc : n ≤ c) (hrow : RowQ w b o (hd :: xs)) (hg : ∀ x ∈ hd :: xs, x.Good) :
    Calls Try.prog 64 #[.slice (some ⟨b, o, none⟩) n c, .func (.func 65) #[] #[]] w fun e w' =>
      e = .returned (.tuple #[.agg #[.int .i64 (foldP hd xs).1.R, .int .i64 (foldP hd xs).1.r, .int .i64 (foldP hd xs).1.L, .int .i64 (foldP hd xs).1.l], .int .i64 (foldP hd xs).2]) ∧ Below w.heap.size w w' := by
  have hx0 := hg hd (List.mem_cons_self ..)
  have ROW := Lib.hid hrow
  have RT := Lib.hid (show RowQ w b (o + 4) xs from hrow.tail)
  have HG := Lib.hid (fun x hx => hg x (List.mem_cons_of_mem _ hx)); have HL := Lib.hid (show xs.length = n - 1 by omega)
  have hn1 : 1 ≤ n := by omega
  clear hrow hg hl
  have RB := Lib.hid (Blk.new w 25 #[.int .i64 0, .int .i64 0, .int .i64 0, .int .i64 0])
  have BW := Lib.hid (balloc w (.cells #[.int .i64 0, .int .i64 0, .int .i64 0, .int .i64 0] 25))
  go_enter Try.func64, Try.ntmps64
  obtain ⟨y, hy, x0', x1', x2', x3'⟩ := (ROW.out.below BW.out).get (k := 0) (by simp)
  simp only [List.getElem?_cons_zero, Option.some.injEq] at hy
  subst hy
  simp only [Nat.zero_mul, Nat.add_zero] at x0' x1' x2' x3'
  have hlb := (ROW.out.below BW.out).lt
  have hn1i : (1 : Int) ≤ n := by omega
  have hn0i : (0 : Int) < n := by omega
  have hnci : (n : Int) ≤ c := by omega
  go_upto_region 2 with fail
  have ZB := Lib.hid (show Blk ((w.alloc (.cells #[.int .i64 0, .int .i64 0, .int .i64 0, .int .i64 0] 25)).alloc (.cells #[.int .i64 hd.R, .int .i64 hd.r, .int .i64 hd.L, .int .i64 hd.l] 25)) (w.heap.size + 1) 25 #[.int .i64 hd.R, .int .i64 hd.r, .int .i64 hd.L, .int .i64 hd.l] from by
    have h := Blk.new (w.alloc (.cells #[.int .i64 0, .int .i64 0, .int .i64 0, .int .i64 0] 25)) 25 #[.int .i64 hd.R, .int .i64 hd.r, .int .i64 hd.L, .int .i64 hd.l]
    rwa [World.size_alloc] at h)
  replace RB := Lib.hid (RB.out.alloc (.cells #[.int .i64 hd.R, .int .i64 hd.r, .int .i64 hd.L, .int .i64 hd.l] 25)); replace BW := Lib.hid (bthen BW.out (balloc _ (.cells #[.int .i64 hd.R, .int .i64 hd.r, .int .i64 hd.L, .int .i64 hd.l] 25)))
  generalize hwe : (w.alloc (.cells #[.int .i64 0, .int .i64 0, .int .i64 0, .int .i64 0] 25)).alloc (.cells #[.int .i64 hd.R, .int .i64 hd.r, .int .i64 hd.L, .int .i64 hd.l] 25) = we at *
  clear hwe x0' x1' x2' x3' hlb
  obtain ⟨Z, hZ⟩ : ∃ Z, Z = w.heap.size + 1 := ⟨_, rfl⟩
  rw [← hZ] at ZB ⊢
  have hzw : w.heap.size < Z := by omega
  clear hZ
  go_cut [0, 16, 17, 18] (fun s0 s16 s17 s18 wx => ∃ A', s16 = .slice A' (n - 1) (c - 1) ∧ Hid (1 < n → A' = some ⟨b, o + 4, none⟩) ∧ s17 = .int .i64 ((n - 1 : Nat) : Int) ∧ s18 = .int .i64 0 ∧ wx = we)
  case first =>
    go_wp2_with fail
    · have hc1 : c = 1 := by first | assumption | omega
      go_meet
      exact ⟨_, by rw [hc1], Lib.hid (fun h => by omega), rfl, rfl, rfl⟩
    · go_meet
      exact ⟨_, rfl, Lib.hid (fun _ => rfl), rfl, rfl, rfl⟩
  case rest =>
  obtain ⟨A', rfl, HA', rfl, rfl, rfl⟩ := hcut
  go_wp2_with fail
  go_loopg [5, 18] (n - 1) (fun gg s5 s18 wx => ∃ (k : Nat) (s : PN), k + gg = n - 1 ∧ s18 = .int .i64 k ∧ s5 = .int .i64 0 ∧ s.Good ∧ Blk wx Z 25 #[.int .i64 s.R, .int .i64 s.r, .int .i64 s.L, .int .i64 s.l] ∧
    foldP s (xs.drop k) = foldP hd xs ∧ Blk wx w.heap.size 25 #[.int .i64 0, .int .i64 0, .int .i64 0, .int .i64 0] ∧ Below w.heap.size w wx)
  case atStart => exact ⟨0, hd, by omega, rfl, rfl, hx0, ZB.out, by rw [List.drop_zero], RB.out, BW.out⟩
  case round =>
    clear ZB RB BW hx0 ROW
    obtain ⟨k, s, hkg, rfl, rfl, hs, hZB, hT, hRB, hBW⟩ := hrel
    have ZB := Lib.hid hZB; have HT := Lib.hid hT; have RB := Lib.hid hRB; have BW := Lib.hid hBW; have HS := Lib.hid hs
    clear hZB hT hRB hBW hs
    by_cases hk : k < n - 1
    · have hki : (k : Int) < (n - 1 : Nat) := by omega
      have ha' := HA'.out (by omega)
      subst ha'
      obtain ⟨x, hx, x0, x1, x2, x3⟩ := (RT.out.below BW.out).get (k := k) (by rw [HL.out]; exact hk)
      have hxg := HG.out x (List.mem_of_getElem? hx)
      have hgl := (RT.out.below BW.out).lt
      have HX := Lib.hid hx; have HXG := Lib.hid hxg
      clear hx hxg
      have XB := Lib.hid (Blk.new wr 25 #[.int .i64 x.R, .int .i64 x.r, .int .i64 x.L, .int .i64 x.l])
      have hzl := ZB.out.lt
      replace ZB := Lib.hid (ZB.out.alloc (.cells #[.int .i64 x.R, .int .i64 x.r, .int .i64 x.L, .int .i64 x.l] 25)); replace RB := Lib.hid (RB.out.alloc (.cells #[.int .i64 x.R, .int .i64 x.r, .int .i64 x.L, .int .i64 x.l] 25)); replace BW := Lib.hid (bthen BW.out (balloc _ (.cells #[.int .i64 x.R, .int .i64 x.r, .int .i64 x.L, .int .i64 x.l] 25)))
      go_upto_region 5 with fail
      clear x0 x1 x2 x3 hgl
      generalize hwe : wr.alloc (.cells #[.int .i64 x.R, .int .i64 x.r, .int .i64 x.L, .int .i64 x.l] 25) = we at *
      clear hwe
      generalize wr.heap.size = X at *
      obtain ⟨q0, q1, q2, q3⟩ : _ ∧ _ ∧ _ ∧ _ := ⟨ZB.out.cell 0, ZB.out.cell 1, ZB.out.cell 2, ZB.out.cell 3⟩
      obtain ⟨q4, q5, q6, q7⟩ : _ ∧ _ ∧ _ ∧ _ := ⟨ZB.out.frozen 0, ZB.out.frozen 1, ZB.out.frozen 2, ZB.out.frozen 3⟩
      simp at q0 q1 q2 q3
      have hlq := ZB.out.lt
      obtain ⟨x0, x1, x2, x3⟩ : _ ∧ _ ∧ _ ∧ _ := ⟨XB.out.cell 0, XB.out.cell 1, XB.out.cell 2, XB.out.cell 3⟩
      obtain ⟨x4, x5, x6, x7⟩ : _ ∧ _ ∧ _ ∧ _ := ⟨XB.out.frozen 0, XB.out.frozen 1, XB.out.frozen 2, XB.out.frozen 3⟩
      simp at x0 x1 x2 x3
      have hlx := XB.out.lt
      go_wp2_with fail
      refine (chain1_any s x _ HS.out HXG.out).mono ?_
      have hdr : xs.drop k = x :: xs.drop (k + 1) := by
        rw [List.drop_eq_getElem_cons (show k < xs.length by rw [HL.out]; exact hk)]
        have := HX.out
        rw [List.getElem?_eq_getElem (show k < xs.length by rw [HL.out]; exact hk)] at this
        injection this with this
        rw [this]
      have HTN := Lib.hid (show (if chE s x = 0 then foldP (chJ s x) (xs.drop (k + 1)) else (⟨0, 0, 0, 0⟩, chE s x)) = foldP hd xs from by rw [← HT.out, hdr]; rfl)
      have HJ := Lib.hid (fun h => chJ_good HS.out HXG.out h)
      clear HS HXG HX hdr HT
      rintro e w5 ⟨rfl, hb⟩
      have hwz : we.heap.size ≤ w5.heap.size := hb.size
      have hwb := BW.out.size
      clear q0 q1 q2 q3 q4 q5 q6 q7 hlq
      clear x0 x1 x2 x3 x4 x5 x6 x7 hlx
      have hzn : Z < w5.heap.size := (ZB.out.below hb ZB.out.lt).lt
      replace ZB := Lib.hid ((ZB.out.below hb ZB.out.lt).alloc (.cells #[.int .i64 (chJ s x).R, .int .i64 (chJ s x).r, .int .i64 (chJ s x).L, .int .i64 (chJ s x).l] 25)); replace RB := Lib.hid ((RB.out.below hb RB.out.lt).alloc (.cells #[.int .i64 (chJ s x).R, .int .i64 (chJ s x).r, .int .i64 (chJ s x).L, .int .i64 (chJ s x).l] 25)); replace BW := Lib.hid (bthen (bthen BW.out hb) (balloc _ (.cells #[.int .i64 (chJ s x).R, .int .i64 (chJ s x).r, .int .i64 (chJ s x).L, .int .i64 (chJ s x).l] 25)))
      have NB := Lib.hid (Blk.new w5 25 #[.int .i64 (chJ s x).R, .int .i64 (chJ s x).r, .int .i64 (chJ s x).L, .int .i64 (chJ s x).l])
      clear hb XB
      go_upto_region 6 with fail
      generalize hwe : w5.alloc (.cells #[.int .i64 (chJ s x).R, .int .i64 (chJ s x).r, .int .i64 (chJ s x).L, .int .i64 (chJ s x).l] 25) = w6 at *
      clear hwe
      generalize w5.heap.size = N at *
      generalize chJ s x = y at *
      generalize chE s x = er at *
      by_cases he : er = 0
      · have d1 : (er != 0) = false := by simpa using he
        have HTE := Lib.hid (show foldP y (xs.drop (k + 1)) = foldP hd xs from by rw [← HTN.out, if_pos he])
        have HY := Lib.hid (HJ.out he)
        clear he HTN HJ
        obtain ⟨q0, q1, q2, q3⟩ : _ ∧ _ ∧ _ ∧ _ := ⟨ZB.out.cell 0, ZB.out.cell 1, ZB.out.cell 2, ZB.out.cell 3⟩
        obtain ⟨q4, q5, q6, q7⟩ : _ ∧ _ ∧ _ ∧ _ := ⟨ZB.out.frozen 0, ZB.out.frozen 1, ZB.out.frozen 2, ZB.out.frozen 3⟩
        simp at q0 q1 q2 q3
        have hlq := ZB.out.lt
        obtain ⟨y0, y1, y2, y3⟩ : _ ∧ _ ∧ _ ∧ _ := ⟨NB.out.cell 0, NB.out.cell 1, NB.out.cell 2, NB.out.cell 3⟩
        obtain ⟨y4, y5, y6, y7⟩ : _ ∧ _ ∧ _ ∧ _ := ⟨NB.out.frozen 0, NB.out.frozen 1, NB.out.frozen 2, NB.out.frozen 3⟩
        simp at y0 y1 y2 y3
        have hly := NB.out.lt
        have Z2 := Lib.hid ((((ZB.out.set_ 0 (.int .i64 y.R)).set_ 1 (.int .i64 y.r)).set_ 2 (.int .i64 y.L)).set_ 3 (.int .i64 y.l))
        have R2 := Lib.hid ((((RB.out.far (p := ⟨Z, 0, none⟩) (by simp; omega) (.int .i64 y.R)).far (p := ⟨Z, 1, none⟩) (by simp; omega) (.int .i64 y.r)).far (p := ⟨Z, 2, none⟩) (by simp; omega) (.int .i64 y.L)).far (p := ⟨Z, 3, none⟩) (by simp; omega) (.int .i64 y.l))
        have B2 := Lib.hid ((((BW.out.setCell (p := ⟨Z, 0, none⟩) (Nat.le_of_lt hzw) (.int .i64 y.R)).setCell (p := ⟨Z, 1, none⟩) (Nat.le_of_lt hzw) (.int .i64 y.r)).setCell (p := ⟨Z, 2, none⟩) (Nat.le_of_lt hzw) (.int .i64 y.L)).setCell (p := ⟨Z, 3, none⟩) (Nat.le_of_lt hzw) (.int .i64 y.l))
        go_wp2_with fail
        go_roundg (gk - 1)
        case measure => omega
        case rel => exact ⟨k + 1, y, by omega, by go_num, rfl, HY.out, Z2.out, HTE.out, R2.out, B2.out⟩
      · have d1 : (er != 0) = true := by simpa using he
        have FN := Lib.hid (show foldP hd xs = (⟨0, 0, 0, 0⟩, er) from by rw [← HTN.out, if_neg he])
        replace RB := Lib.hid (RB.out.alloc (.cells #[.int .i64 0, .int .i64 0, .int .i64 0, .int .i64 0] 25)); replace BW := Lib.hid (bthen BW.out (balloc _ (.cells #[.int .i64 0, .int .i64 0, .int .i64 0, .int .i64 0] 25)))
        clear he HTN ZB NB HJ
        have hrl := RB.out.lt
        have VB := Lib.hid (Blk.new w6 25 #[.int .i64 0, .int .i64 0, .int .i64 0, .int .i64 0])
        go_upto_region 8 with fail
        generalize hwe : w6.alloc (.cells #[.int .i64 0, .int .i64 0, .int .i64 0, .int .i64 0] 25) = w7 at *
        clear hwe
        generalize w6.heap.size = V at *
        obtain ⟨v0, v1, v2, v3⟩ : _ ∧ _ ∧ _ ∧ _ := ⟨VB.out.cell 0, VB.out.cell 1, VB.out.cell 2, VB.out.cell 3⟩
        obtain ⟨v4, v5, v6, v7⟩ : _ ∧ _ ∧ _ ∧ _ := ⟨VB.out.frozen 0, VB.out.frozen 1, VB.out.frozen 2, VB.out.frozen 3⟩
        simp at v0 v1 v2 v3
        have hlv := VB.out.lt
        obtain ⟨r0, r1, r2, r3⟩ : _ ∧ _ ∧ _ ∧ _ := ⟨RB.out.cell 0, RB.out.cell 1, RB.out.cell 2, RB.out.cell 3⟩
        obtain ⟨r4, r5, r6, r7⟩ : _ ∧ _ ∧ _ ∧ _ := ⟨RB.out.frozen 0, RB.out.frozen 1, RB.out.frozen 2, RB.out.frozen 3⟩
        simp at r0 r1 r2 r3
        have hlr := RB.out.lt
        go_wp2_with fail
        have rb := (((RB.out.set_ 0 (.int .i64 0)).set_ 1 (.int .i64 0)).set_ 2 (.int .i64 0)).set_ 3 (.int .i64 0)
        refine bodyPost_ret (v := .tuple #[.agg #[.int .i64 0, .int .i64 0, .int .i64 0, .int .i64 0], .int .i64 er]) (by simp [results, Try.results64, go_sem, rb.cell]) rfl ?_
        refine ⟨by rw [FN.out], (((BW.out.setCell (by simp) _).setCell (by simp) _).setCell (by simp) _).setCell (by simp) _⟩
    · have hkn : k = n - 1 := by omega
      have hki : ¬ (k : Int) < (n - 1 : Nat) := by omega
      have FN := Lib.hid (show foldP hd xs = (s, 0) from by rw [← HT.out, List.drop_eq_nil_of_le (by rw [HL.out]; omega)]; rfl)
      clear hk hkn HT
      obtain ⟨q0, q1, q2, q3⟩ : _ ∧ _ ∧ _ ∧ _ := ⟨ZB.out.cell 0, ZB.out.cell 1, ZB.out.cell 2, ZB.out.cell 3⟩
      obtain ⟨q4, q5, q6, q7⟩ : _ ∧ _ ∧ _ ∧ _ := ⟨ZB.out.frozen 0, ZB.out.frozen 1, ZB.out.frozen 2, ZB.out.frozen 3⟩
      simp at q0 q1 q2 q3
      have hlq := ZB.out.lt
      obtain ⟨r0, r1, r2, r3⟩ : _ ∧ _ ∧ _ ∧ _ := ⟨RB.out.cell 0, RB.out.cell 1, RB.out.cell 2, RB.out.cell 3⟩
      obtain ⟨r4, r5, r6, r7⟩ : _ ∧ _ ∧ _ ∧ _ := ⟨RB.out.frozen 0, RB.out.frozen 1, RB.out.frozen 2, RB.out.frozen 3⟩
      simp at r0 r1 r2 r3
      have hlr := RB.out.lt
      go_wp2_with fail
      have rb := (((RB.out.set_ 0 (.int .i64 s.R)).set_ 1 (.int .i64 s.r)).set_ 2 (.int .i64 s.L)).set_ 3 (.int .i64 s.l)
      refine bodyPost_ret (v := .tuple #[.agg #[.int .i64 s.R, .int .i64 s.r, .int .i64 s.L, .int .i64 s.l], .int .i64 0]) (by simp [results, Try.results64, go_sem, rb.cell]) rfl ?_
      refine ⟨by rw [FN.out], (((BW.out.setCell (by simp) _).setCell (by simp) _).setCell (by simp) _).setCell (by simp) _⟩
/-- what Chain returns -/
def ChS (ps : List PN) (r : PN) (er : Int) : Prop :=
  ((ps = [] ∨ ∃ x ∈ ps, ¬ x.Good) ∧ r = ⟨0, 0, 0, 0⟩ ∧ er = 2) ∨ ((∀ x ∈ ps, x.Good) ∧ ∃ hd tl, ps = hd :: tl ∧ foldP hd tl = (r, er))
def RetP (S : PN → Int → Prop) (w : World) (e : Ending) (w' : World) : Prop :=
  ∃ (r : PN) (er : Int), S r er ∧ e = .returned (.tuple #[.agg #[.int .i64 r.R, .int .i64 r.r, .int .i64 r.L, .int .i64 r.l], .int .i64 er]) ∧ Below w.heap.size w w'
set_option maxHeartbeats 4000000 in
set_option maxRecDepth 100000 in
theorem chain_any (A : Option Addr) (n c : Nat) (ps : List PN) (w : World) (hl : ps.length = n) (hn9 : (n : Int) ≤ 9223372036854775807) (hnc : n ≤ c) (hrow : 0 < n → ∃ g o, A = some ⟨g, o, none⟩ ∧ RowQ w g o ps) :
    Calls Try.prog 17 #[.slice A n c] w (RetP (ChS ps) w) := by
  have RB := Lib.hid (Blk.new w 25 #[.int .i64 0, .int .i64 0, .int .i64 0, .int .i64 0])
  have BW := Lib.hid (balloc w (.cells #[.int .i64 0, .int .i64 0, .int .i64 0, .int .i64 0] 25))
  have HL := Lib.hid hl; have HROW := Lib.hid hrow
  clear hl hrow
  go_enter Try.func17, Try.ntmps17
  go_upto_region 1 with fail
  generalize hwe : w.alloc (.cells #[.int .i64 0, .int .i64 0, .int .i64 0, .int .i64 0] 25) = w1 at *
  clear hwe
  by_cases h0 : n = 0
  · subst h0
    have FN := Lib.hid (show ChS ps ⟨0, 0, 0, 0⟩ 2 from .inl ⟨.inl (List.eq_nil_of_length_eq_zero HL.out), rfl, rfl⟩)
    obtain ⟨r0, r1, r2, r3⟩ : _ ∧ _ ∧ _ ∧ _ := ⟨RB.out.cell 0, RB.out.cell 1, RB.out.cell 2, RB.out.cell 3⟩
    obtain ⟨r4, r5, r6, r7⟩ : _ ∧ _ ∧ _ ∧ _ := ⟨RB.out.frozen 0, RB.out.frozen 1, RB.out.frozen 2, RB.out.frozen 3⟩
    simp at r0 r1 r2 r3
    have hlr := RB.out.lt
    go_wp2_with fail
    have rb := (((RB.out.set_ 0 (.int .i64 0)).set_ 1 (.int .i64 0)).set_ 2 (.int .i64 0)).set_ 3 (.int .i64 0)
    refine bodyPost_ret (v := .tuple #[.agg #[.int .i64 0, .int .i64 0, .int .i64 0, .int .i64 0], .int .i64 2]) (by simp [results, Try.results17, go_sem, rb.cell]) rfl ?_
    refine ⟨⟨0, 0, 0, 0⟩, 2, FN.out, rfl, (((BW.out.setCell (by simp) _).setCell (by simp) _).setCell (by simp) _).setCell (by simp) _⟩
  · have d0 : ((n : Int) == 0) = false := by simp; omega
    obtain ⟨g, o, hg, hrow⟩ := HROW.out (by omega)
    subst hg
    have ROW := Lib.hid hrow
    clear hrow HROW
    have hn1 : 1 ≤ n := by omega
    clear h0
    go_wp2_with fail
    clear d0
    go_loopg [12] n (fun gg s12 wx => ∃ k : Nat, k + gg = n ∧ s12 = .int .i64 k ∧ (∀ (j : Nat) (x : PN), j < k → ps[j]? = some x → x.Good) ∧ Blk wx w.heap.size 25 #[.int .i64 0, .int .i64 0, .int .i64 0, .int .i64 0] ∧ Below w.heap.size w wx)
    case atStart => exact ⟨0, by omega, rfl, fun j x hj => by omega, RB.out, BW.out⟩
    case round =>
      clear RB BW
      obtain ⟨k, hkg, rfl, hG, hRB, hBW⟩ := hrel
      have RB := Lib.hid hRB; have BW := Lib.hid hBW; have HG := Lib.hid hG
      clear hRB hBW hG
      by_cases hk : k < n
      · have hki : (k : Int) < n := by omega
        obtain ⟨x, hx, x0, x1, x2, x3⟩ := (ROW.out.below BW.out).get (k := k) (by rw [HL.out]; exact hk)
        have hgl := (ROW.out.below BW.out).lt
        have HX := Lib.hid hx
        clear hx
        have XB := Lib.hid (Blk.new wr 25 #[.int .i64 x.R, .int .i64 x.r, .int .i64 x.L, .int .i64 x.l])
        replace RB := Lib.hid (RB.out.alloc (.cells #[.int .i64 x.R, .int .i64 x.r, .int .i64 x.L, .int .i64 x.l] 25)); replace BW := Lib.hid (bthen BW.out (balloc wr (.cells #[.int .i64 x.R, .int .i64 x.r, .int .i64 x.L, .int .i64 x.l] 25)))
        go_upto_region 6 with fail
        clear x0 x1 x2 x3 hgl
        generalize hwe : wr.alloc (.cells #[.int .i64 x.R, .int .i64 x.r, .int .i64 x.L, .int .i64 x.l] 25) = we at *
        clear hwe
        generalize wr.heap.size = X at *
        obtain ⟨x0, x1, x2, x3⟩ : _ ∧ _ ∧ _ ∧ _ := ⟨XB.out.cell 0, XB.out.cell 1, XB.out.cell 2, XB.out.cell 3⟩
        obtain ⟨x4, x5, x6, x7⟩ : _ ∧ _ ∧ _ ∧ _ := ⟨XB.out.frozen 0, XB.out.frozen 1, XB.out.frozen 2, XB.out.frozen 3⟩
        simp at x0 x1 x2 x3
        have hlx := XB.out.lt
        go_wp2_with fail
        refine (svalid_any x.R x.r x.L x.l _).mono ?_
        by_cases hgd : x.Good
        · rw [bokB_t hgd]
          rintro e w2 ⟨rfl, hb⟩
          replace RB := Lib.hid (RB.out.below hb RB.out.lt); replace BW := Lib.hid (bthen BW.out hb)
          have G2 := Lib.hid (show ∀ (j : Nat) (y : PN), j < k + 1 → ps[j]? = some y → y.Good from fun j y hj hy => by
            rcases Nat.lt_or_ge j k with h1 | h1
            · exact HG.out j y h1 hy
            · obtain rfl : j = k := by omega
              rw [HX.out] at hy
              injection hy with hy
              subst hy
              exact hgd)
          clear x0 x1 x2 x3 x4 x5 x6 x7 hlx
          clear hb hgd XB
          go_wp2_with fail
          go_roundg (gk - 1)
          case measure => omega
          case rel => exact ⟨k + 1, by omega, by go_num, G2.out, RB.out, BW.out⟩
        · rw [bokB_f hgd]
          rintro e w2 ⟨rfl, hb⟩
          replace RB := Lib.hid (RB.out.below hb RB.out.lt); replace BW := Lib.hid (bthen BW.out hb)
          have FN := Lib.hid (show ChS ps ⟨0, 0, 0, 0⟩ 2 from .inl ⟨.inr ⟨x, List.mem_of_getElem? HX.out, hgd⟩, rfl, rfl⟩)
          clear x0 x1 x2 x3 x4 x5 x6 x7 hlx
          clear hb hgd XB
          obtain ⟨r0, r1, r2, r3⟩ : _ ∧ _ ∧ _ ∧ _ := ⟨RB.out.cell 0, RB.out.cell 1, RB.out.cell 2, RB.out.cell 3⟩
          obtain ⟨r4, r5, r6, r7⟩ : _ ∧ _ ∧ _ ∧ _ := ⟨RB.out.frozen 0, RB.out.frozen 1, RB.out.frozen 2, RB.out.frozen 3⟩
          simp at r0 r1 r2 r3
          have hlr := RB.out.lt
          go_wp2_with fail
          have rb := (((RB.out.set_ 0 (.int .i64 0)).set_ 1 (.int .i64 0)).set_ 2 (.int .i64 0)).set_ 3 (.int .i64 0)
          refine bodyPost_ret (v := .tuple #[.agg #[.int .i64 0, .int .i64 0, .int .i64 0, .int .i64 0], .int .i64 2]) (by simp [results, Try.results17, go_sem, rb.cell]) rfl ?_
          refine ⟨⟨0, 0, 0, 0⟩, 2, FN.out, rfl, (((BW.out.setCell (by simp) _).setCell (by simp) _).setCell (by simp) _).setCell (by simp) _⟩
      · have hkn : k = n := by omega
        have GD := Lib.hid (show ∀ x ∈ ps, x.Good from fun x hx => by
          obtain ⟨j, hj, he⟩ := List.getElem_of_mem hx
          exact HG.out j x (by rw [hkn, ← HL.out]; exact hj) (by rw [List.getElem?_eq_getElem hj, he]))
        have hki : ¬ (k : Int) < n := by omega
        clear HG hkn hk
        obtain ⟨hd, xs, rfl⟩ : ∃ hd xs, ps = hd :: xs := by
          cases ps with
          | nil => have := HL.out; simp at this; omega
          | cons p0 xs => exact ⟨p0, xs, rfl⟩
        go_wp2_with fail
        refine (foldP_any g o c n hd xs _ (by have := HL.out; simpa using this) hn9 hnc (ROW.out.below BW.out) GD.out).mono ?_
        have FN := Lib.hid (show ChS (hd :: xs) (foldP hd xs).1 (foldP hd xs).2 from .inr ⟨GD.out, hd, xs, rfl, rfl⟩)
        generalize (foldP hd xs).1 = r at *
        generalize (foldP hd xs).2 = er at *
        rintro e w2 ⟨rfl, hb⟩
        replace RB := Lib.hid (RB.out.below hb RB.out.lt); replace BW := Lib.hid (bthen BW.out hb)
        clear hb
        obtain ⟨r0, r1, r2, r3⟩ : _ ∧ _ ∧ _ ∧ _ := ⟨RB.out.cell 0, RB.out.cell 1, RB.out.cell 2, RB.out.cell 3⟩
        obtain ⟨r4, r5, r6, r7⟩ : _ ∧ _ ∧ _ ∧ _ := ⟨RB.out.frozen 0, RB.out.frozen 1, RB.out.frozen 2, RB.out.frozen 3⟩
        simp at r0 r1 r2 r3
        have hlr := RB.out.lt
        go_wp2_with fail
        have rb := (((RB.out.set_ 0 (.int .i64 r.R)).set_ 1 (.int .i64 r.r)).set_ 2 (.int .i64 r.L)).set_ 3 (.int .i64 r.l)
        refine bodyPost_ret (v := .tuple #[.agg #[.int .i64 r.R, .int .i64 r.r, .int .i64 r.L, .int .i64 r.l], .int .i64 er]) (by simp [results, Try.results17, go_sem, rb.cell]) rfl ?_
        refine ⟨r, er, FN.out, rfl, (((BW.out.setCell (by simp) _).setCell (by simp) _).setCell (by simp) _).setCell (by simp) _⟩
end Go.Proofs.Ythdibkmjoiipgaa
