/- netcalculusref02.Wait: what it returns. -/
import Derived.Test.YtbkimphcmmmaiaaRefMade
import Derived.Test.YtbkimphcmmmaiaaRefSame
namespace Go.Proofs.Ytbkimphcmmmaiaa
open Go.RowKit
set_option linter.unusedVariables false

def waitV (n t : Nat) : Int := if t ≤ n then 0 else inf
/-- a drawn curve, some ticks ahead, is within the limits -/
theorem wait_inf {n : Nat} {v : Cv} (hv : v.Ok) (e : v.at = waitV n) (t : Nat) : v.infAt t ↔ n < t := by
  constructor
  · intro h
    have h1 := h.2
    rw [e] at h1
    unfold waitV at h1
    split at h1
    · exact absurd h1 (by decide)
    · omega
  · intro h
    refine ⟨?_, by rw [e]; unfold waitV; rw [if_neg (by omega)]⟩
    rcases hv.fin_or with fv | iv
    · exfalso
      have h2 := hv.n2
      have h4 : v.at (n + 1) = inf := by rw [e]; unfold waitV; rw [if_neg (by omega)]
      -- a finite curve of values 0 and inf would have to step to inf
      by_cases hn : n + 1 < v.vals.length
      · rw [Cv.at_lt hn] at h4
        exact (fv.ne _ hn).1 h4
      · have s1 := fv.toL.step (n + 1) (by omega)
        have s0 := fv.toL.step (v.vals.length - v.per.toNat) (Nat.le_refl _)
        have p1 := hv.p1; have pn := hv.pn; have i2 := hv.i2; have i1 := hv.i1
        have e1 : v.at (n + 1 + v.per.toNat) = inf := by rw [e]; unfold waitV; rw [if_neg (by omega)]
        rw [h4, e1] at s1
        have hi : v.inc = 0 := by omega
        -- then the values repeat
        have s2 := fv.toL.step.mul (n + 1) (v.vals.length - v.per.toNat) (Nat.le_refl _)
        rw [hi, Int.mul_zero, Int.add_zero] at s2
        have hge : (n + 1) * 1 ≤ (n + 1) * v.per.toNat := Nat.mul_le_mul_left _ (by omega)
        have e2 : v.at (v.vals.length - v.per.toNat + (n + 1) * v.per.toNat) = inf := by rw [e]; unfold waitV; rw [if_neg (by omega)]
        rw [e2, Cv.at_lt (by omega)] at s2
        exact (fv.ne _ (by omega)).1 s2.symm
    · exact iv
def waitC (n : Nat) : Cv := ⟨List.replicate (n + 1) 0 ++ [inf], 1, 0⟩
theorem waitC_len (n : Nat) : (waitC n).vals.length = n + 2 := by simp [waitC]
theorem waitC_nth (n k : Nat) (hk : k < n + 2) : nth (waitC n).vals k = waitV n k := by
  show nth (List.replicate (n + 1) 0 ++ [inf]) k = waitV n k
  unfold waitV
  rw [nth_append]
  simp only [List.length_replicate]
  rcases Nat.lt_or_ge k (n + 1) with h | h
  · rw [if_pos h, if_pos (by omega), nth_replicate]
  · rw [if_neg (by omega), if_neg (by omega), show k - (n + 1) = 0 by omega]; rfl
theorem waitV_up (n : Nat) : Up0 (waitV n) := ⟨by unfold waitV; rw [if_pos (Nat.zero_le _)]; exact Int.le_refl _, fun t => by
  unfold waitV
  split <;> split
  · exact Int.le_refl _
  · decide
  · omega
  · exact Int.le_refl _⟩
theorem waitC_nf (n : Nat) : NF (waitV n) (waitC n) := by
  have hl := waitC_len n
  refine .inr ⟨rfl, rfl, by omega, fun t ht => waitC_nth n t (by omega), fun t ht => ?_, fun t ht => ?_⟩
  · unfold waitV
    rw [if_pos (by omega)]
    decide
  · unfold waitV
    rw [if_neg (by omega)]
theorem waitC_lim {n : Nat} (hn : n ≤ 300) : Lim (waitC n) := by
  have hl := waitC_len n
  refine ⟨by omega, fun k hk => (okv_iff _).2 ?_, by show (1 : Int) ≤ 120; omega, by show (0 : Int) ≤ 1073741824; omega⟩
  rw [waitC_nth n k (by omega)]
  unfold waitV
  split
  · right; omega
  · left; rfl
theorem waitC_ok {n : Nat} (hn : n ≤ 300) : (waitC n).Ok := nf_lim_ok (waitC_nf n) (waitV_up n) (waitC_lim hn)
theorem waitC_at (n : Nat) : (waitC n).at = waitV n := funext (waitC_nf n).at
theorem own_made {w : World} {g n : Nat} (h : w.ownsRow g 3 1 (.slice (some ⟨g, 0, none⟩) n n) n (madeCells #[Value.int .i64 0] n).toList) : Own w g (.slice (some ⟨g, 0, none⟩) n n) n (List.replicate n 0) := by
  have e : (madeCells #[Value.int .i64 0] n).toList = (List.replicate n 0).map (Value.int .i64) := by simp [madeCells, Nat.mod_one, List.eq_replicate_iff]
  rw [e] at h
  exact h
set_option maxHeartbeats 1000000 in
theorem refWait_any (n : Nat) (hn : n ≤ 300) (w : World) : Calls Try.prog 32 #[.int .i64 n] w (RetS2 (fun f er => f = waitC n ∧ er = 0) w) := by
  have ok := waitC_ok hn
  have hl := waitC_len n
  obtain ⟨i0, hi0, hz0, hy1, hy2⟩ := info_parts info_int
  obtain ⟨N, hN⟩ : ∃ N : Nat, N = n + 1 := ⟨_, rfl⟩
  have e1 : IntKind.i64.wrap ((n : Int) + 1) = (N : Int) := by rw [IntWalk.i64_in _ (by omega)]; omega
  have e1' : (n : Int) + 1 = (N : Int) := by omega
  have e2 : IntKind.i64.wrap (N : Int) = (N : Int) := IntWalk.i64_in _ (by omega)
  have d1 : ¬ (n : Int) < 0 := by omega
  have d2 : ¬ (n : Int) ≥ 400 := by omega
  have RB0 := Lib.hid (Blk.new w 31 #[.slice none 0 0, .int .i64 0, .int .i64 0])
  have BW0 := Lib.hid (balloc w (.cells #[.slice none 0 0, .int .i64 0, .int .i64 0] 31))
  have HN := Lib.hid hN; have OK := Lib.hid ok; have HL := Lib.hid hl
  clear ok hl hN
  go_enter Try.func32, Try.ntmps32
  go_upto_region 5 with fail
  generalize hwe : w.alloc (.cells #[.slice none 0 0, .int .i64 0, .int .i64 0] 31) = we at *
  clear hwe
  go_wp2_with (at_make; refine wpList_make_full _ rfl _ _ 22 rfl we.heap.size 3 i0 _ 1 Try.underlying22 hi0 hz0 hy1 .i64 .i64 _ _ N rfl rfl rfl rfl (by rw [hy2]; omega) (by unfold maxLen; omega) (by simp) ?_)
  intro w3 own1 grow1
  have hb3 : Below we.heap.size we w3 := (Below.refl _ _).grown grow1 (by simp) (by simp)
  have ow := own_made own1
  have own1x := ow.alloc (.cells ([inf].map (Value.int .i64)).toArray 3)
  have IAy := ints_litC w3 [inf]
  rw [World.size_alloc] at IAy
  have hs3 := hb3.size
  go_wp2_with (at_builtin; refine wpList_app rfl _ _ 22 rfl Try.underlying22 we.heap.size (.slice (some ⟨we.heap.size, 0, none⟩) N N) N (List.replicate N 0) rfl own1x (w3.heap.size + 1) (some ⟨w3.heap.size, 0, none⟩) 1 1 [inf] rfl IAy (by omega) (by simp; omega) ?_)
  intro v2 w4 own2 grow2 at2
  have hb4 : Below we.heap.size we w4 := (hb3.alloc hs3 _).grown grow2 (by simp; omega) (fun g hg => (ow.blk_lt g hg).1)
  obtain ⟨A2, c2, rfl, hc2, hI2, hf2⟩ := own2.ints
  have RB := Lib.hid (RB0.out.below hb4 RB0.out.lt)
  have BW := Lib.hid (bthen BW0.out hb4)
  have I2 := Lib.hid hI2
  have hrs := RB0.out.lt
  clear hi0 hz0 hy1 hy2 own1 grow1 ow own1x IAy own2 grow2 at2 hb3 hb4 hI2 RB0 BW0 hs3
  have hv : List.replicate N 0 ++ [inf] = (waitC n).vals := by rw [HN.out]; rfl
  have ea : Cv.at ⟨List.replicate N 0 ++ [inf], 1, 0⟩ = waitV n := by rw [hv]; exact waitC_at n
  have TB := refMade_any A2 (N + 1) c2 1 0 (List.replicate N 0 ++ [inf]) w4 (by exact I2.out) hc2 (by rw [hv]; exact OK.out.pre) (by rw [ea]; exact waitV_up n) (fun m t hm h hmt => by
    rw [hv] at hm h
    rw [ea]
    rw [HL.out] at hm
    rw [waitC_nth n m hm] at h
    unfold waitV at h ⊢
    split at h
    · exact absurd h (by decide)
    · rw [if_neg (by omega)])
  rw [ea] at TB
  have TB := Lib.hid TB
  clear hv ea
  go_wp2_with fail
  refine TB.out.mono ?_
  rintro e w5 ⟨r, er, A5, n5, c5, hS, hc5, rfl, hI5, hA5, hbq⟩
  obtain ⟨rfl, rfl⟩ := hS.unique ⟨waitC n, waitC_nf n, .inl ⟨waitC_lim hn, rfl, rfl⟩⟩
  have hs0 := RB.out.lt
  replace RB := Lib.hid (RB.out.below hbq RB.out.lt)
  replace BW := Lib.hid (bthen BW.out hbq)
  have HI5 := Lib.hid hI5; have HA5 := Lib.hid hA5
  clear hS hI5 hA5 hbq TB
  obtain ⟨⟨r0, r1, r2⟩, ⟨y0, y1, y2⟩, hlr⟩ := RB.out.c3
  go_wp2_with fail
  have rb := RB.out.store3 (.slice A5 n5 c5) (.int .i64 (waitC n).per) (.int .i64 (waitC n).inc)
  refine bodyPost_ret (v := .tuple #[.agg #[.slice A5 n5 c5, .int .i64 (waitC n).per, .int .i64 (waitC n).inc], .int .i64 0]) (by simp [results, Try.results32, go_sem, rb.cell]) rfl ?_
  exact retS2_store (f := waitC n) (er := 0) ⟨rfl, rfl⟩ hc5 HA5.out (Nat.le_refl _) hs0 HI5.out BW.out
end Go.Proofs.Ytbkimphcmmmaiaa
