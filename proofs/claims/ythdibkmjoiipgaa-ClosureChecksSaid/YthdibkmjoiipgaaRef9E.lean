/- netcalculusref09: Check. -/
import Derived.Test.YthdibkmjoiipgaaClPv
import Derived.Test.YthdibkmjoiipgaaRef9D
import Derived.Test.YthdibkmjoiipgaaRefNormal
import Derived.Test.YthdibkmjoiipgaaRefExc
namespace Go.Proofs.Ythdibkmjoiipgaa
open Go.RowKit
set_option linter.unusedVariables false
theorem ck9_iff {f a h : Cv} {fr : Int} {cs : List Int} {F L : Nat} (hf : f.Ok) (ha : NF f.at a) (hh : h.Ok) (hn : NF h.at h) (h0 : nth h.vals 0 = 0) (hL : L = clL a h) (hL2 : L ≤ 120) (hF : F = clF a h) (hfr : fr = (F : Int)) (hk : cs.length = F + L) (hle : LEC h a) (hB : AddB h) :
    CkC f h fr cs ↔ ∀ t, t < F + L → FitQ a h t (nth cs t) := by
  have hF1 : 1 ≤ F := by rw [hF]; unfold clF; omega
  rw [ckC_iff hf ha]
  constructor
  · rintro ⟨_, _, _, _, ⟨_, _, h2, h3⟩, _, _⟩ t ht
    rcases Nat.eq_zero_or_pos t with e | e
    · exact .inl ⟨e, by rw [e]; exact h2⟩
    · have := h3 t e (by omega)
      exact .inr ⟨e, this.1, this.2⟩
  · intro H
    refine ⟨hh, hn, h0, by omega, ⟨by rw [hfr, hF], by rw [hk, hF, hL], ?_, fun t h1 h2 => ?_⟩, hle, hB⟩
    · rcases H 0 (by omega) with q | q
      · exact q.2
      · omega
    · rcases H t (by omega) with q | q
      · omega
      · exact q.2
set_option maxHeartbeats 4000000 in
set_option maxRecDepth 100000 in
theorem check9_any (A B C : Option Addr) (n c m d k e0 : Nat) (f h : Cv) (fr : Int) (cs : List Int) (w : World) (hA : Ints w w.heap.size A n f.vals) (hB : Ints w w.heap.size B m h.vals) (hC : Ints w w.heap.size C k cs) (hnc : n ≤ c) (hmd : m ≤ d) (hn : (n : Int) ≤ 1000000) (hm : (m : Int) ≤ 1000000) (hk : (k : Int) ≤ 1000000) :
    Calls Try.prog 47 #[.agg #[.slice A n c, .int .i64 f.per, .int .i64 f.inc], .agg #[.slice B m d, .int .i64 h.per, .int .i64 h.inc, .int .i64 fr, .slice C k e0]] w (RetQ (CkC f h fr cs) w) := by
  have E := Lib.hid (CK.new (c := c) (d := d) (fr := fr) (e0 := e0) hA hB hC)
  clear hA hB hC
  go_enter Try.func47, Try.ntmps47
  go_upto_region 1 with fail
  generalize hwe : (w.alloc (.cells #[.slice A n c, .int .i64 f.per, .int .i64 f.inc] 46)).alloc (.cells #[.slice B m d, .int .i64 h.per, .int .i64 h.inc, .int .i64 fr, .slice C k e0] 63) = we at *
  clear hwe
  obtain ⟨⟨f0, f1, f2⟩, ⟨p0, p1, p2, p3, p4⟩, hlp⟩ := E.out.cells
  go_wp2_with fail
  refine (refNormal_any A n c f.per f.inc f.vals _ (by exact E.out.ia) hnc (by omega)).mono ?_
  rintro e w1 ⟨a, er, hN, A1, n1, c1, rfl, hI, hA, hb⟩
  have HN := Lib.hid (show NormR f a er from hN)
  have VA := Lib.hid (Vr.new (c := c1) hI)
  replace E := Lib.hid ((E.out.below hb).alloc (.cells #[.slice A1 n1 c1, .int .i64 a.per, .int .i64 a.inc] 46))
  clear hN hI hA hb
  clear f0 f1 f2 p0 p1 p2 p3 p4 hlp
  go_upto_region 2 with fail
  generalize hwe : w1.alloc (.cells #[.slice A1 n1 c1, .int .i64 a.per, .int .i64 a.inc] 46) = w2 at *
  clear hwe
  generalize w1.heap.size = ZA at *
  obtain ⟨⟨f0, f1, f2⟩, ⟨p0, p1, p2, p3, p4⟩, hlp⟩ := E.out.cells
  go_upto_region 3 with fail
  have VH := Lib.hid (Vr.new (c := d) E.out.ib)
  replace E := Lib.hid (E.out.alloc (.cells #[.slice B m d, .int .i64 h.per, .int .i64 h.inc] 46)); replace VA := Lib.hid (VA.out.below (balloc w2 (.cells #[.slice B m d, .int .i64 h.per, .int .i64 h.inc] 46)))
  clear f0 f1 f2 p0 p1 p2 p3 p4 hlp
  generalize hwe : w2.alloc (.cells #[.slice B m d, .int .i64 h.per, .int .i64 h.inc] 46) = w3 at *
  clear hwe
  generalize w2.heap.size = ZH at *
  replace E := Lib.hid (CK.drew E.out); replace VA := Lib.hid (Vr.drew VA.out); replace VH := Lib.hid (Vr.drew VH.out)
  rcases HN.out with ⟨hfo, hnf, hao, rfl⟩ | ⟨hfo, hgn, rfl⟩
  case inr =>
    have NO := Lib.hid (show ¬ CkC f h fr cs from fun q => hfo q.1)
    clear hfo hgn HN
    obtain ⟨⟨h0, h1, h2⟩, hlh⟩ := VH.out.c
    refine wp_region_held_drew (S := (fun w' => w'.cell? ⟨ZH, 0, none⟩ = some (.slice B m d) ∧ w'.cell? ⟨ZH, 1, none⟩ = some (.int .i64 h.per) ∧ w'.cell? ⟨ZH, 2, none⟩ = some (.int .i64 h.inc))) (by kernel_rfl) (by exact ⟨h0, h1, h2⟩) (fun hHeld => ?_)
    generalize hwd : w3.drew = wd at *
    clear hwd
    refine wpAnyH_take (i := 0) (oi := _) (v := ?_) (by simp only [g8a, g8z]; rfl) (by kernel_rfl) (by kernel_rfl) (by kernel_rfl) (by exact fun _ _ _ h => h) (Or.inl ⟨by rfl, ?_⟩) (by assumption) ?_
    rotate_left 1
    · (intro w hSw; (try dsimp only at hSw); go_simp; try with_reducible rfl)
    all_goals ((try simp only [Act.put]); try simp only [g8b, g8c, g8d])
    refine wpAnyH_take (i := 1) (oi := _) (v := ?_) (by simp only [g8a, g8s, g8z]; rfl) (by kernel_rfl) (by kernel_rfl) (by kernel_rfl) (by exact fun _ _ _ h => h) (Or.inl ⟨by rfl, ?_⟩) (by assumption) ?_
    rotate_left 1
    · (intro w hSw; (try dsimp only at hSw); go_simp; try with_reducible rfl)
    all_goals ((try simp only [Act.put]); try simp only [g8b, g8c, g8d])
    refine wpAnyH_take (i := 2) (oi := _) (v := ?_) (by simp only [g8a, g8s, g8z]; rfl) (by kernel_rfl) (by kernel_rfl) (by kernel_rfl) (by exact fun _ _ _ h => h) (Or.inl ⟨by rfl, ?_⟩) (by assumption) ?_
    rotate_left 1
    · (intro w hSw; (try dsimp only at hSw); go_simp; try with_reducible rfl)
    all_goals ((try simp only [Act.put]); try simp only [g8b, g8c, g8d])
    refine wpAnyH_take (i := 3) (oi := _) (v := undef) (by simp only [g8a, g8s, g8z]; rfl) (by kernel_rfl) (by kernel_rfl) (by kernel_rfl) (by exact fun _ _ _ h => h) (Or.inr ⟨by rfl, rfl⟩) (by assumption) ?_
    (try simp only [Act.put]); try simp only [g8b, g8c, g8d]
    refine wpAnyH_take (i := 4) (oi := _) (v := undef) (by simp only [g8a, g8s, g8z]; rfl) (by kernel_rfl) (by kernel_rfl) (by kernel_rfl) (by exact fun _ _ _ h => h) (Or.inr ⟨by rfl, rfl⟩) (by assumption) ?_
    (try simp only [Act.put]); try simp only [g8b, g8c, g8d]
    refine wpAnyH_take (i := 5) (oi := _) (v := undef) (by simp only [g8a, g8s, g8z]; rfl) (by kernel_rfl) (by kernel_rfl) (by kernel_rfl) (by exact fun _ _ _ h => h) (Or.inr ⟨by rfl, rfl⟩) (by assumption) ?_
    (try simp only [Act.put]); try simp only [g8b, g8c, g8d]
    refine wpAnyH_take (i := 6) (oi := _) (v := ?_) (by simp only [g8a, g8s, g8z]; rfl) (by kernel_rfl) (by kernel_rfl) (by kernel_rfl) (by exact fun _ _ _ h => h) (Or.inl ⟨by rfl, ?_⟩) (by assumption) ?_
    rotate_left 1
    · (intro w hSw; (try dsimp only at hSw); go_simp; try with_reducible rfl)
    all_goals ((try simp only [Act.put]); try simp only [g8b, g8c, g8d])
    refine wpAnyH_take (i := 7) (oi := _) (v := ?_) (by simp only [g8a, g8s, g8z]; rfl) (by kernel_rfl) (by kernel_rfl) (by kernel_rfl) (by exact fun _ _ _ h => h) (Or.inl ⟨by rfl, ?_⟩) (by assumption) ?_
    rotate_left 1
    · (intro w hSw; (try dsimp only at hSw); go_simp; try with_reducible rfl)
    all_goals ((try simp only [Act.put]); try simp only [g8b, g8c, g8d])
    refine wpAnyH_take (i := 8) (oi := _) (v := undef) (by simp only [g8a, g8s, g8z]; rfl) (by kernel_rfl) (by kernel_rfl) (by kernel_rfl) (by exact fun _ _ _ h => h) (Or.inr ⟨by rfl, rfl⟩) (by assumption) ?_
    (try simp only [Act.put]); try simp only [g8b, g8c, g8d]
    refine wpAnyH_take (i := 9) (oi := _) (v := undef) (by simp only [g8a, g8s, g8z]; rfl) (by kernel_rfl) (by kernel_rfl) (by kernel_rfl) (by exact fun _ _ _ h => h) (Or.inr ⟨by rfl, rfl⟩) (by assumption) ?_
    (try simp only [Act.put]); try simp only [g8b, g8c, g8d]
    refine wpAnyH_take (i := 10) (oi := _) (v := undef) (by simp only [g8a, g8s, g8z]; rfl) (by kernel_rfl) (by kernel_rfl) (by kernel_rfl) (by exact fun _ _ _ h => h) (Or.inr ⟨by rfl, rfl⟩) (by assumption) ?_
    (try simp only [Act.put]); try simp only [g8b, g8c, g8d]
    refine wpAnyH_take (i := 11) (oi := _) (v := undef) (by simp only [g8a, g8s, g8z]; rfl) (by kernel_rfl) (by kernel_rfl) (by kernel_rfl) (by exact fun _ _ _ h => h) (Or.inr ⟨by rfl, rfl⟩) (by assumption) ?_
    (try simp only [Act.put]); try simp only [g8b, g8c, g8d]
    refine wpAnyH_take (i := 12) (oi := _) (v := undef) (by simp only [g8a, g8s, g8z]; rfl) (by kernel_rfl) (by kernel_rfl) (by kernel_rfl) (by exact fun _ _ _ h => h) (Or.inr ⟨by rfl, rfl⟩) (by assumption) ?_
    (try simp only [Act.put]); try simp only [g8b, g8c, g8d]
    refine wpAnyH_take (i := 13) (oi := _) (v := ?_) (by simp only [g8a, g8s, g8z]; rfl) (by kernel_rfl) (by kernel_rfl) (by kernel_rfl) (by exact fun _ _ _ h => h) (Or.inl ⟨by rfl, ?_⟩) (by assumption) ?_
    rotate_left 1
    · (intro w hSw; (try dsimp only at hSw); go_simp; try with_reducible rfl)
    all_goals ((try simp only [Act.put]); try simp only [g8b, g8c, g8d])
    refine wpAnyH_take (i := 14) (oi := _) (v := ?_) (by simp only [g8a, g8s, g8z]; rfl) (by kernel_rfl) (by kernel_rfl) (by kernel_rfl) (by exact fun _ _ _ h => h) (Or.inl ⟨by rfl, ?_⟩) (by assumption) ?_
    rotate_left 1
    · (intro w hSw; (try dsimp only at hSw); go_simp; try with_reducible rfl)
    all_goals ((try simp only [Act.put]); try simp only [g8b, g8c, g8d])
    refine wpAnyH_take (i := 15) (oi := _) (v := undef) (by simp only [g8a, g8s, g8z]; rfl) (by kernel_rfl) (by kernel_rfl) (by kernel_rfl) (by exact fun _ _ _ h => h) (Or.inr ⟨by rfl, rfl⟩) (by assumption) ?_
    (try simp only [Act.put]); try simp only [g8b, g8c, g8d]
    refine wpAnyH_take (i := 16) (oi := _) (v := undef) (by simp only [g8a, g8s, g8z]; rfl) (by kernel_rfl) (by kernel_rfl) (by kernel_rfl) (by exact fun _ _ _ h => h) (Or.inr ⟨by rfl, rfl⟩) (by assumption) ?_
    (try simp only [Act.put]); try simp only [g8b, g8c, g8d]
    refine wpAnyH_take (i := 17) (oi := _) (v := undef) (by simp only [g8a, g8s, g8z]; rfl) (by kernel_rfl) (by kernel_rfl) (by kernel_rfl) (by exact fun _ _ _ h => h) (Or.inr ⟨by rfl, rfl⟩) (by assumption) ?_
    (try simp only [Act.put]); try simp only [g8b, g8c, g8d]
    refine wpAnyH_take (i := 18) (oi := _) (v := undef) (by simp only [g8a, g8s, g8z]; rfl) (by kernel_rfl) (by kernel_rfl) (by kernel_rfl) (by exact fun _ _ _ h => h) (Or.inr ⟨by rfl, rfl⟩) (by assumption) ?_
    (try simp only [Act.put]); try simp only [g8b, g8c, g8d]
    refine wpAnyH_take (i := 19) (oi := _) (v := undef) (by simp only [g8a, g8s, g8z]; rfl) (by kernel_rfl) (by kernel_rfl) (by kernel_rfl) (by exact fun _ _ _ h => h) (Or.inr ⟨by rfl, rfl⟩) (by assumption) ?_
    (try simp only [Act.put]); try simp only [g8b, g8c, g8d]
    refine wpAnyH_take (i := 20) (oi := _) (v := ?_) (by simp only [g8a, g8s, g8z]; rfl) (by kernel_rfl) (by kernel_rfl) (by kernel_rfl) (by exact fun _ _ _ h => h) (Or.inl ⟨by rfl, ?_⟩) (by assumption) ?_
    rotate_left 1
    · (intro w hSw; (try dsimp only at hSw); go_simp; try with_reducible rfl)
    all_goals ((try simp only [Act.put]); try simp only [g8b, g8c, g8d])
    refine wpAnyH_done (by kernel_rfl) ?_ _
    clear hHeld
    clear h0 h1 h2 hlh
    have bw := E.out.bw
    go_wp2_with fail
    go_ret
    exact RetQ.no NO.out bw
  case inl =>
    have HFO := Lib.hid hfo; have HNF := Lib.hid hnf; have HAO := Lib.hid hao
    have hl1 : n1 ≤ 400 := by have := hao.n2; have h2 : a.vals.length = n1 := VA.out.ints.1; omega
    clear hfo hnf hao HN
    by_cases hho : h.Ok
    case neg =>
      have dv : Cv.okB ⟨h.vals, h.per, h.inc⟩ = false := by
        cases q : Cv.okB ⟨h.vals, h.per, h.inc⟩
        · rfl
        · exact absurd (Cv.okB_iff.1 q) hho
      have NO := Lib.hid (show ¬ CkC f h fr cs from fun q => hho q.2.1)
      clear hho
      obtain ⟨⟨h0, h1, h2⟩, hlh⟩ := VH.out.c
      refine wp_region_held_drew (S := (fun w' => w'.cell? ⟨ZH, 0, none⟩ = some (.slice B m d) ∧ w'.cell? ⟨ZH, 1, none⟩ = some (.int .i64 h.per) ∧ w'.cell? ⟨ZH, 2, none⟩ = some (.int .i64 h.inc))) (by kernel_rfl) (by exact ⟨h0, h1, h2⟩) (fun hHeld => ?_)
      generalize hwd : w3.drew = wd at *
      clear hwd
      refine wpAnyH_take (i := 0) (oi := _) (v := ?_) (by simp only [g8a, g8z]; rfl) (by kernel_rfl) (by kernel_rfl) (by kernel_rfl) (by exact fun _ _ _ h => h) (Or.inl ⟨by rfl, ?_⟩) (by assumption) ?_
      rotate_left 1
      · (intro w hSw; (try dsimp only at hSw); go_simp; try with_reducible rfl)
      all_goals ((try simp only [Act.put]); try simp only [g8b, g8c, g8d])
      refine wpAnyH_take (i := 1) (oi := _) (v := ?_) (by simp only [g8a, g8s, g8z]; rfl) (by kernel_rfl) (by kernel_rfl) (by kernel_rfl) (by exact fun _ _ _ h => h) (Or.inl ⟨by rfl, ?_⟩) (by assumption) ?_
      rotate_left 1
      · (intro w hSw; (try dsimp only at hSw); go_simp; try with_reducible rfl)
      all_goals ((try simp only [Act.put]); try simp only [g8b, g8c, g8d])
      refine wpAnyH_take (i := 2) (oi := _) (v := ?_) (by simp only [g8a, g8s, g8z]; rfl) (by kernel_rfl) (by kernel_rfl) (by kernel_rfl) (by exact fun _ _ _ h => h) (Or.inl ⟨by rfl, ?_⟩) (by assumption) ?_
      rotate_left 1
      · (intro w hSw; (try dsimp only at hSw); go_simp; try with_reducible rfl)
      all_goals ((try simp only [Act.put]); try simp only [g8b, g8c, g8d])
      refine wpAnyH_take (i := 3) (oi := _) (v := ?_) (by simp only [g8a, g8s, g8z]; rfl) (by kernel_rfl) (by kernel_rfl) (by kernel_rfl) (by exact fun _ _ _ h => h) (Or.inl ⟨by rfl, ?_⟩) (by assumption) ?_
      rotate_left 1
      · (intro w hSw; (try dsimp only at hSw); go_simp; try with_reducible rfl)
      all_goals ((try simp only [Act.put]); try simp only [g8b, g8c, g8d])
      refine wpAnyH_ready (rs := [4]) (by kernel_rfl) (by simp) ?_
      refine (AllReadyH.cons (by simp only [g8a, g8s, g8z]; rfl) (fun K hK => ?_) AllReadyH.nil)
      rw [if_pos (by rfl)]
      go_simp
      refine (refValid_any B m d h.per h.inc h.vals _ (by exact VH.out.ints) (by omega)).mono ?_
      rw [dv]
      rintro e w4 ⟨rfl, hb⟩
      clear hHeld
      clear h0 h1 h2 hlh
      replace E := Lib.hid (E.out.below hb); replace VA := Lib.hid (VA.out.below hb); replace VH := Lib.hid (VH.out.below hb)
      clear hb
      obtain ⟨⟨h0, h1, h2⟩, hlh⟩ := VH.out.c
      refine hK.out _ _ (by exact ⟨h0, h1, h2⟩) (fun hHeld => ?_)
      clear hK K
      (try simp only [Act.put]); try simp only [g8b, g8c, g8d]
      refine wpAnyH_take (i := 5) (oi := _) (v := ?_) (by simp only [g8a, g8s, g8z]; rfl) (by kernel_rfl) (by kernel_rfl) (by kernel_rfl) (by exact fun _ _ _ h => h) (Or.inl ⟨by rfl, ?_⟩) (by assumption) ?_
      rotate_left 1
      · (intro w hSw; (try dsimp only at hSw); go_simp; try with_reducible rfl)
      all_goals ((try simp only [Act.put]); try simp only [g8b, g8c, g8d])
      refine wpAnyH_take (i := 6) (oi := _) (v := ?_) (by simp only [g8a, g8s, g8z]; rfl) (by kernel_rfl) (by kernel_rfl) (by kernel_rfl) (by exact fun _ _ _ h => h) (Or.inl ⟨by rfl, ?_⟩) (by assumption) ?_
      rotate_left 1
      · (intro w hSw; (try dsimp only at hSw); go_simp; try with_reducible rfl)
      all_goals ((try simp only [Act.put]); try simp only [g8b, g8c, g8d])
      refine wpAnyH_take (i := 7) (oi := _) (v := ?_) (by simp only [g8a, g8s, g8z]; rfl) (by kernel_rfl) (by kernel_rfl) (by kernel_rfl) (by exact fun _ _ _ h => h) (Or.inl ⟨by rfl, ?_⟩) (by assumption) ?_
      rotate_left 1
      · (intro w hSw; (try dsimp only at hSw); go_simp; try with_reducible rfl)
      all_goals ((try simp only [Act.put]); try simp only [g8b, g8c, g8d])
      refine wpAnyH_take (i := 8) (oi := _) (v := undef) (by simp only [g8a, g8s, g8z]; rfl) (by kernel_rfl) (by kernel_rfl) (by kernel_rfl) (by exact fun _ _ _ h => h) (Or.inr ⟨by rfl, rfl⟩) (by assumption) ?_
      (try simp only [Act.put]); try simp only [g8b, g8c, g8d]
      refine wpAnyH_take (i := 9) (oi := _) (v := undef) (by simp only [g8a, g8s, g8z]; rfl) (by kernel_rfl) (by kernel_rfl) (by kernel_rfl) (by exact fun _ _ _ h => h) (Or.inr ⟨by rfl, rfl⟩) (by assumption) ?_
      (try simp only [Act.put]); try simp only [g8b, g8c, g8d]
      refine wpAnyH_take (i := 10) (oi := _) (v := undef) (by simp only [g8a, g8s, g8z]; rfl) (by kernel_rfl) (by kernel_rfl) (by kernel_rfl) (by exact fun _ _ _ h => h) (Or.inr ⟨by rfl, rfl⟩) (by assumption) ?_
      (try simp only [Act.put]); try simp only [g8b, g8c, g8d]
      refine wpAnyH_take (i := 11) (oi := _) (v := undef) (by simp only [g8a, g8s, g8z]; rfl) (by kernel_rfl) (by kernel_rfl) (by kernel_rfl) (by exact fun _ _ _ h => h) (Or.inr ⟨by rfl, rfl⟩) (by assumption) ?_
      (try simp only [Act.put]); try simp only [g8b, g8c, g8d]
      refine wpAnyH_take (i := 12) (oi := _) (v := undef) (by simp only [g8a, g8s, g8z]; rfl) (by kernel_rfl) (by kernel_rfl) (by kernel_rfl) (by exact fun _ _ _ h => h) (Or.inr ⟨by rfl, rfl⟩) (by assumption) ?_
      (try simp only [Act.put]); try simp only [g8b, g8c, g8d]
      refine wpAnyH_take (i := 13) (oi := _) (v := ?_) (by simp only [g8a, g8s, g8z]; rfl) (by kernel_rfl) (by kernel_rfl) (by kernel_rfl) (by exact fun _ _ _ h => h) (Or.inl ⟨by rfl, ?_⟩) (by assumption) ?_
      rotate_left 1
      · (intro w hSw; (try dsimp only at hSw); go_simp; try with_reducible rfl)
      all_goals ((try simp only [Act.put]); try simp only [g8b, g8c, g8d])
      refine wpAnyH_take (i := 14) (oi := _) (v := ?_) (by simp only [g8a, g8s, g8z]; rfl) (by kernel_rfl) (by kernel_rfl) (by kernel_rfl) (by exact fun _ _ _ h => h) (Or.inl ⟨by rfl, ?_⟩) (by assumption) ?_
      rotate_left 1
      · (intro w hSw; (try dsimp only at hSw); go_simp; try with_reducible rfl)
      all_goals ((try simp only [Act.put]); try simp only [g8b, g8c, g8d])
      refine wpAnyH_take (i := 15) (oi := _) (v := undef) (by simp only [g8a, g8s, g8z]; rfl) (by kernel_rfl) (by kernel_rfl) (by kernel_rfl) (by exact fun _ _ _ h => h) (Or.inr ⟨by rfl, rfl⟩) (by assumption) ?_
      (try simp only [Act.put]); try simp only [g8b, g8c, g8d]
      refine wpAnyH_take (i := 16) (oi := _) (v := undef) (by simp only [g8a, g8s, g8z]; rfl) (by kernel_rfl) (by kernel_rfl) (by kernel_rfl) (by exact fun _ _ _ h => h) (Or.inr ⟨by rfl, rfl⟩) (by assumption) ?_
      (try simp only [Act.put]); try simp only [g8b, g8c, g8d]
      refine wpAnyH_take (i := 17) (oi := _) (v := undef) (by simp only [g8a, g8s, g8z]; rfl) (by kernel_rfl) (by kernel_rfl) (by kernel_rfl) (by exact fun _ _ _ h => h) (Or.inr ⟨by rfl, rfl⟩) (by assumption) ?_
      (try simp only [Act.put]); try simp only [g8b, g8c, g8d]
      refine wpAnyH_take (i := 18) (oi := _) (v := undef) (by simp only [g8a, g8s, g8z]; rfl) (by kernel_rfl) (by kernel_rfl) (by kernel_rfl) (by exact fun _ _ _ h => h) (Or.inr ⟨by rfl, rfl⟩) (by assumption) ?_
      (try simp only [Act.put]); try simp only [g8b, g8c, g8d]
      refine wpAnyH_take (i := 19) (oi := _) (v := undef) (by simp only [g8a, g8s, g8z]; rfl) (by kernel_rfl) (by kernel_rfl) (by kernel_rfl) (by exact fun _ _ _ h => h) (Or.inr ⟨by rfl, rfl⟩) (by assumption) ?_
      (try simp only [Act.put]); try simp only [g8b, g8c, g8d]
      refine wpAnyH_take (i := 20) (oi := _) (v := ?_) (by simp only [g8a, g8s, g8z]; rfl) (by kernel_rfl) (by kernel_rfl) (by kernel_rfl) (by exact fun _ _ _ h => h) (Or.inl ⟨by rfl, ?_⟩) (by assumption) ?_
      rotate_left 1
      · (intro w hSw; (try dsimp only at hSw); go_simp; try with_reducible rfl)
      all_goals ((try simp only [Act.put]); try simp only [g8b, g8c, g8d])
      refine wpAnyH_done (by kernel_rfl) ?_ _
      clear hHeld
      clear h0 h1 h2 hlh
      have bw := E.out.bw
      go_wp2_with fail
      go_ret
      exact RetQ.no NO.out bw
    case pos =>
    have dv : Cv.okB ⟨h.vals, h.per, h.inc⟩ = true := Cv.okB_iff.2 hho
    have HHO := Lib.hid hho
    have hm4 : m ≤ 400 := by have := hho.n2; have h2 : h.vals.length = m := VH.out.ints.1; omega
    have hm1 : 1 ≤ m := by have := hho.n1; have h2 : h.vals.length = m := VH.out.ints.1; omega
    have hm0 : 0 < m := hm1
    clear hho
    obtain ⟨bb, ob, hBe, hbl, hbc⟩ := VH.out.ints.2 (by omega)
    subst hBe
    have v0 := hbc 0 (by omega)
    rw [Nat.add_zero] at v0
    obtain ⟨z0, hz0⟩ : ∃ z0, z0 = nth h.vals 0 := ⟨_, rfl⟩
    rw [← hz0] at v0
    have HZ0 := Lib.hid hz0
    clear hbc hz0
    obtain ⟨⟨h0, h1, h2⟩, hlh⟩ := VH.out.c
    refine wp_region_held_drew (S := (fun w' => w'.cell? ⟨ZH, 0, none⟩ = some (.slice (some ⟨bb, ob, none⟩) m d) ∧ w'.cell? ⟨ZH, 1, none⟩ = some (.int .i64 h.per) ∧ w'.cell? ⟨ZH, 2, none⟩ = some (.int .i64 h.inc) ∧ w'.cell? ⟨bb, ob, none⟩ = some (.int .i64 z0))) (by kernel_rfl) (by exact ⟨h0, h1, h2, v0⟩) (fun hHeld => ?_)
    generalize hwd : w3.drew = wd at *
    clear hwd
    refine wpAnyH_take (i := 0) (oi := _) (v := ?_) (by simp only [g8a, g8z]; rfl) (by kernel_rfl) (by kernel_rfl) (by kernel_rfl) (by exact fun _ _ _ h => h) (Or.inl ⟨by rfl, ?_⟩) (by assumption) ?_
    rotate_left 1
    · (intro w hSw; (try dsimp only at hSw); go_simp; try with_reducible rfl)
    all_goals ((try simp only [Act.put]); try simp only [g8b, g8c, g8d])
    refine wpAnyH_take (i := 1) (oi := _) (v := ?_) (by simp only [g8a, g8s, g8z]; rfl) (by kernel_rfl) (by kernel_rfl) (by kernel_rfl) (by exact fun _ _ _ h => h) (Or.inl ⟨by rfl, ?_⟩) (by assumption) ?_
    rotate_left 1
    · (intro w hSw; (try dsimp only at hSw); go_simp; try with_reducible rfl)
    all_goals ((try simp only [Act.put]); try simp only [g8b, g8c, g8d])
    refine wpAnyH_take (i := 2) (oi := _) (v := ?_) (by simp only [g8a, g8s, g8z]; rfl) (by kernel_rfl) (by kernel_rfl) (by kernel_rfl) (by exact fun _ _ _ h => h) (Or.inl ⟨by rfl, ?_⟩) (by assumption) ?_
    rotate_left 1
    · (intro w hSw; (try dsimp only at hSw); go_simp; try with_reducible rfl)
    all_goals ((try simp only [Act.put]); try simp only [g8b, g8c, g8d])
    refine wpAnyH_take (i := 3) (oi := _) (v := ?_) (by simp only [g8a, g8s, g8z]; rfl) (by kernel_rfl) (by kernel_rfl) (by kernel_rfl) (by exact fun _ _ _ h => h) (Or.inl ⟨by rfl, ?_⟩) (by assumption) ?_
    rotate_left 1
    · (intro w hSw; (try dsimp only at hSw); go_simp; try with_reducible rfl)
    all_goals ((try simp only [Act.put]); try simp only [g8b, g8c, g8d])
    refine wpAnyH_ready (rs := [4]) (by kernel_rfl) (by simp) ?_
    refine (AllReadyH.cons (by simp only [g8a, g8s, g8z]; rfl) (fun K hK => ?_) AllReadyH.nil)
    rw [if_pos (by rfl)]
    go_simp
    refine (refValid_any _ m d h.per h.inc h.vals _ (by exact VH.out.ints) (by omega)).mono ?_
    rw [dv]
    rintro e w4 ⟨rfl, hb⟩
    have v1 := (hb.cell (p := ⟨bb, ob, none⟩) hbl).trans v0
    have hbl4 : bb < w4.heap.size := by have := hb.size; omega
    clear v0 hbl
    clear hHeld
    clear h0 h1 h2 hlh
    replace E := Lib.hid (E.out.below hb); replace VA := Lib.hid (VA.out.below hb); replace VH := Lib.hid (VH.out.below hb)
    clear hb
    obtain ⟨⟨h0, h1, h2⟩, hlh⟩ := VH.out.c
    refine hK.out _ _ (by exact ⟨h0, h1, h2, v1⟩) (fun hHeld => ?_)
    clear hK K
    (try simp only [Act.put]); try simp only [g8b, g8c, g8d]
    refine wpAnyH_take (i := 5) (oi := _) (v := ?_) (by simp only [g8a, g8s, g8z]; rfl) (by kernel_rfl) (by kernel_rfl) (by kernel_rfl) (by exact fun _ _ _ h => h) (Or.inl ⟨by rfl, ?_⟩) (by assumption) ?_
    rotate_left 1
    · (intro w hSw; (try dsimp only at hSw); go_simp; try with_reducible rfl)
    all_goals ((try simp only [Act.put]); try simp only [g8b, g8c, g8d])
    refine wpAnyH_take (i := 6) (oi := _) (v := ?_) (by simp only [g8a, g8s, g8z]; rfl) (by kernel_rfl) (by kernel_rfl) (by kernel_rfl) (by exact fun _ _ _ h => h) (Or.inl ⟨by rfl, ?_⟩) (by assumption) ?_
    rotate_left 1
    · (intro w hSw; (try dsimp only at hSw); go_simp; try with_reducible rfl)
    all_goals ((try simp only [Act.put]); try simp only [g8b, g8c, g8d])
    refine wpAnyH_take (i := 7) (oi := _) (v := ?_) (by simp only [g8a, g8s, g8z]; rfl) (by kernel_rfl) (by kernel_rfl) (by kernel_rfl) (by exact fun _ _ _ h => h) (Or.inl ⟨by rfl, ?_⟩) (by assumption) ?_
    rotate_left 1
    · (intro w hSw; (try dsimp only at hSw); go_simp; try with_reducible rfl)
    all_goals ((try simp only [Act.put]); try simp only [g8b, g8c, g8d])
    refine wpAnyH_take (i := 8) (oi := _) (v := ?_) (by simp only [g8a, g8s, g8z]; rfl) (by kernel_rfl) (by kernel_rfl) (by kernel_rfl) (by exact fun _ _ _ h => h) (Or.inl ⟨by rfl, ?_⟩) (by assumption) ?_
    rotate_left 1
    · (intro w hSw; (try dsimp only at hSw); go_simp; try with_reducible rfl)
    all_goals ((try simp only [Act.put]); try simp only [g8b, g8c, g8d])
    refine wpAnyH_take (i := 9) (oi := _) (v := ?_) (by simp only [g8a, g8s, g8z]; rfl) (by kernel_rfl) (by kernel_rfl) (by kernel_rfl) (by exact fun _ _ _ h => h) (Or.inl ⟨by rfl, ?_⟩) (by assumption) ?_
    rotate_left 1
    · (intro w hSw; (try dsimp only at hSw); go_simp; try with_reducible rfl)
    all_goals ((try simp only [Act.put]); try simp only [g8b, g8c, g8d])
    refine wpAnyH_ready (rs := [10]) (by kernel_rfl) (by simp) ?_
    refine (AllReadyH.cons (by simp only [g8a, g8s, g8z]; rfl) (fun K hK => ?_) AllReadyH.nil)
    rw [if_pos (by rfl)]
    go_simp
    refine (refLeast_any _ m d h.per h.inc h.vals _ (by exact VH.out.ints) hmd (by exact HHO.out.pre)).mono ?_
    rintro e w5 ⟨b, A2, n2, c2, hS, hc2, rfl, hI2, hA2, hb⟩
    obtain ⟨hnb, hob, _⟩ := LeastS.ok HHO.out (show LeastS h b from hS)
    have HNB := Lib.hid hnb
    have hl2 : n2 ≤ 400 := by have := hob.n2; have h2 : b.vals.length = n2 := hI2.1; omega
    have I2 := Lib.hid hI2
    have v0 := (hb.cell (p := ⟨bb, ob, none⟩) hbl4).trans v1
    have hbl : bb < w5.heap.size := by have := hb.size; omega
    clear v1 hbl4 hS hc2 hI2 hA2 hnb hob
    clear hHeld
    clear h0 h1 h2 hlh
    replace E := Lib.hid (E.out.below hb); replace VA := Lib.hid (VA.out.below hb); replace VH := Lib.hid (VH.out.below hb)
    clear hb
    obtain ⟨⟨h0, h1, h2⟩, hlh⟩ := VH.out.c
    refine hK.out _ _ (by exact ⟨h0, h1, h2, v0⟩) (fun hHeld => ?_)
    clear hK K
    (try simp only [Act.put]); try simp only [g8b, g8c, g8d]
    refine wpAnyH_ready (rs := [11]) (by kernel_rfl) (by simp) ?_
    refine (AllReadyH.cons (by simp only [g8a, g8s, g8z]; rfl) (fun K hK => ?_) AllReadyH.nil)
    rw [if_pos (by rfl)]
    go_simp
    refine (refSame_any _ A2 m n2 d c2 h.per b.per h.inc b.inc h.vals b.vals _ (by exact VH.out.ints) (by exact I2.out) (by omega) (by omega)).mono ?_
    by_cases hbh : h = b
    case neg =>
      rw [show Cv.same ⟨h.vals, h.per, h.inc⟩ ⟨b.vals, b.per, b.inc⟩ = false from by
        rw [Bool.eq_false_iff]
        exact fun q => hbh ((Cv.same_iff _ _).1 q)]
      rintro e w6 ⟨rfl, hb⟩
      have NO := Lib.hid (show ¬ CkC f h fr cs from fun q => hbh (q.2.2.1.unique HNB.out))
      have v1 := (hb.cell (p := ⟨bb, ob, none⟩) hbl).trans v0
      clear hbh v0 hbl
      clear hHeld
      clear h0 h1 h2 hlh
      replace E := Lib.hid (E.out.below hb); replace VA := Lib.hid (VA.out.below hb); replace VH := Lib.hid (VH.out.below hb)
      clear hb
      obtain ⟨⟨h0, h1, h2⟩, hlh⟩ := VH.out.c
      refine hK.out _ _ (by exact ⟨h0, h1, h2, v1⟩) (fun hHeld => ?_)
      clear hK K
      (try simp only [Act.put]); try simp only [g8b, g8c, g8d]
      refine wpAnyH_take (i := 12) (oi := _) (v := ?_) (by simp only [g8a, g8s, g8z]; rfl) (by kernel_rfl) (by kernel_rfl) (by kernel_rfl) (by exact fun _ _ _ h => h) (Or.inl ⟨by rfl, ?_⟩) (by assumption) ?_
      rotate_left 1
      · (intro w hSw; (try dsimp only at hSw); go_simp; try with_reducible rfl)
      all_goals ((try simp only [Act.put]); try simp only [g8b, g8c, g8d])
      refine wpAnyH_take (i := 13) (oi := _) (v := ?_) (by simp only [g8a, g8s, g8z]; rfl) (by kernel_rfl) (by kernel_rfl) (by kernel_rfl) (by exact fun _ _ _ h => h) (Or.inl ⟨by rfl, ?_⟩) (by assumption) ?_
      rotate_left 1
      · (intro w hSw; (try dsimp only at hSw); go_simp; try with_reducible rfl)
      all_goals ((try simp only [Act.put]); try simp only [g8b, g8c, g8d])
      refine wpAnyH_take (i := 14) (oi := _) (v := ?_) (by simp only [g8a, g8s, g8z]; rfl) (by kernel_rfl) (by kernel_rfl) (by kernel_rfl) (by exact fun _ _ _ h => h) (Or.inl ⟨by rfl, ?_⟩) (by assumption) ?_
      rotate_left 1
      · (intro w hSw; (try dsimp only at hSw); go_simp; try with_reducible rfl)
      all_goals ((try simp only [Act.put]); try simp only [g8b, g8c, g8d])
      refine wpAnyH_take (i := 15) (oi := _) (v := undef) (by simp only [g8a, g8s, g8z]; rfl) (by kernel_rfl) (by kernel_rfl) (by kernel_rfl) (by exact fun _ _ _ h => h) (Or.inr ⟨by rfl, rfl⟩) (by assumption) ?_
      (try simp only [Act.put]); try simp only [g8b, g8c, g8d]
      refine wpAnyH_take (i := 16) (oi := _) (v := undef) (by simp only [g8a, g8s, g8z]; rfl) (by kernel_rfl) (by kernel_rfl) (by kernel_rfl) (by exact fun _ _ _ h => h) (Or.inr ⟨by rfl, rfl⟩) (by assumption) ?_
      (try simp only [Act.put]); try simp only [g8b, g8c, g8d]
      refine wpAnyH_take (i := 17) (oi := _) (v := undef) (by simp only [g8a, g8s, g8z]; rfl) (by kernel_rfl) (by kernel_rfl) (by kernel_rfl) (by exact fun _ _ _ h => h) (Or.inr ⟨by rfl, rfl⟩) (by assumption) ?_
      (try simp only [Act.put]); try simp only [g8b, g8c, g8d]
      refine wpAnyH_take (i := 18) (oi := _) (v := undef) (by simp only [g8a, g8s, g8z]; rfl) (by kernel_rfl) (by kernel_rfl) (by kernel_rfl) (by exact fun _ _ _ h => h) (Or.inr ⟨by rfl, rfl⟩) (by assumption) ?_
      (try simp only [Act.put]); try simp only [g8b, g8c, g8d]
      refine wpAnyH_take (i := 19) (oi := _) (v := undef) (by simp only [g8a, g8s, g8z]; rfl) (by kernel_rfl) (by kernel_rfl) (by kernel_rfl) (by exact fun _ _ _ h => h) (Or.inr ⟨by rfl, rfl⟩) (by assumption) ?_
      (try simp only [Act.put]); try simp only [g8b, g8c, g8d]
      refine wpAnyH_take (i := 20) (oi := _) (v := ?_) (by simp only [g8a, g8s, g8z]; rfl) (by kernel_rfl) (by kernel_rfl) (by kernel_rfl) (by exact fun _ _ _ h => h) (Or.inl ⟨by rfl, ?_⟩) (by assumption) ?_
      rotate_left 1
      · (intro w hSw; (try dsimp only at hSw); go_simp; try with_reducible rfl)
      all_goals ((try simp only [Act.put]); try simp only [g8b, g8c, g8d])
      refine wpAnyH_done (by kernel_rfl) ?_ _
      clear hHeld v1
      clear h0 h1 h2 hlh
      have bw := E.out.bw
      go_wp2_with fail
      go_ret
      exact RetQ.no NO.out bw
    case pos =>
    rw [show Cv.same ⟨h.vals, h.per, h.inc⟩ ⟨b.vals, b.per, b.inc⟩ = true from (Cv.same_iff _ _).2 hbh]
    rintro e w6 ⟨rfl, hb⟩
    have HNN := Lib.hid (show NF h.at h from by have := HNB.out; rw [← hbh] at this; exact this)
    have v1 := (hb.cell (p := ⟨bb, ob, none⟩) hbl).trans v0
    have hbl6 : bb < w6.heap.size := by have := hb.size; omega
    clear hbh v0 hbl HNB I2
    clear hHeld
    clear h0 h1 h2 hlh
    replace E := Lib.hid (E.out.below hb); replace VA := Lib.hid (VA.out.below hb); replace VH := Lib.hid (VH.out.below hb)
    clear hb
    obtain ⟨⟨h0, h1, h2⟩, hlh⟩ := VH.out.c
    refine hK.out _ _ (by exact ⟨h0, h1, h2, v1⟩) (fun hHeld => ?_)
    clear hK K
    (try simp only [Act.put]); try simp only [g8b, g8c, g8d]
    refine wpAnyH_take (i := 12) (oi := _) (v := ?_) (by simp only [g8a, g8s, g8z]; rfl) (by kernel_rfl) (by kernel_rfl) (by kernel_rfl) (by exact fun _ _ _ h => h) (Or.inl ⟨by rfl, ?_⟩) (by assumption) ?_
    rotate_left 1
    · (intro w hSw; (try dsimp only at hSw); go_simp; try with_reducible rfl)
    all_goals ((try simp only [Act.put]); try simp only [g8b, g8c, g8d])
    refine wpAnyH_take (i := 13) (oi := _) (v := ?_) (by simp only [g8a, g8s, g8z]; rfl) (by kernel_rfl) (by kernel_rfl) (by kernel_rfl) (by exact fun _ _ _ h => h) (Or.inl ⟨by rfl, ?_⟩) (by assumption) ?_
    rotate_left 1
    · (intro w hSw; (try dsimp only at hSw); go_simp; try with_reducible rfl)
    all_goals ((try simp only [Act.put]); try simp only [g8b, g8c, g8d])
    refine wpAnyH_take (i := 14) (oi := _) (v := ?_) (by simp only [g8a, g8s, g8z]; rfl) (by kernel_rfl) (by kernel_rfl) (by kernel_rfl) (by exact fun _ _ _ h => h) (Or.inl ⟨by rfl, ?_⟩) (by assumption) ?_
    rotate_left 1
    · (intro w hSw; (try dsimp only at hSw); go_simp; try with_reducible rfl)
    all_goals ((try simp only [Act.put]); try simp only [g8b, g8c, g8d])
    refine wpAnyH_take (i := 15) (oi := _) (v := ?_) (by simp only [g8a, g8s, g8z]; rfl) (by kernel_rfl) (by kernel_rfl) (by kernel_rfl) (by exact fun _ _ _ h => h) (Or.inl ⟨by rfl, ?_⟩) (by assumption) ?_
    rotate_left 1
    · (intro w hSw; (try dsimp only at hSw); go_simp; try with_reducible rfl)
    all_goals ((try simp only [Act.put]); try simp only [g8b, g8c, g8d])
    refine wpAnyH_take (i := 16) (oi := _) (v := ?_) (by simp only [g8a, g8s, g8z]; rfl) (by kernel_rfl) (by kernel_rfl) (by kernel_rfl) (by exact fun _ _ _ h => h) (Or.inl ⟨by rfl, ?_⟩) (by assumption) ?_
    rotate_left 1
    · (intro w hSw; (try dsimp only at hSw); go_simp; try with_reducible rfl)
    all_goals ((try simp only [Act.put]); try simp only [g8b, g8c, g8d])
    refine wpAnyH_take (i := 17) (oi := _) (v := ?_) (by simp only [g8a, g8s, g8z]; rfl) (by kernel_rfl) (by kernel_rfl) (by kernel_rfl) (by exact fun _ _ _ h => h) (Or.inl ⟨by rfl, ?_⟩) (by assumption) ?_
    rotate_left 1
    · (intro w hSw; (try dsimp only at hSw); go_simp; try with_reducible rfl)
    all_goals ((try simp only [Act.put]); try simp only [g8b, g8c, g8d])
    refine wpAnyH_take (i := 18) (oi := _) (v := ?_) (by simp only [g8a, g8s, g8z]; rfl) (by kernel_rfl) (by kernel_rfl) (by kernel_rfl) (by exact fun _ _ _ h => h) (Or.inl ⟨by rfl, ?_⟩) (by assumption) ?_
    rotate_left 1
    · (intro w hSw; (try dsimp only at hSw); go_simp; try with_reducible rfl)
    all_goals ((try simp only [Act.put]); try simp only [g8b, g8c, g8d])
    by_cases hz : z0 = 0
    case neg =>
      have dz : (z0 != 0) = true := by simpa using hz
      have NO := Lib.hid (show ¬ CkC f h fr cs from fun q => hz (by rw [HZ0.out]; exact q.2.2.2.1))
      clear hz
      refine wpAnyH_take (i := 19) (oi := _) (v := ?_) (by simp only [g8a, g8s, g8z]; rfl) (by kernel_rfl) (by kernel_rfl) (by kernel_rfl) (by exact fun _ _ _ h => h) (Or.inl ⟨by rfl, ?_⟩) (by assumption) ?_
      rotate_left 1
      · (intro w hSw; (try dsimp only at hSw); go_simp; try with_reducible rfl)
      all_goals ((try simp only [Act.put]); try simp only [g8b, g8c, g8d])
      refine wpAnyH_take (i := 20) (oi := _) (v := ?_) (by simp only [g8a, g8s, g8z]; rfl) (by kernel_rfl) (by kernel_rfl) (by kernel_rfl) (by exact fun _ _ _ h => h) (Or.inl ⟨by rfl, ?_⟩) (by assumption) ?_
      rotate_left 1
      · (intro w hSw; (try dsimp only at hSw); go_simp; try with_reducible rfl)
      all_goals ((try simp only [Act.put]); try simp only [g8b, g8c, g8d])
      refine wpAnyH_done (by kernel_rfl) ?_ _
      clear hHeld v1
      clear h0 h1 h2 hlh
      have bw := E.out.bw
      go_wp2_with fail
      go_ret
      exact RetQ.no NO.out bw
    case pos =>
    have dz : (z0 != 0) = false := by simpa using hz
    have HZV := Lib.hid (show nth h.vals 0 = 0 from by rw [← HZ0.out]; exact hz)
    clear hz
    refine wpAnyH_take (i := 19) (oi := _) (v := ?_) (by simp only [g8a, g8s, g8z]; rfl) (by kernel_rfl) (by kernel_rfl) (by kernel_rfl) (by exact fun _ _ _ h => h) (Or.inl ⟨by rfl, ?_⟩) (by assumption) ?_
    rotate_left 1
    · (intro w hSw; (try dsimp only at hSw); go_simp; try with_reducible rfl)
    all_goals ((try simp only [Act.put]); try simp only [g8b, g8c, g8d])
    refine wpAnyH_take (i := 20) (oi := _) (v := ?_) (by simp only [g8a, g8s, g8z]; rfl) (by kernel_rfl) (by kernel_rfl) (by kernel_rfl) (by exact fun _ _ _ h => h) (Or.inl ⟨by rfl, ?_⟩) (by assumption) ?_
    rotate_left 1
    · (intro w hSw; (try dsimp only at hSw); go_simp; try with_reducible rfl)
    all_goals ((try simp only [Act.put]); try simp only [g8b, g8c, g8d])
    refine wpAnyH_done (by kernel_rfl) ?_ _
    clear hHeld v1 dz hbl6
    obtain ⟨⟨a0, a1, a2⟩, hla⟩ := VA.out.c
    go_wp2_with fail
    refine (common9_any A1 (some ⟨bb, ob, none⟩) n1 m c1 d a h _ (by exact VA.out.ints) (by exact VH.out.ints) HAO.out HHO.out).mono ?_
    rintro e w7 ⟨rfl, hb⟩
    obtain ⟨l, hl⟩ : ∃ l, l = clL a h := ⟨_, rfl⟩
    obtain ⟨F, hF⟩ : ∃ F, F = clF a h := ⟨_, rfl⟩
    rw [← hl, ← hF]
    have hl14 : l ≤ 14400 := by
      have q1 := HAO.out.p1; have q2 := HHO.out.p1; have q3 := HAO.out.p2; have q4 := HHO.out.p2
      have hcm := comm_facts (p := a.per.toNat) (q := h.per.toNat) (by omega) (by omega)
      have hcm2 : a.per.toNat * h.per.toNat ≤ 120 * 120 := Nat.mul_le_mul (by omega) (by omega)
      rw [hl]; unfold clL; split <;> omega
    have hF9 : F ≤ 801 + l := by
      have h1 := cst_le HAO.out; have h2 := cst_le HHO.out
      rw [hF, hl]
      unfold clF
      omega
    have HL := Lib.hid hl; have HF := Lib.hid hF
    clear hl hF
    clear a0 a1 a2 hla
    clear h0 h1 h2 hlh
    replace E := Lib.hid (E.out.below hb); replace VA := Lib.hid (VA.out.below hb); replace VH := Lib.hid (VH.out.below hb)
    clear hb
    by_cases hl120 : l ≤ 120
    case neg =>
      have dl : decide (120 < (l : Int)) = true := by simp; omega
      have dl2 : decide ((l : Int) > 120) = true := by simp; omega
      have dl3 : decide (120 < l) = true := by simp; omega
      have NO := Lib.hid (show ¬ CkC f h fr cs from fun q => hl120 (by rw [HL.out]; exact ((ckC_iff HFO.out HNF.out).1 q).2.2.2.1))
      clear hl120
      have bw := E.out.bw
      go_wp2_with fail
      go_ret
      exact RetQ.no NO.out bw
    case pos =>
    have dl : decide (120 < (l : Int)) = false := by simp; omega
    have dl2 : decide ((l : Int) > 120) = false := by simp; omega
    have dl3 : decide (120 < l) = false := by simp; omega
    obtain ⟨⟨f0, f1, f2⟩, ⟨p0, p1, p2, p3, p4⟩, hlp⟩ := E.out.cells
    by_cases hfr : fr = F
    case neg =>
      have d1 : (fr != (F : Int)) = true := by simpa using hfr
      have NO := Lib.hid (show ¬ CkC f h fr cs from fun q => hfr (by rw [HF.out]; exact ((ckC_iff HFO.out HNF.out).1 q).2.2.2.2.1.1))
      clear hfr
      have bw := E.out.bw
      go_wp2_with fail
      go_ret
      exact RetQ.no NO.out bw
    case pos =>
    subst hfr
    have d1 : ((F : Int) != (F : Int)) = false := by simp
    have hFi : (F : Int) ≤ 100000 := by omega
    by_cases hkN : k = F + l
    case neg =>
      have d2 : ((k : Int) != (F : Int) + (l : Int)) = true := by simp; omega
      have NO := Lib.hid (show ¬ CkC f h F cs from fun q => hkN (by
        have := ((ckC_iff HFO.out HNF.out).1 q).2.2.2.2.1.2.1
        rw [← HF.out, ← HL.out] at this
        have h2 : cs.length = k := E.out.ic.1
        omega))
      clear hkN
      have bw := E.out.bw
      go_wp2_with fail
      go_ret
      exact RetQ.no NO.out bw
    case pos =>
    have d2 : ((k : Int) != (F : Int) + (l : Int)) = false := by simp; omega
    have HKN := Lib.hid hkN
    have hk9 : k ≤ 1100 := by omega
    have hF9' : F ≤ 1100 := by omega
    clear hkN
    obtain ⟨⟨h0, h1, h2⟩, hlh⟩ := VH.out.c
    obtain ⟨⟨a0, a1, a2⟩, hla⟩ := VA.out.c
    go_wp2_with fail
    clear d1 d2 dl dl2 dl3
    refine (refAtMost_any (some ⟨bb, ob, none⟩) A1 m n1 d c1 h.per h.inc a.per a.inc h.vals a.vals _ (by exact VH.out.ints) (by exact VA.out.ints) (by omega) (by omega)).mono ?_
    rintro e w9 ⟨bm, hbm, rfl, hb⟩
    have BM := Lib.hid (show bm = true ↔ LEC h a from by
      rcases hbm with ⟨_, _, q⟩ | ⟨q, _⟩
      · rw [q]; exact ⟨fun r => LEC.of r, fun r => r.up⟩
      · exact absurd ⟨HHO.out, HAO.out⟩ q)
    clear hbm
    clear f0 f1 f2 p0 p1 p2 p3 p4 hlp
    clear a0 a1 a2 hla
    clear h0 h1 h2 hlh
    replace E := Lib.hid (E.out.below hb); replace VA := Lib.hid (VA.out.below hb); replace VH := Lib.hid (VH.out.below hb)
    clear hb
    cases hbv : bm
    case false =>
      have NO := Lib.hid (show ¬ CkC f h F cs from fun q => by have := BM.out.2 ((ckC_iff HFO.out HNF.out).1 q).2.2.2.2.2.1; rw [hbv] at this; cases this)
      clear hbv
      have bw := E.out.bw
      go_wp2_with fail
      go_ret
      exact RetQ.no NO.out bw
    case true =>
    have HLE := Lib.hid (BM.out.1 hbv)
    clear hbv BM
    obtain ⟨⟨h0, h1, h2⟩, hlh⟩ := VH.out.c
    go_wp2_with fail
    refine (adds9_any (some ⟨bb, ob, none⟩) m d h _ (by exact VH.out.ints) HHO.out).mono ?_
    rintro e w10 ⟨⟨ba, hba, rfl⟩, hb⟩
    have BA := Lib.hid hba
    clear hba
    clear h0 h1 h2 hlh
    replace E := Lib.hid (E.out.below hb); replace VA := Lib.hid (VA.out.below hb); replace VH := Lib.hid (VH.out.below hb)
    clear hb
    cases hbv : ba
    case false =>
      have NO := Lib.hid (show ¬ CkC f h F cs from fun q => by have := BA.out.2 ((ckC_iff HFO.out HNF.out).1 q).2.2.2.2.2.2; rw [hbv] at this; cases this)
      clear hbv
      have bw := E.out.bw
      go_wp2_with fail
      go_ret
      exact RetQ.no NO.out bw
    case true =>
    have HAB := Lib.hid (BA.out.1 hbv)
    clear hbv BA
    have CJ := Lib.hid (show CkC f h F cs ↔ ∀ t, t < k → FitQ a h t (nth cs t) from by
      have hlen : cs.length = k := E.out.ic.1
      rw [HKN.out]
      exact ck9_iff HFO.out HNF.out HHO.out HNN.out HZV.out HL.out hl120 HF.out rfl (by rw [hlen]; exact HKN.out) HLE.out HAB.out)
    clear HLE HAB HZV HNN
    have hk1 : 1 ≤ k := by
      have : 1 ≤ F := by rw [HF.out]; unfold clF; omega
      have := HKN.out; omega
    obtain ⟨bc, oc, hCe, _, _⟩ := E.out.ic.2 (by omega)
    subst hCe
    go_wp2_with fail
    go_loopg [10] k (fun gg s10 wx => ∃ t : Nat, t + gg = k ∧ s10 = .int .i64 t ∧ Hid (∀ u, u < t → FitQ a h u (nth cs u)) ∧ CK w wx A n c f (some ⟨bb, ob, none⟩) m d h F (some ⟨bc, oc, none⟩) k e0 cs ∧ Vr wx ZA A1 n1 c1 a ∧ Vr wx ZH (some ⟨bb, ob, none⟩) m d h)
    case atStart => exact ⟨0, by omega, rfl, Lib.hid (fun u u1 => by omega), E.out, VA.out, VH.out⟩
    case round =>
      clear E VA VH
      obtain ⟨t, htg, rfl, hgood, hE, hVA, hVH⟩ := hrel
      have E := Lib.hid hE; have VH := Lib.hid hVH; have VA := Lib.hid hVA
      clear hE hVH hVA
      obtain ⟨⟨f0, f1, f2⟩, ⟨p0, p1, p2, p3, p4⟩, hlp⟩ := E.out.cells
      by_cases ht : t < k
      case neg =>
        have hti : ¬ (t : Int) < (k : Int) := by omega
        have YS := Lib.hid (CJ.out.2 fun u u1 => hgood.out u (by omega))
        clear hgood
        have bw := E.out.bw
        go_wp2_with fail
        go_ret
        exact RetQ.yes YS.out bw
      case pos =>
        have hti : (t : Int) < (k : Int) := by omega
        obtain ⟨bc', oc', hCe, hcl', hcc⟩ := E.out.ic.2 (by omega)
        injection hCe with hCe
        injection hCe with i1 i2
        subst i1 i2
        have wt := hcc t ht
        obtain ⟨v, hv⟩ : ∃ v, v = nth cs t := ⟨_, rfl⟩
        rw [← hv] at wt
        have HV := Lib.hid hv
        clear hv hcc
        go_upto_region 11 with fail
        clear f0 f1 f2 p0 p1 p2 p3 p4 hlp
        replace E := Lib.hid (CK.drew E.out); replace VH := Lib.hid (Vr.drew VH.out); replace VA := Lib.hid (Vr.drew VA.out)
        obtain ⟨⟨f0, f1, f2⟩, ⟨p0, p1, p2, p3, p4⟩, hlp⟩ := E.out.cells
        obtain ⟨⟨h0, h1, h2⟩, hlh⟩ := VH.out.c
        obtain ⟨⟨a0, a1, a2⟩, hla⟩ := VA.out.c
        replace wt : wr.drew.cell? ⟨bc, oc + t, none⟩ = some (.int .i64 v) := wt
        have hcl2 : bc < wr.drew.heap.size := hcl'
        clear hcl'
        refine wp_region_held_drew (S := (fun w' => w'.cell? ⟨ZA, 0, none⟩ = some (.slice A1 n1 c1) ∧ w'.cell? ⟨ZA, 1, none⟩ = some (.int .i64 a.per) ∧ w'.cell? ⟨ZA, 2, none⟩ = some (.int .i64 a.inc) ∧ w'.cell? ⟨ZH, 0, none⟩ = some (.slice (some ⟨bb, ob, none⟩) m d) ∧ w'.cell? ⟨ZH, 1, none⟩ = some (.int .i64 h.per) ∧ w'.cell? ⟨ZH, 2, none⟩ = some (.int .i64 h.inc) ∧ w'.cell? ⟨w.heap.size + 1, 4, none⟩ = some (.slice (some ⟨bc, oc, none⟩) k e0) ∧ w'.cell? ⟨bc, oc + t, none⟩ = some (.int .i64 v))) (by kernel_rfl) (by exact ⟨a0, a1, a2, h0, h1, h2, p4, wt⟩) (fun hHeld => ?_)
        generalize hwd : wr.drew = wd at *
        clear hwd
        refine wpAnyH_take (i := 0) (oi := _) (v := ?_) (by simp only [g8a, g8z]; rfl) (by kernel_rfl) (by kernel_rfl) (by kernel_rfl) (by exact fun _ _ _ h => h) (Or.inl ⟨by rfl, ?_⟩) (by assumption) ?_
        rotate_left 1
        · (intro w hSw; (try dsimp only at hSw); go_simp; try with_reducible rfl)
        all_goals ((try simp only [Act.put]); try simp only [g8b, g8c, g8d])
        refine wpAnyH_take (i := 1) (oi := _) (v := ?_) (by simp only [g8a, g8s, g8z]; rfl) (by kernel_rfl) (by kernel_rfl) (by kernel_rfl) (by exact fun _ _ _ h => h) (Or.inl ⟨by rfl, ?_⟩) (by assumption) ?_
        rotate_left 1
        · (intro w hSw; (try dsimp only at hSw); go_simp; try with_reducible rfl)
        all_goals ((try simp only [Act.put]); try simp only [g8b, g8c, g8d])
        refine wpAnyH_take (i := 2) (oi := _) (v := ?_) (by simp only [g8a, g8s, g8z]; rfl) (by kernel_rfl) (by kernel_rfl) (by kernel_rfl) (by exact fun _ _ _ h => h) (Or.inl ⟨by rfl, ?_⟩) (by assumption) ?_
        rotate_left 1
        · (intro w hSw; (try dsimp only at hSw); go_simp; try with_reducible rfl)
        all_goals ((try simp only [Act.put]); try simp only [g8b, g8c, g8d])
        refine wpAnyH_take (i := 3) (oi := _) (v := ?_) (by simp only [g8a, g8s, g8z]; rfl) (by kernel_rfl) (by kernel_rfl) (by kernel_rfl) (by exact fun _ _ _ h => h) (Or.inl ⟨by rfl, ?_⟩) (by assumption) ?_
        rotate_left 1
        · (intro w hSw; (try dsimp only at hSw); go_simp; try with_reducible rfl)
        all_goals ((try simp only [Act.put]); try simp only [g8b, g8c, g8d])
        refine wpAnyH_take (i := 4) (oi := _) (v := ?_) (by simp only [g8a, g8s, g8z]; rfl) (by kernel_rfl) (by kernel_rfl) (by kernel_rfl) (by exact fun _ _ _ h => h) (Or.inl ⟨by rfl, ?_⟩) (by assumption) ?_
        rotate_left 1
        · (intro w hSw; (try dsimp only at hSw); go_simp; try with_reducible rfl)
        all_goals ((try simp only [Act.put]); try simp only [g8b, g8c, g8d])
        refine wpAnyH_take (i := 5) (oi := _) (v := ?_) (by simp only [g8a, g8s, g8z]; rfl) (by kernel_rfl) (by kernel_rfl) (by kernel_rfl) (by exact fun _ _ _ h => h) (Or.inl ⟨by rfl, ?_⟩) (by assumption) ?_
        rotate_left 1
        · (intro w hSw; (try dsimp only at hSw); go_simp; try with_reducible rfl)
        all_goals ((try simp only [Act.put]); try simp only [g8b, g8c, g8d])
        refine wpAnyH_take (i := 6) (oi := _) (v := ?_) (by simp only [g8a, g8s, g8z]; rfl) (by kernel_rfl) (by kernel_rfl) (by kernel_rfl) (by exact fun _ _ _ h => h) (Or.inl ⟨by rfl, ?_⟩) (by assumption) ?_
        rotate_left 1
        · (intro w hSw; (try dsimp only at hSw); go_simp; try with_reducible rfl)
        all_goals ((try simp only [Act.put]); try simp only [g8b, g8c, g8d])
        refine wpAnyH_take (i := 7) (oi := _) (v := ?_) (by simp only [g8a, g8s, g8z]; rfl) (by kernel_rfl) (by kernel_rfl) (by kernel_rfl) (by exact fun _ _ _ h => h) (Or.inl ⟨by rfl, ?_⟩) (by assumption) ?_
        rotate_left 1
        · (intro w hSw; (try dsimp only at hSw); go_simp; try with_reducible rfl)
        all_goals ((try simp only [Act.put]); try simp only [g8b, g8c, g8d])
        refine wpAnyH_take (i := 8) (oi := _) (v := ?_) (by simp only [g8a, g8s, g8z]; rfl) (by kernel_rfl) (by kernel_rfl) (by kernel_rfl) (by exact fun _ _ _ h => h) (Or.inl ⟨by rfl, ?_⟩) (by assumption) ?_
        rotate_left 1
        · (intro w hSw; (try dsimp only at hSw); go_simp; try with_reducible rfl)
        all_goals ((try simp only [Act.put]); try simp only [g8b, g8c, g8d])
        refine wpAnyH_take (i := 9) (oi := _) (v := ?_) (by simp only [g8a, g8s, g8z]; rfl) (by kernel_rfl) (by kernel_rfl) (by kernel_rfl) (by exact fun _ _ _ h => h) (Or.inl ⟨by rfl, ?_⟩) (by assumption) ?_
        rotate_left 1
        · (intro w hSw; (try dsimp only at hSw); go_simp; try with_reducible rfl)
        all_goals ((try simp only [Act.put]); try simp only [g8b, g8c, g8d])
        refine wpAnyH_ready (rs := [10]) (by kernel_rfl) (by simp) ?_
        refine (AllReadyH.cons (by simp only [g8a, g8s, g8z]; rfl) (fun K hK => ?_) AllReadyH.nil)
        rw [if_pos (by rfl)]
        go_simp
        refine (fits9_any A1 (some ⟨bb, ob, none⟩) n1 m c1 d a h l F t v _ (by exact VA.out.ints) (by exact VH.out.ints) HAO.out HHO.out HL.out (by omega) HF.out (by omega)).mono ?_
        rintro e w14 ⟨⟨bq, hbq, rfl⟩, hb⟩
        have wt3 : w14.cell? ⟨bc, oc + t, none⟩ = some (.int .i64 v) := (hb.cell (p := ⟨bc, oc + t, none⟩) hcl2).trans wt
        have BQ := Lib.hid hbq
        clear hbq hHeld wt hcl2
        clear f0 f1 f2 p0 p1 p2 p3 p4 hlp
        clear h0 h1 h2 hlh
        clear a0 a1 a2 hla
        replace E := Lib.hid (E.out.below hb); replace VA := Lib.hid (VA.out.below hb); replace VH := Lib.hid (VH.out.below hb)
        clear hb
        obtain ⟨⟨f0, f1, f2⟩, ⟨p0, p1, p2, p3, p4⟩, hlp⟩ := E.out.cells
        obtain ⟨⟨h0, h1, h2⟩, hlh⟩ := VH.out.c
        obtain ⟨⟨a0, a1, a2⟩, hla⟩ := VA.out.c
        refine hK.out _ _ (by exact ⟨a0, a1, a2, h0, h1, h2, p4, wt3⟩) (fun hHeld => ?_)
        clear hK K
        (try simp only [Act.put]); try simp only [g8b, g8c, g8d]
        clear wt3
        clear f0 f1 f2 p0 p1 p2 p3 p4 hlp
        clear h0 h1 h2 hlh
        clear a0 a1 a2 hla
        cases hbv : bq
        case false =>
          have NO := Lib.hid (show ¬ CkC f h F cs from fun q => by
            have := CJ.out.1 q t ht
            rw [← HV.out] at this
            have := BQ.out.2 this
            rw [hbv] at this
            cases this)
          clear hbv
          refine wpAnyH_take (i := 11) (oi := _) (v := ?_) (by simp only [g8a, g8s, g8z]; rfl) (by kernel_rfl) (by kernel_rfl) (by kernel_rfl) (by exact fun _ _ _ h => h) (Or.inl ⟨by rfl, ?_⟩) (by assumption) ?_
          rotate_left 1
          · (intro w hSw; (try dsimp only at hSw); go_simp; try with_reducible rfl)
          all_goals ((try simp only [Act.put]); try simp only [g8b, g8c, g8d])
          refine wpAnyH_done (by kernel_rfl) ?_ _
          clear hHeld
          have bw := E.out.bw
          go_wp2_with fail
          go_ret
          exact RetQ.no NO.out bw
        case true =>
          have GD := Lib.hid (BQ.out.1 hbv)
          clear hbv
          refine wpAnyH_take (i := 11) (oi := _) (v := ?_) (by simp only [g8a, g8s, g8z]; rfl) (by kernel_rfl) (by kernel_rfl) (by kernel_rfl) (by exact fun _ _ _ h => h) (Or.inl ⟨by rfl, ?_⟩) (by assumption) ?_
          rotate_left 1
          · (intro w hSw; (try dsimp only at hSw); go_simp; try with_reducible rfl)
          all_goals ((try simp only [Act.put]); try simp only [g8b, g8c, g8d])
          refine wpAnyH_done (by kernel_rfl) ?_ _
          clear hHeld
          go_wp2_with fail
          go_roundg (gk - 1)
          case measure => omega
          case rel => exact ⟨t + 1, by omega, by go_num, Lib.hid (fun u u1 => by
            by_cases e : u = t
            · subst e; rw [← HV.out]; exact GD.out
            · exact hgood.out u (by omega)), E.out, VA.out, VH.out⟩
end Go.Proofs.Ythdibkmjoiipgaa
