/- The second curve that the statements on deconvolution draw. -/
import Derived.Test.YtbkimphcmmmaiaaZero
import Derived.Test.YtbkimphcmmmaiaaEnvL
import Derived.Test.YtbkimphcmmmaiaaPwKit
import Derived.Test.YtbkimphcmmmaiaaRefSame
namespace Go.Proofs.Ytbkimphcmmmaiaa
open Go.RowKit
set_option linter.unusedVariables false

theorem draw_end {most : Nat} {f : Cv} (hm : most ≤ 12) (h : DrawC most f) (hf : f.Fin) : DrawC (most + 1) ⟨f.vals ++ [inf], 1, 0⟩ := by
  have hn1 := h.ok.n1
  have hlen := h.len
  have hl : (f.vals ++ [inf]).length = f.vals.length + 1 := by simp
  have hlast : nth (f.vals ++ [inf]) f.vals.length = inf := by rw [nth_append, if_neg (by omega), Nat.sub_self]; rfl
  have hlt : ∀ k, k < f.vals.length → nth (f.vals ++ [inf]) k = nth f.vals k := fun k hk => by rw [nth_append, if_pos hk]
  have hsm : ∀ k, k < f.vals.length → nth f.vals k ≤ 400 := fun k hk => (h.small k hk).resolve_left (hf.ne k hk).1
  have hn2 := h.ok.n2
  · have hok : Cv.Ok ⟨f.vals ++ [inf], 1, 0⟩ := by
      refine ⟨by show 1 ≤ (f.vals ++ [inf]).length; omega, by show (f.vals ++ [inf]).length ≤ 400; omega, by show (1 : Int) ≤ 1; omega, by show (1 : Int) ≤ 120; omega, by show (1 : Int) ≤ ((f.vals ++ [inf]).length : Nat); omega, Int.le_refl _, by show (0 : Int) ≤ 1073741824; omega, fun k hk => ?_, ?_, fun k hk => ?_, fun _ => ⟨rfl, rfl⟩, fun e => ?_⟩
      · have hk' : k < f.vals.length + 1 := by rw [← hl]; exact hk
        show okv (nth (f.vals ++ [inf]) k) = true
        rcases Nat.lt_or_ge k f.vals.length with h1 | h1
        · rw [hlt k h1]; exact h.ok.v k h1
        · rw [show k = f.vals.length by omega, hlast]; rfl
      · show 0 ≤ nth (f.vals ++ [inf]) 0
        rw [hlt 0 (by omega)]; exact h.ok.z
      · have hk' : k + 1 < f.vals.length + 1 := by rw [← hl]; exact hk
        show nth (f.vals ++ [inf]) k ≤ nth (f.vals ++ [inf]) (k + 1)
        rcases Nat.lt_or_ge (k + 1) f.vals.length with h1 | h1
        · rw [hlt k (by omega), hlt (k + 1) h1]; exact h.ok.mono k h1
        · rw [hlt k (by omega), show k + 1 = f.vals.length by omega, hlast]
          have := hsm k (by omega)
          unfold inf; omega
      · exact absurd (by show nth (f.vals ++ [inf]) ((f.vals ++ [inf]).length - 1) = inf; rw [hl, Nat.add_sub_cancel]; exact hlast) e
    refine ⟨hok, by show (f.vals ++ [inf]).length ≤ most + 1 + 8; omega, by show (1 : Int) ≤ 8; omega, by show (0 : Int) ≤ 1000; omega, fun k hk => ?_, by show (0 : Int) ≤ 9 * 1; omega, f.vals.length, 1, 0, Nat.le_refl _, by omega, fun t ht => ?_⟩
    · have hk' : k < f.vals.length + 1 := by rw [← hl]; exact hk
      show nth (f.vals ++ [inf]) k = inf ∨ nth (f.vals ++ [inf]) k ≤ 400
      rcases Nat.lt_or_ge k f.vals.length with h1 | h1
      · rw [hlt k h1]; exact .inr (hsm k h1)
      · rw [show k = f.vals.length by omega]; exact .inl hlast
    · have hin : ∀ t, f.vals.length ≤ t → Cv.at ⟨f.vals ++ [inf], 1, 0⟩ t = inf := fun t ht => hok.at_inf (by show nth (f.vals ++ [inf]) ((f.vals ++ [inf]).length - 1) = inf; rw [hl, Nat.add_sub_cancel]; exact hlast) (by show (f.vals ++ [inf]).length ≤ t + 1; omega)
      rw [hin _ (by omega), hin _ ht]
      omega
theorem DrawC.wider {m k : Nat} {f : Cv} (h : DrawC m f) (hk : m ≤ k) : DrawC k f := ⟨h.ok, by have := h.len; omega, h.per, h.inc, h.small, h.slope, h.p4⟩

theorem Ints.st3 {w1 : World} {B g0 n : Nat} {A : Option Addr} {zs : List Int} {x y z : Value} (hI : Ints w1 w1.heap.size A n zs) (hf : ∀ b off s, A = some ⟨b, off, s⟩ → B ≤ b) (hB : g0 < B) :
    Ints (((w1.setCell ⟨g0, 0, none⟩ x).setCell ⟨g0, 1, none⟩ y).setCell ⟨g0, 2, none⟩ z) (((w1.setCell ⟨g0, 0, none⟩ x).setCell ⟨g0, 1, none⟩ y).setCell ⟨g0, 2, none⟩ z).heap.size A n zs := by
  simpa using (((hI.setCell (fun b off s h => by have := hf b off s h; simp; omega) _).setCell (fun b off s h => by have := hf b off s h; simp; omega) _).setCell (fun b off s h => by have := hf b off s h; simp; omega) _)
set_option maxHeartbeats 4000000 in
set_option maxRecDepth 100000 in
theorem second_any (p : Nat) (most : Int) (w : World) (hS : SrcAt w p) (hm1 : 1 ≤ most) (hm2 : most ≤ 11) :
    Calls Try.prog 26 #[.pointer (some ⟨p, 0, none⟩), .int .i64 most] w (RetD2 (fun f => DrawC (most.toNat + 1) f ∧ nth f.vals 0 = 0) p w) := by
  have hpl := hS.lt
  go_enter Try.func26, Try.ntmps26
  go_wp2_with fail
  refine (srcZero3_any p most _ (hS.alloc _) hm1 (by omega)).mono ?_
  rintro e w1 ⟨f, A, n, c, ⟨⟨hD, hF⟩, h0⟩, hnc0, rfl, hI, hA, hS1, hk⟩
  have rb := (Blk.new w 31 #[.slice none 0 0, .int .i64 0, .int .i64 0]).kept (by omega) hk
  have RB := Lib.hid (rb.alloc (.cells #[.slice A n c, .int .i64 f.per, .int .i64 f.inc] 31))
  have FB := Lib.hid (Blk.new w1 31 #[.slice A n c, .int .i64 f.per, .int .i64 f.inc])
  have SS := Lib.hid (hS1.alloc (.cells #[.slice A n c, .int .i64 f.per, .int .i64 f.inc] 31))
  have KK := Lib.hid (kall (kstep (kall (Kept.refl w.heap.size p w) _) hk) (.cells #[.slice A n c, .int .i64 f.per, .int .i64 f.inc] 31))
  have IA := Lib.hid (hI.alloc' (.cells #[.slice A n c, .int .i64 f.per, .int .i64 f.inc] 31))
  have hF1 : w.heap.size + 1 ≤ w1.heap.size := by have := hk.size; simpa using this
  have hn1 : 1 ≤ n := by have h2 := hD.ok.n1; rw [hI.1] at h2; exact h2
  have hn2 : n ≤ 20 := by have h2 := hD.len; rw [hI.1] at h2; omega
  have HA := Lib.hid (show ∀ b off s, A = some ⟨b, off, s⟩ → w.heap.size + 1 ≤ b ∧ b ≠ w1.heap.size from fun b off s e => by
    have h1 := hA b off s e
    obtain ⟨b', off', e', hb, _⟩ := hI.2 hn1
    rw [e] at e'; cases e'
    simp at h1
    omega)
  have HD := Lib.hid hD; have HFI := Lib.hid hF; have HZ := Lib.hid h0; have HNC := Lib.hid hnc0
  clear rb hk hS1 hI hA hD hS hnc0 hF h0
  go_upto_region 2 with fail
  generalize hwe : w1.alloc (.cells #[.slice A n c, .int .i64 f.per, .int .i64 f.inc] 31) = w2 at *
  clear hwe
  generalize w1.heap.size = G at *
  go_wp2_with fail
  refine (n_any p 5 _ SS.out (by omega) (by omega)).mono ?_
  rintro e w3 ⟨z, hz0, hz1, rfl, hS, hk⟩
  have RB := Lib.hid (RB.out.kept (by omega) hk); have FB := Lib.hid (FB.out.kept (by omega) hk)
  have IA := Lib.hid (IA.out.kept (fun b off s e => by have := HA.out b off s e; omega) hk)
  have KK := Lib.hid (kstep KK.out hk)
  have SS := Lib.hid hS
  clear hS hk
  obtain ⟨⟨f0, f1, f2⟩, ⟨v0, v1, v2⟩, hlf⟩ := FB.out.c3
  obtain ⟨⟨r0, r1, r2⟩, ⟨y0, y1, y2⟩, hlr⟩ := RB.out.c3
  by_cases hz : z = 0
  · have dz : (z == 0) = true := by simpa using hz
    clear hz
    have hs0 : w.heap.size < w3.heap.size := hlr
    have IAx : Ints (w3.alloc (.cells #[] 3)) w3.heap.size A n f.vals := Ints.alloc IA.out (Nat.le_refl _) _
    go_upto_region 4 with (at_builtin; refine wpList_app rfl _ _ 22 rfl Try.underlying22 w3.heap.size (.slice (some ⟨w3.heap.size, 0, none⟩) 0 0) 0 [] rfl (Own.empty_ w3 (Nat.le_refl _)) w3.heap.size A n c f.vals rfl IAx (by omega) (by simp) ?_)
    intro v1 w4 own1 grow1 at1
    have hb4 : Below w3.heap.size w3 w4 := (balloc _ _).grown grow1 (by simp) (by simp [Value.ownBlock])
    obtain ⟨A1, c1, rfl, hc1, hI1, hf1⟩ := own1.ints
    have hs4 := hb4.size
    have own1x := own1.alloc (.cells ([inf].map (Value.int .i64)).toArray 3)
    have IAy := ints_litC w4 [inf]
    rw [World.size_alloc] at IAy
    go_upto_region 4 with (at_builtin; refine wpList_app rfl _ _ 22 rfl Try.underlying22 w3.heap.size (.slice A1 n c1) n f.vals rfl own1x (w4.heap.size + 1) (some ⟨w4.heap.size, 0, none⟩) 1 1 [inf] rfl IAy (by omega) (by simp; omega) ?_)
    intro v2 w5 own2 grow2 at2
    have hb5 : Below w3.heap.size w3 w5 := (hb4.alloc hs4 _).grown grow2 (by simp; omega) (fun g hg => (own1.blk_lt g hg).1)
    obtain ⟨A2, c2, rfl, hc2, hI2, hf2⟩ := own2.ints
    have SS := Lib.hid (SS.out.ext hb5)
    have KK := Lib.hid (kbelow KK.out hb5)
    have I2 := Lib.hid hI2; have F2 := Lib.hid hf2; have C2 := Lib.hid hc2
    clear own1 own2 grow1 grow2 at1 at2 hb4 hI1 hf1 hI2 hf2 hc1 hc2 own1x IAy IAx f0 f1 f2 v0 v1 v2 hlf r0 r1 r2 y0 y1 y2 hlr
    have FL := Lib.hid (FB.out.lt); have RL := Lib.hid (RB.out.lt)
    have FB := Lib.hid (FB.out.below hb5 FB.out.lt); have RB := Lib.hid (RB.out.below hb5 RB.out.lt)
    clear hb5
    obtain ⟨⟨f0, f1, f2⟩, ⟨v0, v1, v2⟩, hlf⟩ := FB.out.c3
    obtain ⟨⟨r0, r1, r2⟩, ⟨y0, y1, y2⟩, hlr⟩ := RB.out.c3
    go_upto_region 4 with fail
    clear f0 f1 f2 v0 v1 v2 hlf r0 r1 r2 y0 y1 y2 hlr
    have HD2 := Lib.hid (draw_end (by omega) HD.out HFI.out)
    have hne : ∀ b off s, A2 = some ⟨b, off, s⟩ → w3.heap.size ≤ b := F2.out
    have hFL := FL.out; have hRL := RL.out
    have FB := Lib.hid (FB.out.store3 (.slice A2 (n + 1) c2) (.int .i64 1) (.int .i64 0))
    have RB := Lib.hid (((RB.out.far (p := ⟨G, 0, none⟩) (by show w.heap.size ≠ G; omega) (.slice A2 (n + 1) c2)).far (p := ⟨G, 1, none⟩) (by show w.heap.size ≠ G; omega) (.int .i64 1)).far (p := ⟨G, 2, none⟩) (by show w.heap.size ≠ G; omega) (.int .i64 0))
    have I2 := Lib.hid (I2.out.st3 (g0 := G) (x := .slice A2 (n + 1) c2) (y := .int .i64 1) (z := .int .i64 0) hne hFL)
    have SS := Lib.hid (SS.out.far3 (G := G) (by omega) (x := .slice A2 (n + 1) c2) (y := .int .i64 1) (z := .int .i64 0))
    have KK := Lib.hid (KK.out.set3 (G := G) (by omega) (x := .slice A2 (n + 1) c2) (y := .int .i64 1) (z := .int .i64 0))
    generalize hwe : ((w5.setCell ⟨G, 0, none⟩ (.slice A2 (n + 1) c2)).setCell ⟨G, 1, none⟩ (.int .i64 1)).setCell ⟨G, 2, none⟩ (.int .i64 0) = w6 at *
    clear hwe
    obtain ⟨⟨f0, f1, f2⟩, ⟨v0, v1, v2⟩, hlf⟩ := FB.out.c3
    obtain ⟨⟨r0, r1, r2⟩, ⟨y0, y1, y2⟩, hlr⟩ := RB.out.c3
    go_wp2_with fail
    have rb := RB.out.store3 (.slice A2 (n + 1) c2) (.int .i64 1) (.int .i64 0)
    refine bodyPost_ret (v := .agg #[.slice A2 (n + 1) c2, .int .i64 1, .int .i64 0]) (by simp [results, Try.results26, go_sem, rb.cell]) rfl
      ⟨⟨f.vals ++ [inf], 1, 0⟩, A2, n + 1, c2, ⟨HD2.out, ?_⟩, C2.out, rfl, ?_, (fun b' off' s e => by have := hne b' off' s e; omega), SS.out.far3 hpl, KK.out.set3 (Nat.le_refl _)⟩
    · show nth (f.vals ++ [inf]) 0 = 0
      rw [nth_append, if_pos (by have := HD.out.ok.n1; omega)]
      exact HZ.out
    · exact I2.out.st3 hne hs0
  · have dz : (z == 0) = false := by simpa using hz
    clear hz
    go_wp2_with fail
    have rb := RB.out.store3 (.slice A n c) (.int .i64 f.per) (.int .i64 f.inc)
    refine bodyPost_ret (v := .agg #[.slice A n c, .int .i64 f.per, .int .i64 f.inc]) (by simp [results, Try.results26, go_sem, rb.cell]) rfl
      ⟨f, A, n, c, ⟨HD.out.wider (by omega), HZ.out⟩, HNC.out, rfl, ?_, (fun b' off' s e => by have := HA.out b' off' s e; omega), SS.out.far3 hpl, KK.out.set3 (Nat.le_refl _)⟩
    exact IA.out.st3 (B := w.heap.size + 1) (fun b off s e => (HA.out b off s e).1) (by omega)
end Go.Proofs.Ytbkimphcmmmaiaa
