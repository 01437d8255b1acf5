/- The statement ClosureAnswers: the walk. -/
import Derived.Test.YthdibkmjoiipgaaClKit
import Derived.Test.YthdibkmjoiipgaaRef9F
import Derived.Test.YthdibkmjoiipgaaShort9
import Derived.Test.YthdibkmjoiipgaaBent
import Derived.Test.YthdibkmjoiipgaaZero
import Derived.Deep.DeepCutAuto
namespace Go.Proofs.Ythdibkmjoiipgaa
open Go.RowKit
set_option linter.unusedVariables false
/-- the block Z is a variable that holds a certificate -/
structure Vp (w : World) (Z : Nat) (A : Option Addr) (n c : Nat) (r : Cv) (fr : Int) (B : Option Addr) (m d : Nat) (cs : List Int) : Prop where
  blk : Blk w Z 63 #[.slice A n c, .int .i64 r.per, .int .i64 r.inc, .int .i64 fr, .slice B m d]
  ints : Ints w w.heap.size A n r.vals
  jnts : Ints w w.heap.size B m cs
theorem Vp.below {w w' : World} {Z n c m d : Nat} {A B : Option Addr} {r : Cv} {fr : Int} {cs : List Int} (h : Vp w Z A n c r fr B m d cs) (hb : Below w.heap.size w w') : Vp w' Z A n c r fr B m d cs := ⟨h.blk.below hb h.blk.lt, h.ints.ext hb, h.jnts.ext hb⟩
theorem Vp.new {w : World} {n c m d : Nat} {A B : Option Addr} {r : Cv} {fr : Int} {cs : List Int} (h : Ints w w.heap.size A n r.vals) (k : Ints w w.heap.size B m cs) : Vp (w.alloc (.cells #[.slice A n c, .int .i64 r.per, .int .i64 r.inc, .int .i64 fr, .slice B m d] 63)) w.heap.size A n c r fr B m d cs := ⟨Blk.new _ _ _, h.alloc' _, k.alloc' _⟩
theorem ck_len {f h : Cv} {fr : Int} {cs : List Int} (H : CkC f h fr cs) : cs.length ≤ 1100 := by
  obtain ⟨hf, hh, _, _, a, ha, hl, hA, _, _⟩ := H
  have h1 := cst_le (nf_small hf ha).1; have h2 := cst_le hh
  rw [hA.2.1]
  unfold clF
  omega

theorem pv_cs {f r : Cv} {fr : Int} {cs : List Int} {er : Int} (H : PvC f r fr cs er) : cs.length ≤ 1100 := by
  rcases H with ⟨_, _, _, rfl, _⟩ | ⟨_, a, ha, ⟨_, _, _, rfl, _⟩ | ⟨_, g, e0, hc, ⟨_, _, _, rfl, _⟩ | ⟨_, cs0, hp, ⟨h1, _, _, rfl, _⟩ | ⟨_, _, _, rfl, _⟩⟩⟩⟩
  · exact Nat.zero_le _
  · exact Nat.zero_le _
  · exact Nat.zero_le _
  · exact ck_len h1
  · exact Nat.zero_le _
/-- a curve of the list: not too long, with room -/
def CR.FitD (x : CR) : Prop := x.n ≤ 1000 ∧ x.n ≤ x.c
set_option maxHeartbeats 4000000 in
set_option maxRecDepth 100000 in
theorem clAs_any (A1 : Option Addr) (n1 c1 : Nat) (p1 i1 : Int) (L1 : List Int) (A0 : Option Addr) (n0 c0 : Nat) (L : List Int) (W : World)
    (hI1 : Ints W W.heap.size A1 n1 L1) (hc1 : n1 ≤ c1) (hn1 : (n1 : Int) ≤ 9223372036854775807) (hL0 : Ints W W.heap.size A0 n0 L) (hc0 : n0 ≤ c0) (hn0 : (n0 : Int) ≤ 9223372036854775807) :
    Calls Try.prog 5 #[.agg #[.slice A1 n1 c1, .int .i64 p1, .int .i64 i1], .slice A0 n0 c0] W fun e w' => e = .returned (.bool true) ∧ Below W.heap.size W w' := by
  have RI := Lib.hid (hI1.alloc' (.cells #[.slice A1 n1 c1, .int .i64 p1, .int .i64 i1] 46)); have LI := Lib.hid (hL0.alloc' (.cells #[.slice A1 n1 c1, .int .i64 p1, .int .i64 i1] 46))
  have RX := Lib.hid (Blk.new W 46 #[.slice A1 n1 c1, .int .i64 p1, .int .i64 i1])
  have BW := Lib.hid (balloc W (.cells #[.slice A1 n1 c1, .int .i64 p1, .int .i64 i1] 46))
  have HC1 := Lib.hid hc1
  clear hI1 hL0 hc1
  go_enter Try.func5, Try.ntmps5
  go_upto_region 1 with fail
  generalize hwe : W.alloc (.cells #[.slice A1 n1 c1, .int .i64 p1, .int .i64 i1] 46) = W2 at *
  clear hwe
  obtain ⟨s0, s1, s2⟩ : _ ∧ _ ∧ _ := ⟨RX.out.cell 0, RX.out.cell 1, RX.out.cell 2⟩
  simp at s0 s1 s2
  have hls := RX.out.lt
  have RW := Lib.hid (show Row (W2.alloc (.cells #[.slice A1 n1 c1, .int .i64 p1, .int .i64 i1] 46)).heap.size (W2.alloc (.cells #[.slice A1 n1 c1, .int .i64 p1, .int .i64 i1] 46)) W2.heap.size [⟨A1, n1, c1, ⟨L1, p1, i1⟩⟩] from ⟨Blk.new _ _ _, (by
    intro x hx
    simp only [List.mem_singleton] at hx
    subst hx
    exact CR.In.old (RI.out.alloc' _)), by rw [World.size_alloc]; omega⟩)
  have hbq := balloc W2 (.cells #[.slice A1 n1 c1, .int .i64 p1, .int .i64 i1] 46)
  have RI := Lib.hid (RI.out.ext hbq); have LI := Lib.hid (LI.out.ext hbq)
  have RX := Lib.hid (RX.out.below hbq RX.out.lt); have BW := Lib.hid (bthen BW.out hbq)
  clear hbq
  go_wp2_with fail
  refine (short9_any W2.heap.size 1 1 _ _ rfl (by omega) RW.out (by
    intro x hx
    simp only [List.mem_singleton] at hx
    subst hx
    exact hn1)).mono ?_
  rintro e w ⟨z, rfl, hz, hb⟩
  have RI := Lib.hid (RI.out.ext hb); have LI := Lib.hid (LI.out.ext hb)
  have RX := Lib.hid (RX.out.below hb RX.out.lt); have BW := Lib.hid (bthen BW.out hb)
  clear hb RW s0 s1 s2 hls
  cases z
  case false =>
    clear hz
    go_wp2_with fail
    refine (awake9_any _).mono ?_
    rintro q wq ⟨rfl, hbq⟩
    have bw := bthen BW.out hbq
    go_wp2_with fail
    go_ret
    exact ⟨rfl, bw⟩
  case true =>
  have h1 : n1 ≤ 800 := hz rfl _ (List.mem_cons_self ..)
  clear hz
  have R0 := Lib.hid (show Lc w.heap.size w W.heap.size ⟨A1, n1, c1, ⟨L1, p1, i1⟩⟩ from ⟨RX.out, CR.In.old RI.out, Nat.ne_of_lt RX.out.lt⟩)
  have hL := LI.out
  have FIT1 := Lib.hid (show (CR.mk A1 n1 c1 ⟨L1, p1, i1⟩).FitD from ⟨by show n1 ≤ 1000; omega, HC1.out⟩)
  clear RI LI RX HC1 h1 hn1
  go_wp2_with fail
  refine (new_any A0 n0 c0 L w hL hc0 hn0).mono ?_
  rintro e w1 ⟨rfl, hS1, hb1⟩
  have E := Lib.hid (show EnvL w.heap.size w w1 [(W.heap.size, ⟨A1, n1, c1, ⟨L1, p1, i1⟩⟩)] from ⟨hS1, Kept.of hb1, fun x hx => by
    simp only [List.mem_singleton] at hx
    subst hx
    exact R0.out.below hb1⟩)
  clear hL hS1 hb1 R0
  go_wp2_with fail
  refine (srcZero2_any w.heap.size 8 w1 (by exact E.out.s) (by omega) (by omega)).mono ?_
  rintro e w2 ⟨f, A, n, c, hD, hcf, rfl, hI, hA, hS, hk⟩
  have hps := E.out.s.lt
  have E := Lib.hid (show EnvL w.heap.size w _ _ from (E.out.kept hS hk).push (X := ⟨A, n, c, f⟩) (CR.In.new hI hA hps))
  dsimp only [List.cons_append, List.nil_append] at E
  have Hf := Lib.hid (show DrawC 8 f ∧ f.Fin from hD)
  have HCf := Lib.hid hcf
  have hlenf := hI.1
  try simp only at hlenf
  have hnf : n ≤ 20 := by have h1 := Hf.out.1.len; omega
  clear hlenf
  clear hD hI hA hS hk hps hcf
  have FITF := Lib.hid (show (CR.mk A n c f).FitD from ⟨by show n ≤ 1000; omega, HCf.out⟩)
  clear HCf Hf
  go_upto_region 5 with fail
  generalize hwe : w2.alloc (.cells #[.slice A n c, .int .i64 f.per, .int .i64 f.inc] 46) = we at E ⊢
  clear hwe
  generalize w2.heap.size = ZF at *
  go_cut [37, 38, 39] (fun s37 s38 s39 wx => ∃ (b : Nat) (xs : List CR), s37 = .slice (some ⟨b, 0, none⟩) 4 4 ∧ s38 = .int .i64 4 ∧ s39 = .int .i64 0 ∧ xs.length = 4 ∧ (∀ x ∈ xs, x.FitD) ∧ EnvL w.heap.size w wx [] ∧ Row w.heap.size wx b xs)
  case first =>
    have E := Lib.hid (EnvL.drew E.out)
    obtain ⟨x0, x1, x2, hlx⟩ := (E.out.get 0 rfl).cells
    obtain ⟨y0, y1, y2, hly⟩ := (E.out.get 1 rfl).cells
    refine wp_region_held_drew (S := (fun w' => (w'.cell? ⟨W.heap.size, 0, none⟩ = some (.slice A1 n1 c1) ∧ w'.cell? ⟨W.heap.size, 1, none⟩ = some (.int .i64 p1) ∧ w'.cell? ⟨W.heap.size, 2, none⟩ = some (.int .i64 i1)) ∧ w'.cell? ⟨ZF, 0, none⟩ = some (.slice A n c) ∧ w'.cell? ⟨ZF, 1, none⟩ = some (.int .i64 f.per) ∧ w'.cell? ⟨ZF, 2, none⟩ = some (.int .i64 f.inc))) (by kernel_rfl) (by exact ⟨⟨x0, x1, x2⟩, y0, y1, y2⟩) (fun hHeld => ?_)
    generalize hwd : we.drew = wd at *
    clear hwd
    refine wpAnyH_take (i := 0) (oi := _) (v := ?_) (by simp only [g8a, g8z]; rfl) (by kernel_rfl) (by kernel_rfl) (by kernel_rfl) (by exact fun _ _ _ h => h) (Or.inl ⟨by rfl, ?_⟩) (by assumption) ?_
    rotate_left 1
    · (intro w hSw; (try dsimp only at hSw); go_simp; try with_reducible rfl)
    all_goals ((try simp only [Act.put]); try simp only [g8b, g8c, g8d])
    refine wpAnyH_take (i := 1) (oi := _) (v := ?_) (by simp only [g8a, g8s, g8z]; rfl) (by kernel_rfl) (by kernel_rfl) (by kernel_rfl) (by exact fun _ _ _ h => h) (Or.inl ⟨by rfl, ?_⟩) (by assumption) ?_
    rotate_left 1
    · (intro w hSw; (try dsimp only at hSw); go_simp; try with_reducible rfl)
    all_goals ((try simp only [Act.put]); try simp only [g8b, g8c, g8d])
    refine wpAnyH_take (i := 2) (oi := _) (v := ?_) (by simp only [g8a, g8s, g8z]; rfl) (by kernel_rfl) (by kernel_rfl) (by kernel_rfl) (by exact fun _ _ _ h => h) (Or.inl ⟨by rfl, ?_⟩) (by assumption) ?_
    rotate_left 1
    · (intro w hSw; (try dsimp only at hSw); go_simp; try with_reducible rfl)
    all_goals ((try simp only [Act.put]); try simp only [g8b, g8c, g8d])
    refine wpAnyH_take (i := 3) (oi := _) (v := ?_) (by simp only [g8a, g8s, g8z]; rfl) (by kernel_rfl) (by kernel_rfl) (by kernel_rfl) (by exact fun _ _ _ h => h) (Or.inl ⟨by rfl, ?_⟩) (by assumption) ?_
    rotate_left 1
    · (intro w hSw; (try dsimp only at hSw); go_simp; try with_reducible rfl)
    all_goals ((try simp only [Act.put]); try simp only [g8b, g8c, g8d])
    refine wpAnyH_take (i := 5) (oi := _) (v := ?_) (by simp only [g8a, g8s, g8z]; rfl) (by kernel_rfl) (by kernel_rfl) (by kernel_rfl) (by exact fun _ _ _ h => h) (Or.inl ⟨by rfl, ?_⟩) (by assumption) ?_
    rotate_left 1
    · (intro w hSw; (try dsimp only at hSw); go_simp; try with_reducible rfl)
    all_goals ((try simp only [Act.put]); try simp only [g8b, g8c, g8d])
    refine wpAnyH_take (i := 9) (oi := _) (v := ?_) (by simp only [g8a, g8s, g8z]; rfl) (by kernel_rfl) (by kernel_rfl) (by kernel_rfl) (by exact fun _ _ _ h => h) (Or.inl ⟨by rfl, ?_⟩) (by assumption) ?_
    rotate_left 1
    · (intro w hSw; (try dsimp only at hSw); go_simp; try with_reducible rfl)
    all_goals ((try simp only [Act.put]); try simp only [g8b, g8c, g8d])
    refine wpAnyH_ready (rs := [4]) (by kernel_rfl) (by simp) ?_
    refine (AllReadyH.cons (by simp only [g8a, g8s, g8z]; rfl) (fun K hK => ?_) AllReadyH.nil)
    rw [if_pos (by rfl)]
    go_simp
    refine (srcBent2_any w.heap.size A n c f.per f.inc f.vals _ (by exact E.out.s) (by exact (E.out.get 1 rfl).inn.ints) (by omega)).mono ?_
    rintro e w7 ⟨k, AB, nB, cB, hlz, hcz, rfl, hIz, hBz, hSz, hkz⟩
    have hps := E.out.s.lt
    replace E := Lib.hid (E.out.kept hSz hkz)
    have VB := Lib.hid (show (CR.mk AB nB cB k).In w.heap.size w7 from CR.In.new hIz hBz hps)
    have FVB := Lib.hid (show (CR.mk AB nB cB k).FitD from ⟨by have h2 : k.vals.length = nB := hIz.1; show nB ≤ 1000; omega, hcz⟩)
    clear hlz hcz hIz hBz hSz hkz hps hHeld
    clear x0 x1 x2 hlx y0 y1 y2 hly
    obtain ⟨x0, x1, x2, hlx⟩ := (E.out.get 0 rfl).cells
    obtain ⟨y0, y1, y2, hly⟩ := (E.out.get 1 rfl).cells
    refine hK.out _ _ (by exact ⟨⟨x0, x1, x2⟩, y0, y1, y2⟩) (fun hHeld => ?_)
    clear hK K
    (try simp only [Act.put]); try simp only [g8b, g8c, g8d]
    refine wpAnyH_ready (rs := [6]) (by kernel_rfl) (by simp) ?_
    refine (AllReadyH.cons (by simp only [g8a, g8s, g8z]; rfl) (fun K hK => ?_) AllReadyH.nil)
    rw [if_pos (by rfl)]
    go_simp
    refine (srcCurve2_any w.heap.size 6 _ (by exact E.out.s) (by omega) (by omega)).mono ?_
    rintro e w8 ⟨g, AC, nC, cC, hlz, hcz, rfl, hIz, hBz, hSz, hkz⟩
    have hps := E.out.s.lt
    replace E := Lib.hid (E.out.kept hSz hkz)
    replace VB := Lib.hid (VB.out.kept hkz)
    have VC := Lib.hid (show (CR.mk AC nC cC g).In w.heap.size w8 from CR.In.new hIz hBz hps)
    have FVC := Lib.hid (show (CR.mk AC nC cC g).FitD from ⟨by have h2 : g.vals.length = nC := hIz.1; have h3 := hlz.len; show nC ≤ 1000; omega, hcz⟩)
    clear hlz hcz hIz hBz hSz hkz hps hHeld
    clear x0 x1 x2 hlx y0 y1 y2 hly
    obtain ⟨x0, x1, x2, hlx⟩ := (E.out.get 0 rfl).cells
    obtain ⟨y0, y1, y2, hly⟩ := (E.out.get 1 rfl).cells
    refine hK.out _ _ (by exact ⟨⟨x0, x1, x2⟩, y0, y1, y2⟩) (fun hHeld => ?_)
    clear hK K
    (try simp only [Act.put]); try simp only [g8b, g8c, g8d]
    refine wpAnyH_ready (rs := [7]) (by kernel_rfl) (by simp) ?_
    refine (AllReadyH.cons (by simp only [g8a, g8s, g8z]; rfl) (fun K hK => ?_) AllReadyH.nil)
    rw [if_pos (by rfl)]
    go_simp
    have hps := E.out.s.lt
    have hbq := balloc w8 (.cells #[.slice A n c, .int .i64 f.per, .int .i64 f.inc, .slice A1 n1 c1, .int .i64 p1, .int .i64 i1, .slice AB nB cB, .int .i64 k.per, .int .i64 k.inc, .slice AC nC cC, .int .i64 g.per, .int .i64 g.inc] 46)
    have RR := Lib.hid (show Row w.heap.size (w8.alloc (.cells #[.slice A n c, .int .i64 f.per, .int .i64 f.inc, .slice A1 n1 c1, .int .i64 p1, .int .i64 i1, .slice AB nB cB, .int .i64 k.per, .int .i64 k.inc, .slice AC nC cC, .int .i64 g.per, .int .i64 g.inc] 46)) w8.heap.size [⟨A, n, c, f⟩, ⟨A1, n1, c1, ⟨L1, p1, i1⟩⟩, ⟨AB, nB, cB, k⟩, ⟨AC, nC, cC, g⟩] from ⟨Blk.new _ _ _, (by
      intro x hx
      simp only [List.mem_cons, List.not_mem_nil, or_false] at hx
      rcases hx with rfl | rfl | rfl | rfl
      · exact (E.out.get 1 rfl).inn.alloc _
      · exact (E.out.get 0 rfl).inn.alloc _
      · exact VB.out.alloc _
      · exact VC.out.alloc _), Nat.ne_of_gt hps⟩)
    generalize hwa : w8.alloc (.cells #[.slice A n c, .int .i64 f.per, .int .i64 f.inc, .slice A1 n1 c1, .int .i64 p1, .int .i64 i1, .slice AB nB cB, .int .i64 k.per, .int .i64 k.inc, .slice AC nC cC, .int .i64 g.per, .int .i64 g.inc] 46) = w9 at *
    clear hwa
    replace E := Lib.hid (E.out.below hbq)
    generalize w8.heap.size = bb at *
    clear hbq hHeld hps VB VC
    clear x0 x1 x2 hlx y0 y1 y2 hly
    obtain ⟨x0, x1, x2, hlx⟩ := (E.out.get 0 rfl).cells
    obtain ⟨y0, y1, y2, hly⟩ := (E.out.get 1 rfl).cells
    refine hK.out _ _ (by exact ⟨⟨x0, x1, x2⟩, y0, y1, y2⟩) (fun hHeld => ?_)
    clear hK K
    (try simp only [Act.put]); try simp only [g8b, g8c, g8d]
    refine wpAnyH_take (i := 8) (oi := _) (v := ?_) (by simp only [g8a, g8s, g8z]; rfl) (by kernel_rfl) (by kernel_rfl) (by kernel_rfl) (by exact fun _ _ _ h => h) (Or.inl ⟨by rfl, ?_⟩) (by assumption) ?_
    rotate_left 1
    · (intro w hSw; (try dsimp only at hSw); go_simp; try with_reducible rfl)
    all_goals ((try simp only [Act.put]); try simp only [g8b, g8c, g8d])
    refine wpAnyH_done (by kernel_rfl) ?_ _
    clear hHeld
    go_wp2_with fail
    go_meet
    exact ⟨bb, _, rfl, rfl, rfl, rfl, (by
      intro x hx
      simp only [List.mem_cons, List.not_mem_nil, or_false] at hx
      rcases hx with rfl | rfl | rfl | rfl
      · exact FITF.out
      · exact FIT1.out
      · exact FVB.out
      · exact FVC.out), ⟨E.out.s, E.out.k, fun x hx => by cases hx⟩, RR.out⟩
  case rest =>
    clear E FITF FIT1
    obtain ⟨bb, xs, rfl, rfl, rfl, hlen, hfit, hE, hR⟩ := hcut
    have E := Lib.hid hE; have ROW := Lib.hid hR; have FIT := Lib.hid hfit; have LEN := Lib.hid hlen
    clear hE hR hfit hlen
    go_wp2_with fail
    go_loopg [8, 9, 10, 11, 12, 13, 14, 15, 16, 17, 18, 19, 20, 39] 4 (fun gg s8 s9 s10 s11 s12 s13 s14 s15 s16 s17 s18 s19 s20 s39 wx => ∃ k : Nat, k + gg = 4 ∧ s39 = .int .i64 k ∧ EnvL w.heap.size w wx [] ∧ Row w.heap.size wx bb xs)
    case atStart => exact ⟨0, rfl, rfl, E.out, ROW.out⟩
    case round =>
      clear E ROW
      obtain ⟨k, hkg, rfl, hE, hR⟩ := hrel
      have E := Lib.hid hE; have ROW := Lib.hid hR
      clear hE hR
      by_cases hk : k < 4
      case neg =>
        have hki : ¬ (k : Int) < 4 := by omega
        go_wp2_with fail
        refine (awake9_any _).mono ?_
        rintro e wq ⟨rfl, hb⟩
        have bw := (E.out.below hb).fin
        have bw2 := bthen BW.out bw
        go_wp2_with fail
        go_ret
        exact ⟨rfl, bw2⟩
      case pos =>
      have hki : (k : Int) < 4 := by omega
      have hkx : k < xs.length := by rw [LEN.out]; exact hk
      obtain ⟨x, hx⟩ : ∃ x, x = xs[k] := ⟨_, rfl⟩
      have hxm : x ∈ xs := by rw [hx]; exact List.getElem_mem hkx
      have hcell : ∀ j, j < 3 → wr.cell? ⟨bb, k * 3 + j, none⟩ = x.cells[j]? := fun j hj => by
        have := ROW.out.blk.cell (k * 3 + j)
        rw [List.getElem?_toArray, flat_get xs k j x (by rw [hx]; exact List.getElem?_eq_getElem hkx) hj] at this
        exact this
      have k0 := hcell 0 (by omega); have k1 := hcell 1 (by omega); have k2 := hcell 2 (by omega)
      simp [CR.cells] at k0 k1 k2
      have hlb := ROW.out.lt
      have XI := Lib.hid (ROW.out.inn x hxm)
      have hf9 := FIT.out x hxm
      clear hcell hx hxm hkx
      obtain ⟨AX, nX, cX, X⟩ := x
      have hnX : nX ≤ 1000 := hf9.1
      have HXC := Lib.hid (show nX ≤ cX from hf9.2)
      clear hf9
      simp only at k0 k1 k2
      go_upto_region 8 with fail
      clear k0 k1 k2 hlb
      replace E := Lib.hid (show EnvL w.heap.size w _ _ from E.out.push (X := ⟨AX, nX, cX, X⟩) XI.out)
      dsimp only [List.cons_append, List.nil_append] at E
      replace ROW := Lib.hid (ROW.out.alloc (.cells #[.slice AX nX cX, .int .i64 X.per, .int .i64 X.inc] 46))
      clear XI
      generalize hwe : wr.alloc (.cells #[.slice AX nX cX, .int .i64 X.per, .int .i64 X.inc] 46) = wo at *
      clear hwe
      generalize wr.heap.size = ZX at *
      obtain ⟨x0, x1, x2, hlx⟩ := (E.out.get 0 rfl).cells
      go_wp2_with fail
      refine (clof_any AX nX cX X _ (by exact (E.out.get 0 rfl).inn.ints) (by omega)).mono ?_
      rintro e wa ⟨a, e5, hSS, A5, n5, c5, hle, rfl, hI, hA, hb⟩
      have Sa := Lib.hid (show ClS X a e5 from hSS)
      have hps := E.out.s.lt
      have E1 := Lib.hid (show EnvL w.heap.size w _ _ from (E.out.below hb).push (X := ⟨A5, n5, c5, a⟩) (CR.In.new hI hA hps))
      dsimp only [List.cons_append, List.nil_append] at E1
      replace ROW := Lib.hid ((ROW.out.below hb).alloc (.cells #[.slice A5 n5 c5, .int .i64 a.per, .int .i64 a.inc] 46))
      clear E
      have E := E1
      clear E1 hSS hI hA hb hps hle
      clear x0 x1 x2 hlx
      go_upto_region 9 with fail
      generalize hwe : wa.alloc (.cells #[.slice A5 n5 c5, .int .i64 a.per, .int .i64 a.inc] 46) = we at *
      clear hwe
      generalize wa.heap.size = Za at *
      obtain ⟨x0, x1, x2, hlx⟩ := (E.out.get 0 rfl).cells
      go_wp2_with fail
      refine (of9_any AX nX cX X _ (by exact (E.out.get 0 rfl).inn.ints) (by omega) HXC.out).mono ?_
      rintro e wb ⟨b, e6, hSS, A6, n6, c6, hle, rfl, hI, hA, hb⟩
      have Sb := Lib.hid (show ClS X b e6 from hSS)
      have hps := E.out.s.lt
      have E1 := Lib.hid (show EnvL w.heap.size w _ _ from (E.out.below hb).push (X := ⟨A6, n6, c6, b⟩) (CR.In.new hI hA hps))
      dsimp only [List.cons_append, List.nil_append] at E1
      replace ROW := Lib.hid ((ROW.out.below hb).alloc (.cells #[.slice A6 n6 c6, .int .i64 b.per, .int .i64 b.inc] 46))
      clear E
      have E := E1
      clear E1 hSS hI hA hb hps hle
      clear x0 x1 x2 hlx
      go_upto_region 10 with fail
      generalize hwe : wb.alloc (.cells #[.slice A6 n6 c6, .int .i64 b.per, .int .i64 b.inc] 46) = we at *
      clear hwe
      generalize wb.heap.size = Zb at *
      obtain ⟨x0, x1, x2, hlx⟩ := (E.out.get 0 rfl).cells
      go_wp2_with fail
      refine (clprv_any AX nX cX X _ (by exact (E.out.get 0 rfl).inn.ints) (by omega)).mono ?_
      rintro e wc ⟨r, fr, cs, e7, hSS, A7, n7, c7, B7, m7, d7, hc4, hd4, rfl, hI, hJ, hA, hB, hb⟩
      have Sr := Lib.hid (show PvC X r fr cs e7 from hSS)
      replace E := Lib.hid (E.out.below hb); replace ROW := Lib.hid (ROW.out.below hb)
      try (replace VP1 := Lib.hid (VP1.out.below hb))
      try (replace VP2 := Lib.hid (VP2.out.below hb))
      have VP1 := Lib.hid (Vp.new (c := c7) (d := d7) (fr := fr) hI hJ)
      have hb := balloc wc (.cells #[.slice A7 n7 c7, .int .i64 r.per, .int .i64 r.inc, .int .i64 fr, .slice B7 m7 d7] 63)
      replace E := Lib.hid (E.out.below hb); replace ROW := Lib.hid (ROW.out.below hb)
      clear hSS hc4 hd4 hI hJ hA hB hb
      clear x0 x1 x2 hlx
      go_upto_region 11 with fail
      generalize hwe : wc.alloc (.cells #[.slice A7 n7 c7, .int .i64 r.per, .int .i64 r.inc, .int .i64 fr, .slice B7 m7 d7] 63) = we at *
      clear hwe
      generalize wc.heap.size = ZP1 at *
      obtain ⟨x0, x1, x2, hlx⟩ := (E.out.get 0 rfl).cells
      go_wp2_with fail
      refine (prove9_any AX nX cX X _ (by exact (E.out.get 0 rfl).inn.ints) (by omega) HXC.out).mono ?_
      rintro e wd ⟨r2, fr2, cs2, e8, hSS, A8, n8, c8, B8, m8, d8, hc4, hd4, rfl, hI, hJ, hA, hB, hb⟩
      have Sr2 := Lib.hid (show PvC X r2 fr2 cs2 e8 from hSS)
      replace E := Lib.hid (E.out.below hb); replace ROW := Lib.hid (ROW.out.below hb)
      try (replace VP1 := Lib.hid (VP1.out.below hb))
      try (replace VP2 := Lib.hid (VP2.out.below hb))
      have VP2 := Lib.hid (Vp.new (c := c8) (d := d8) (fr := fr2) hI hJ)
      have hb := balloc wd (.cells #[.slice A8 n8 c8, .int .i64 r2.per, .int .i64 r2.inc, .int .i64 fr2, .slice B8 m8 d8] 63)
      replace E := Lib.hid (E.out.below hb); replace ROW := Lib.hid (ROW.out.below hb)
      replace VP1 := Lib.hid (VP1.out.below hb)
      clear hSS hc4 hd4 hI hJ hA hB hb
      clear x0 x1 x2 hlx
      go_upto_region 12 with fail
      generalize hwe : wd.alloc (.cells #[.slice A8 n8 c8, .int .i64 r2.per, .int .i64 r2.inc, .int .i64 fr2, .slice B8 m8 d8] 63) = wf at *
      clear hwe
      generalize wd.heap.size = ZP2 at *
      obtain ⟨x0, x1, x2, hlx⟩ := (E.out.get 0 rfl).cells
      go_wp2_with fail
      refine (subaddF_any AX nX cX X.per X.inc X.vals _ (by exact (E.out.get 0 rfl).inn.ints) (by omega)).mono ?_
      rintro e wg ⟨bs, es, hSA, rfl, hb⟩
      have SA1 := Lib.hid (show SaS X bs es from hSA)
      replace E := Lib.hid (E.out.below hb); replace ROW := Lib.hid (ROW.out.below hb)
      try (replace VP1 := Lib.hid (VP1.out.below hb))
      try (replace VP2 := Lib.hid (VP2.out.below hb))
      clear hSA hb
      clear x0 x1 x2 hlx
      obtain ⟨x0, x1, x2, hlx⟩ := (E.out.get 0 rfl).cells
      go_wp2_with fail
      refine (subadd9_any AX nX cX X _ (by exact (E.out.get 0 rfl).inn.ints) (by omega) HXC.out).mono ?_
      rintro e wh ⟨bs2, es2, hSA, rfl, hb⟩
      have SA2 := Lib.hid (show SaS X bs2 es2 from hSA)
      replace E := Lib.hid (E.out.below hb); replace ROW := Lib.hid (ROW.out.below hb)
      try (replace VP1 := Lib.hid (VP1.out.below hb))
      try (replace VP2 := Lib.hid (VP2.out.below hb))
      clear hSA hb
      clear x0 x1 x2 hlx
      have la := cl_len Sa.out
      have lr := cl_len (show ClS X r e7 from ⟨fr, cs, Sr.out⟩)
      have lc := pv_cs Sr.out
      have QA := Lib.hid (ClS.unique Sa.out Sb.out); have QR := Lib.hid (PvC.unique Sr.out Sr2.out); have QS := Lib.hid (SaS.unique SA1.out SA2.out)
      clear Sa Sb Sr Sr2 SA1 SA2
      obtain ⟨rfl, rfl⟩ := QA.out
      obtain ⟨rfl, rfl, rfl, rfl⟩ := QR.out
      obtain ⟨rfl, rfl⟩ := QS.out
      clear QA QR QS
      have q5 : a.vals.length = n5 := (E.out.get 1 rfl).inn.ints.1
      have q6 : a.vals.length = n6 := (E.out.get 2 rfl).inn.ints.1
      have q7 : r.vals.length = n7 := VP1.out.ints.1
      have q8 : r.vals.length = n8 := VP2.out.ints.1
      have q9 : cs.length = m7 := VP1.out.jnts.1
      have q10 : cs.length = m8 := VP2.out.jnts.1
      have h5 : n5 ≤ 400 := by omega
      have h6 : n6 ≤ 400 := by omega
      have h7 : n7 ≤ 400 := by omega
      have h8 : n8 ≤ 400 := by omega
      have h9 : m7 ≤ 1100 := by omega
      have h10 : m8 ≤ 1100 := by omega
      clear q5 q6 q7 q8 q9 q10 la lr lc
      have b1 : (e5 != e5) = false := by simp
      have b2 : (e7 != e7) = false := by simp
      have b3 : (es != es) = false := by simp
      have b4 : (bs != bs) = false := by simp
      obtain ⟨u0, u1, u2, hlu⟩ := (E.out.get 1 rfl).cells
      obtain ⟨v0, v1, v2, hlv⟩ := (E.out.get 2 rfl).cells
      go_wp2_with fail
      refine (refSame_any A5 A6 n5 n6 c5 c6 a.per a.per a.inc a.inc a.vals a.vals _ (by exact (E.out.get 1 rfl).inn.ints) (by exact (E.out.get 2 rfl).inn.ints) (by omega) (by omega)).mono ?_
      rw [show Cv.same ⟨a.vals, a.per, a.inc⟩ ⟨a.vals, a.per, a.inc⟩ = true from (Cv.same_iff _ _).2 rfl]
      rintro e wi ⟨rfl, hb⟩
      replace E := Lib.hid (E.out.below hb); replace ROW := Lib.hid (ROW.out.below hb)
      try (replace VP1 := Lib.hid (VP1.out.below hb))
      try (replace VP2 := Lib.hid (VP2.out.below hb))
      clear hb u0 u1 u2 hlu v0 v1 v2 hlv
      obtain ⟨⟨u0, u1, u2, u3, u4⟩, _, hlu⟩ := VP1.out.blk.q5
      obtain ⟨⟨v0, v1, v2, v3, v4⟩, _, hlv⟩ := VP2.out.blk.q5
      go_wp2_with fail
      refine (same9_any A7 B7 A8 B8 n7 c7 m7 d7 n8 c8 m8 d8 r r fr fr cs cs _ (by exact VP1.out.ints) (by exact VP1.out.jnts) (by exact VP2.out.ints) (by exact VP2.out.jnts) (by omega) (by omega) (by omega) (by omega)).mono ?_
      rintro e wj ⟨⟨z, hz, rfl⟩, hb⟩
      obtain rfl : z = true := hz.2 ⟨rfl, rfl, rfl⟩
      replace E := Lib.hid (E.out.below hb); replace ROW := Lib.hid (ROW.out.below hb)
      try (replace VP1 := Lib.hid (VP1.out.below hb))
      try (replace VP2 := Lib.hid (VP2.out.below hb))
      clear hb hz u0 u1 u2 u3 u4 hlu v0 v1 v2 v3 v4 hlv
      go_wp2_with fail
      go_roundg (gk - 1)
      case measure => omega
      case rel => exact ⟨k + 1, by omega, by go_num, ⟨E.out.s, E.out.k, fun x hx => by cases hx⟩, ROW.out⟩
end Go.Proofs.Ythdibkmjoiipgaa
