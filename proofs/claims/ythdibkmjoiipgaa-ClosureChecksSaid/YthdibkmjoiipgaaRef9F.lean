/- netcalculusref09: Prove, Of, Same. -/
import Derived.Test.YthdibkmjoiipgaaRef9E
import Derived.Test.YthdibkmjoiipgaaSto
import Derived.Deep.LoopGhost
namespace Go.Proofs.Ythdibkmjoiipgaa
open Go.RowKit
set_option linter.unusedVariables false
set_option maxHeartbeats 1000000 in
theorem refNormalK_any (A : Option Addr) (n c : Nat) (p i : Int) (zs : List Int) (w : World) (hA : Ints w w.heap.size A n zs) (hc : n ≤ c) (hn : (n : Int) ≤ 1000000) :
    Calls Try.prog 95 #[.agg #[.slice A n c, .int .i64 p, .int .i64 i]] w (RetSK (NormR ⟨zs, p, i⟩) w) := by
  have E0 := Lib.hid (LB.new (p := p) (i := i) (c := c) hA)
  by_cases ok : Cv.Ok ⟨zs, p, i⟩
  · have hob := Cv.okB_true ok
    have OK := Lib.hid ok
    clear ok hA
    go_enter Try.func95, Try.ntmps95
    go_wp2_with fail
    refine (refValid_any A n c p i zs _ E0.out.ints hn).mono ?_
    rintro e w1 ⟨rfl, hb⟩
    rw [hob]
    have E := Lib.hid (E0.out.below hb)
    clear E0 hb
    obtain ⟨f0, f1, f2, hlf⟩ := E.out.cells
    obtain ⟨r0, r1, r2, z0, z1, z2, hlr⟩ := E.out.rcells
    go_wp2_with fail
    refine (refLeast_any A n c p i zs _ E.out.ints hc OK.out.pre).mono ?_
    rintro e w2 ⟨g, A2, n2, c2, hS, hc2, rfl, hI, hge, hb⟩
    obtain ⟨hnf, hok, _⟩ := LeastS.ok OK.out hS
    have F := Lib.hid (show NormR ⟨zs, p, i⟩ g 0 from .inl ⟨OK.out, hnf, hok, rfl⟩)
    have HI := Lib.hid hI
    have hl1 := Nat.lt_of_lt_of_le hlr hb.size
    have E := Lib.hid (E.out.below hb)
    clear hb hI hnf hok hS f0 f1 f2 r0 r1 r2 z0 z1 z2
    obtain ⟨r0, r1, r2, z0, z1, z2, hlr2⟩ := E.out.rcells
    go_wp2_with fail
    have rb := E.out.rb.store3 (.slice A2 n2 c2) (.int .i64 g.per) (.int .i64 g.inc)
    have bw := E.out.bw
    exact bodyPost_ret (v := .tuple #[.agg #[.slice A2 n2 c2, .int .i64 g.per, .int .i64 g.inc], .int .i64 0]) (by simp [results, Try.results95, go_sem, rb.cell]) rfl
      ⟨g, 0, F.out, retK_store3' hc2 hge (by omega) hlr HI.out bw⟩
  · have hob := Cv.okB_false ok
    have F := Lib.hid (show NormR ⟨zs, p, i⟩ Cv.none 1 from .inr ⟨ok, rfl, rfl⟩)
    clear ok hA
    go_enter Try.func95, Try.ntmps95
    go_wp2_with fail
    refine (refValid_any A n c p i zs _ E0.out.ints hn).mono ?_
    rintro e w1 ⟨rfl, hb⟩
    rw [hob]
    have E := Lib.hid (E0.out.below hb)
    clear E0 hb
    obtain ⟨f0, f1, f2, hlf⟩ := E.out.cells
    obtain ⟨r0, r1, r2, z0, z1, z2, hlr⟩ := E.out.rcells
    go_wp2_with fail
    have rb := E.out.rb.store3 (.slice none 0 0) (.int .i64 0) (.int .i64 0)
    have bw := E.out.bw
    exact bodyPost_ret (v := .tuple #[.agg #[.slice none 0 0, .int .i64 0, .int .i64 0], .int .i64 1]) (by simp [results, Try.results95, go_sem, rb.cell]) rfl
      ⟨Cv.none, 1, F.out, none, 0, 0, Nat.le_refl _, rfl, Ints.none_, (fun b off s h => by cases h), ((bw.setCell (by simp) _).setCell (by simp) _).setCell (by simp) _⟩


theorem pvAtC_of {a h : Cv} {cs : List Int} {N : Nat} (hl : cs.length = N) (hN : N = clF a h + clL a h) (H : ∀ x, x < N → PvE a h x (nth cs x)) : PvAtC a h cs := ⟨by rw [hl, hN], fun t ht => by
  obtain ⟨u, h1, h2, h3, h4⟩ := H t (by omega)
  exact ⟨u, h1, h2, h3, h4⟩⟩
set_option maxHeartbeats 4000000 in
set_option maxRecDepth 100000 in
theorem prove9_any (A : Option Addr) (n c : Nat) (f : Cv) (w : World) (hA : Ints w w.heap.size A n f.vals) (hn : (n : Int) ≤ 1000000) (hnc : n ≤ c) :
    Calls Try.prog 40 #[.agg #[.slice A n c, .int .i64 f.per, .int .i64 f.inc]] w (RetSq (PvC f) w) := by
  have fb := (Blk.new w 46 #[.slice A n c, .int .i64 f.per, .int .i64 f.inc]).alloc (.cells #[.slice none 0 0, .int .i64 0, .int .i64 0, .int .i64 0, .slice none 0 0] 63)
  have IA := Lib.hid ((hA.alloc' (.cells #[.slice A n c, .int .i64 f.per, .int .i64 f.inc] 46)).alloc' (.cells #[.slice none 0 0, .int .i64 0, .int .i64 0, .int .i64 0, .slice none 0 0] 63))
  have E := Lib.hid (show PE w ((w.alloc (.cells #[.slice A n c, .int .i64 f.per, .int .i64 f.inc] 46)).alloc (.cells #[.slice none 0 0, .int .i64 0, .int .i64 0, .int .i64 0, .slice none 0 0] 63)) from ⟨by
    have := Blk.new (w.alloc (.cells #[.slice A n c, .int .i64 f.per, .int .i64 f.inc] 46)) 63 #[.slice none 0 0, .int .i64 0, .int .i64 0, .int .i64 0, .slice none 0 0]
    simpa using this, bthen (balloc _ _) (balloc _ _)⟩)
  have FB := Lib.hid fb
  clear hA fb
  go_enter Try.func40, Try.ntmps40
  go_upto_region 1 with fail
  generalize hwe : (w.alloc (.cells #[.slice A n c, .int .i64 f.per, .int .i64 f.inc] 46)).alloc (.cells #[.slice none 0 0, .int .i64 0, .int .i64 0, .int .i64 0, .slice none 0 0] 63) = we at *
  clear hwe
  obtain ⟨⟨f0, f1, f2⟩, _, hlf⟩ := FB.out.c3
  go_wp2_with fail
  refine (refNormalK_any A n c f.per f.inc f.vals _ (by exact IA.out) hnc (by omega)).mono ?_
  rintro e w1 ⟨a, er, hN, A1, n1, c1, hnc1, rfl, hI, hA, hb⟩
  have HN := Lib.hid (show NormR f a er from hN)
  have VA := Lib.hid (Vr.new (c := c1) hI)
  have hsz := E.out.rb.lt
  replace E := Lib.hid ((E.out.below hb).alloc (.cells #[.slice A1 n1 c1, .int .i64 a.per, .int .i64 a.inc] 46))
  have hzz : w.heap.size + 1 < w1.heap.size := by have := hb.size; omega
  clear hN hI hA hb f0 f1 f2 hlf FB IA hsz
  go_upto_region 2 with fail
  generalize hwe : w1.alloc (.cells #[.slice A1 n1 c1, .int .i64 a.per, .int .i64 a.inc] 46) = w2 at *
  clear hwe
  generalize w1.heap.size = ZA at *
  rcases HN.out with ⟨hfo, hnf, hao, rfl⟩ | ⟨hfo, hgn, rfl⟩
  case inr =>
    have HFO := Lib.hid (show ¬ f.Ok from hfo)
    clear hfo hgn HN
    have FN := Lib.hid (show PvC f Cv.none 0 [] 1 from .inl ⟨HFO.out, rfl, rfl, rfl, rfl⟩)
    obtain ⟨⟨r0, r1, r2, r3, r4⟩, ⟨y0, y1, y2, y3, y4⟩, hlr⟩ := E.out.rb.q5
    go_wp2_with fail
    have rb := E.out.rb.str5 (.slice none 0 0) (.int .i64 0) (.int .i64 0) (.int .i64 0) (.slice none 0 0)
    have bw := bsto E.out.bw (Sto.q5 (w.heap.size + 1) _ (.slice none 0 0) (.int .i64 0) (.int .i64 0) (.int .i64 0) (.slice none 0 0)) (by omega)
    refine bodyPost_ret (v := .tuple #[.agg #[.slice none 0 0, .int .i64 0, .int .i64 0, .int .i64 0, .slice none 0 0], .int .i64 1]) (by simp [results, Try.results40, go_sem, rb.cell]) rfl ?_
    exact retSq_none FN.out bw
  case inl =>
    replace hfo : f.Ok := hfo
    have HFO := Lib.hid hfo; have HNF := Lib.hid hnf; have HAO := Lib.hid hao
    have hlen : a.vals.length = n1 := VA.out.ints.1
    have hl1 : n1 ≤ 400 := by have := hao.n2; omega
    have HLN := Lib.hid hlen
    clear hfo hnf hao HN hlen
    obtain ⟨⟨a0, a1, a2⟩, hla⟩ := VA.out.c
    by_cases h60 : 60 < n1
    case pos =>
      have d60 : decide ((60 : Int) < (n1 : Int)) = true := by simp; omega
      have H60 := Lib.hid h60
      clear h60
      have FN := Lib.hid (show PvC f Cv.none 0 [] 3 from .inr ⟨HFO.out, a, HNF.out, .inl ⟨by rw [HLN.out]; exact H60.out, rfl, rfl, rfl, rfl⟩⟩)
      obtain ⟨⟨r0, r1, r2, r3, r4⟩, ⟨y0, y1, y2, y3, y4⟩, hlr⟩ := E.out.rb.q5
      go_wp2_with fail
      have rb := E.out.rb.str5 (.slice none 0 0) (.int .i64 0) (.int .i64 0) (.int .i64 0) (.slice none 0 0)
      have bw := bsto E.out.bw (Sto.q5 (w.heap.size + 1) _ (.slice none 0 0) (.int .i64 0) (.int .i64 0) (.int .i64 0) (.slice none 0 0)) (by omega)
      refine bodyPost_ret (v := .tuple #[.agg #[.slice none 0 0, .int .i64 0, .int .i64 0, .int .i64 0, .slice none 0 0], .int .i64 3]) (by simp [results, Try.results40, go_sem, rb.cell]) rfl ?_
      exact retSq_none FN.out bw
    case neg =>
      have d60 : decide ((60 : Int) < (n1 : Int)) = false := by simp; omega
      have H60 := Lib.hid (show a.vals.length ≤ 60 from by rw [HLN.out]; omega)
      clear h60
      go_upto_region 6 with fail
      go_wp2_with fail
      refine (guess9_any A1 n1 c1 a _ (by exact VA.out.ints) HAO.out).mono ?_
      rintro e w3 ⟨h, z, B, m, d, hGS, hmd, hm2, rfl, hI, hB, hb⟩
      have GS := Lib.hid hGS
      have VH := Lib.hid (Vr.new (c := d) hI)
      have hrl := E.out.rb.lt
      have HBN := Lib.hid (show ∀ b off s, B = some ⟨b, off, s⟩ → w.heap.size + 1 < b from fun b off s e => by have := hB b off s e; omega)
      clear a0 a1 a2 hla
      clear d60
      replace E := Lib.hid (E.out.below hb); replace VA := Lib.hid (VA.out.below hb)
      have hzh : ZA < w3.heap.size := VA.out.blk.lt
      clear hb
      have hb := balloc w3 (.cells #[.slice B m d, .int .i64 h.per, .int .i64 h.inc] 46)
      replace E := Lib.hid (E.out.below hb); replace VA := Lib.hid (VA.out.below hb)
      have HB := Lib.hid (show ∀ b off s, B = some ⟨b, off, s⟩ → w.heap.size ≤ b from fun b off s e => by have := HBN.out b off s e; omega)
      clear hb hGS hI hB hrl
      go_upto_region 7 with fail
      generalize hwe : w3.alloc (.cells #[.slice B m d, .int .i64 h.per, .int .i64 h.inc] 46) = w4 at *
      clear hwe
      generalize w3.heap.size = ZH at *
      cases z
      case false =>
        have HC2 := Lib.hid (show CandS (clo a.at) Cv.none 3 from GS.out.2 (.inl (by first | rfl | trivial)))
        clear GS
        have FN := Lib.hid (show PvC f Cv.none 0 [] 3 from .inr ⟨HFO.out, a, HNF.out, .inr ⟨H60.out, Cv.none, 3, HC2.out, .inl ⟨rfl, rfl, rfl, rfl, rfl⟩⟩⟩)
        obtain ⟨⟨r0, r1, r2, r3, r4⟩, ⟨y0, y1, y2, y3, y4⟩, hlr⟩ := E.out.rb.q5
        go_wp2_with fail
        have rb := E.out.rb.str5 (.slice none 0 0) (.int .i64 0) (.int .i64 0) (.int .i64 0) (.slice none 0 0)
        have bw := bsto E.out.bw (Sto.q5 (w.heap.size + 1) _ (.slice none 0 0) (.int .i64 0) (.int .i64 0) (.int .i64 0) (.slice none 0 0)) (by omega)
        refine bodyPost_ret (v := .tuple #[.agg #[.slice none 0 0, .int .i64 0, .int .i64 0, .int .i64 0, .slice none 0 0], .int .i64 3]) (by simp [results, Try.results40, go_sem, rb.cell]) rfl ?_
        exact retSq_none FN.out bw
      case true =>
      obtain ⟨⟨h0, h1, h2⟩, hlh⟩ := VH.out.c
      go_wp2_with fail
      refine (refValid_any B m d h.per h.inc h.vals _ (by exact VH.out.ints) (by omega)).mono ?_
      rintro e w5 ⟨rfl, hb⟩
      clear h0 h1 h2 hlh
      replace E := Lib.hid (E.out.below hb); replace VA := Lib.hid (VA.out.below hb); replace VH := Lib.hid (VH.out.below hb)
      clear hb
      by_cases hho : h.Ok
      case neg =>
        have dv : Cv.okB ⟨h.vals, h.per, h.inc⟩ = false := by
          cases q : Cv.okB ⟨h.vals, h.per, h.inc⟩
          · rfl
          · exact absurd (Cv.okB_iff.1 q) hho
        have HC2 := Lib.hid (show CandS (clo a.at) Cv.none 3 from GS.out.2 (.inr hho))
        clear hho GS
        rw [dv]
        have FN := Lib.hid (show PvC f Cv.none 0 [] 3 from .inr ⟨HFO.out, a, HNF.out, .inr ⟨H60.out, Cv.none, 3, HC2.out, .inl ⟨rfl, rfl, rfl, rfl, rfl⟩⟩⟩)
        obtain ⟨⟨r0, r1, r2, r3, r4⟩, ⟨y0, y1, y2, y3, y4⟩, hlr⟩ := E.out.rb.q5
        go_wp2_with fail
        have rb := E.out.rb.str5 (.slice none 0 0) (.int .i64 0) (.int .i64 0) (.int .i64 0) (.slice none 0 0)
        have bw := bsto E.out.bw (Sto.q5 (w.heap.size + 1) _ (.slice none 0 0) (.int .i64 0) (.int .i64 0) (.int .i64 0) (.slice none 0 0)) (by omega)
        refine bodyPost_ret (v := .tuple #[.agg #[.slice none 0 0, .int .i64 0, .int .i64 0, .int .i64 0, .slice none 0 0], .int .i64 3]) (by simp [results, Try.results40, go_sem, rb.cell]) rfl ?_
        exact retSq_none FN.out bw
      case pos =>
      have dv : Cv.okB ⟨h.vals, h.per, h.inc⟩ = true := Cv.okB_iff.2 hho
      have HC := Lib.hid (show CandS (clo a.at) h 0 from GS.out.1 (by first | rfl | trivial) hho)
      have HHO := Lib.hid hho
      have hm4 : m ≤ 400 := by have := hho.n2; have h2 : h.vals.length = m := VH.out.ints.1; omega
      clear hho GS
      rw [dv]
      obtain ⟨⟨h0, h1, h2⟩, hlh⟩ := VH.out.c
      obtain ⟨⟨a0, a1, a2⟩, hla⟩ := VA.out.c
      go_wp2_with fail
      refine (common9_any A1 B n1 m c1 d a h _ (by exact VA.out.ints) (by exact VH.out.ints) HAO.out HHO.out).mono ?_
      rintro e wm ⟨rfl, hb⟩
      obtain ⟨l, hl⟩ : ∃ l, l = clL a h := ⟨_, rfl⟩
      obtain ⟨F, hF⟩ : ∃ F, F = clF a h := ⟨_, rfl⟩
      rw [← hl, ← hF]
      have hl14 : l ≤ 14400 := by
        have q1 := HAO.out.p1; have q2 := HHO.out.p1; have q3 := HAO.out.p2; have q4 := HHO.out.p2
        have hcm := comm_facts (p := a.per.toNat) (q := h.per.toNat) (by omega) (by omega)
        have hcm2 : a.per.toNat * h.per.toNat ≤ 120 * 120 := Nat.mul_le_mul (by omega) (by omega)
        rw [hl]; unfold clL; split <;> omega
      have hF9 : F ≤ 801 + l := by
        have h1 := cst_le HAO.out; have h2 := cst_le HHO.out
        rw [hF, hl]
        unfold clF
        omega
      have HL := Lib.hid hl; have HF := Lib.hid hF
      clear hl hF dv
      clear a0 a1 a2 hla
      clear h0 h1 h2 hlh
      replace E := Lib.hid (E.out.below hb); replace VA := Lib.hid (VA.out.below hb); replace VH := Lib.hid (VH.out.below hb)
      clear hb
      obtain ⟨⟨h0, h1, h2⟩, hlh⟩ := VH.out.c
      have hwz : w.heap.size + 1 < wm.heap.size := E.out.rb.lt
      go_upto_region 11 with fail
      clear h0 h1 h2 hlh
      have OB := Lib.hid (Blk.new wm 63 #[.slice B m d, .int .i64 h.per, .int .i64 h.inc, .int .i64 (F : Int), .slice none 0 0])
      have BG := Lib.hid (balloc wm (.cells #[.slice B m d, .int .i64 h.per, .int .i64 h.inc, .int .i64 (F : Int), .slice none 0 0] 63))
      generalize hwe : wm.alloc (.cells #[.slice B m d, .int .i64 h.per, .int .i64 h.inc, .int .i64 (F : Int), .slice none 0 0] 63) = w7 at *
      clear hwe
      obtain ⟨N, hN⟩ : ∃ N : Nat, N = F + l := ⟨_, rfl⟩
      have HN := Lib.hid hN
      have e2 : (F : Int) + (l : Int) = (N : Int) := by omega
      have e1 : IntKind.i64.wrap ((F : Int) + (l : Int)) = (N : Int) := by rw [IntWalk.i64_in _ (by omega)]; omega
      have e3 : IntKind.i64.wrap (N : Int) = (N : Int) := IntWalk.i64_in _ (by omega)
      have hN4 : N ≤ 30000 := by omega
      clear hN
      by_cases hl120 : l ≤ 120
      case neg =>
        have dl : decide ((l : Int) ≤ 120) = false := by simp; omega
        have dl2 : decide (l ≤ 120) = false := by simp; omega
        have hN1 : 0 < N := by
          have h1 : 1 ≤ F := by rw [HF.out]; unfold clF; omega
          have := HN.out; omega
        have hN1i : (0 : Int) < (N : Int) := by omega
        go_wp2_with fail
        go_loopg [11, 12] 0 (fun gg s11 s12 wx => s11 = .int .i64 0 ∧ Blk wx wm.heap.size 63 #[.slice B m d, .int .i64 h.per, .int .i64 h.inc, .int .i64 (F : Int), .slice none 0 0] ∧ Below wm.heap.size wm wx)
        case atStart => exact ⟨rfl, OB.out, BG.out⟩
        case round =>
          clear OB BG
          obtain ⟨rfl, hOB, hBG⟩ := hrel
          have OB := Lib.hid hOB; have BG := Lib.hid hBG
          clear hOB hBG
          obtain ⟨⟨p0, p1, p2, p3, p4⟩, _, hlo⟩ := OB.out.q5
          obtain ⟨⟨a0, a1, a2⟩, hla⟩ := (VA.out.below BG.out).c
          go_wp2_with fail
          refine (check9_any A1 B none n1 c1 m d 0 0 a h (F : Int) [] _ (by exact (VA.out.below BG.out).ints) (by exact (VH.out.below BG.out).ints) (by exact ⟨rfl, fun h => absurd h (by omega)⟩) hnc1 hmd (by omega) (by omega) (by omega)).mono ?_
          rintro e w8 ⟨⟨bk, hbk, rfl⟩, hb⟩
          obtain rfl : bk = false := by
            cases bk
            · rfl
            · exact absurd (by rw [HL.out]; exact ((ckC_iff HAO.out HNF.out.to_at).1 (hbk.1 rfl)).2.2.2.1) hl120
          replace BG := Lib.hid (BG.out.trans (hb.mono BG.out.size))
          clear hb hbk p0 p1 p2 p3 p4 hlo a0 a1 a2 hla
          replace E := Lib.hid (E.out.below BG.out)
          obtain ⟨cs0, hcs0⟩ := pvAtC_exists a h
          have NO := Lib.hid (show PvC f Cv.none 0 [] 3 from .inr ⟨HFO.out, a, HNF.out, .inr ⟨H60.out, h, 0, HC.out, .inr ⟨rfl, cs0, hcs0, .inr ⟨fun q => hl120 (by rw [HL.out]; exact ((ckC_iff HFO.out HNF.out).1 q).2.2.2.1), rfl, rfl, rfl, rfl⟩⟩⟩⟩)
          clear hl120 hcs0
          have FN := Lib.hid (show PvC f Cv.none 0 [] 3 from NO.out)
          obtain ⟨⟨r0, r1, r2, r3, r4⟩, ⟨y0, y1, y2, y3, y4⟩, hlr⟩ := E.out.rb.q5
          go_wp2_with fail
          have rb := E.out.rb.str5 (.slice none 0 0) (.int .i64 0) (.int .i64 0) (.int .i64 0) (.slice none 0 0)
          have bw := bsto E.out.bw (Sto.q5 (w.heap.size + 1) _ (.slice none 0 0) (.int .i64 0) (.int .i64 0) (.int .i64 0) (.slice none 0 0)) (by omega)
          refine bodyPost_ret (v := .tuple #[.agg #[.slice none 0 0, .int .i64 0, .int .i64 0, .int .i64 0, .slice none 0 0], .int .i64 3]) (by simp [results, Try.results40, go_sem, rb.cell]) rfl ?_
          exact retSq_none FN.out bw
      case pos =>
      have dl : decide ((l : Int) ≤ 120) = true := by simp; omega
      have dl2 : decide (l ≤ 120) = true := by simp; omega
      have hN9 : N ≤ 1100 := by have := HN.out; omega
      have hF9' : F ≤ 1100 := by omega
      go_wp2_with fail
      go_loopg [11, 12] N (fun gg s11 s12 wx => ∃ (t : Nat) (Am : Option Addr) (cm : Nat) (cs : List Int), t + gg = N ∧ s11 = .int .i64 t ∧ Hid (∀ x, x < t → PvE a h x (nth cs x)) ∧ Blk wx wm.heap.size 63 #[.slice B m d, .int .i64 h.per, .int .i64 h.inc, .int .i64 (F : Int), .slice Am t cm] ∧ Own wx (wm.heap.size + 1) (.slice Am t cm) t cs ∧ Below wm.heap.size wm wx)
      case atStart => exact ⟨0, none, 0, [], by omega, rfl, Lib.hid (fun x hx => by omega), OB.out, Own.nil_ _ _, BG.out⟩
      case round =>
        clear OB BG
        obtain ⟨t, Am, cm, cs, htg, rfl, hgood, hOB, hOWN, hBG⟩ := hrel
        have OB := Lib.hid hOB; have OWN := Lib.hid hOWN; have BG := Lib.hid hBG; have HLC := Lib.hid hOWN.len
        clear hOB hOWN hBG
        obtain ⟨go, hgo⟩ : ∃ go : Nat, go = gk := ⟨_, rfl⟩
        subst hgo
        by_cases ht : t < N
        case pos =>
          have hti : (t : Int) < (N : Int) := by omega
          go_wp2_with fail
          clear e1 e2 e3
          go_loopg [12] t (fun gg s12 wx => ∃ u : Nat, u + gg = t ∧ s12 = .int .i64 u ∧ Hid (∀ x, x < u → ¬ ClFit a h t x) ∧ Blk wx wm.heap.size 63 #[.slice B m d, .int .i64 h.per, .int .i64 h.inc, .int .i64 (F : Int), .slice Am t cm] ∧ Own wx (wm.heap.size + 1) (.slice Am t cm) t cs ∧ Below wm.heap.size wm wx)
          case atStart => exact ⟨0, by omega, rfl, Lib.hid (fun x hx => by omega), OB.out, OWN.out, BG.out⟩
          case round =>
            clear OB OWN BG
            obtain ⟨u, hug, rfl, hno, hOB, hOWN, hBG⟩ := hrel
            have OB := Lib.hid hOB; have OWN := Lib.hid hOWN; have BG := Lib.hid hBG
            clear hOB hOWN hBG
            by_cases hut : u < t
            case neg =>
              have hui : ¬ (u : Int) < (t : Int) := by omega
              have hu9 : (u : Int) ≤ 1100 := by omega
              have PE9 := Lib.hid (show PvE a h t (u : Int) from ⟨u, rfl, by omega, fun k => absurd k hut, hno.out⟩)
              clear hut
              have OWNx := Lib.hid (OWN.out.alloc (.cells ([(u : Int)].map (Value.int .i64)).toArray 3))
              have IAy := ints_litC wr [(u : Int)]
              rw [World.size_alloc] at IAy
              have hPb : wm.heap.size + 1 ≤ wr.heap.size := OB.out.lt
              obtain ⟨⟨p0, p1, p2, p3, p4⟩, ⟨z0, z1, z2, z3, z4⟩, hlo⟩ := OB.out.q5
              go_upto_region 17 with fail
              go_wp2_with (at_builtin; refine wpList_app rfl _ _ 29 rfl Try.underlying29 (wm.heap.size + 1) (.slice Am t cm) t cs rfl OWNx.out (wr.heap.size + 1) (some ⟨wr.heap.size, 0, none⟩) 1 1 [(u : Int)] rfl IAy (by omega) (by simp; omega) ?_)
              intro v2 wn own2 grow2 at2
              have hb5 : Below (wm.heap.size + 1) wr wn := ((Below.refl (wm.heap.size + 1) wr).alloc hPb _).grown grow2 (by simp; omega) (fun g hg => (OWN.out.blk_lt g hg).1)
              obtain ⟨A9, c9, rfl, hc9, hI9, hf9⟩ := own2.ints
              have OWN := Lib.hid own2
              clear p0 p1 p2 p3 p4 z0 z1 z2 z3 z4 hlo
              have OB := Lib.hid (OB.out.below hb5 (by omega))
              have BG := Lib.hid (BG.out.trans (hb5.mono (by omega)))
              clear own2 grow2 at2 hI9 hf9 hc9 hb5 OWNx IAy hPb
              obtain ⟨⟨p0, p1, p2, p3, p4⟩, ⟨z0, z1, z2, z3, z4⟩, hlo⟩ := OB.out.q5
              go_upto_region 13 with fail
              have OWN := Lib.hid (OWN.out.far (p := ⟨wm.heap.size, 4, none⟩) (fun e => by have := (OWN.out.blk_lt _ e).1; simp at this; omega) (.slice A9 (t + 1) c9))
              have OB := Lib.hid (show Blk (wn.setCell ⟨wm.heap.size, 4, none⟩ (.slice A9 (t + 1) c9)) wm.heap.size 63 #[.slice B m d, .int .i64 h.per, .int .i64 h.inc, .int .i64 (F : Int), .slice A9 (t + 1) c9] from OB.out.set_ 4 _)
              have BG := Lib.hid (BG.out.setCell (p := ⟨wm.heap.size, 4, none⟩) (by simp) (.slice A9 (t + 1) c9))
              clear p0 p1 p2 p3 p4 z0 z1 z2 z3 z4 hlo
              generalize hws : wn.setCell ⟨wm.heap.size, 4, none⟩ (.slice A9 (t + 1) c9) = ws at *
              clear hws
              go_wp2_with fail
              go_roundg (go - 1)
              case measure => omega
              case rel => exact ⟨t + 1, A9, c9, cs ++ [(u : Int)], by omega, by go_num, (by
                have hl : cs.length = t := HLC.out
                exact Lib.hid (fun x hx => by
                  rcases Nat.lt_or_ge x t with k | k
                  · rw [nth_append, if_pos (by omega)]; exact hgood.out x k
                  · obtain rfl : x = t := by omega
                    rw [nth_append, if_neg (by omega), hl, Nat.sub_self]; exact PE9.out)), OB.out, OWN.out, BG.out⟩
            case pos =>
              have hui : (u : Int) < (t : Int) := by omega
              have hu9 : (u : Int) ≤ 1100 := by omega
              obtain ⟨⟨a0, a1, a2⟩, hla⟩ := (VA.out.below BG.out).c
              obtain ⟨⟨h0, h1, h2⟩, hlh⟩ := (VH.out.below BG.out).c
              go_wp2_with fail
              refine (fits9_any A1 B n1 m c1 d a h l F t (u : Int) _ (by exact (VA.out.below BG.out).ints) (by exact (VH.out.below BG.out).ints) HAO.out HHO.out HL.out (by omega) HF.out (by omega)).mono ?_
              rintro e w8 ⟨⟨bk, hbk, rfl⟩, hb⟩
              have BK := Lib.hid (show bk = true ↔ ClFit a h t u from by
                rw [hbk]
                constructor
                · rintro (q | q)
                  · omega
                  · have := q.2.2; rwa [Int.toNat_natCast] at this
                · intro q
                  exact .inr ⟨by omega, by omega, by rw [Int.toNat_natCast]; exact q⟩)
              have OWN := Lib.hid (OWN.out.below hb (fun g hg => (OWN.out.blk_lt g hg).2))
              replace OB := Lib.hid (OB.out.below hb OB.out.lt); replace BG := Lib.hid (BG.out.trans (hb.mono BG.out.size))
              clear hb hbk
              clear a0 a1 a2 hla h0 h1 h2 hlh
              cases hbv : bk
              case true =>
                have PE9 := Lib.hid (show PvE a h t (u : Int) from ⟨u, rfl, by omega, fun _ => BK.out.1 hbv, hno.out⟩)
                clear hbv BK
                have OWNx := Lib.hid (OWN.out.alloc (.cells ([(u : Int)].map (Value.int .i64)).toArray 3))
                have IAy := ints_litC w8 [(u : Int)]
                rw [World.size_alloc] at IAy
                have hPb : wm.heap.size + 1 ≤ w8.heap.size := OB.out.lt
                obtain ⟨⟨p0, p1, p2, p3, p4⟩, ⟨z0, z1, z2, z3, z4⟩, hlo⟩ := OB.out.q5
                go_upto_region 17 with fail
                go_wp2_with (at_builtin; refine wpList_app rfl _ _ 29 rfl Try.underlying29 (wm.heap.size + 1) (.slice Am t cm) t cs rfl OWNx.out (w8.heap.size + 1) (some ⟨w8.heap.size, 0, none⟩) 1 1 [(u : Int)] rfl IAy (by omega) (by simp; omega) ?_)
                intro v2 wn own2 grow2 at2
                have hb5 : Below (wm.heap.size + 1) w8 wn := ((Below.refl (wm.heap.size + 1) w8).alloc hPb _).grown grow2 (by simp; omega) (fun g hg => (OWN.out.blk_lt g hg).1)
                obtain ⟨A9, c9, rfl, hc9, hI9, hf9⟩ := own2.ints
                have OWN := Lib.hid own2
                clear p0 p1 p2 p3 p4 z0 z1 z2 z3 z4 hlo
                have OB := Lib.hid (OB.out.below hb5 (by omega))
                have BG := Lib.hid (BG.out.trans (hb5.mono (by omega)))
                clear own2 grow2 at2 hI9 hf9 hc9 hb5 OWNx IAy hPb
                obtain ⟨⟨p0, p1, p2, p3, p4⟩, ⟨z0, z1, z2, z3, z4⟩, hlo⟩ := OB.out.q5
                go_upto_region 13 with fail
                have OWN := Lib.hid (OWN.out.far (p := ⟨wm.heap.size, 4, none⟩) (fun e => by have := (OWN.out.blk_lt _ e).1; simp at this; omega) (.slice A9 (t + 1) c9))
                have OB := Lib.hid (show Blk (wn.setCell ⟨wm.heap.size, 4, none⟩ (.slice A9 (t + 1) c9)) wm.heap.size 63 #[.slice B m d, .int .i64 h.per, .int .i64 h.inc, .int .i64 (F : Int), .slice A9 (t + 1) c9] from OB.out.set_ 4 _)
                have BG := Lib.hid (BG.out.setCell (p := ⟨wm.heap.size, 4, none⟩) (by simp) (.slice A9 (t + 1) c9))
                clear p0 p1 p2 p3 p4 z0 z1 z2 z3 z4 hlo
                generalize hws : wn.setCell ⟨wm.heap.size, 4, none⟩ (.slice A9 (t + 1) c9) = ws at *
                clear hws
                go_wp2_with fail
                go_roundg (go - 1)
                case measure => omega
                case rel => exact ⟨t + 1, A9, c9, cs ++ [(u : Int)], by omega, by go_num, (by
                  have hl : cs.length = t := HLC.out
                  exact Lib.hid (fun x hx => by
                    rcases Nat.lt_or_ge x t with k | k
                    · rw [nth_append, if_pos (by omega)]; exact hgood.out x k
                    · obtain rfl : x = t := by omega
                      rw [nth_append, if_neg (by omega), hl, Nat.sub_self]; exact PE9.out)), OB.out, OWN.out, BG.out⟩
              case false =>
                have NF9 := Lib.hid (show ∀ x, x < u + 1 → ¬ ClFit a h t x from fun x hx => by
                  rcases Nat.lt_or_ge x u with k | k
                  · exact hno.out x k
                  · obtain rfl : x = u := by omega
                    exact fun q => by have := BK.out.2 q; rw [hbv] at this; cases this)
                clear hbv BK
                go_wp2_with fail
                go_roundg (gk - 1)
                case measure => omega
                case rel => exact ⟨u + 1, by omega, by go_num, NF9, OB.out, OWN.out, BG.out⟩
        case neg =>
          obtain rfl : t = N := by omega
          have hti : ¬ (t : Int) < (t : Int) := by omega
          have PA := Lib.hid (pvAtC_of HLC.out (by rw [HN.out, HF.out, HL.out]) hgood.out)
          clear ht hgood
          obtain ⟨A9, c9, hsl, hc9, hI9, hf9⟩ := OWN.out.ints
          injection hsl with q1 q2 q3
          subst q1 q3
          have I9 := Lib.hid hI9; have F9 := Lib.hid hf9; have C9 := Lib.hid hc9
          clear hI9 hf9 hc9 q2
          obtain ⟨⟨p0, p1, p2, p3, p4⟩, _, hlo⟩ := OB.out.q5
          obtain ⟨⟨a0, a1, a2⟩, hla⟩ := (VA.out.below BG.out).c
          go_wp2_with fail
          refine (check9_any A1 B Am n1 c1 m d t cm a h (F : Int) cs _ (by exact (VA.out.below BG.out).ints) (by exact (VH.out.below BG.out).ints) (by exact I9.out) hnc1 hmd (by omega) (by omega) (by omega)).mono ?_
          rintro e w8 ⟨⟨bk, hbk, rfl⟩, hb⟩
          have BK := Lib.hid (show bk = true ↔ CkC f h (clF a h : Nat) cs from by rw [hbk, ckC_nf HFO.out HNF.out HAO.out, HF.out])
          replace OB := Lib.hid (OB.out.below hb OB.out.lt); replace BG := Lib.hid (BG.out.trans (hb.mono BG.out.size)); replace I9 := Lib.hid (I9.out.ext hb)
          clear hb hbk p0 p1 p2 p3 p4 hlo a0 a1 a2 hla
          replace E := Lib.hid (E.out.below BG.out)
          cases hbv : bk
          case false =>
            have NO := Lib.hid (show PvC f Cv.none 0 [] 3 from .inr ⟨HFO.out, a, HNF.out, .inr ⟨H60.out, h, 0, HC.out, .inr ⟨rfl, cs, PA.out, .inr ⟨(fun q => by have := BK.out.2 q; rw [hbv] at this; cases this), rfl, rfl, rfl, rfl⟩⟩⟩⟩)
            clear hbv
            have FN := Lib.hid (show PvC f Cv.none 0 [] 3 from NO.out)
            obtain ⟨⟨r0, r1, r2, r3, r4⟩, ⟨y0, y1, y2, y3, y4⟩, hlr⟩ := E.out.rb.q5
            go_wp2_with fail
            have rb := E.out.rb.str5 (.slice none 0 0) (.int .i64 0) (.int .i64 0) (.int .i64 0) (.slice none 0 0)
            have bw := bsto E.out.bw (Sto.q5 (w.heap.size + 1) _ (.slice none 0 0) (.int .i64 0) (.int .i64 0) (.int .i64 0) (.slice none 0 0)) (by omega)
            refine bodyPost_ret (v := .tuple #[.agg #[.slice none 0 0, .int .i64 0, .int .i64 0, .int .i64 0, .slice none 0 0], .int .i64 3]) (by simp [results, Try.results40, go_sem, rb.cell]) rfl ?_
            exact retSq_none FN.out bw
          case true =>
            have YS := Lib.hid (show PvC f h (F : Int) cs 0 from .inr ⟨HFO.out, a, HNF.out, .inr ⟨H60.out, h, 0, HC.out, .inr ⟨rfl, cs, PA.out, .inl ⟨BK.out.1 hbv, rfl, by rw [HF.out], rfl, rfl⟩⟩⟩⟩)
            clear hbv
            obtain ⟨⟨p0, p1, p2, p3, p4⟩, _, hlo⟩ := OB.out.q5
            obtain ⟨⟨r0, r1, r2, r3, r4⟩, ⟨y0, y1, y2, y3, y4⟩, hlr⟩ := E.out.rb.q5
            go_wp2_with fail
            have rb := E.out.rb.str5 (.slice B m d) (.int .i64 h.per) (.int .i64 h.inc) (.int .i64 (F : Int)) (.slice Am t cm)
            have st := Sto.q5 (w.heap.size + 1) w8 (.slice B m d) (.int .i64 h.per) (.int .i64 h.inc) (.int .i64 (F : Int)) (.slice Am t cm)
            have bw := bsto E.out.bw st (by omega)
            have iH := (VH.out.below BG.out).ints
            refine bodyPost_ret (v := .tuple #[.agg #[.slice B m d, .int .i64 h.per, .int .i64 h.inc, .int .i64 (F : Int), .slice Am t cm], .int .i64 0]) (by simp [results, Try.results40, go_sem, rb.cell]) rfl ?_
            exact ⟨h, (F : Int), cs, 0, YS.out, B, m, d, Am, t, cm, hmd, C9.out, rfl, iH.sto st (fun b off o e => by have := HBN.out b off o e; omega), I9.out.sto st (fun b off o e => by have := F9.out b off o e; omega), HB.out, (fun b off o e => by have := F9.out b off o e; omega), bw⟩
set_option maxHeartbeats 1000000 in
theorem of9_any (A : Option Addr) (n c : Nat) (f : Cv) (w : World) (hA : Ints w w.heap.size A n f.vals) (hn : (n : Int) ≤ 1000000) (hnc : n ≤ c) :
    Calls Try.prog 38 #[.agg #[.slice A n c, .int .i64 f.per, .int .i64 f.inc]] w (RetSK (ClS f) w) := by
  have FB := Lib.hid ((Blk.new w 46 #[.slice A n c, .int .i64 f.per, .int .i64 f.inc]).alloc (.cells #[.slice none 0 0, .int .i64 0, .int .i64 0] 46))
  have IA := Lib.hid ((hA.alloc' (.cells #[.slice A n c, .int .i64 f.per, .int .i64 f.inc] 46)).alloc' (.cells #[.slice none 0 0, .int .i64 0, .int .i64 0] 46))
  have rb := Blk.new (w.alloc (.cells #[.slice A n c, .int .i64 f.per, .int .i64 f.inc] 46)) 46 #[.slice none 0 0, .int .i64 0, .int .i64 0]
  rw [World.size_alloc] at rb
  have RB := Lib.hid rb
  have BW := Lib.hid (bthen (balloc w (.cells #[.slice A n c, .int .i64 f.per, .int .i64 f.inc] 46)) (balloc _ (.cells #[.slice none 0 0, .int .i64 0, .int .i64 0] 46)))
  clear hA rb
  go_enter Try.func38, Try.ntmps38
  go_upto_region 1 with fail
  generalize hwe : (w.alloc (.cells #[.slice A n c, .int .i64 f.per, .int .i64 f.inc] 46)).alloc (.cells #[.slice none 0 0, .int .i64 0, .int .i64 0] 46) = we at *
  clear hwe
  obtain ⟨⟨f0, f1, f2⟩, _, hlf⟩ := FB.out.c3
  have hrb := RB.out.lt
  go_wp2_with fail
  refine (prove9_any A n c f _ (by exact IA.out) (by omega) hnc).mono ?_
  rintro e w1 ⟨r, fr, cs, er, hS, A5, n5, c5, B5, m5, d5, hc5, hd5, rfl, hI5, hJ5, hA5, hB5, hb⟩
  have F := Lib.hid (show ClS f r er from ⟨fr, cs, hS⟩)
  have HI5 := Lib.hid (hI5.alloc' (.cells #[.slice A5 n5 c5, .int .i64 r.per, .int .i64 r.inc, .int .i64 fr, .slice B5 m5 d5] 63))
  have HA5 := Lib.hid hA5
  have ZB := Lib.hid (Blk.new w1 63 #[.slice A5 n5 c5, .int .i64 r.per, .int .i64 r.inc, .int .i64 fr, .slice B5 m5 d5])
  have hbq := bthen hb (balloc w1 (.cells #[.slice A5 n5 c5, .int .i64 r.per, .int .i64 r.inc, .int .i64 fr, .slice B5 m5 d5] 63))
  replace RB := Lib.hid (RB.out.below hbq RB.out.lt); replace BW := Lib.hid (bthen BW.out hbq)
  clear hS hI5 hJ5 hA5 hB5 hb hbq f0 f1 f2 hlf FB IA hd5
  go_upto_region 2 with fail
  generalize hwe : w1.alloc (.cells #[.slice A5 n5 c5, .int .i64 r.per, .int .i64 r.inc, .int .i64 fr, .slice B5 m5 d5] 63) = w2 at *
  clear hwe
  generalize w1.heap.size = ZP at *
  obtain ⟨⟨p0, p1, p2, p3, p4⟩, _, hlp⟩ := ZB.out.q5
  obtain ⟨⟨r0, r1, r2⟩, ⟨y0, y1, y2⟩, hlr⟩ := RB.out.c3
  go_wp2_with fail
  have rb := RB.out.store3 (.slice A5 n5 c5) (.int .i64 r.per) (.int .i64 r.inc)
  refine bodyPost_ret (v := .tuple #[.agg #[.slice A5 n5 c5, .int .i64 r.per, .int .i64 r.inc], .int .i64 er]) (by simp [results, Try.results38, go_sem, rb.cell]) rfl ?_
  exact ⟨r, er, F.out, retK_store3' hc5 HA5.out (by omega) (by exact hrb) HI5.out BW.out⟩
set_option maxHeartbeats 2000000 in
set_option maxRecDepth 100000 in
theorem same9_any (A B A' B' : Option Addr) (n c m d n' c' m' d' : Nat) (f g : Cv) (fr gr : Int) (xs ys : List Int) (w : World) (hA : Ints w w.heap.size A n f.vals) (hB : Ints w w.heap.size B m xs) (hA' : Ints w w.heap.size A' n' g.vals) (hB' : Ints w w.heap.size B' m' ys)
    (hn : (n : Int) ≤ 1000000) (hn' : (n' : Int) ≤ 1000000) (hm : (m : Int) ≤ 1000000) (hm' : (m' : Int) ≤ 1000000) :
    Calls Try.prog 43 #[.agg #[.slice A n c, .int .i64 f.per, .int .i64 f.inc, .int .i64 fr, .slice B m d], .agg #[.slice A' n' c', .int .i64 g.per, .int .i64 g.inc, .int .i64 gr, .slice B' m' d']] w (RetQ (f = g ∧ fr = gr ∧ xs = ys) w) := by
  have IA := Lib.hid ((hA.alloc' (.cells #[.slice A n c, .int .i64 f.per, .int .i64 f.inc, .int .i64 fr, .slice B m d] 63)).alloc' (.cells #[.slice A' n' c', .int .i64 g.per, .int .i64 g.inc, .int .i64 gr, .slice B' m' d'] 63)); have IB := Lib.hid ((hB.alloc' (.cells #[.slice A n c, .int .i64 f.per, .int .i64 f.inc, .int .i64 fr, .slice B m d] 63)).alloc' (.cells #[.slice A' n' c', .int .i64 g.per, .int .i64 g.inc, .int .i64 gr, .slice B' m' d'] 63)); have JA := Lib.hid ((hA'.alloc' (.cells #[.slice A n c, .int .i64 f.per, .int .i64 f.inc, .int .i64 fr, .slice B m d] 63)).alloc' (.cells #[.slice A' n' c', .int .i64 g.per, .int .i64 g.inc, .int .i64 gr, .slice B' m' d'] 63)); have JB := Lib.hid ((hB'.alloc' (.cells #[.slice A n c, .int .i64 f.per, .int .i64 f.inc, .int .i64 fr, .slice B m d] 63)).alloc' (.cells #[.slice A' n' c', .int .i64 g.per, .int .i64 g.inc, .int .i64 gr, .slice B' m' d'] 63))
  have FB := Lib.hid ((Blk.new w 63 #[.slice A n c, .int .i64 f.per, .int .i64 f.inc, .int .i64 fr, .slice B m d]).alloc (.cells #[.slice A' n' c', .int .i64 g.per, .int .i64 g.inc, .int .i64 gr, .slice B' m' d'] 63))
  have gb := Blk.new (w.alloc (.cells #[.slice A n c, .int .i64 f.per, .int .i64 f.inc, .int .i64 fr, .slice B m d] 63)) 63 #[.slice A' n' c', .int .i64 g.per, .int .i64 g.inc, .int .i64 gr, .slice B' m' d']
  rw [World.size_alloc] at gb
  have GB := Lib.hid gb
  have BW := Lib.hid (bthen (balloc w (.cells #[.slice A n c, .int .i64 f.per, .int .i64 f.inc, .int .i64 fr, .slice B m d] 63)) (balloc _ (.cells #[.slice A' n' c', .int .i64 g.per, .int .i64 g.inc, .int .i64 gr, .slice B' m' d'] 63)))
  have hxm : xs.length = m := hB.1
  have hym : ys.length = m' := hB'.1
  have HXM := Lib.hid hxm; have HYM := Lib.hid hym
  clear hA hB hA' hB' gb hxm hym
  go_enter Try.func43, Try.ntmps43
  go_upto_region 1 with fail
  generalize hwe : (w.alloc (.cells #[.slice A n c, .int .i64 f.per, .int .i64 f.inc, .int .i64 fr, .slice B m d] 63)).alloc (.cells #[.slice A' n' c', .int .i64 g.per, .int .i64 g.inc, .int .i64 gr, .slice B' m' d'] 63) = we at *
  clear hwe
  obtain ⟨⟨f0, f1, f2, f3, f4⟩, _, hlf⟩ := FB.out.q5
  obtain ⟨⟨g0, g1, g2, g3, g4⟩, _, hlg⟩ := GB.out.q5
  by_cases hfg : fr = gr
  case neg =>
    have df : (fr != gr) = true := by simpa using hfg
    have NO := Lib.hid (show ¬ (f = g ∧ fr = gr ∧ xs = ys) from fun h => hfg h.2.1)
    clear hfg
    have bw := BW.out
    go_wp2_with fail
    go_ret
    exact RetQ.no (by simpa using NO.out) bw
  case pos =>
  subst hfg
  have df : (fr != fr) = false := by simp
  by_cases hmm : m = m'
  case neg =>
    have dm : ((m : Int) != (m' : Int)) = true := by simp; omega
    have dm' : (m != m') = true := by simpa using hmm
    have NO := Lib.hid (show ¬ (f = g ∧ xs = ys) from fun h => hmm (by rw [← HXM.out, ← HYM.out, h.2]))
    clear hmm
    have bw := BW.out
    go_wp2_with fail
    go_ret
    exact RetQ.no (by simpa using NO.out) bw
  case pos =>
    subst hmm
    have dm : ((m : Int) != (m : Int)) = false := by simp
    obtain ⟨z, hz⟩ : ∃ z, z = Cv.same ⟨f.vals, f.per, f.inc⟩ ⟨g.vals, g.per, g.inc⟩ := ⟨_, rfl⟩
    have HZ := Lib.hid (show z = true ↔ f = g from by rw [hz]; exact Cv.same_iff f g)
    have HZZ := Lib.hid hz
    clear hz
    go_wp2_with fail
    refine (refSame_any A A' n n' c c' f.per g.per f.inc g.inc f.vals g.vals _ (by exact IA.out) (by exact JA.out) hn hn').mono ?_
    rw [← HZZ.out]
    rintro e w2 ⟨rfl, hb⟩
    have FB := Lib.hid (FB.out.below hb FB.out.lt); have GB := Lib.hid (GB.out.below hb GB.out.lt); have IB := Lib.hid (IB.out.ext hb); have JB := Lib.hid (JB.out.ext hb); have BW := Lib.hid (bthen BW.out hb)
    clear hb IA JA dm
    clear f0 f1 f2 f3 f4 hlf g0 g1 g2 g3 g4 hlg
    obtain ⟨⟨f0, f1, f2, f3, f4⟩, _, hlf⟩ := FB.out.q5
    obtain ⟨⟨g0, g1, g2, g3, g4⟩, _, hlg⟩ := GB.out.q5
    cases z
    case false =>
      have NO := Lib.hid (show ¬ (f = g ∧ xs = ys) from fun h => by have := HZ.out.2 h.1; cases this)
      have bw := BW.out
      go_wp2_with fail
      go_ret
      exact RetQ.no (by simpa using NO.out) bw
    case true =>
      have HFG := Lib.hid (show f = g from HZ.out.1 (by first | rfl | trivial))
      go_wp2_with fail
      clear f0 f1 f2 f3 f4 hlf g0 g1 g2 g3 g4 hlg
      go_loopg [5] m (fun gg s5 wx => ∃ k : Nat, k + gg = m ∧ s5 = .int .i64 k ∧ (∀ j, j < k → nth xs j = nth ys j) ∧ Blk wx w.heap.size 63 #[.slice A n c, .int .i64 f.per, .int .i64 f.inc, .int .i64 fr, .slice B m d] ∧ Blk wx (w.heap.size + 1) 63 #[.slice A' n' c', .int .i64 g.per, .int .i64 g.inc, .int .i64 fr, .slice B' m d'] ∧ Ints wx wx.heap.size B m xs ∧ Ints wx wx.heap.size B' m ys ∧ Below w.heap.size w wx)
      case atStart => exact ⟨0, by omega, rfl, (fun j hj => by omega), FB.out, GB.out, IB.out, JB.out, BW.out⟩
      case round =>
        clear FB GB IB JB BW
        obtain ⟨k, hkg, rfl, hsame, hF, hG, hI, hJ, hb⟩ := hrel
        have FB := Lib.hid hF; have GB := Lib.hid hG; have IB := Lib.hid hI; have JB := Lib.hid hJ; have BW := Lib.hid hb; have HS := Lib.hid hsame
        clear hF hG hI hJ hb hsame
        obtain ⟨⟨f0, f1, f2, f3, f4⟩, _, hlf⟩ := FB.out.q5
        obtain ⟨⟨g0, g1, g2, g3, g4⟩, _, hlg⟩ := GB.out.q5
        by_cases hk : k < m
        · have hki : (k : Int) < m := by omega
          obtain ⟨ad, of, hAe, hbl, hcell⟩ := IB.out.2 (by omega)
          subst hAe
          have hck := hcell k hk
          obtain ⟨ad', of', hAe', hbl', hcell'⟩ := JB.out.2 (by omega)
          subst hAe'
          have hck' := hcell' k hk
          obtain ⟨x, hx⟩ : ∃ x, x = nth xs k := ⟨_, rfl⟩
          obtain ⟨y, hy⟩ : ∃ y, y = nth ys k := ⟨_, rfl⟩
          rw [← hx] at hck
          rw [← hy] at hck'
          have HX := Lib.hid hx; have HY := Lib.hid hy
          clear hx hy hcell hcell'
          go_upto_region 6 with fail
          have FB := Lib.hid (Blk.drew FB.out); have GB := Lib.hid (Blk.drew GB.out); have IB := Lib.hid (show Ints wr.drew wr.drew.heap.size (some ⟨ad, of, none⟩) m xs from IB.out); have JB := Lib.hid (show Ints wr.drew wr.drew.heap.size (some ⟨ad', of', none⟩) m ys from JB.out); have BW := Lib.hid (Below.drew BW.out)
          refine wp_region_held_drew (S := fun w' => w'.cell? ⟨w.heap.size, 4, none⟩ = some (.slice (some ⟨ad, of, none⟩) m d) ∧ w'.cell? ⟨w.heap.size + 1, 4, none⟩ = some (.slice (some ⟨ad', of', none⟩) m d') ∧ w'.cell? ⟨ad, of + k, none⟩ = some (.int .i64 x) ∧ w'.cell? ⟨ad', of' + k, none⟩ = some (.int .i64 y)) (by kernel_rfl) (by exact ⟨f4, g4, hck, hck'⟩) (fun hHeld => ?_)
          generalize hwd : wr.drew = wd at *
          clear hwd
          clear f0 f1 f2 f3 f4 hlf g0 g1 g2 g3 g4 hlg
          clear hck hck'
          refine wpAnyH_take (i := 0) (oi := _) (v := ?_) (by simp only [g8a, g8z]; rfl) (by kernel_rfl) (by kernel_rfl) (by kernel_rfl) (by exact fun _ _ _ h => h) (Or.inl ⟨by rfl, ?_⟩) (by assumption) ?_
          rotate_left 1
          · (intro w hSw; (try dsimp only at hSw); go_simp; try with_reducible rfl)
          all_goals ((try simp only [Act.put]); try simp only [g8b, g8c, g8d])
          refine wpAnyH_take (i := 1) (oi := _) (v := ?_) (by simp only [g8a, g8s, g8z]; rfl) (by kernel_rfl) (by kernel_rfl) (by kernel_rfl) (by exact fun _ _ _ h => h) (Or.inl ⟨by rfl, ?_⟩) (by assumption) ?_
          rotate_left 1
          · (intro w hSw; (try dsimp only at hSw); go_simp; try with_reducible rfl)
          all_goals ((try simp only [Act.put]); try simp only [g8b, g8c, g8d])
          refine wpAnyH_take (i := 2) (oi := _) (v := ?_) (by simp only [g8a, g8s, g8z]; rfl) (by kernel_rfl) (by kernel_rfl) (by kernel_rfl) (by exact fun _ _ _ h => h) (Or.inl ⟨by rfl, ?_⟩) (by assumption) ?_
          rotate_left 1
          · (intro w hSw; (try dsimp only at hSw); go_simp; try with_reducible rfl)
          all_goals ((try simp only [Act.put]); try simp only [g8b, g8c, g8d])
          refine wpAnyH_take (i := 3) (oi := _) (v := ?_) (by simp only [g8a, g8s, g8z]; rfl) (by kernel_rfl) (by kernel_rfl) (by kernel_rfl) (by exact fun _ _ _ h => h) (Or.inl ⟨by rfl, ?_⟩) (by assumption) ?_
          rotate_left 1
          · (intro w hSw; (try dsimp only at hSw); go_simp; try with_reducible rfl)
          all_goals ((try simp only [Act.put]); try simp only [g8b, g8c, g8d])
          refine wpAnyH_take (i := 4) (oi := _) (v := ?_) (by simp only [g8a, g8s, g8z]; rfl) (by kernel_rfl) (by kernel_rfl) (by kernel_rfl) (by exact fun _ _ _ h => h) (Or.inl ⟨by rfl, ?_⟩) (by assumption) ?_
          rotate_left 1
          · (intro w hSw; (try dsimp only at hSw); go_simp; try with_reducible rfl)
          all_goals ((try simp only [Act.put]); try simp only [g8b, g8c, g8d])
          refine wpAnyH_take (i := 5) (oi := _) (v := ?_) (by simp only [g8a, g8s, g8z]; rfl) (by kernel_rfl) (by kernel_rfl) (by kernel_rfl) (by exact fun _ _ _ h => h) (Or.inl ⟨by rfl, ?_⟩) (by assumption) ?_
          rotate_left 1
          · (intro w hSw; (try dsimp only at hSw); go_simp; try with_reducible rfl)
          all_goals ((try simp only [Act.put]); try simp only [g8b, g8c, g8d])
          refine wpAnyH_take (i := 6) (oi := _) (v := ?_) (by simp only [g8a, g8s, g8z]; rfl) (by kernel_rfl) (by kernel_rfl) (by kernel_rfl) (by exact fun _ _ _ h => h) (Or.inl ⟨by rfl, ?_⟩) (by assumption) ?_
          rotate_left 1
          · (intro w hSw; (try dsimp only at hSw); go_simp; try with_reducible rfl)
          all_goals ((try simp only [Act.put]); try simp only [g8b, g8c, g8d])
          refine wpAnyH_take (i := 7) (oi := _) (v := ?_) (by simp only [g8a, g8s, g8z]; rfl) (by kernel_rfl) (by kernel_rfl) (by kernel_rfl) (by exact fun _ _ _ h => h) (Or.inl ⟨by rfl, ?_⟩) (by assumption) ?_
          rotate_left 1
          · (intro w hSw; (try dsimp only at hSw); go_simp; try with_reducible rfl)
          all_goals ((try simp only [Act.put]); try simp only [g8b, g8c, g8d])
          refine wpAnyH_take (i := 8) (oi := _) (v := ?_) (by simp only [g8a, g8s, g8z]; rfl) (by kernel_rfl) (by kernel_rfl) (by kernel_rfl) (by exact fun _ _ _ h => h) (Or.inl ⟨by rfl, ?_⟩) (by assumption) ?_
          rotate_left 1
          · (intro w hSw; (try dsimp only at hSw); go_simp; try with_reducible rfl)
          all_goals ((try simp only [Act.put]); try simp only [g8b, g8c, g8d])
          refine wpAnyH_take (i := 9) (oi := _) (v := ?_) (by simp only [g8a, g8s, g8z]; rfl) (by kernel_rfl) (by kernel_rfl) (by kernel_rfl) (by exact fun _ _ _ h => h) (Or.inl ⟨by rfl, ?_⟩) (by assumption) ?_
          rotate_left 1
          · (intro w hSw; (try dsimp only at hSw); go_simp; try with_reducible rfl)
          all_goals ((try simp only [Act.put]); try simp only [g8b, g8c, g8d])
          by_cases hxy : x = y
          · have dd : (x != y) = false := by simpa using hxy
            have NX := Lib.hid (show ∀ j, j < k + 1 → nth xs j = nth ys j from fun j hj => by
              rcases Nat.lt_or_ge j k with h1 | h1
              · exact HS.out j h1
              · obtain rfl : j = k := by omega
                rw [← HX.out, ← HY.out]; exact hxy)
            clear hxy
            refine wpAnyH_take (i := 10) (oi := _) (v := ?_) (by simp only [g8a, g8s, g8z]; rfl) (by kernel_rfl) (by kernel_rfl) (by kernel_rfl) (by exact fun _ _ _ h => h) (Or.inl ⟨by rfl, ?_⟩) (by assumption) ?_
            rotate_left 1
            · (intro w hSw; (try dsimp only at hSw); go_simp; try with_reducible rfl)
            all_goals ((try simp only [Act.put]); try simp only [g8b, g8c, g8d])
            refine wpAnyH_done (by kernel_rfl) ?_ _
            clear hHeld
            go_wp2_with fail
            go_roundg (gk - 1)
            case measure => omega
            case rel => exact ⟨k + 1, by omega, by go_num, NX.out, FB.out, GB.out, by exact IB.out, by exact JB.out, BW.out⟩
          · have dd : (x != y) = true := by simpa using hxy
            have NO := Lib.hid (show ¬ (f = g ∧ xs = ys) from fun h => hxy (by rw [HX.out, HY.out, h.2]))
            clear hxy
            refine wpAnyH_take (i := 10) (oi := _) (v := ?_) (by simp only [g8a, g8s, g8z]; rfl) (by kernel_rfl) (by kernel_rfl) (by kernel_rfl) (by exact fun _ _ _ h => h) (Or.inl ⟨by rfl, ?_⟩) (by assumption) ?_
            rotate_left 1
            · (intro w hSw; (try dsimp only at hSw); go_simp; try with_reducible rfl)
            all_goals ((try simp only [Act.put]); try simp only [g8b, g8c, g8d])
            refine wpAnyH_done (by kernel_rfl) ?_ _
            clear hHeld
            have bw := BW.out
            go_wp2_with fail
            go_ret
            exact RetQ.no (by simpa using NO.out) bw
        · have hkm : k = m := by omega
          have hki : ¬ (k : Int) < m := by omega
          have YES := Lib.hid (show f = g ∧ xs = ys from ⟨HFG.out, list_ext (by rw [HXM.out, HYM.out]) (fun j hj => HS.out j (by rw [hkm, ← HXM.out]; exact hj))⟩)
          have bw := BW.out
          clear hk hkm
          go_wp2_with fail
          go_ret
          exact RetQ.yes (by simpa using YES.out) bw
end Go.Proofs.Ythdibkmjoiipgaa
