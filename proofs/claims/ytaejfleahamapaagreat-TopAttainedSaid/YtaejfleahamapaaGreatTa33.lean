/- . -/
import Derived.Deep.LoopGhost
import Derived.BigQuiet
import Derived.Test.YtaejfleahamapaaGreatTa31
import Derived.Test.YtaejfleahamapaaGreatTa32
import Derived.Test.YtaejfleahamapaaGreatTa23
namespace Go.Proofs.YtaejfleahamapaaGreat
set_option linter.unusedVariables false
set_option linter.unusedSimpArgs false
set_option maxHeartbeats 4000000
set_option maxRecDepth 100000
open Go.RowKit
section
theorem ckC_iff {f a h : Cv} {fr : Int} {cs : List Int} (hf : f.Ok) (ha : NF f.at a) : CkC f h fr cs ↔ (h.Ok ∧ NF h.at h ∧ nth h.vals 0 = 0 ∧ clL a h ≤ 120 ∧ ClAt a h fr cs ∧ LEC h a ∧ AddB h) := by
 constructor
 ·rintro ⟨_, h1, h2, h3, a', ka, h4⟩
  obtain rfl := ka.unique ha
  exact ⟨h1, h2, h3, h4⟩
 ·rintro ⟨h1, h2, h3, h4⟩
  exact ⟨hf, h1, h2, h3, a, ha, h4⟩
structure Vr (w : World) (Z : Nat) (A : Option Addr) (n c : Nat) (f : Cv) : Prop where
 blk : Blk w Z 26 #[.slice A n c, .int .i64 f.per, .int .i64 f.inc]
 ints : Ints w w.heap.size A n f.vals
theorem Vr.below {w w' : World} {Z n c : Nat} {A : Option Addr} {f : Cv} (h : Vr w Z A n c f) (hb : Below w.heap.size w w') : Vr w' Z A n c f := ⟨h.blk.below hb h.blk.lt, h.ints.ext hb⟩
theorem Vr.new {w : World} {n c : Nat} {A : Option Addr} {f : Cv} (h : Ints w w.heap.size A n f.vals) : Vr (w.alloc (.cells #[.slice A n c, .int .i64 f.per, .int .i64 f.inc] 26)) w.heap.size A n c f := ⟨Blk.new _ _ _, h.alloc' _⟩
theorem Vr.drew {w : World} {Z n c : Nat} {A : Option Addr} {f : Cv} (h : Vr w Z A n c f) : Vr w.drew Z A n c f := ⟨h.blk, h.ints⟩
theorem Vr.c {w : World} {Z n c : Nat} {A : Option Addr} {f : Cv} (h : Vr w Z A n c f) : (w.cell? ⟨Z, 0, none⟩ = some (.slice A n c) ∧ w.cell? ⟨Z, 1, none⟩ = some (.int .i64 f.per) ∧ w.cell? ⟨Z, 2, none⟩ = some (.int .i64 f.inc)) ∧ Z < w.heap.size := ⟨h.blk.c3.1, h.blk.lt⟩
structure CK (w wx : World) (A : Option Addr) (n c : Nat) (f : Cv) (B : Option Addr) (m d : Nat) (h : Cv) (fr : Int) (C : Option Addr) (k e0 : Nat) (cs : List Int) : Prop where
 pf : Blk wx w.heap.size 26 #[.slice A n c, .int .i64 f.per, .int .i64 f.inc]
 pc : Blk wx (w.heap.size + 1) 136 #[.slice B m d, .int .i64 h.per, .int .i64 h.inc, .int .i64 fr, .slice C k e0]
 ia : Ints wx wx.heap.size A n f.vals
 ib : Ints wx wx.heap.size B m h.vals
 ic : Ints wx wx.heap.size C k cs
 bw : Below w.heap.size w wx
section
variable {w wx wy : World} {A B C : Option Addr} {n c m d k e0 : Nat} {f h : Cv} {fr : Int} {cs : List Int}
theorem CK.new (hA : Ints w w.heap.size A n f.vals) (hB : Ints w w.heap.size B m h.vals) (hC : Ints w w.heap.size C k cs) : CK w ((w.alloc (.cells #[.slice A n c, .int .i64 f.per, .int .i64 f.inc] 26)).alloc (.cells #[.slice B m d, .int .i64 h.per, .int .i64 h.inc, .int .i64 fr, .slice C k e0] 136)) A n c f B m d h fr C k e0 cs :=
 ⟨(Blk.new w _ _).alloc _, by simpa using Blk.new (w.alloc (.cells #[.slice A n c, .int .i64 f.per, .int .i64 f.inc] 26)) 136 #[.slice B m d, .int .i64 h.per, .int .i64 h.inc, .int .i64 fr, .slice C k e0], (hA.alloc' _).alloc' _, (hB.alloc' _).alloc' _, (hC.alloc' _).alloc' _, bthen (balloc _ _) (balloc _ _)⟩
theorem CK.below (H : CK w wx A n c f B m d h fr C k e0 cs) (hb : Below wx.heap.size wx wy) : CK w wy A n c f B m d h fr C k e0 cs :=
 ⟨H.pf.below hb H.pf.lt, H.pc.below hb H.pc.lt, H.ia.ext hb, H.ib.ext hb, H.ic.ext hb, bthen H.bw hb⟩
theorem CK.alloc (H : CK w wx A n c f B m d h fr C k e0 cs) (o : Obj) : CK w (wx.alloc o) A n c f B m d h fr C k e0 cs := H.below (balloc wx o)
theorem CK.drew (H : CK w wx A n c f B m d h fr C k e0 cs) : CK w wx.drew A n c f B m d h fr C k e0 cs := ⟨H.pf, H.pc, H.ia, H.ib, H.ic, Below.drew H.bw⟩
theorem CK.cells (H : CK w wx A n c f B m d h fr C k e0 cs) : (wx.cell? ⟨w.heap.size, 0, none⟩ = some (.slice A n c) ∧ wx.cell? ⟨w.heap.size, 1, none⟩ = some (.int .i64 f.per) ∧ wx.cell? ⟨w.heap.size, 2, none⟩ = some (.int .i64 f.inc)) ∧
 (wx.cell? ⟨w.heap.size + 1, 0, none⟩ = some (.slice B m d) ∧ wx.cell? ⟨w.heap.size + 1, 1, none⟩ = some (.int .i64 h.per) ∧ wx.cell? ⟨w.heap.size + 1, 2, none⟩ = some (.int .i64 h.inc) ∧ wx.cell? ⟨w.heap.size + 1, 3, none⟩ = some (.int .i64 fr) ∧ wx.cell? ⟨w.heap.size + 1, 4, none⟩ = some (.slice C k e0)) ∧ w.heap.size + 1 < wx.heap.size :=
 ⟨H.pf.c3.1, ⟨H.pc.cell 0, H.pc.cell 1, H.pc.cell 2, H.pc.cell 3, H.pc.cell 4⟩, H.pc.lt⟩
end
theorem clck_any (A B C : Option Addr) (n c m d k e0 : Nat) (f h : Cv) (fr : Int) (cs : List Int) (w : World) (hA : Ints w w.heap.size A n f.vals) (hB : Ints w w.heap.size B m h.vals) (hC : Ints w w.heap.size C k cs) (hn : (n : Int) ≤ 1000000) (hm : (m : Int) ≤ 1000000) (hk : (k : Int) ≤ 1000000) :
 Calls Tryz.prog 113 #[.agg #[.slice A n c, .int .i64 f.per, .int .i64 f.inc], .agg #[.slice B m d, .int .i64 h.per, .int .i64 h.inc, .int .i64 fr, .slice C k e0]] w (RetQ (CkC f h fr cs) w) := by
 have E := hi_ (CK.new (c := c) (d := d) (fr := fr) (e0 := e0) hA hB hC)
 clear hA hB hC
 go_enter Tryz.func113, Tryz.ntmps113
 go_upto_region 1 with fail
 generalize hwe : (w.alloc (.cells #[.slice A n c, .int .i64 f.per, .int .i64 f.inc] 26)).alloc (.cells #[.slice B m d, .int .i64 h.per, .int .i64 h.inc, .int .i64 fr, .slice C k e0] 136) = we at *
 clear hwe
 obtain ⟨⟨f0, f1, f2⟩, ⟨p0, p1, p2, p3, p4⟩, hlp⟩ := E.out.cells
 go_wp2_with fail
 refine (normal_any A n c f.per f.inc f.vals _ (by exact E.out.ia) (by omega)).mono ?_
 rintro e w1 ⟨a, er, hN, A1, n1, c1, rfl, hI, hA, hb⟩
 have HN := hi_ (NormR.of hN)
 have VA := hi_ (Vr.new (c := c1) hI)
 replace E := hi_ ((E.out.below hb).alloc (.cells #[.slice A1 n1 c1, .int .i64 a.per, .int .i64 a.inc] 26))
 clear hN hI hA hb
 clear f0 f1 f2 p0 p1 p2 p3 p4 hlp
 go_upto_region 2 with fail
 generalize hwe : w1.alloc (.cells #[.slice A1 n1 c1, .int .i64 a.per, .int .i64 a.inc] 26) = w2 at *
 clear hwe
 generalize w1.heap.size = ZA at *
 rcases HN.out with ⟨hfo, hnf, hao, rfl⟩ | ⟨hfo, hgn, rfl⟩
 case inr =>
  have NO := hi_ (show ¬ CkC f h fr cs from fun q => hfo q.1)
  clear hfo hgn HN
  have bw := E.out.bw
  go_wp2_with fail
  go_ret
  exact RetQ.no NO.out bw
 case inl =>
  replace hfo : f.Ok := hfo
  have HFO := hi_ hfo; have HNF := hi_ hnf; have HAO := hi_ hao
  have hl1 : n1 ≤ 400 := by have := hao.n2; have h2 : a.vals.length = n1 := VA.out.ints.1; omega
  have CI := hi_ (ckC_iff (h := h) (fr := fr) (cs := cs) hfo hnf)
  clear hfo hnf hao HN
  obtain ⟨⟨f0, f1, f2⟩, ⟨p0, p1, p2, p3, p4⟩, hlp⟩ := E.out.cells
  go_upto_region 5 with fail
  have VH := hi_ (Vr.new (c := d) E.out.ib)
  replace E := hi_ (E.out.alloc (.cells #[.slice B m d, .int .i64 h.per, .int .i64 h.inc] 26)); replace VA := hi_ (VA.out.below (balloc w2 (.cells #[.slice B m d, .int .i64 h.per, .int .i64 h.inc] 26)))
  clear f0 f1 f2 p0 p1 p2 p3 p4 hlp
  generalize hwe : w2.alloc (.cells #[.slice B m d, .int .i64 h.per, .int .i64 h.inc] 26) = w3 at *
  clear hwe
  generalize w2.heap.size = ZH at *
  obtain ⟨⟨h0, h1, h2⟩, hlh⟩ := VH.out.c
  go_wp2_with fail
  refine (normal_any B m d h.per h.inc h.vals _ (by exact VH.out.ints) (by omega)).mono ?_
  rintro e w4 ⟨b, er, hN, A2, n2, c2, rfl, hI, hA, hb⟩
  have HN := hi_ (NormR.of hN)
  clear h0 h1 h2 hlh
  replace E := hi_ (E.out.below hb); replace VA := hi_ (VA.out.below hb); replace VH := hi_ (VH.out.below hb)
  try (replace XB := hi_ (XB.out.below hb XB.out.lt))
  try (replace T1 := hi_ (T1.out.below hb T1.out.lt))
  clear hb
  have VB := hi_ (Vr.new (c := c2) hI)
  have hb := balloc w4 (.cells #[.slice A2 n2 c2, .int .i64 b.per, .int .i64 b.inc] 26)
  replace E := hi_ (E.out.below hb); replace VA := hi_ (VA.out.below hb); replace VH := hi_ (VH.out.below hb)
  try (replace XB := hi_ (XB.out.below hb XB.out.lt))
  try (replace T1 := hi_ (T1.out.below hb T1.out.lt))
  clear hb
  clear hN hI hA
  go_upto_region 6 with fail
  generalize hwe : w4.alloc (.cells #[.slice A2 n2 c2, .int .i64 b.per, .int .i64 b.inc] 26) = w5 at *
  clear hwe
  generalize w4.heap.size = ZB at *
  rcases HN.out with ⟨hho, hnf, hbo, rfl⟩ | ⟨hho, hgn, rfl⟩
  case inr =>
   have NO := hi_ (show ¬ CkC f h fr cs from fun q => hho q.2.1)
   clear hho hgn HN
   have bw := E.out.bw
   go_wp2_with fail
   go_ret
   exact RetQ.no NO.out bw
  case inl =>
   replace hho : h.Ok := hho
   have HHO := hi_ hho; have HNH := hi_ hnf
   have hl2 : n2 ≤ 400 := by have := hbo.n2; have h2 : b.vals.length = n2 := VB.out.ints.1; omega
   have hm4 : m ≤ 400 := by have := hho.n2; have h2 : h.vals.length = m := VH.out.ints.1; omega
   have hm1 : 1 ≤ m := by have := hho.n1; have h2 : h.vals.length = m := VH.out.ints.1; omega
   clear hho hnf hbo HN
   obtain ⟨bb, ob, hBe, hbl, hbc⟩ := VH.out.ints.2 (by omega)
   subst hBe
   have v0 := hbc 0 (by omega)
   rw [Nat.add_zero] at v0
   obtain ⟨z0, hz0⟩ : ∃ z0, z0 = nth h.vals 0 := ⟨_, rfl⟩
   rw [← hz0] at v0
   have HZ0 := hi_ hz0
   clear hbc hz0
   have V0 := hi_ v0
   clear v0
   obtain ⟨⟨h0, h1, h2⟩, hlh⟩ := VH.out.c
   obtain ⟨⟨b0, b1, b2⟩, hlb⟩ := VB.out.c
   have hblk := hbl
   go_wp2_with fail
   refine (same_any A2 (some ⟨bb, ob, none⟩) n2 m c2 d b.per h.per b.inc h.inc b.vals h.vals _ (by exact VB.out.ints) (by exact VH.out.ints) (by omega) (by omega)).mono ?_
   by_cases hbh : b = h
   case neg =>
    rw [show Cv.same ⟨b.vals, b.per, b.inc⟩ ⟨h.vals, h.per, h.inc⟩ = false from by
     rw [Bool.eq_false_iff]
     exact fun q => hbh ((Cv.same_iff _ _).1 q)]
    rintro e w6 ⟨rfl, hb⟩
    have NO := hi_ (show ¬ CkC f h fr cs from fun q => hbh (HNH.out.unique q.2.2.1))
    clear hbh b0 b1 b2 hlb
    clear h0 h1 h2 hlh
    replace E := hi_ (E.out.below hb); replace VA := hi_ (VA.out.below hb); replace VH := hi_ (VH.out.below hb)
    try (replace XB := hi_ (XB.out.below hb XB.out.lt))
    try (replace T1 := hi_ (T1.out.below hb T1.out.lt))
    clear hb
    have bw := E.out.bw
    go_wp2_with fail
    go_ret
    exact RetQ.no NO.out bw
   case pos =>
    rw [show Cv.same ⟨b.vals, b.per, b.inc⟩ ⟨h.vals, h.per, h.inc⟩ = true from (Cv.same_iff _ _).2 hbh]
    rintro e w6 ⟨rfl, hb⟩
    have v0 := (hb.cell (p := ⟨bb, ob, none⟩) hbl).trans V0.out
    have hbl6 : bb < w6.heap.size := by have := hb.size; omega
    clear b0 b1 b2 hlb V0 hbl hblk
    have HNN := hi_ (show NF h.at h from by have := HNH.out; rw [hbh] at this; exact this)
    clear hbh HNH VB
    clear h0 h1 h2 hlh
    replace E := hi_ (E.out.below hb); replace VA := hi_ (VA.out.below hb); replace VH := hi_ (VH.out.below hb)
    try (replace XB := hi_ (XB.out.below hb XB.out.lt))
    try (replace T1 := hi_ (T1.out.below hb T1.out.lt))
    clear hb
    obtain ⟨⟨h0, h1, h2⟩, hlh⟩ := VH.out.c
    by_cases hz : z0 = 0
    case neg =>
     have dz : (z0 != 0) = true := by simpa using hz
     have NO := hi_ (show ¬ CkC f h fr cs from fun q => hz (by rw [HZ0.out]; exact q.2.2.2.1))
     clear hz
     have bw := E.out.bw
     go_wp2_with fail
     go_ret
     exact RetQ.no NO.out bw
    case pos =>
     have dz : (z0 != 0) = false := by simpa using hz
     have HZV := hi_ (show nth h.vals 0 = 0 from by rw [← HZ0.out]; exact hz)
     clear hz
     obtain ⟨⟨a0, a1, a2⟩, hla⟩ := VA.out.c
     go_upto_region 8 with fail
     clear v0 dz
     go_wp2_with fail
     refine (outline_any A1 (some ⟨bb, ob, none⟩) n1 m c1 d a h _ (by exact VA.out.ints) (by exact VH.out.ints) HAO.out HHO.out).mono ?_
     rintro e w7 ⟨tl, htl, rfl, hb⟩
     obtain ⟨l, hl⟩ : ∃ l, l = clL a h := ⟨_, rfl⟩
     obtain ⟨F, hF⟩ : ∃ F, F = clF a h := ⟨_, rfl⟩
     rw [← hl, ← hF]
     have hF9 : F ≤ 801 + l := by
      have h1 := cst_le HAO.out; have h2 := cst_le HHO.out
      rw [hF, hl]
      unfold clF
      omega
     have HTL := hi_ htl; have HL := hi_ hl; have HF := hi_ hF
     clear htl hl hF
     clear a0 a1 a2 hla
     clear h0 h1 h2 hlh
     replace E := hi_ (E.out.below hb); replace VA := hi_ (VA.out.below hb); replace VH := hi_ (VH.out.below hb)
     try (replace XB := hi_ (XB.out.below hb XB.out.lt))
     try (replace T1 := hi_ (T1.out.below hb T1.out.lt))
     clear hb
     have XB := hi_ (Blk.new w7 171 #[.int .i64 (l : Int), .int .i64 (F : Int), .bool tl])
     have hb := balloc w7 (.cells #[.int .i64 (l : Int), .int .i64 (F : Int), .bool tl] 171)
     replace E := hi_ (E.out.below hb); replace VA := hi_ (VA.out.below hb); replace VH := hi_ (VH.out.below hb)
     have hbl8 : bb < (w7.alloc (.cells #[.int .i64 (l : Int), .int .i64 (F : Int), .bool tl] 171)).heap.size := by
      obtain ⟨b', o', q, hq, _⟩ := VH.out.ints.2 (by omega)
      cases q
      exact hq
     clear hb hbl6
     go_upto_region 9 with fail
     generalize hwe : w7.alloc (.cells #[.int .i64 (l : Int), .int .i64 (F : Int), .bool tl] 171) = w8 at *
     clear hwe
     generalize w7.heap.size = ZX at *
     by_cases hl120 : l ≤ 120
     case neg =>
      have dl : decide ((l : Int) ≤ 120) = false := by simp; omega
      have NO := hi_ (show ¬ CkC f h fr cs from fun q => hl120 (by rw [HL.out]; exact (CI.out.1 q).2.2.2.1))
      clear hl120
      have bw := E.out.bw
      go_wp2_with fail
      go_ret
      exact RetQ.no NO.out bw
     case pos =>
      have dl : decide ((l : Int) ≤ 120) = true := by simp; omega
      obtain ⟨⟨f0, f1, f2⟩, ⟨p0, p1, p2, p3, p4⟩, hlp⟩ := E.out.cells
      obtain ⟨⟨x0, x1, x2⟩, _, hlx⟩ := XB.out.c3
      by_cases hfr : fr = F
      case neg =>
       have d1 : (fr != (F : Int)) = true := by simpa using hfr
       have NO := hi_ (show ¬ CkC f h fr cs from fun q => hfr (by rw [HF.out]; exact (CI.out.1 q).2.2.2.2.1.1))
       clear hfr
       have bw := E.out.bw
       go_wp2_with fail
       go_ret
       exact RetQ.no NO.out bw
      case pos =>
       subst hfr
       have d1 : ((F : Int) != (F : Int)) = false := by simp
       have hFi : (F : Int) ≤ 100000 := by omega
       by_cases hkN : k = F + l
       case neg =>
        have d2 : ((k : Int) != (F : Int) + (l : Int)) = true := by simp; omega
        have NO := hi_ (show ¬ CkC f h F cs from fun q => hkN (by
         have := (CI.out.1 q).2.2.2.2.1.2.1
         rw [← HF.out, ← HL.out] at this
         have h2 : cs.length = k := E.out.ic.1
         omega))
        clear hkN
        have bw := E.out.bw
        go_wp2_with fail
        go_ret
        exact RetQ.no NO.out bw
       case pos =>
        have d2 : ((k : Int) != (F : Int) + (l : Int)) = false := by simp; omega
        have hFl1 : 1 ≤ F := by rw [HF.out]; unfold clF; omega
        have HKN := hi_ hkN
        have hk9 : k ≤ 1100 := by omega
        have hk1 : 1 ≤ k := by omega
        clear hkN
        obtain ⟨bc, oc, hCe, hcl, hcc⟩ := E.out.ic.2 (by omega)
        subst hCe
        have w0 := hcc 0 (by omega)
        rw [Nat.add_zero] at w0
        obtain ⟨y0, hy0⟩ : ∃ y0, y0 = nth cs 0 := ⟨_, rfl⟩
        rw [← hy0] at w0
        have HY0 := hi_ hy0
        clear hcc hy0
        by_cases hc0 : y0 = 0
        case neg =>
         have d3 : (y0 != 0) = true := by simpa using hc0
         have NO := hi_ (show ¬ CkC f h F cs from fun q => hc0 (by rw [HY0.out]; exact (CI.out.1 q).2.2.2.2.1.2.2.1))
         clear hc0
         have bw := E.out.bw
         go_wp2_with fail
         go_ret
         exact RetQ.no NO.out bw
        case pos =>
         have d3 : (y0 != 0) = false := by simpa using hc0
         have HC0 := hi_ (show nth cs 0 = 0 from by rw [← HY0.out]; exact hc0)
         clear hc0
         obtain ⟨⟨h0, h1, h2⟩, hlh⟩ := VH.out.c
         obtain ⟨⟨a0, a1, a2⟩, hla⟩ := VA.out.c
         go_wp2_with fail
         clear w0 d1 d2 d3 dl
         refine (atMost_any (some ⟨bb, ob, none⟩) A1 m n1 d c1 h.per h.inc a.per a.inc h.vals a.vals _ (by exact VH.out.ints) (by exact VA.out.ints) (by omega) (by omega)).mono ?_
         rintro e w9 ⟨bm, hbm, rfl, hb⟩
         have BM := hi_ (show bm = true ↔ LEC h a from by
          rcases hbm with ⟨_, _, q⟩ | ⟨q, _⟩
          ·rw [q]; exact ⟨fun r => LEC.of r, fun r => r.up⟩
          ·exact absurd ⟨HHO.out, HAO.out⟩ q)
         clear hbm x0 x1 x2 hlx
         clear f0 f1 f2 p0 p1 p2 p3 p4 hlp
         clear a0 a1 a2 hla
         clear h0 h1 h2 hlh
         replace E := hi_ (E.out.below hb); replace VA := hi_ (VA.out.below hb); replace VH := hi_ (VH.out.below hb)
         try (replace XB := hi_ (XB.out.below hb XB.out.lt))
         try (replace T1 := hi_ (T1.out.below hb T1.out.lt))
         clear hb
         cases hbv : bm
         case false =>
          have NO := hi_ (show ¬ CkC f h F cs from fun q => by have := BM.out.2 (CI.out.1 q).2.2.2.2.2.1; rw [hbv] at this; cases this)
          clear hbv
          have bw := E.out.bw
          go_wp2_with fail
          go_ret
          exact RetQ.no NO.out bw
         case true =>
          have HLE := hi_ (BM.out.1 hbv)
          clear hbv BM
          obtain ⟨⟨h0, h1, h2⟩, hlh⟩ := VH.out.c
          go_wp2_with fail
          refine (addF_any (some ⟨bb, ob, none⟩) m d h _ (by exact VH.out.ints) HHO.out).mono ?_
          rintro e w10 ⟨⟨ba, hba, rfl⟩, hb⟩
          have BA := hi_ hba
          clear hba
          clear h0 h1 h2 hlh
          replace E := hi_ (E.out.below hb); replace VA := hi_ (VA.out.below hb); replace VH := hi_ (VH.out.below hb)
          try (replace XB := hi_ (XB.out.below hb XB.out.lt))
          try (replace T1 := hi_ (T1.out.below hb T1.out.lt))
          clear hb
          cases hbv : ba
          case false =>
           have NO := hi_ (show ¬ CkC f h F cs from fun q => by have := BA.out.2 (CI.out.1 q).2.2.2.2.2.2; rw [hbv] at this; cases this)
           clear hbv
           have bw := E.out.bw
           go_wp2_with fail
           go_ret
           exact RetQ.no NO.out bw
          case true =>
           have HAB := hi_ (BA.out.1 hbv)
           clear hbv BA
           have CJ := hi_ (show CkC f h F cs ↔ ∀ t, 1 ≤ t → t < k → 0 ≤ nth cs t ∧ ClFit a h t (nth cs t).toNat from by
            have hlen : cs.length = k := E.out.ic.1
            rw [CI.out]
            constructor
            ·intro q t q1 q2
             exact q.2.2.2.2.1.2.2.2 t q1 (by omega)
            ·intro q
             exact ⟨HHO.out, HNN.out, HZV.out, by rw [← HL.out]; exact hl120, ⟨by rw [HF.out], by rw [← HF.out, ← HL.out, hlen]; exact HKN.out, HC0.out, fun t q1 q2 => q t q1 (by omega)⟩, HLE.out, HAB.out⟩)
           clear CI HLE HAB HC0 HZV HNN
           go_upto_region 11 with fail
           go_cut [12, 13] (fun s12 s13 wx => ∃ q1 q2 : Nat, s12 = .slice (some ⟨q1, 0, none⟩) k k ∧ s13 = .slice (some ⟨q2, 0, none⟩) k k ∧ RowI wx q1 (tab a.at 0 k) ∧ RowI wx q2 (tab h.at 0 k) ∧ CK w wx A n c f (some ⟨bb, ob, none⟩) m d h F (some ⟨bc, oc, none⟩) k e0 cs ∧ Vr wx ZA A1 n1 c1 a ∧ Vr wx ZH (some ⟨bb, ob, none⟩) m d h ∧ Blk wx ZX 171 #[.int .i64 (l : Int), .int .i64 (F : Int), .bool tl])
           case first =>
            replace E := hi_ (CK.drew E.out); replace VA := hi_ (Vr.drew VA.out); replace VH := hi_ (Vr.drew VH.out); replace XB := hi_ (Blk.drew XB.out)
            obtain ⟨⟨f0, f1, f2⟩, ⟨p0, p1, p2, p3, p4⟩, hlp⟩ := E.out.cells
            obtain ⟨⟨h0, h1, h2⟩, hlh⟩ := VH.out.c
            obtain ⟨⟨a0, a1, a2⟩, hla⟩ := VA.out.c
            refine wp_region_held_drew (S := (fun w' => w'.cell? ⟨ZA, 0, none⟩ = some (.slice A1 n1 c1) ∧ w'.cell? ⟨ZA, 1, none⟩ = some (.int .i64 a.per) ∧ w'.cell? ⟨ZA, 2, none⟩ = some (.int .i64 a.inc) ∧ w'.cell? ⟨ZH, 0, none⟩ = some (.slice (some ⟨bb, ob, none⟩) m d) ∧ w'.cell? ⟨ZH, 1, none⟩ = some (.int .i64 h.per) ∧ w'.cell? ⟨ZH, 2, none⟩ = some (.int .i64 h.inc) ∧ w'.cell? ⟨w.heap.size + 1, 4, none⟩ = some (.slice (some ⟨bc, oc, none⟩) k e0))) (by kernel_rfl) (by exact ⟨a0, a1, a2, h0, h1, h2, p4⟩) (fun hH => ?_)
            generalize hwd : w10.drew = wd at *
            clear hwd
            refine tkO [0, 1, 2, 3, 5, 6, 7, 8] ?_; (iterate 8 refine tkI ?_); refine tkX ?_
            refine rdy2 4 (fun K hK => ?_)
            go_simp
            refine (table_any A1 n1 c1 a.per a.inc k a.vals _ (by exact VA.out.ints) HAO.out (by omega)).mono ?_
            rintro e w11 ⟨q1, rfl, hr1, hq1, hb⟩
            have T1 := hi_ hr1
            replace E := hi_ (E.out.below hb); replace VA := hi_ (VA.out.below hb); replace VH := hi_ (VH.out.below hb); replace XB := hi_ (XB.out.below hb XB.out.lt)
            clear hr1 hq1 hb hH
            clear f0 f1 f2 p0 p1 p2 p3 p4 hlp
            clear a0 a1 a2 hla
            clear h0 h1 h2 hlh
            obtain ⟨⟨f0, f1, f2⟩, ⟨p0, p1, p2, p3, p4⟩, hlp⟩ := E.out.cells
            obtain ⟨⟨h0, h1, h2⟩, hlh⟩ := VH.out.c
            obtain ⟨⟨a0, a1, a2⟩, hla⟩ := VA.out.c
            refine bkS hK (by exact ⟨a0, a1, a2, h0, h1, h2, p4⟩) (fun hH => ?_)
            refine rdy2 9 (fun K hK => ?_)
            go_simp
            refine (table_any (some ⟨bb, ob, none⟩) m d h.per h.inc k h.vals _ (by exact VH.out.ints) HHO.out (by omega)).mono ?_
            rintro e w12 ⟨q2, rfl, hr2, hq2, hb⟩
            have T2 := hi_ hr2
            replace E := hi_ (E.out.below hb); replace VA := hi_ (VA.out.below hb); replace VH := hi_ (VH.out.below hb); replace XB := hi_ (XB.out.below hb XB.out.lt); replace T1 := hi_ (T1.out.below hb T1.out.lt)
            clear hr2 hq2 hb hH
            clear f0 f1 f2 p0 p1 p2 p3 p4 hlp
            clear a0 a1 a2 hla
            clear h0 h1 h2 hlh
            obtain ⟨⟨f0, f1, f2⟩, ⟨p0, p1, p2, p3, p4⟩, hlp⟩ := E.out.cells
            obtain ⟨⟨h0, h1, h2⟩, hlh⟩ := VH.out.c
            obtain ⟨⟨a0, a1, a2⟩, hla⟩ := VA.out.c
            refine bkS hK (by exact ⟨a0, a1, a2, h0, h1, h2, p4⟩) (fun hH => ?_)
            refine tkO [10, 11] ?_; (iterate 2 refine tkI ?_); refine tkX ?_
            refine dnH ?_
            go_wp2_with fail
            go_meet
            exact ⟨_, _, rfl, rfl, T1.out, T2.out, E.out, VA.out, VH.out, XB.out⟩
           case rest =>
            clear E VA VH XB
            obtain ⟨q1, q2, rfl, rfl, hT1, hT2, hE, _, hVH, hXB⟩ := hcut
            have E := hi_ hE; have VH := hi_ hVH; have XB := hi_ hXB; have T1 := hi_ hT1; have T2 := hi_ hT2
            clear hT1 hT2 hE hVH hXB
            have hh1 := HHO.out.p1; have hh2 := HHO.out.pn; have hlm : h.vals.length = m := VH.out.ints.1
            rw [hlm] at hh2
            have HLM := hi_ hlm
            clear hlm
            go_wp2_with fail
            go_loopg [14] (k - 1) (fun gg s14 wx => ∃ t : Nat, t + gg = k ∧ 1 ≤ t ∧ s14 = .int .i64 t ∧ Hid (∀ u, 1 ≤ u → u < t → 0 ≤ nth cs u ∧ ClFit a h u (nth cs u).toNat) ∧ RowI wx q1 (tab a.at 0 k) ∧ RowI wx q2 (tab h.at 0 k) ∧ CK w wx A n c f (some ⟨bb, ob, none⟩) m d h F (some ⟨bc, oc, none⟩) k e0 cs ∧ Vr wx ZH (some ⟨bb, ob, none⟩) m d h ∧ Blk wx ZX 171 #[.int .i64 (l : Int), .int .i64 (F : Int), .bool tl])
            case atStart => exact ⟨1, by omega, by omega, rfl, hi_ (fun u u1 u2 => by omega), T1.out, T2.out, E.out, VH.out, XB.out⟩
            case round =>
             clear E VH XB T1 T2
             obtain ⟨t, htg, ht1, rfl, hgood, hT1, hT2, hE, hVH, hXB⟩ := hrel
             have E := hi_ hE; have VH := hi_ hVH; have XB := hi_ hXB; have T1 := hi_ hT1; have T2 := hi_ hT2
             clear hT1 hT2 hE hVH hXB
             obtain ⟨⟨f0, f1, f2⟩, ⟨p0, p1, p2, p3, p4⟩, hlp⟩ := E.out.cells
             by_cases ht : t < k
             ·have hti : (t : Int) < (k : Int) := by omega
              obtain ⟨bc', oc', hCe, hcl', hcc⟩ := E.out.ic.2 (by omega)
              injection hCe with hCe
              injection hCe with i1 i2
              subst i1 i2
              have wt := hcc t ht
              obtain ⟨v, hv⟩ : ∃ v, v = nth cs t := ⟨_, rfl⟩
              rw [← hv] at wt
              have HV := hi_ hv
              clear hv hcc
              go_upto_region 15 with fail
              clear f0 f1 f2 p0 p1 p2 p3 p4 hlp
              replace E := hi_ (CK.drew E.out); replace VH := hi_ (Vr.drew VH.out); replace XB := hi_ (Blk.drew XB.out); replace T1 := hi_ (RowI.drew T1.out); replace T2 := hi_ (RowI.drew T2.out)
              obtain ⟨⟨f0, f1, f2⟩, ⟨p0, p1, p2, p3, p4⟩, hlp⟩ := E.out.cells
              obtain ⟨⟨h0, h1, h2⟩, hlh⟩ := VH.out.c
              obtain ⟨⟨x0, x1, x2⟩, _, hlx⟩ := XB.out.c3
              replace wt : wr.drew.cell? ⟨bc, oc + t, none⟩ = some (.int .i64 v) := wt
              have hcl2 : bc < wr.drew.heap.size := hcl'
              clear hcl'
              refine wp_region_held_drew (S := (fun w' => w'.cell? ⟨ZX, 0, none⟩ = some (.int .i64 (l : Int)) ∧ w'.cell? ⟨ZX, 1, none⟩ = some (.int .i64 (F : Int)) ∧ w'.cell? ⟨ZX, 2, none⟩ = some (.bool tl) ∧ w'.cell? ⟨ZH, 0, none⟩ = some (.slice (some ⟨bb, ob, none⟩) m d) ∧ w'.cell? ⟨ZH, 1, none⟩ = some (.int .i64 h.per) ∧ w'.cell? ⟨ZH, 2, none⟩ = some (.int .i64 h.inc) ∧ w'.cell? ⟨w.heap.size + 1, 4, none⟩ = some (.slice (some ⟨bc, oc, none⟩) k e0) ∧ w'.cell? ⟨bc, oc + t, none⟩ = some (.int .i64 v))) (by kernel_rfl) (by exact ⟨x0, x1, x2, h0, h1, h2, p4, wt⟩) (fun hH => ?_)
              generalize hwd : wr.drew = wd at *
              clear hwd
              refine tkO [0, 1, 2, 3, 5, 6, 7, 8, 9, 10] ?_; (iterate 10 refine tkI ?_); refine tkX ?_
              refine rdy2 4 (fun K hK => ?_)
              go_simp
              refine (start_any (some ⟨bb, ob, none⟩) m d h.per h.inc _ (by omega) (by omega) (by omega)).mono ?_
              rintro e w13 ⟨rfl, hb⟩
              have wt2 : w13.cell? ⟨bc, oc + t, none⟩ = some (.int .i64 v) := (hb.cell (p := ⟨bc, oc + t, none⟩) hcl2).trans wt
              replace E := hi_ (E.out.below hb); replace VH := hi_ (VH.out.below hb); replace XB := hi_ (XB.out.below hb XB.out.lt); replace T1 := hi_ (T1.out.below hb T1.out.lt); replace T2 := hi_ (T2.out.below hb T2.out.lt)
              have hcl3 : bc < w13.heap.size := by have := hb.size; omega
              clear hb hH x0 x1 x2 hlx wt hcl2
              clear f0 f1 f2 p0 p1 p2 p3 p4 hlp
              clear h0 h1 h2 hlh
              obtain ⟨⟨f0, f1, f2⟩, ⟨p0, p1, p2, p3, p4⟩, hlp⟩ := E.out.cells
              obtain ⟨⟨h0, h1, h2⟩, hlh⟩ := VH.out.c
              obtain ⟨⟨x0, x1, x2⟩, _, hlx⟩ := XB.out.c3
              refine bkS hK (by exact ⟨x0, x1, x2, h0, h1, h2, p4, wt2⟩) (fun hH => ?_)
              refine rdy2 11 (fun K hK => ?_)
              go_simp
              obtain ⟨st, hst⟩ : ∃ st : Nat, st = cst h := ⟨_, rfl⟩
              have est : (m : Int) - h.per = (st : Int) := by rw [hst]; unfold cst; rw [HLM.out]; omega
              rw [est]
              refine (attains_any q1 q2 k F t (l : Int) tl st v a h _ (by exact T1.out) (by exact T2.out) HAO.out HHO.out (by omega) ht HF.out (by omega) HTL.out hst).mono ?_
              rintro e w14 ⟨⟨bq, hbq, rfl⟩, hb⟩
              have wt3 : w14.cell? ⟨bc, oc + t, none⟩ = some (.int .i64 v) := (hb.cell (p := ⟨bc, oc + t, none⟩) hcl3).trans wt2
              replace E := hi_ (E.out.below hb); replace VH := hi_ (VH.out.below hb); replace XB := hi_ (XB.out.below hb XB.out.lt); replace T1 := hi_ (T1.out.below hb T1.out.lt); replace T2 := hi_ (T2.out.below hb T2.out.lt)
              have BQ := hi_ hbq
              clear hb hH x0 x1 x2 hlx wt2 hcl3 est hst hbq
              clear f0 f1 f2 p0 p1 p2 p3 p4 hlp
              clear h0 h1 h2 hlh
              obtain ⟨⟨f0, f1, f2⟩, ⟨p0, p1, p2, p3, p4⟩, hlp⟩ := E.out.cells
              obtain ⟨⟨h0, h1, h2⟩, hlh⟩ := VH.out.c
              obtain ⟨⟨x0, x1, x2⟩, _, hlx⟩ := XB.out.c3
              refine bkS hK (by exact ⟨x0, x1, x2, h0, h1, h2, p4, wt3⟩) (fun hH => ?_)
              clear wt3 x0 x1 x2 hlx
              clear f0 f1 f2 p0 p1 p2 p3 p4 hlp
              clear h0 h1 h2 hlh
              cases hbv : bq
              case false =>
               have NO := hi_ (show ¬ CkC f h F cs from fun q => by
                have := CJ.out.1 q t ht1 ht
                rw [← HV.out] at this
                have := BQ.out.2 this
                rw [hbv] at this
                cases this)
               clear hbv
               refine tk1 12 ?_
               refine dnH ?_
               clear hH
               have bw := E.out.bw
               go_wp2_with fail
               go_ret
               exact RetQ.no NO.out bw
              case true =>
               have GD := hi_ (BQ.out.1 hbv)
               clear hbv
               refine tk1 12 ?_
               refine dnH ?_
               clear hH
               go_wp2_with fail
               go_roundg (gk - 1)
               case measure => omega
               case rel => exact ⟨t + 1, by omega, by omega, by go_num, hi_ (fun u u1 u2 => by
                by_cases e : u = t
                ·subst e; rw [← HV.out]; exact GD.out
                ·exact hgood.out u u1 (by omega)), T1.out, T2.out, E.out, VH.out, XB.out⟩
             ·have hti : ¬ (t : Int) < (k : Int) := by omega
              have YS := hi_ (CJ.out.2 fun u u1 u2 => hgood.out u u1 (by omega))
              clear hgood
              have bw := E.out.bw
              go_wp2_with fail
              go_ret
              exact RetQ.yes YS.out bw
end
section
def RetSq (S : Cv → Int → List Int → Int → Prop) (w : World) (e : Ending) (w' : World) : Prop :=
 ∃ r fr cs er, S r fr cs er ∧ ∃ (A : Option Addr) (n c : Nat) (B : Option Addr) (m d : Nat), n ≤ c ∧ m ≤ d ∧ e = .returned (.tuple #[.agg #[.slice A n c, .int .i64 r.per, .int .i64 r.inc, .int .i64 fr, .slice B m d], .int .i64 er]) ∧
  Ints w' w'.heap.size A n r.vals ∧ Ints w' w'.heap.size B m cs ∧ (∀ b off s, A = some ⟨b, off, s⟩ → w.heap.size ≤ b) ∧ (∀ b off s, B = some ⟨b, off, s⟩ → w.heap.size ≤ b) ∧ Below w.heap.size w w'
theorem Blk.q5 {w : World} {g : Nat} {t : TypeId} {x y z u v : Value} (h : Blk w g t #[x, y, z, u, v]) : (w.cell? ⟨g, 0, none⟩ = some x ∧ w.cell? ⟨g, 1, none⟩ = some y ∧ w.cell? ⟨g, 2, none⟩ = some z ∧ w.cell? ⟨g, 3, none⟩ = some u ∧ w.cell? ⟨g, 4, none⟩ = some v) ∧
 (w.frozen? ⟨g, 0, none⟩ = false ∧ w.frozen? ⟨g, 1, none⟩ = false ∧ w.frozen? ⟨g, 2, none⟩ = false ∧ w.frozen? ⟨g, 3, none⟩ = false ∧ w.frozen? ⟨g, 4, none⟩ = false) ∧ g < w.heap.size :=
 ⟨⟨h.cell 0, h.cell 1, h.cell 2, h.cell 3, h.cell 4⟩, ⟨h.frozen 0, h.frozen 1, h.frozen 2, h.frozen 3, h.frozen 4⟩, h.lt⟩
theorem Blk.str5 {w : World} {g : Nat} {t : TypeId} {a b c d e : Value} (h : Blk w g t #[a, b, c, d, e]) (x y z u v : Value) : Blk (((((w.setCell ⟨g, 0, none⟩ x).setCell ⟨g, 1, none⟩ y).setCell ⟨g, 2, none⟩ z).setCell ⟨g, 3, none⟩ u).setCell ⟨g, 4, none⟩ v) g t #[x, y, z, u, v] :=
 ((((h.set_ 0 x).set_ 1 y).set_ 2 z).set_ 3 u).set_ 4 v
theorem Sto.q5 (g : Nat) (w : World) (x y z u v : Value) : Sto g w (((((w.setCell ⟨g, 0, none⟩ x).setCell ⟨g, 1, none⟩ y).setCell ⟨g, 2, none⟩ z).setCell ⟨g, 3, none⟩ u).setCell ⟨g, 4, none⟩ v) :=
 (((((Sto.refl g w).set 0 x).set 1 y).set 2 z).set 3 u).set 4 v
theorem rowI_ints {w : World} {g n : Nat} {zs : List Int} (h : RowI w g zs) (hl : zs.length = n) : Ints w w.heap.size (some ⟨g, 0, none⟩) n zs := by rw [← hl]; exact h.ints
structure PE (w wx : World) : Prop where
 rb : Blk wx (w.heap.size + 1) 136 #[.slice none 0 0, .int .i64 0, .int .i64 0, .int .i64 0, .slice none 0 0]
 bw : Below w.heap.size w wx
section
variable {w wx wy : World}
theorem PE.below (h : PE w wx) (hb : Below wx.heap.size wx wy) : PE w wy := ⟨h.rb.below hb h.rb.lt, bthen h.bw hb⟩
theorem PE.alloc (h : PE w wx) (o : Obj) : PE w (wx.alloc o) := h.below (balloc wx o)
theorem PE.drew (h : PE w wx) : PE w wx.drew := ⟨h.rb, Below.drew h.bw⟩
end
theorem retSq_none {S : Cv → Int → List Int → Int → Prop} {w w' : World} {er : Int} (hS : S Cv.none 0 [] er) (hb : Below w.heap.size w w') : RetSq S w (.returned (.tuple #[.agg #[.slice none 0 0, .int .i64 0, .int .i64 0, .int .i64 0, .slice none 0 0], .int .i64 er])) w' :=
 ⟨Cv.none, 0, [], er, hS, none, 0, 0, none, 0, 0, Nat.le_refl _, Nat.le_refl _, rfl, ⟨rfl, fun h => by omega⟩, ⟨rfl, fun h => by omega⟩, (fun b off s h => by cases h), (fun b off s h => by cases h), hb⟩
def PvE (a h : Cv) (t : Nat) (v : Int) : Prop := ∃ u : Nat, v = u ∧ u ≤ t ∧ (u < t → ClFit a h t u) ∧ ∀ x, x < u → ¬ ClFit a h t x
structure PvI (a h : Cv) (N t u : Nat) (cs : List Int) : Prop where
 len : cs.length = N
 done : ∀ x, x < t → PvE a h x (nth cs x)
 cur : nth cs t = u
 rest : ∀ x, t < x → nth cs x = 0
 no : ∀ x, x < u → ¬ ClFit a h t x
section
variable {a h : Cv} {N t u : Nat} {cs : List Int}
theorem PvI.first (hN : 1 ≤ N) : PvI a h N 1 0 (List.replicate N 0) :=
 ⟨by simp, fun x hx => ⟨0, by rw [nth_replicate]; rfl, Nat.zero_le _, fun k => by omega, fun z hz => by omega⟩, nth_replicate _ _, fun x _ => nth_replicate _ _, fun x hx => by omega⟩
theorem PvI.more (H : PvI a h N t u cs) (ht : t < N) (hno : ¬ ClFit a h t u) : PvI a h N t (u + 1) (cs.set t ((u : Int) + 1)) := by
 have hl := H.len
 refine ⟨by rw [List.length_set]; exact hl, fun x hx => ?_, ?_, fun x hx => ?_, fun x hx => ?_⟩
 ·rw [nth_set _ _ _ _ (by omega), if_neg (by omega)]; exact H.done x hx
 ·rw [nth_set _ _ _ _ (by omega), if_pos rfl]; omega
 ·rw [nth_set _ _ _ _ (by omega), if_neg (by omega)]; exact H.rest x hx
 ·by_cases e : x = u
  ·subst e; exact hno
  ·exact H.no x (by omega)
theorem PvI.next (H : PvI a h N t u cs) (hu : u ≤ t) (hf : u < t → ClFit a h t u) : PvI a h N (t + 1) 0 cs :=
 ⟨H.len, fun x hx => by
  by_cases e : x = t
  ·subst e; exact ⟨u, H.cur, hu, hf, H.no⟩
  ·exact H.done x (by omega), H.rest (t + 1) (by omega), fun x hx => H.rest x (by omega), fun x hx => by omega⟩
theorem PvI.fin (H : PvI a h N N 0 cs) (hN : N = clF a h + clL a h) : PvAtC a h cs := ⟨by rw [H.len, hN], fun t ht => by
 obtain ⟨u, h1, h2, h3, h4⟩ := H.done t (by have := H.len; omega)
 exact ⟨u, h1, h2, h3, h4⟩⟩
end
theorem ckC_nf {f a h : Cv} {fr : Int} {cs : List Int} (hf : f.Ok) (ha : NF f.at a) (hao : a.Ok) : CkC a h fr cs ↔ CkC f h fr cs := by rw [ckC_iff hf ha, ckC_iff hao ha.to_at]
theorem clprv_any (A : Option Addr) (n c : Nat) (f : Cv) (w : World) (hA : Ints w w.heap.size A n f.vals) (hn : (n : Int) ≤ 1000000) :
 Calls Tryz.prog 80 #[.agg #[.slice A n c, .int .i64 f.per, .int .i64 f.inc]] w (RetSq (PvC f) w) := by
 have fb := (Blk.new w 26 #[.slice A n c, .int .i64 f.per, .int .i64 f.inc]).alloc (.cells #[.slice none 0 0, .int .i64 0, .int .i64 0, .int .i64 0, .slice none 0 0] 136)
 have IA := hi_ ((hA.alloc' (.cells #[.slice A n c, .int .i64 f.per, .int .i64 f.inc] 26)).alloc' (.cells #[.slice none 0 0, .int .i64 0, .int .i64 0, .int .i64 0, .slice none 0 0] 136))
 have E := hi_ (show PE w ((w.alloc (.cells #[.slice A n c, .int .i64 f.per, .int .i64 f.inc] 26)).alloc (.cells #[.slice none 0 0, .int .i64 0, .int .i64 0, .int .i64 0, .slice none 0 0] 136)) from ⟨by
  have := Blk.new (w.alloc (.cells #[.slice A n c, .int .i64 f.per, .int .i64 f.inc] 26)) 136 #[.slice none 0 0, .int .i64 0, .int .i64 0, .int .i64 0, .slice none 0 0]
  simpa using this, bthen (balloc _ _) (balloc _ _)⟩)
 have FB := hi_ fb
 clear hA fb
 go_enter Tryz.func80, Tryz.ntmps80
 go_upto_region 1 with fail
 generalize hwe : (w.alloc (.cells #[.slice A n c, .int .i64 f.per, .int .i64 f.inc] 26)).alloc (.cells #[.slice none 0 0, .int .i64 0, .int .i64 0, .int .i64 0, .slice none 0 0] 136) = we at *
 clear hwe
 obtain ⟨⟨f0, f1, f2⟩, _, hlf⟩ := FB.out.c3
 go_wp2_with fail
 refine (normal_any A n c f.per f.inc f.vals _ (by exact IA.out) (by omega)).mono ?_
 rintro e w1 ⟨a, er, hN, A1, n1, c1, rfl, hI, hA, hb⟩
 have HN := hi_ (NormR.of hN)
 have VA := hi_ (Vr.new (c := c1) hI)
 have hsz := E.out.rb.lt
 replace E := hi_ ((E.out.below hb).alloc (.cells #[.slice A1 n1 c1, .int .i64 a.per, .int .i64 a.inc] 26))
 have hzz : w.heap.size + 1 < w1.heap.size := by have := hb.size; omega
 clear hN hI hA hb f0 f1 f2 hlf FB IA hsz
 go_upto_region 2 with fail
 generalize hwe : w1.alloc (.cells #[.slice A1 n1 c1, .int .i64 a.per, .int .i64 a.inc] 26) = w2 at *
 clear hwe
 generalize w1.heap.size = ZA at *
 rcases HN.out with ⟨hfo, hnf, hao, rfl⟩ | ⟨hfo, hgn, rfl⟩
 case inr =>
  have HFO := hi_ (show ¬ f.Ok from hfo)
  clear hfo hgn HN
  have FN := hi_ (show PvC f Cv.none 0 [] 1 from .inl ⟨HFO.out, rfl, rfl, rfl, rfl⟩)
  obtain ⟨⟨r0, r1, r2, r3, r4⟩, ⟨y0, y1, y2, y3, y4⟩, hlr⟩ := E.out.rb.q5
  go_wp2_with fail
  have rb := E.out.rb.str5 (.slice none 0 0) (.int .i64 0) (.int .i64 0) (.int .i64 0) (.slice none 0 0)
  have bw := bsto E.out.bw (Sto.q5 (w.heap.size + 1) _ (.slice none 0 0) (.int .i64 0) (.int .i64 0) (.int .i64 0) (.slice none 0 0)) (by omega)
  refine bodyPost_ret (v := .tuple #[.agg #[.slice none 0 0, .int .i64 0, .int .i64 0, .int .i64 0, .slice none 0 0], .int .i64 1]) (by simp [results, Tryz.results80, go_sem, rb.cell]) rfl ?_
  exact retSq_none FN.out bw
 case inl =>
  replace hfo : f.Ok := hfo
  have HFO := hi_ hfo; have HNF := hi_ hnf; have HAO := hi_ hao
  have hlen : a.vals.length = n1 := VA.out.ints.1
  have hl1 : n1 ≤ 400 := by have := hao.n2; omega
  have HLN := hi_ hlen
  clear hfo hnf hao HN hlen
  obtain ⟨⟨a0, a1, a2⟩, hla⟩ := VA.out.c
  by_cases h60 : 60 < n1
  case pos =>
   have d60 : decide ((60 : Int) < (n1 : Int)) = true := by simp; omega
   have H60 := hi_ h60
   clear h60
   have FN := hi_ (show PvC f Cv.none 0 [] 3 from .inr ⟨HFO.out, a, HNF.out, .inl ⟨by rw [HLN.out]; exact H60.out, rfl, rfl, rfl, rfl⟩⟩)
   obtain ⟨⟨r0, r1, r2, r3, r4⟩, ⟨y0, y1, y2, y3, y4⟩, hlr⟩ := E.out.rb.q5
   go_wp2_with fail
   have rb := E.out.rb.str5 (.slice none 0 0) (.int .i64 0) (.int .i64 0) (.int .i64 0) (.slice none 0 0)
   have bw := bsto E.out.bw (Sto.q5 (w.heap.size + 1) _ (.slice none 0 0) (.int .i64 0) (.int .i64 0) (.int .i64 0) (.slice none 0 0)) (by omega)
   refine bodyPost_ret (v := .tuple #[.agg #[.slice none 0 0, .int .i64 0, .int .i64 0, .int .i64 0, .slice none 0 0], .int .i64 3]) (by simp [results, Tryz.results80, go_sem, rb.cell]) rfl ?_
   exact retSq_none FN.out bw
  case neg =>
   have d60 : decide ((60 : Int) < (n1 : Int)) = false := by simp; omega
   have H60 := hi_ (show a.vals.length ≤ 60 from by rw [HLN.out]; omega)
   clear h60
   go_upto_region 6 with fail
   go_wp2_with fail
   refine (cand_any A1 n1 c1 a _ (by exact VA.out.ints) HAO.out).mono ?_
   rintro e w3 ⟨h, er, hC, B, m, d, hmd, rfl, hI, hB, hb⟩
   have HC := hi_ hC
   have VH := hi_ (Vr.new (c := d) hI)
   have hrl := E.out.rb.lt
   have HBN := hi_ (show ∀ b off s, B = some ⟨b, off, s⟩ → w.heap.size + 1 < b from fun b off s e => by have := hB b off s e; omega)
   clear a0 a1 a2 hla
   clear d60
   replace E := hi_ (E.out.below hb); replace VA := hi_ (VA.out.below hb)
   have hzh : ZA < w3.heap.size := VA.out.blk.lt
   clear hb
   have hb := balloc w3 (.cells #[.slice B m d, .int .i64 h.per, .int .i64 h.inc] 26)
   replace E := hi_ (E.out.below hb); replace VA := hi_ (VA.out.below hb)
   have HB := hi_ (show ∀ b off s, B = some ⟨b, off, s⟩ → w.heap.size ≤ b from fun b off s e => by have := HBN.out b off s e; omega)
   clear hb hC hI hB hrl
   go_upto_region 7 with fail
   generalize hwe : w3.alloc (.cells #[.slice B m d, .int .i64 h.per, .int .i64 h.inc] 26) = w4 at *
   clear hwe
   generalize w3.heap.size = ZH at *
   rcases HC.out with ⟨rfl, hho, hhn, hhc⟩ | ⟨rfl, hgn, hno⟩
   case inr =>
    have HC2 := hi_ (show CandS (clo a.at) Cv.none 3 from .inr ⟨rfl, rfl, hno⟩)
    clear hgn hno HC
    have FN := hi_ (show PvC f Cv.none 0 [] 3 from .inr ⟨HFO.out, a, HNF.out, .inr ⟨H60.out, Cv.none, 3, HC2.out, .inl ⟨rfl, rfl, rfl, rfl, rfl⟩⟩⟩)
    obtain ⟨⟨r0, r1, r2, r3, r4⟩, ⟨y0, y1, y2, y3, y4⟩, hlr⟩ := E.out.rb.q5
    go_wp2_with fail
    have rb := E.out.rb.str5 (.slice none 0 0) (.int .i64 0) (.int .i64 0) (.int .i64 0) (.slice none 0 0)
    have bw := bsto E.out.bw (Sto.q5 (w.heap.size + 1) _ (.slice none 0 0) (.int .i64 0) (.int .i64 0) (.int .i64 0) (.slice none 0 0)) (by omega)
    refine bodyPost_ret (v := .tuple #[.agg #[.slice none 0 0, .int .i64 0, .int .i64 0, .int .i64 0, .slice none 0 0], .int .i64 3]) (by simp [results, Tryz.results80, go_sem, rb.cell]) rfl ?_
    exact retSq_none FN.out bw
   case inl =>
    have HHO := hi_ hho; have HHN := hi_ hhn
    have hm4 : m ≤ 400 := by have := hho.n2; have h2 : h.vals.length = m := VH.out.ints.1; omega
    have hmp := hho.p1; have hmpn := hho.pn
    have hlm : h.vals.length = m := VH.out.ints.1
    rw [hlm] at hmpn
    have HLM := hi_ hlm
    clear hho hhn hhc hlm
    obtain ⟨⟨a0, a1, a2⟩, hla⟩ := VA.out.c
    obtain ⟨⟨h0, h1, h2⟩, hlh⟩ := VH.out.c
    go_wp2_with fail
    refine (outline_any A1 B n1 m c1 d a h _ (by exact VA.out.ints) (by exact VH.out.ints) HAO.out HHO.out).mono ?_
    rintro e w5 ⟨tl, htl, rfl, hb⟩
    obtain ⟨l, hl⟩ : ∃ l, l = clL a h := ⟨_, rfl⟩
    obtain ⟨F, hF⟩ : ∃ F, F = clF a h := ⟨_, rfl⟩
    rw [← hl, ← hF]
    have hF9 : F ≤ 801 + l := by
     have h1 := cst_le HAO.out; have h2 := cst_le HHO.out
     rw [hF, hl]
     unfold clF
     omega
    have hF1 : 1 ≤ F := by rw [hF]; unfold clF; omega
    have HTL := hi_ htl; have HL := hi_ hl; have HF := hi_ hF
    clear htl hl hF
    clear a0 a1 a2 hla
    clear h0 h1 h2 hlh
    replace E := hi_ (E.out.below hb); replace VA := hi_ (VA.out.below hb)
    try (replace VH := hi_ (VH.out.below hb))
    try (replace XB := hi_ (XB.out.below hb XB.out.lt))
    try (replace T1 := hi_ (T1.out.below hb T1.out.lt))
    clear hb
    have XB := hi_ (Blk.new w5 171 #[.int .i64 (l : Int), .int .i64 (F : Int), .bool tl])
    have hb := balloc w5 (.cells #[.int .i64 (l : Int), .int .i64 (F : Int), .bool tl] 171)
    replace E := hi_ (E.out.below hb); replace VA := hi_ (VA.out.below hb); replace VH := hi_ (VH.out.below hb)
    clear hb
    go_upto_region 10 with fail
    generalize hwe : w5.alloc (.cells #[.int .i64 (l : Int), .int .i64 (F : Int), .bool tl] 171) = w6 at *
    clear hwe
    generalize w5.heap.size = ZX at *
    by_cases hl120 : l ≤ 120
    case neg =>
     have dl : decide ((l : Int) ≤ 120) = false := by simp; omega
     obtain ⟨cs0, hcs0⟩ := pvAtC_exists a h
     have NO := hi_ (show PvC f Cv.none 0 [] 3 from .inr ⟨HFO.out, a, HNF.out, .inr ⟨H60.out, h, 0, HC.out, .inr ⟨rfl, cs0, hcs0, .inr ⟨fun q => hl120 (by rw [HL.out]; exact ((ckC_iff HFO.out HNF.out).1 q).2.2.2.1), rfl, rfl, rfl, rfl⟩⟩⟩⟩)
     clear hl120 hcs0
     have FN := hi_ (show PvC f Cv.none 0 [] 3 from NO.out)
     obtain ⟨⟨r0, r1, r2, r3, r4⟩, ⟨y0, y1, y2, y3, y4⟩, hlr⟩ := E.out.rb.q5
     go_wp2_with fail
     have rb := E.out.rb.str5 (.slice none 0 0) (.int .i64 0) (.int .i64 0) (.int .i64 0) (.slice none 0 0)
     have bw := bsto E.out.bw (Sto.q5 (w.heap.size + 1) _ (.slice none 0 0) (.int .i64 0) (.int .i64 0) (.int .i64 0) (.slice none 0 0)) (by omega)
     refine bodyPost_ret (v := .tuple #[.agg #[.slice none 0 0, .int .i64 0, .int .i64 0, .int .i64 0, .slice none 0 0], .int .i64 3]) (by simp [results, Tryz.results80, go_sem, rb.cell]) rfl ?_
     exact retSq_none FN.out bw
    case pos =>
     have dl : decide ((l : Int) ≤ 120) = true := by simp; omega
     obtain ⟨N, hN⟩ : ∃ N : Nat, N = F + l := ⟨_, rfl⟩
     have hN9 : N ≤ 1100 := by omega
     have hN1 : 1 ≤ N := by omega
     have HN := hi_ hN
     obtain ⟨⟨x0, x1, x2⟩, _, hlx⟩ := XB.out.c3
     go_upto_region 12 with fail
     clear dl
     go_cut [9] (fun s9 wx => s9 = .int .i64 (N : Int) ∧ PE w wx ∧ Vr wx ZA A1 n1 c1 a ∧ Vr wx ZH B m d h ∧ Blk wx ZX 171 #[.int .i64 (l : Int), .int .i64 (F : Int), .bool tl])
     case first =>
      have e2 : (F : Int) + (l : Int) = (N : Int) := by omega
      have E2 := hi_ e2
      clear e2 hN
      go_wp2_with fail
      go_meet
      exact ⟨by rw [← E2.out], E.out, VA.out, VH.out, XB.out⟩
     case rest =>
      clear E VA VH XB hN
      clear x0 x1 x2 hlx
      obtain ⟨rfl, hE, hVA, hVH, hXB⟩ := hcut
      have E := hi_ hE; have VA := hi_ hVA; have VH := hi_ hVH; have XB := hi_ hXB
      clear hE hVA hVH hXB
      go_upto_region 13 with fail
      go_cut [10, 11] (fun s10 s11 wx => ∃ q1 q2 : Nat, s10 = .slice (some ⟨q1, 0, none⟩) N N ∧ s11 = .slice (some ⟨q2, 0, none⟩) N N ∧ RowI wx q1 (tab a.at 0 N) ∧ RowI wx q2 (tab h.at 0 N) ∧ PE w wx ∧ Vr wx ZA A1 n1 c1 a ∧ Vr wx ZH B m d h ∧ Blk wx ZX 171 #[.int .i64 (l : Int), .int .i64 (F : Int), .bool tl])
      case first =>
       replace E := hi_ (PE.drew E.out); replace VA := hi_ (Vr.drew VA.out); replace VH := hi_ (Vr.drew VH.out); replace XB := hi_ (Blk.drew XB.out)
       obtain ⟨⟨a0, a1, a2⟩, hla⟩ := VA.out.c
       obtain ⟨⟨h0, h1, h2⟩, hlh⟩ := VH.out.c
       refine wp_region_held_drew (S := (fun w' => w'.cell? ⟨ZA, 0, none⟩ = some (.slice A1 n1 c1) ∧ w'.cell? ⟨ZA, 1, none⟩ = some (.int .i64 a.per) ∧ w'.cell? ⟨ZA, 2, none⟩ = some (.int .i64 a.inc) ∧ w'.cell? ⟨ZH, 0, none⟩ = some (.slice B m d) ∧ w'.cell? ⟨ZH, 1, none⟩ = some (.int .i64 h.per) ∧ w'.cell? ⟨ZH, 2, none⟩ = some (.int .i64 h.inc))) (by kernel_rfl) (by exact ⟨a0, a1, a2, h0, h1, h2⟩) (fun hH => ?_)
       generalize hwd : wc.drew = wd at *
       clear hwd
       refine tkO [0, 1, 3, 4] ?_; (iterate 4 refine tkI ?_); refine tkX ?_
       refine rdy2 2 (fun K hK => ?_)
       go_simp
       refine (table_any A1 n1 c1 a.per a.inc N a.vals _ (by exact VA.out.ints) HAO.out (by omega)).mono ?_
       rintro e w11 ⟨q1, rfl, hr1, hq1, hb⟩
       clear a0 a1 a2 hla
       clear h0 h1 h2 hlh
       replace E := hi_ (E.out.below hb); replace VA := hi_ (VA.out.below hb)
       try (replace VH := hi_ (VH.out.below hb))
       try (replace XB := hi_ (XB.out.below hb XB.out.lt))
       try (replace T1 := hi_ (T1.out.below hb T1.out.lt))
       clear hb
       have T1 := hi_ hr1
       clear hr1 hq1 hH
       obtain ⟨⟨a0, a1, a2⟩, hla⟩ := VA.out.c
       obtain ⟨⟨h0, h1, h2⟩, hlh⟩ := VH.out.c
       refine bkS hK (by exact ⟨a0, a1, a2, h0, h1, h2⟩) (fun hH => ?_)
       refine rdy2 5 (fun K hK => ?_)
       go_simp
       refine (table_any B m d h.per h.inc N h.vals _ (by exact VH.out.ints) HHO.out (by omega)).mono ?_
       rintro e w12 ⟨q2, rfl, hr2, hq2, hb⟩
       clear a0 a1 a2 hla
       clear h0 h1 h2 hlh
       replace E := hi_ (E.out.below hb); replace VA := hi_ (VA.out.below hb)
       try (replace VH := hi_ (VH.out.below hb))
       try (replace XB := hi_ (XB.out.below hb XB.out.lt))
       try (replace T1 := hi_ (T1.out.below hb T1.out.lt))
       clear hb
       have T2 := hi_ hr2
       clear hr2 hq2 hH
       obtain ⟨⟨a0, a1, a2⟩, hla⟩ := VA.out.c
       obtain ⟨⟨h0, h1, h2⟩, hlh⟩ := VH.out.c
       refine bkS hK (by exact ⟨a0, a1, a2, h0, h1, h2⟩) (fun hH => ?_)
       refine tkO [6, 7] ?_; (iterate 2 refine tkI ?_); refine tkX ?_
       refine dnH ?_
       go_wp2_with fail
       go_meet
       exact ⟨_, _, rfl, rfl, T1.out, T2.out, E.out, VA.out, VH.out, XB.out⟩
      case rest =>
       clear E VA VH XB
       rename World => wm
       obtain ⟨q1, q2, rfl, rfl, hT1, hT2, hE, hVA, hVH, hXB⟩ := hcut
       have E := hi_ hE; have VA := hi_ hVA; have VH := hi_ hVH; have XB := hi_ hXB; have T1 := hi_ hT1; have T2 := hi_ hT2
       clear hE hVA hVH hXB hT1 hT2
       obtain ⟨i0, hi0, hz0, hy1, hy2⟩ := info_parts info_int
       go_upto_region 15 with (at_make; refine wpList_make_full _ rfl _ _ 22 rfl wm.heap.size 3 i0 _ 1 Tryz.underlying22 hi0 hz0 hy1 .i64 .i64 _ _ N rfl rfl rfl rfl (by rw [hy2]; omega) (by unfold maxLen; omega) (by simp) ?_; intro w5 own1 grow1)
       have BG := hi_ (show Below wm.heap.size wm w5 from (Below.refl _ _).grown grow1 (by simp) (by simp))
       have RG := hi_ (own_zeros2 own1)
       have hwz : w.heap.size + 1 < wm.heap.size := E.out.rb.lt
       clear hi0 hz0 hy1 hy2 own1 grow1
       go_wp2_with fail
       go_loopg [13] (N - 1) (fun gg s13 wx => ∃ (t : Nat) (cs : List Int), t + gg = N ∧ 1 ≤ t ∧ s13 = .int .i64 t ∧ PvI a h N t 0 cs ∧ RowI wx wm.heap.size cs ∧ Below wm.heap.size wm wx)
       case atStart => exact ⟨1, _, by omega, by omega, rfl, PvI.first hN1, RG.out, BG.out⟩
       case round =>
        clear RG BG
        obtain ⟨t, cs, htg, ht1, rfl, hpi, hrg, hbg⟩ := hrel
        have RG := hi_ hrg; have BG := hi_ hbg; have PI := hi_ hpi
        clear hrg hbg hpi
        obtain ⟨go, hgo⟩ : ∃ go : Nat, go = gk := ⟨_, rfl⟩
        subst hgo
        by_cases ht : t < N
        case pos =>
         have hti : (t : Int) < (N : Int) := by omega
         go_wp2_with fail
         go_loopg [] t (fun gg wx => ∃ (u : Nat) (cs : List Int), u + gg = t ∧ PvI a h N t u cs ∧ RowI wx wm.heap.size cs ∧ Below wm.heap.size wm wx)
         case atStart => exact ⟨0, cs, by omega, PI.out, RG.out, BG.out⟩
         case round =>
          clear RG BG PI
          obtain ⟨u, cs, hug, hpi, hrg, hbg⟩ := hrel
          have RG := hi_ hrg; have BG := hi_ hbg; have HI := hi_ hpi
          clear hrg hbg hpi
          go_upto_region 18 with fail
          replace RG := hi_ (RowI.drew RG.out); replace BG := hi_ (show Below wm.heap.size wm wr.drew from Below.drew BG.out)
          obtain ⟨⟨h0, h1, h2⟩, hlh⟩ := (VH.out.below BG.out).c
          obtain ⟨⟨x0, x1, x2⟩, _, hlx⟩ := (XB.out.below BG.out XB.out.lt).c3
          have c0 := RG.out.cell t (by rw [HI.out.len]; exact ht)
          rw [HI.out.cur] at c0
          have hlg := RG.out.lt
          refine wp_region_held_drew (S := (fun w' => w'.cell? ⟨wm.heap.size, t, none⟩ = some (.int .i64 (u : Int)) ∧ w'.cell? ⟨ZX, 0, none⟩ = some (.int .i64 (l : Int)) ∧ w'.cell? ⟨ZX, 1, none⟩ = some (.int .i64 (F : Int)) ∧ w'.cell? ⟨ZX, 2, none⟩ = some (.bool tl) ∧ w'.cell? ⟨ZH, 0, none⟩ = some (.slice B m d) ∧ w'.cell? ⟨ZH, 1, none⟩ = some (.int .i64 h.per) ∧ w'.cell? ⟨ZH, 2, none⟩ = some (.int .i64 h.inc))) (by kernel_rfl) (by exact ⟨c0, x0, x1, x2, h0, h1, h2⟩) (fun hH => ?_)
          generalize hwd : wr.drew = wd at *
          clear hwd
          by_cases hut : u < t
          case neg =>
           have d1 : decide ((u : Int) < (t : Int)) = false := by simp; omega
           have d2 : decide (u < t) = false := by simpa using hut
           refine tkO [0, 1, 2, 3, 4, 5, 6, 7, 8, 9, 10, 11, 12, 13, 14, 15, 16, 17, 18, 19] ?_; (iterate 7 refine tkI ?_); (iterate 12 refine tkJ ?_); refine tkI ?_; refine tkX ?_
           refine dnH ?_
           clear hH
           have NI := hi_ (HI.out.next (by omega) (fun k => absurd k hut))
           clear hut d1 d2
           clear h0 h1 h2 hlh x0 x1 x2 hlx c0 hlg
           go_wp2_with fail
           go_roundg (go - 1)
           case measure => omega
           case rel => exact ⟨t + 1, cs, by omega, by omega, by go_num, NI.out, RG.out, BG.out⟩
          case pos =>
           have d1 : decide ((u : Int) < (t : Int)) = true := by simp; omega
           have d2 : decide (u < t) = true := by simpa using hut
           refine tkO [0, 1, 2, 3, 4, 5, 6, 7, 8, 9, 10, 12, 13, 14, 15, 16] ?_; (iterate 16 refine tkI ?_); refine tkX ?_
           refine rdy2 11 (fun K hK => ?_)
           go_simp
           refine (start_any B m d h.per h.inc _ (by omega) (by omega) (by omega)).mono ?_
           rintro e w13 ⟨rfl, hb⟩
           clear h0 h1 h2 hlh x0 x1 x2 hlx c0 hlg
           replace RG := hi_ (RG.out.below hb RG.out.lt); replace BG := hi_ (show Below wm.heap.size wm w13 from BG.out.trans (hb.mono BG.out.size))
           clear hb hH
           obtain ⟨⟨h0, h1, h2⟩, hlh⟩ := (VH.out.below BG.out).c
           obtain ⟨⟨x0, x1, x2⟩, _, hlx⟩ := (XB.out.below BG.out XB.out.lt).c3
           have c0 := RG.out.cell t (by rw [HI.out.len]; exact ht)
           rw [HI.out.cur] at c0
           have hlg := RG.out.lt
           refine bkS hK (by exact ⟨c0, x0, x1, x2, h0, h1, h2⟩) (fun hH => ?_)
           refine rdy2 17 (fun K hK => ?_)
           go_simp
           obtain ⟨st, hst⟩ : ∃ st : Nat, st = cst h := ⟨_, rfl⟩
           have est : (m : Int) - h.per = (st : Int) := by rw [hst]; unfold cst; rw [HLM.out]; omega
           rw [est]
           refine (attains_any q1 q2 N F t (l : Int) tl st (u : Int) a h _ (by exact T1.out.below BG.out T1.out.lt) (by exact T2.out.below BG.out T2.out.lt) HAO.out HHO.out (by omega) ht HF.out (by omega) HTL.out hst).mono ?_
           rintro e w14 ⟨⟨bq, hbq, rfl⟩, hb⟩
           rw [Int.toNat_natCast] at hbq
           clear h0 h1 h2 hlh x0 x1 x2 hlx c0 hlg
           replace RG := hi_ (RG.out.below hb RG.out.lt); replace BG := hi_ (show Below wm.heap.size wm w14 from BG.out.trans (hb.mono BG.out.size))
           have BQ := hi_ hbq
           clear hb hH est hst hbq
           obtain ⟨⟨h0, h1, h2⟩, hlh⟩ := (VH.out.below BG.out).c
           obtain ⟨⟨x0, x1, x2⟩, _, hlx⟩ := (XB.out.below BG.out XB.out.lt).c3
           have c0 := RG.out.cell t (by rw [HI.out.len]; exact ht)
           rw [HI.out.cur] at c0
           have hlg := RG.out.lt
           refine bkS hK (by exact ⟨c0, x0, x1, x2, h0, h1, h2⟩) (fun hH => ?_)
           cases hbv : bq
           case true =>
            have NI := hi_ (HI.out.next (by omega) (fun k => (BQ.out.1 hbv).2))
            clear hbv BQ
            refine tkO [18, 19] ?_; (iterate 2 refine tkI ?_); refine tkX ?_
            refine dnH ?_
            clear hH hut d1 d2
            clear h0 h1 h2 hlh x0 x1 x2 hlx c0 hlg
            go_wp2_with fail
            go_roundg (go - 1)
            case measure => omega
            case rel => exact ⟨t + 1, cs, by omega, by omega, by go_num, NI.out, RG.out, BG.out⟩
           case false =>
            have NI := hi_ (HI.out.more ht (fun k => by have := BQ.out.2 ⟨by omega, k⟩; rw [hbv] at this; cases this))
            clear hbv BQ
            refine tkO [18, 19] ?_; (iterate 2 refine tkI ?_); refine tkX ?_
            refine dnH ?_
            clear hH d1 d2
            clear h0 h1 h2 hlh x0 x1 x2 hlx
            have z0 := RG.out.frozen t
            have hu9 : (u : Int) ≤ 1100 := by omega
            go_wp2_with fail
            go_roundg (gk - 1)
            case measure => omega
            case rel => exact ⟨u + 1, _, by omega, NI.out, RG.out.set_ t (by rw [HI.out.len]; exact ht) _, BG.out.setCell (by simp) _⟩
        case neg =>
         have hti : ¬ (t : Int) < (N : Int) := by omega
         have htN : t = N := by omega
         subst htN
         have PA := hi_ (PI.out.fin (by rw [HN.out, HF.out, HL.out]))
         have hlc : cs.length = t := PI.out.len
         have HLC := hi_ hlc
         clear hlc ht PI
         obtain ⟨⟨h0, h1, h2⟩, hlh⟩ := (VH.out.below BG.out).c
         obtain ⟨⟨x0, x1, x2⟩, _, hlx⟩ := (XB.out.below BG.out XB.out.lt).c3
         have hlg := RG.out.lt
         go_upto_region 21 with fail
         clear h0 h1 h2 hlh x0 x1 x2 hlx
         have ZC := hi_ (Blk.new wr 136 #[.slice B m d, .int .i64 h.per, .int .i64 h.inc, .int .i64 (F : Int), .slice (some ⟨wm.heap.size, 0, none⟩) t t])
         have hb := balloc wr (.cells #[.slice B m d, .int .i64 h.per, .int .i64 h.inc, .int .i64 (F : Int), .slice (some ⟨wm.heap.size, 0, none⟩) t t] 136)
         replace RG := hi_ (RG.out.below hb RG.out.lt); replace BG := hi_ (BG.out.trans (hb.mono BG.out.size))
         clear hb hlg
         generalize hwe : wr.alloc (.cells #[.slice B m d, .int .i64 h.per, .int .i64 h.inc, .int .i64 (F : Int), .slice (some ⟨wm.heap.size, 0, none⟩) t t] 136) = w7 at *
         clear hwe
         generalize wr.heap.size = ZP at *
         obtain ⟨⟨a0, a1, a2⟩, hla⟩ := (VA.out.below BG.out).c
         obtain ⟨⟨p0, p1, p2, p3, p4⟩, _, hlp⟩ := ZC.out.q5
         go_wp2_with fail
         refine (clck_any A1 B (some ⟨wm.heap.size, 0, none⟩) n1 c1 m d t t a h (F : Int) cs _ (by exact (VA.out.below BG.out).ints) (by exact (VH.out.below BG.out).ints) (by exact rowI_ints RG.out HLC.out) (by omega) (by omega) (by omega)).mono ?_
         rintro e w8 ⟨⟨bk, hbk, rfl⟩, hb⟩
         have BK := hi_ (show bk = true ↔ CkC f h (clF a h : Nat) cs from by rw [hbk, ckC_nf HFO.out HNF.out HAO.out, HF.out])
         replace RG := hi_ (RG.out.below hb RG.out.lt); replace BG := hi_ (BG.out.trans (hb.mono BG.out.size)); replace ZC := hi_ (ZC.out.below hb ZC.out.lt)
         clear hb hbk a0 a1 a2 hla p0 p1 p2 p3 p4 hlp
         replace E := hi_ (E.out.below BG.out)
         cases hbv : bk
         case false =>
          have NO := hi_ (show PvC f Cv.none 0 [] 3 from .inr ⟨HFO.out, a, HNF.out, .inr ⟨H60.out, h, 0, HC.out, .inr ⟨rfl, cs, PA.out, .inr ⟨(fun q => by have := BK.out.2 q; rw [hbv] at this; cases this), rfl, rfl, rfl, rfl⟩⟩⟩⟩)
          clear hbv
          have FN := hi_ (show PvC f Cv.none 0 [] 3 from NO.out)
          obtain ⟨⟨r0, r1, r2, r3, r4⟩, ⟨y0, y1, y2, y3, y4⟩, hlr⟩ := E.out.rb.q5
          go_wp2_with fail
          have rb := E.out.rb.str5 (.slice none 0 0) (.int .i64 0) (.int .i64 0) (.int .i64 0) (.slice none 0 0)
          have bw := bsto E.out.bw (Sto.q5 (w.heap.size + 1) _ (.slice none 0 0) (.int .i64 0) (.int .i64 0) (.int .i64 0) (.slice none 0 0)) (by omega)
          refine bodyPost_ret (v := .tuple #[.agg #[.slice none 0 0, .int .i64 0, .int .i64 0, .int .i64 0, .slice none 0 0], .int .i64 3]) (by simp [results, Tryz.results80, go_sem, rb.cell]) rfl ?_
          exact retSq_none FN.out bw
         case true =>
          have YS := hi_ (show PvC f h (F : Int) cs 0 from .inr ⟨HFO.out, a, HNF.out, .inr ⟨H60.out, h, 0, HC.out, .inr ⟨rfl, cs, PA.out, .inl ⟨BK.out.1 hbv, rfl, by rw [HF.out], rfl, rfl⟩⟩⟩⟩)
          clear hbv
          obtain ⟨⟨p0, p1, p2, p3, p4⟩, _, hlp⟩ := ZC.out.q5
          obtain ⟨⟨r0, r1, r2, r3, r4⟩, ⟨y0, y1, y2, y3, y4⟩, hlr⟩ := E.out.rb.q5
          go_wp2_with fail
          have rb := E.out.rb.str5 (.slice B m d) (.int .i64 h.per) (.int .i64 h.inc) (.int .i64 (F : Int)) (.slice (some ⟨wm.heap.size, 0, none⟩) t t)
          have st := Sto.q5 (w.heap.size + 1) w8 (.slice B m d) (.int .i64 h.per) (.int .i64 h.inc) (.int .i64 (F : Int)) (.slice (some ⟨wm.heap.size, 0, none⟩) t t)
          have bw := bsto E.out.bw st (by omega)
          have iH := (VH.out.below BG.out).ints
          refine bodyPost_ret (v := .tuple #[.agg #[.slice B m d, .int .i64 h.per, .int .i64 h.inc, .int .i64 (F : Int), .slice (some ⟨wm.heap.size, 0, none⟩) t t], .int .i64 0]) (by simp [results, Tryz.results80, go_sem, rb.cell]) rfl ?_
          exact ⟨h, (F : Int), cs, 0, YS.out, B, m, d, some ⟨wm.heap.size, 0, none⟩, t, t, hmd, Nat.le_refl _, rfl, iH.sto st (fun b off o e => by have := HBN.out b off o e; omega), (rowI_ints RG.out HLC.out).sto st (fun b off o e => by cases e; omega), HB.out, (fun b off o e => by cases e; omega), bw⟩
theorem clof_any (A : Option Addr) (n c : Nat) (f : Cv) (w : World) (hA : Ints w w.heap.size A n f.vals) (hn : (n : Int) ≤ 1000000) :
 Calls Tryz.prog 25 #[.agg #[.slice A n c, .int .i64 f.per, .int .i64 f.inc]] w (RetSK (ClS f) w) := by
 have FB := hi_ ((Blk.new w 26 #[.slice A n c, .int .i64 f.per, .int .i64 f.inc]).alloc (.cells #[.slice none 0 0, .int .i64 0, .int .i64 0] 26))
 have IA := hi_ ((hA.alloc' (.cells #[.slice A n c, .int .i64 f.per, .int .i64 f.inc] 26)).alloc' (.cells #[.slice none 0 0, .int .i64 0, .int .i64 0] 26))
 have rb := Blk.new (w.alloc (.cells #[.slice A n c, .int .i64 f.per, .int .i64 f.inc] 26)) 26 #[.slice none 0 0, .int .i64 0, .int .i64 0]
 rw [World.size_alloc] at rb
 have RB := hi_ rb
 have BW := hi_ (bthen (balloc w (.cells #[.slice A n c, .int .i64 f.per, .int .i64 f.inc] 26)) (balloc _ (.cells #[.slice none 0 0, .int .i64 0, .int .i64 0] 26)))
 clear hA rb
 go_enter Tryz.func25, Tryz.ntmps25
 go_upto_region 1 with fail
 generalize hwe : (w.alloc (.cells #[.slice A n c, .int .i64 f.per, .int .i64 f.inc] 26)).alloc (.cells #[.slice none 0 0, .int .i64 0, .int .i64 0] 26) = we at *
 clear hwe
 obtain ⟨⟨f0, f1, f2⟩, _, hlf⟩ := FB.out.c3
 have hrb := RB.out.lt
 go_wp2_with fail
 refine (clprv_any A n c f _ (by exact IA.out) (by omega)).mono ?_
 rintro e w1 ⟨r, fr, cs, er, hS, A5, n5, c5, B5, m5, d5, hc5, hd5, rfl, hI5, hJ5, hA5, hB5, hb⟩
 have F := hi_ (show ClS f r er from ⟨fr, cs, hS⟩)
 have HI5 := hi_ (hI5.alloc' (.cells #[.slice A5 n5 c5, .int .i64 r.per, .int .i64 r.inc, .int .i64 fr, .slice B5 m5 d5] 136))
 have HA5 := hi_ hA5
 have ZB := hi_ (Blk.new w1 136 #[.slice A5 n5 c5, .int .i64 r.per, .int .i64 r.inc, .int .i64 fr, .slice B5 m5 d5])
 have hbq := bthen hb (balloc w1 (.cells #[.slice A5 n5 c5, .int .i64 r.per, .int .i64 r.inc, .int .i64 fr, .slice B5 m5 d5] 136))
 replace RB := hi_ (RB.out.below hbq RB.out.lt); replace BW := hi_ (bthen BW.out hbq)
 clear hS hI5 hJ5 hA5 hB5 hb hbq f0 f1 f2 hlf FB IA hd5
 go_upto_region 2 with fail
 generalize hwe : w1.alloc (.cells #[.slice A5 n5 c5, .int .i64 r.per, .int .i64 r.inc, .int .i64 fr, .slice B5 m5 d5] 136) = w2 at *
 clear hwe
 generalize w1.heap.size = ZP at *
 obtain ⟨⟨p0, p1, p2, p3, p4⟩, _, hlp⟩ := ZB.out.q5
 obtain ⟨⟨r0, r1, r2⟩, ⟨y0, y1, y2⟩, hlr⟩ := RB.out.c3
 go_wp2_with fail
 have rb := RB.out.store3 (.slice A5 n5 c5) (.int .i64 r.per) (.int .i64 r.inc)
 refine bodyPost_ret (v := .tuple #[.agg #[.slice A5 n5 c5, .int .i64 r.per, .int .i64 r.inc], .int .i64 er]) (by simp [results, Tryz.results25, go_sem, rb.cell]) rfl ?_
 exact ⟨r, er, F.out, retK_store3' hc5 HA5.out (by omega) (by exact hrb) HI5.out BW.out⟩
end
end Go.Proofs.YtaejfleahamapaaGreat
