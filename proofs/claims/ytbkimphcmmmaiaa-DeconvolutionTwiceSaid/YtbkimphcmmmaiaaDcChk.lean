/- deconvolution.Check: the walk. -/
import Derived.Test.YtbkimphcmmmaiaaCvSame
import Derived.Test.YtbkimphcmmmaiaaDcPrv
import Derived.Deep.RegionHeld3
namespace Go.Proofs.Ytbkimphcmmmaiaa
open Go.RowKit
set_option linter.unusedVariables false

end Go.Proofs.Ytbkimphcmmmaiaa
namespace Go.Proofs.Ytbkimphcmmmaiaa
open Go.RowKit
set_option linter.unusedVariables false

def TickOk (a b h : Cv) (cs : List Int) (t : Nat) : Prop := 0 ≤ nth cs t ∧ nth cs t < (dcK a b : Nat) ∧ gn a b t (nth cs t).toNat = h.at t ∧ ∀ u, u < dcK a b → gn a b t u ≤ h.at t
theorem check_iff {f g h a b : Cv} {cs : List Int} (hf : f.Ok) (hg : g.Ok) (h0 : g.at 0 = 0) (ha : NF f.at a) (hb : NF g.at b) (hc : comm a.per.toNat b.per.toNat ≤ 120) (hh : h.Ok) (hn : NF h.at h) : CheckS f g h cs ↔ CertS a b h cs := by
  constructor
  · rintro ⟨_, _, _, a', b', ha', hb', _, _, _, h1⟩
    obtain rfl := NF.unique ha ha'
    obtain rfl := NF.unique hb hb'
    exact h1
  · intro h1
    exact ⟨hf, hg, h0, a, b, ha, hb, hc, hh, hn, h1⟩
theorem cert_steep {a b h : Cv} {cs : List Int} (hs : Steep a b) : CertS a b h cs ↔ nth h.vals 0 = inf ∧ cs.length = 0 := by
  constructor
  · rintro (⟨_, h1, rfl⟩ | ⟨h1, _⟩)
    · exact ⟨h1, rfl⟩
    · exact absurd hs h1
  · rintro ⟨h1, h2⟩
    exact .inl ⟨hs, h1, List.length_eq_zero_iff.1 h2⟩
theorem cert_flat {a b h : Cv} {cs : List Int} (hs : ¬ Steep a b) : CertS a b h cs ↔ (h.Fin ↔ a.Fin) ∧ (a.Fin → h.per.toNat ∣ a.per.toNat ∧ ((a.per.toNat / h.per.toNat : Nat) : Int) * h.inc = a.inc) ∧ cs.length = dcExt a h ∧ ∀ t, t < cs.length → TickOk a b h cs t := by
  constructor
  · rintro (⟨h1, _⟩ | ⟨_, h2⟩)
    · exact absurd h1 hs
    · exact h2
  · intro h2
    exact .inr ⟨hs, h2⟩
theorem dvd_mod {p q : Int} (hp : 1 ≤ p) (hq : 1 ≤ q) : p.tmod q = 0 ↔ q.toNat ∣ p.toNat := by
  obtain ⟨x, rfl⟩ := Int.eq_ofNat_of_zero_le (show 0 ≤ p by omega)
  obtain ⟨y, rfl⟩ := Int.eq_ofNat_of_zero_le (show 0 ≤ q by omega)
  rw [Int.tmod_eq_emod_of_nonneg (by omega)]
  simp only [Int.toNat_natCast]
  rw [Nat.dvd_iff_mod_eq_zero]
  omega
set_option maxHeartbeats 4000000 in
set_option maxRecDepth 100000 in
theorem dcchk_any (A B C D : Option Addr) (n m k x c d s y : Nat) (p i q j : Int) (xs ys : List Int) (h : Cv) (cs : List Int) (w : World) (hA : Ints w w.heap.size A n xs) (hB : Ints w w.heap.size B m ys) (hC : Ints w w.heap.size C k h.vals) (hD : Ints w w.heap.size D x cs)
    (hn : (n : Int) ≤ 1000000) (hm : (m : Int) ≤ 1000000) (hk : (k : Int) ≤ 1000000) (hx : (x : Int) ≤ 1000000) :
    Calls Try.prog 81 #[.agg #[.slice A n c, .int .i64 p, .int .i64 i], .agg #[.slice B m d, .int .i64 q, .int .i64 j], .agg #[.slice C k s, .int .i64 h.per, .int .i64 h.inc, .slice D x y]] w (RetQ (CheckS ⟨xs, p, i⟩ ⟨ys, q, j⟩ h cs) w) := by
  have P := Lib.hid ((PS.new (c := c) (p := p) (i := i) (d := d) (q := q) (j := j) hA hB).alloc (.cells #[.slice C k s, .int .i64 h.per, .int .i64 h.inc, .slice D x y] 106))
  have cb := Blk.new ((w.alloc (.cells #[.slice A n c, .int .i64 p, .int .i64 i] 31)).alloc (.cells #[.slice B m d, .int .i64 q, .int .i64 j] 31)) 106 #[.slice C k s, .int .i64 h.per, .int .i64 h.inc, .slice D x y]
  rw [World.size_alloc, World.size_alloc] at cb
  have CB := Lib.hid cb
  have IC := Lib.hid (((hC.alloc' (.cells #[.slice A n c, .int .i64 p, .int .i64 i] 31)).alloc' (.cells #[.slice B m d, .int .i64 q, .int .i64 j] 31)).alloc' (.cells #[.slice C k s, .int .i64 h.per, .int .i64 h.inc, .slice D x y] 106))
  have ID := Lib.hid (((hD.alloc' (.cells #[.slice A n c, .int .i64 p, .int .i64 i] 31)).alloc' (.cells #[.slice B m d, .int .i64 q, .int .i64 j] 31)).alloc' (.cells #[.slice C k s, .int .i64 h.per, .int .i64 h.inc, .slice D x y] 106))
  clear hA hB hC hD cb
  go_enter Try.func81, Try.ntmps81
  obtain ⟨f0, f1, f2, g0, g1, g2, hlf, hlg⟩ := P.out.cells
  go_wp2_with fail
  refine (dcboth_any A B n m c d p i q j xs ys _ P.out.ia P.out.ib hn hm).mono ?_
  rintro e w1 (⟨er, hbad, rfl, hb⟩ | ⟨hfo, hgo, a, b, A1, n1, c1, B1, m1, d1, l, hna, hnb, hao, hbo, h0, hcm, hl, rfl, hI1, hI2, hA1, hB1, hb⟩)
  · have hne : (er != 0) = true := by
      rcases hbad with ⟨_, rfl⟩ | ⟨_, _, _, rfl⟩ | ⟨_, _, _, rfl, _⟩ <;> rfl
    have FIN := Lib.hid (show ¬ CheckS ⟨xs, p, i⟩ ⟨ys, q, j⟩ h cs from fun ⟨k1, k2, k3, a, b, k4, k5, k6, _⟩ => hbad.not k1 k2 k3 ⟨a, b, k4, k5, k6⟩)
    have BW := Lib.hid (bthen P.out.bw hb)
    clear hbad hb P f0 f1 f2 g0 g1 g2 hlf hlg
    unfold zero8
    replace BW := Lib.hid (bthen BW.out (balloc _ (.cells #[.slice none 0 0, .int .i64 0, .int .i64 0, .slice none 0 0, .int .i64 0, .int .i64 0, .int .i64 0, .bool false] 101)))
    go_upto_region 2 with fail
    generalize hwe : w1.alloc (.cells #[.slice none 0 0, .int .i64 0, .int .i64 0, .slice none 0 0, .int .i64 0, .int .i64 0, .int .i64 0, .bool false] 101) = w2 at *
    clear hwe
    go_wp2_with fail
    try rw [Exit.noGoto_ret]
    go_ret
    exact RetQ.no FIN.out BW.out
  · have CB0 := Lib.hid (CB.out.below hb CB.out.lt)
    have BW0 := Lib.hid (bthen P.out.bw hb)
    have IC0 := Lib.hid (IC.out.ext hb); have ID0 := Lib.hid (ID.out.ext hb)
    have E := Lib.hid (PE.new (c := c1) (d := d1) (K := (dcK a b : Nat)) (l := l) hI1 hI2)
    have hs1 := CB0.out.lt
    have HFO := Lib.hid hfo; have HGO := Lib.hid hgo; have HNA := Lib.hid hna; have HNB := Lib.hid hnb; have HAO := Lib.hid hao; have HBO := Lib.hid hbo; have H0 := Lib.hid h0; have HCM := Lib.hid hcm; have HL := Lib.hid hl
    have HN1 := Lib.hid (show a.vals.length = n1 from hI1.1); have HM1 := Lib.hid (show b.vals.length = m1 from hI2.1)
    clear hfo hgo hna hnb hao hbo h0 hcm hl hI1 hI2 hA1 hB1 hb P CB IC ID f0 f1 f2 g0 g1 g2 hlf hlg
    unfold dpA at E ⊢
    go_upto_region 2 with fail
    generalize hwe : w1.alloc (.cells #[.slice A1 n1 c1, .int .i64 a.per, .int .i64 a.inc, .slice B1 m1 d1, .int .i64 b.per, .int .i64 b.inc, .int .i64 (dcK a b : Nat), .bool l] 101) = w2 at *
    clear hwe
    have E : Hid (PE w1 w2 A1 n1 c1 a B1 m1 d1 b (dcK a b : Nat) l) := E
    have hb2 := E.out.bw
    have IC2 := Lib.hid (IC0.out.ext hb2)
    have HB := Lib.hid (Blk.new w2 31 #[.slice C k s, .int .i64 h.per, .int .i64 h.inc])
    have HP := E.out.pb.lt
    have CB := Lib.hid (CB0.out.below E.out.bw CB0.out.lt)
    obtain ⟨⟨r0, r1, r2, r3⟩, _, hlr⟩ := CB.out.c4
    have E := Lib.hid (E.out.alloc (.cells #[.slice C k s, .int .i64 h.per, .int .i64 h.inc] 31))
    clear hb2
    go_upto_region 5 with fail
    generalize hwe : w2.alloc (.cells #[.slice C k s, .int .i64 h.per, .int .i64 h.inc] 31) = w3 at *
    clear hwe
    generalize w2.heap.size = Hb at *
    clear r0 r1 r2 r3 hlr CB
    have IC3 := Lib.hid (IC0.out.ext E.out.bw)
    obtain ⟨⟨h0, h1, h2⟩, _, hlh⟩ := HB.out.c3
    go_wp2_with fail
    refine (normal_any C k s h.per h.inc h.vals _ (by exact IC3.out) hk).mono ?_
    rintro e w4 ⟨nn, er, hN, A5, n5, c5, rfl, hI5, hA5, hbq⟩
    have HN := Lib.hid (NormR.of hN)
    have HI5 := Lib.hid (hI5.alloc' (.cells #[.slice A5 n5 c5, .int .i64 nn.per, .int .i64 nn.inc] 31))
    have NB := Lib.hid (Blk.new w4 31 #[.slice A5 n5 c5, .int .i64 nn.per, .int .i64 nn.inc])
    have HB := Lib.hid ((HB.out.below hbq HB.out.lt).alloc (.cells #[.slice A5 n5 c5, .int .i64 nn.per, .int .i64 nn.inc] 31))
    have E := Lib.hid ((E.out.below hbq).alloc (.cells #[.slice A5 n5 c5, .int .i64 nn.per, .int .i64 nn.inc] 31))
    clear hN hI5 hA5 hbq IC2 IC3
    clear h0 h1 h2 hlh
    go_upto_region 6 with fail
    generalize hwe : w4.alloc (.cells #[.slice A5 n5 c5, .int .i64 nn.per, .int .i64 nn.inc] 31) = w5 at *
    clear hwe
    generalize w4.heap.size = Nb at *
    rcases HN.out with ⟨hho, hnf, hno, rfl⟩ | ⟨hno, rfl, rfl⟩
    case inr =>
      have FIN := Lib.hid (show ¬ CheckS ⟨xs, p, i⟩ ⟨ys, q, j⟩ h cs from fun ⟨_, _, _, _, _, _, _, _, k, _⟩ => hno k)
      clear hno HN
      have bwx := bthen BW0.out E.out.bw
      go_wp2_with fail
      try rw [Exit.noGoto_ret]
      go_ret
      exact RetQ.no FIN.out bwx
    case inl =>
      have HHO := Lib.hid hho; have HNF := Lib.hid hnf
      have hn5 := hno.n2
      rw [HI5.out.1] at hn5
      clear hho hnf hno HN
      have IC3 := Lib.hid (IC0.out.ext E.out.bw)
      obtain ⟨⟨h0, h1, h2⟩, _, hlh⟩ := HB.out.c3
      obtain ⟨⟨k0, k1, k2⟩, _, hlk⟩ := NB.out.c3
      go_wp2_with fail
      refine (same_any A5 C n5 k c5 s nn.per h.per nn.inc h.inc nn.vals h.vals _ (by exact HI5.out) (by exact IC3.out) (by omega) hk).mono ?_
      rintro e w6 ⟨rfl, hbq⟩
      obtain ⟨z, hz⟩ : ∃ z, z = Cv.same ⟨nn.vals, nn.per, nn.inc⟩ ⟨h.vals, h.per, h.inc⟩ := ⟨_, rfl⟩
      rw [← hz]
      have HZ := Lib.hid (show z = true ↔ nn = h from by rw [hz]; exact Cv.same_iff nn h)
      have HB := Lib.hid (HB.out.below hbq HB.out.lt)
      have E := Lib.hid (E.out.below hbq)
      clear hbq hz k0 k1 k2 hlk HI5 NB IC3 hn5
      clear h0 h1 h2 hlh
      cases z
      case false =>
        have FIN := Lib.hid (show ¬ CheckS ⟨xs, p, i⟩ ⟨ys, q, j⟩ h cs from fun ⟨_, _, _, _, _, _, _, _, _, k, _⟩ => by
          have := HZ.out.2 (NF.unique HNF.out k)
          cases this)
        have bwx := bthen BW0.out E.out.bw
        go_wp2_with fail
        try rw [Exit.noGoto_ret]
        go_ret
        exact RetQ.no FIN.out bwx
      case true =>
        have hnn := HZ.out.1 rfl
        have CI := Lib.hid (check_iff (cs := cs) HFO.out HGO.out (by rw [← HNB.out.at]; exact H0.out) HNA.out HNB.out HCM.out HHO.out (by have := HNF.out; rw [hnn] at this; exact this))
        clear hnn HZ HNF
        have ff := HHO.out
        have f1' := ff.n1; have f2' := ff.n2; have f3' := ff.p1; have f4' := ff.p2; have f5' := ff.pn; have f6' := ff.i1; have f7' := ff.i2
        rw [IC0.out.1] at f1' f2' f5'
        have fa := HAO.out
        have a1' := fa.n1; have a2' := fa.n2; have a3' := fa.p1; have a4' := fa.p2; have a5' := fa.pn; have a6' := fa.i1; have a7' := fa.i2
        rw [HN1.out] at a1' a2' a5'
        clear ff fa
        cases hlv : l
        case true =>
          have HS := Lib.hid (show Steep a b from HL.out.1 hlv)
          subst hlv
          have CI2 := Lib.hid (show CheckS ⟨xs, p, i⟩ ⟨ys, q, j⟩ h cs ↔ nth h.vals 0 = inf ∧ x = 0 from by rw [CI.out, cert_steep HS.out, ID0.out.1])
          have IC3 := Lib.hid (IC0.out.ext E.out.bw)
          obtain ⟨ad, of, hAe, hbl, hcell⟩ := IC3.out.2 (by omega)
          subst hAe
          have hck := hcell 0 (by omega)
          simp only [Nat.add_zero] at hck
          obtain ⟨v0, hv0⟩ : ∃ z, z = nth h.vals 0 := ⟨_, rfl⟩
          rw [← hv0] at hck CI2
          clear hcell hv0 IC3
          obtain ⟨⟨f0, f1, f2⟩, ⟨g0, g1, g2⟩, ⟨p6, p7⟩, hlf⟩ := E.out.cells
          obtain ⟨⟨h0, h1, h2⟩, _, hlh⟩ := HB.out.c3
          have CB := Lib.hid (CB0.out.below E.out.bw CB0.out.lt)
          obtain ⟨⟨r0, r1, r2, r3⟩, _, hlr⟩ := CB.out.c4
          by_cases hvi : v0 = inf
          · have dv : (v0 == 4611686018427387904) = true := by unfold inf at hvi; simpa using hvi
            have HVI := Lib.hid hvi
            clear hvi
            by_cases hx0 : x = 0
            · subst hx0
              have bwx := bthen BW0.out E.out.bw
              go_wp2_with fail
              try rw [Exit.noGoto_ret]
              go_ret
              exact RetQ.yes (CI2.out.2 ⟨HVI.out, by first | rfl | trivial⟩) bwx
            · have dx : ((x : Int) == 0) = false := by simp; omega
              have dx2 : (x == 0) = false := by simp; omega
              have HX0 := Lib.hid hx0
              clear hx0
              have bwx := bthen BW0.out E.out.bw
              go_wp2_with fail
              try rw [Exit.noGoto_ret]
              go_ret
              exact RetQ.no (fun h => HX0.out (CI2.out.1 h).2) bwx
          · have dv : (v0 == 4611686018427387904) = false := by unfold inf at hvi; simpa using hvi
            have HVI := Lib.hid hvi
            clear hvi
            have bwx := bthen BW0.out E.out.bw
            go_wp2_with fail
            try rw [Exit.noGoto_ret]
            go_ret
            exact RetQ.no (fun h => HVI.out (CI2.out.1 h).1) bwx
        case false =>
          have NS := Lib.hid (show ¬ Steep a b from fun h => by have := HL.out.2 h; rw [hlv] at this; cases this)
          subst hlv
          obtain ⟨fa, hfa⟩ : ∃ z, z = (nth a.vals (n1 - 1) != inf) := ⟨_, rfl⟩
          obtain ⟨fh, hfh⟩ : ∃ z, z = (nth h.vals (k - 1) != inf) := ⟨_, rfl⟩
          have HFA := Lib.hid hfa; have HFH := Lib.hid hfh
          have LA := Lib.hid (show fa = true ↔ a.Fin from by
            rw [hfa, bne_iff_ne, ← HN1.out]; exact ⟨fun h => ⟨HAO.out, h⟩, fun h => h.2⟩)
          have LH := Lib.hid (show fh = true ↔ h.Fin from by
            rw [hfh, bne_iff_ne, ← IC0.out.1]; exact ⟨fun h => ⟨HHO.out, h⟩, fun h => h.2⟩)
          clear hfa hfh
          obtain ⟨⟨f0, f1, f2⟩, ⟨g0, g1, g2⟩, ⟨p6, p7⟩, hlf⟩ := E.out.cells
          obtain ⟨⟨h0, h1, h2⟩, _, hlh⟩ := HB.out.c3
          have CB := Lib.hid (CB0.out.below E.out.bw CB0.out.lt)
          obtain ⟨⟨r0, r1, r2, r3⟩, _, hlr⟩ := CB.out.c4
          go_wp2_with fail
          refine (finite_any A1 n1 c1 a.per a.inc a.vals _ (by exact E.out.ja) (by omega) (by omega)).mono ?_
          rw [← HFA.out]
          rintro e w7 ⟨rfl, hbq⟩
          have HB := Lib.hid (HB.out.below hbq HB.out.lt)
          have E := Lib.hid (E.out.below hbq)
          try clear hHeld
          clear hbq
          clear f0 f1 f2 g0 g1 g2 p6 p7 hlf
          clear h0 h1 h2 hlh
          clear r0 r1 r2 r3 hlr CB
          obtain ⟨⟨f0, f1, f2⟩, ⟨g0, g1, g2⟩, ⟨p6, p7⟩, hlf⟩ := E.out.cells
          obtain ⟨⟨h0, h1, h2⟩, _, hlh⟩ := HB.out.c3
          have CB := Lib.hid (CB0.out.below E.out.bw CB0.out.lt)
          obtain ⟨⟨r0, r1, r2, r3⟩, _, hlr⟩ := CB.out.c4
          cases fa
          case false =>
            go_upto_region 13 with fail
            go_wp2_with fail
            refine (finite_any C k s h.per h.inc h.vals _ (by exact IC0.out.ext E.out.bw) (by omega) (by omega)).mono ?_
            rw [← HFH.out]
            rintro e w8 ⟨rfl, hbq⟩
            have HB := Lib.hid (HB.out.below hbq HB.out.lt)
            have E := Lib.hid (E.out.below hbq)
            try clear hHeld
            clear hbq
            clear f0 f1 f2 g0 g1 g2 p6 p7 hlf
            clear h0 h1 h2 hlh
            clear r0 r1 r2 r3 hlr CB
            obtain ⟨⟨f0, f1, f2⟩, ⟨g0, g1, g2⟩, ⟨p6, p7⟩, hlf⟩ := E.out.cells
            obtain ⟨⟨h0, h1, h2⟩, _, hlh⟩ := HB.out.c3
            have CB := Lib.hid (CB0.out.below E.out.bw CB0.out.lt)
            obtain ⟨⟨r0, r1, r2, r3⟩, _, hlr⟩ := CB.out.c4
            cases fh
            case true =>
              have NO := Lib.hid (show ¬ CheckS ⟨xs, p, i⟩ ⟨ys, q, j⟩ h cs from fun hc => by
                rw [CI.out, cert_flat NS.out] at hc
                have h1 := hc.1.1 (LH.out.1 (by first | rfl | trivial))
                have h2 := LA.out.2 h1
                cases h2)
              have FIN := Lib.hid (show ¬ CheckS ⟨xs, p, i⟩ ⟨ys, q, j⟩ h cs from NO.out)
              have bwx := bthen BW0.out E.out.bw
              go_wp2_with fail
              try rw [Exit.noGoto_ret]
              go_ret
              exact RetQ.no FIN.out bwx
            case false =>
              have HF := Lib.hid (show h.Fin ↔ a.Fin from ⟨(fun h1 => by have := LH.out.2 h1; cases this), (fun h1 => by have := LA.out.2 h1; cases this)⟩)
              have HP := Lib.hid (show a.Fin → h.per.toNat ∣ a.per.toNat ∧ ((a.per.toNat / h.per.toNat : Nat) : Int) * h.inc = a.inc from fun h1 => by have := LA.out.2 h1; cases this)
              have CI2 := Lib.hid (show CheckS ⟨xs, p, i⟩ ⟨ys, q, j⟩ h cs ↔ cs.length = dcExt a h ∧ ∀ t, t < cs.length → TickOk a b h cs t from by
                rw [CI.out, cert_flat NS.out]
                exact ⟨fun h => h.2.2, fun h' => ⟨HF.out, HP.out, h'⟩⟩)
              obtain ⟨X, hX⟩ : ∃ X, X = dcExt a h := ⟨_, rfl⟩
              have hX5 : X ≤ 520 := by
                rw [hX]; unfold dcExt
                rw [HN1.out, IC0.out.1]
                omega
              have HXX := Lib.hid hX
              clear hX
              go_upto_region 15 with fail
              have HB := Lib.hid (Blk.drew HB.out); have E := Lib.hid E.out.drew
              refine wp_region_held_drew (S := fun w' => w'.cell? ⟨w1.heap.size, 0, none⟩ = some (.slice A1 n1 c1) ∧ w'.cell? ⟨w1.heap.size, 1, none⟩ = some (.int .i64 a.per) ∧ w'.cell? ⟨w1.heap.size, 2, none⟩ = some (.int .i64 a.inc) ∧ w'.cell? ⟨w1.heap.size, 3, none⟩ = some (.slice B1 m1 d1) ∧ w'.cell? ⟨w1.heap.size, 4, none⟩ = some (.int .i64 b.per) ∧ w'.cell? ⟨w1.heap.size, 5, none⟩ = some (.int .i64 b.inc) ∧ w'.cell? ⟨w1.heap.size, 6, none⟩ = some (.int .i64 (dcK a b : Nat)) ∧ w'.cell? ⟨w1.heap.size, 7, none⟩ = some (.bool false) ∧ w'.cell? ⟨Hb, 0, none⟩ = some (.slice C k s) ∧ w'.cell? ⟨Hb, 1, none⟩ = some (.int .i64 h.per) ∧ w'.cell? ⟨Hb, 2, none⟩ = some (.int .i64 h.inc) ∧ w'.cell? ⟨w.heap.size + 1 + 1, 3, none⟩ = some (.slice D x y)) (by kernel_rfl) (by exact ⟨f0, f1, f2, g0, g1, g2, p6, p7, h0, h1, h2, r3⟩) (fun hHeld => ?_)
              clear f0 f1 f2 g0 g1 g2 p6 p7 hlf
              clear h0 h1 h2 hlh
              clear r0 r1 r2 r3 hlr CB
              generalize hwd : w8.drew = wd at *
              clear hwd
              obtain ⟨⟨f0, f1, f2⟩, ⟨g0, g1, g2⟩, ⟨p6, p7⟩, hlf⟩ := E.out.cells
              obtain ⟨⟨h0, h1, h2⟩, _, hlh⟩ := HB.out.c3
              have CB := Lib.hid (CB0.out.below E.out.bw CB0.out.lt)
              obtain ⟨⟨r0, r1, r2, r3⟩, _, hlr⟩ := CB.out.c4
              refine wpAnyH_take (i := 0) (oi := _) (v := ?_) (by simp only [g8a, g8z]; rfl) (by kernel_rfl) (by kernel_rfl) (by kernel_rfl) (by exact fun _ _ _ h => h) (Or.inl ⟨by rfl, ?_⟩) (by assumption) ?_
              rotate_left 1
              · (intro w hSw; (try dsimp only at hSw); go_simp; try with_reducible rfl)
              all_goals ((try simp only [Act.put]); (try simp only [g8b]); (try simp only [g8c]); (try simp only [g8d]))
              refine wpAnyH_take (i := 1) (oi := _) (v := ?_) (by simp only [g8a, g8s, g8z]; rfl) (by kernel_rfl) (by kernel_rfl) (by kernel_rfl) (by exact fun _ _ _ h => h) (Or.inl ⟨by rfl, ?_⟩) (by assumption) ?_
              rotate_left 1
              · (intro w hSw; (try dsimp only at hSw); go_simp; try with_reducible rfl)
              all_goals ((try simp only [Act.put]); (try simp only [g8b]); (try simp only [g8c]); (try simp only [g8d]))
              refine wpAnyH_take (i := 2) (oi := _) (v := ?_) (by simp only [g8a, g8s, g8z]; rfl) (by kernel_rfl) (by kernel_rfl) (by kernel_rfl) (by exact fun _ _ _ h => h) (Or.inl ⟨by rfl, ?_⟩) (by assumption) ?_
              rotate_left 1
              · (intro w hSw; (try dsimp only at hSw); go_simp; try with_reducible rfl)
              all_goals ((try simp only [Act.put]); (try simp only [g8b]); (try simp only [g8c]); (try simp only [g8d]))
              refine wpAnyH_take (i := 3) (oi := _) (v := ?_) (by simp only [g8a, g8s, g8z]; rfl) (by kernel_rfl) (by kernel_rfl) (by kernel_rfl) (by exact fun _ _ _ h => h) (Or.inl ⟨by rfl, ?_⟩) (by assumption) ?_
              rotate_left 1
              · (intro w hSw; (try dsimp only at hSw); go_simp; try with_reducible rfl)
              all_goals ((try simp only [Act.put]); (try simp only [g8b]); (try simp only [g8c]); (try simp only [g8d]))
              refine wpAnyH_take (i := 4) (oi := _) (v := ?_) (by simp only [g8a, g8s, g8z]; rfl) (by kernel_rfl) (by kernel_rfl) (by kernel_rfl) (by exact fun _ _ _ h => h) (Or.inl ⟨by rfl, ?_⟩) (by assumption) ?_
              rotate_left 1
              · (intro w hSw; (try dsimp only at hSw); go_simp; try with_reducible rfl)
              all_goals ((try simp only [Act.put]); (try simp only [g8b]); (try simp only [g8c]); (try simp only [g8d]))
              refine wpAnyH_ready (rs := [5]) (by kernel_rfl) (by simp) ?_
              refine (AllReadyH.cons (by simp only [g8a, g8s, g8z]; rfl) (fun K hK => ?_) AllReadyH.nil)
              rw [if_pos (by rfl)]
              go_simp
              refine (extent_any A1 B1 C n1 m1 k c1 d1 s a b h (dcK a b : Nat) false wd (by exact E.out.ja) (by exact E.out.jb) IC0.out.1 HAO.out HBO.out HHO.out).mono ?_
              rw [← HXX.out]
              rintro e we ⟨rfl, hbq⟩
              have HB := Lib.hid (HB.out.below hbq HB.out.lt)
              have E := Lib.hid (E.out.below hbq)
              try clear hHeld
              clear hbq
              clear f0 f1 f2 g0 g1 g2 p6 p7 hlf
              clear h0 h1 h2 hlh
              clear r0 r1 r2 r3 hlr CB
              obtain ⟨⟨f0, f1, f2⟩, ⟨g0, g1, g2⟩, ⟨p6, p7⟩, hlf⟩ := E.out.cells
              obtain ⟨⟨h0, h1, h2⟩, _, hlh⟩ := HB.out.c3
              have CB := Lib.hid (CB0.out.below E.out.bw CB0.out.lt)
              obtain ⟨⟨r0, r1, r2, r3⟩, _, hlr⟩ := CB.out.c4
              refine hK.out _ _ (by exact ⟨f0, f1, f2, g0, g1, g2, p6, p7, h0, h1, h2, r3⟩) (fun hHeld => ?_)
              clear hK K
              (try simp only [Act.put]); (try simp only [g8b]); (try simp only [g8c]); (try simp only [g8d])
              by_cases hxX : x = X
              case neg =>
                have dx : ((x : Int) != (X : Int)) = true := by simp; omega
                have HNX := Lib.hid hxX
                clear hxX
                refine wpAnyH_take (i := 6) (oi := _) (v := ?_) (by simp only [g8a, g8s, g8z]; rfl) (by kernel_rfl) (by kernel_rfl) (by kernel_rfl) (by exact fun _ _ _ h => h) (Or.inl ⟨by rfl, ?_⟩) (by assumption) ?_
                rotate_left 1
                · (intro w hSw; (try dsimp only at hSw); go_simp; try with_reducible rfl)
                all_goals ((try simp only [Act.put]); (try simp only [g8b]); (try simp only [g8c]); (try simp only [g8d]))
                refine wpAnyH_done (by kernel_rfl) ?_ _
                have FIN := Lib.hid (show ¬ CheckS ⟨xs, p, i⟩ ⟨ys, q, j⟩ h cs from (fun h => HNX.out (by have := (CI2.out.1 h).1; rw [ID0.out.1, ← HXX.out] at this; exact this)))
                have bwx := bthen BW0.out E.out.bw
                go_wp2_with fail
                try rw [Exit.noGoto_ret]
                go_ret
                exact RetQ.no FIN.out bwx
              case pos =>
                subst hxX
                have dx : ((x : Int) != (x : Int)) = false := by simp
                refine wpAnyH_take (i := 6) (oi := _) (v := ?_) (by simp only [g8a, g8s, g8z]; rfl) (by kernel_rfl) (by kernel_rfl) (by kernel_rfl) (by exact fun _ _ _ h => h) (Or.inl ⟨by rfl, ?_⟩) (by assumption) ?_
                rotate_left 1
                · (intro w hSw; (try dsimp only at hSw); go_simp; try with_reducible rfl)
                all_goals ((try simp only [Act.put]); (try simp only [g8b]); (try simp only [g8c]); (try simp only [g8d]))
                refine wpAnyH_done (by kernel_rfl) ?_ _
                try clear hHeld
                clear dx
                go_wp2_with fail
                clear f0 f1 f2 g0 g1 g2 p6 p7 hlf
                clear h0 h1 h2 hlh
                clear r0 r1 r2 r3 hlr CB
                go_loopg [12, 13, 14, 15, 90] x (fun gg s12 s13 s14 s15 s90 wx => ∃ t : Nat, t + gg = x ∧ s90 = .int .i64 t ∧ (∀ z, z < t → TickOk a b h cs z) ∧ PE w1 wx A1 n1 c1 a B1 m1 d1 b (dcK a b : Nat) false ∧ Blk wx Hb 31 #[.slice C k s, .int .i64 h.per, .int .i64 h.inc])
                case atStart => exact ⟨0, by omega, rfl, (fun z hz => by omega), E.out, HB.out⟩
                case round =>
                  clear E HB
                  obtain ⟨t, htg, rfl, hgood, hE, hH⟩ := hrel
                  have E := Lib.hid hE; have HB := Lib.hid hH; have HG := Lib.hid hgood
                  clear hE hH hgood
                  obtain ⟨go, hgo⟩ : ∃ go : Nat, go = gk := ⟨_, rfl⟩
                  subst hgo
                  by_cases ht : t < x
                  · have hti : (t : Int) < x := by omega
                    have ID3 := Lib.hid (ID0.out.ext E.out.bw)
                    obtain ⟨dd, od, hDe, hdl, hdc⟩ := ID3.out.2 (by omega)
                    subst hDe
                    have hdt := hdc t ht
                    obtain ⟨at', hat⟩ : ∃ z, z = nth cs t := ⟨_, rfl⟩
                    rw [← hat] at hdt
                    obtain ⟨v, hv⟩ : ∃ z, z = h.at t := ⟨_, rfl⟩
                    have HAT := Lib.hid hat; have HV := Lib.hid hv
                    clear hdc hat hv
                    obtain ⟨⟨f0, f1, f2⟩, ⟨g0, g1, g2⟩, ⟨p6, p7⟩, hlf⟩ := E.out.cells
                    obtain ⟨⟨h0, h1, h2⟩, _, hlh⟩ := HB.out.c3
                    have CB := Lib.hid (CB0.out.below E.out.bw CB0.out.lt)
                    obtain ⟨⟨r0, r1, r2, r3⟩, _, hlr⟩ := CB.out.c4
                    go_wp2_with fail
                    refine (at_any C k s h.per h.inc (t : Int) h.vals _ (by exact IC0.out.ext E.out.bw) (by omega) (by omega) (by omega) (by omega) (by omega) HHO.out.nn (by omega) (by omega)).mono ?_
                    rw [Int.toNat_natCast, ← HV.out]
                    rintro e wa ⟨rfl, hbq⟩
                    clear hdt hdl ID3
                    have HB := Lib.hid (HB.out.below hbq HB.out.lt)
                    have E := Lib.hid (E.out.below hbq)
                    try clear hHeld
                    clear hbq
                    clear f0 f1 f2 g0 g1 g2 p6 p7 hlf
                    clear h0 h1 h2 hlh
                    clear r0 r1 r2 r3 hlr CB
                    obtain ⟨⟨f0, f1, f2⟩, ⟨g0, g1, g2⟩, ⟨p6, p7⟩, hlf⟩ := E.out.cells
                    obtain ⟨⟨h0, h1, h2⟩, _, hlh⟩ := HB.out.c3
                    have CB := Lib.hid (CB0.out.below E.out.bw CB0.out.lt)
                    obtain ⟨⟨r0, r1, r2, r3⟩, _, hlr⟩ := CB.out.c4
                    have htx : t < cs.length := by rw [ID0.out.1]; exact ht
                    by_cases hn0 : at' < 0
                    · have dz0 : decide (at' < 0) = true := by simpa using hn0
                      have HN0 := Lib.hid hn0
                      clear hn0
                      have FIN := Lib.hid (show ¬ CheckS ⟨xs, p, i⟩ ⟨ys, q, j⟩ h cs from (fun h => by have := ((CI2.out.1 h).2 t htx).1; rw [← HAT.out] at this; have := HN0.out; omega))
                      have bwx := bthen BW0.out E.out.bw
                      go_wp2_with fail
                      try rw [Exit.noGoto_ret]
                      go_ret
                      exact RetQ.no FIN.out bwx
                    · have dz0 : decide (at' < 0) = false := by simpa using hn0
                      by_cases hnK : ((dcK a b : Nat) : Int) ≤ at'
                      · have dz1 : decide (at' ≥ ((dcK a b : Nat) : Int)) = true := by simpa using hnK
                        have HNK := Lib.hid hnK
                        clear hnK
                        have FIN := Lib.hid (show ¬ CheckS ⟨xs, p, i⟩ ⟨ys, q, j⟩ h cs from (fun h => by have := ((CI2.out.1 h).2 t htx).2.1; rw [← HAT.out] at this; have := HNK.out; omega))
                        have bwx := bthen BW0.out E.out.bw
                        go_wp2_with fail
                        try rw [Exit.noGoto_ret]
                        go_ret
                        exact RetQ.no FIN.out bwx
                      · have dz1 : decide (((dcK a b : Nat) : Int) ≤ at') = false := by simpa using hnK
                        obtain ⟨u, hu⟩ : ∃ u : Nat, at' = u := ⟨at'.toNat, by omega⟩
                        subst hu
                        have huK : u < dcK a b := by omega
                        have dz2 : decide (dcK a b ≤ u) = false := by simp; omega
                        have hK := dcK_le HAO.out HBO.out (by unfold ordC; exact HCM.out)
                        obtain ⟨gx, hg1⟩ : ∃ z, z = gn a b t u := ⟨_, rfl⟩
                        have HG1 := Lib.hid hg1
                        clear hg1
                        clear hn0 hnK
                        go_wp2_with fail
                        refine (prgain_any A1 B1 n1 m1 c1 d1 a b (dcK a b : Nat) false t u _ (by exact E.out.ja) (by exact E.out.jb) HAO.out HBO.out (by omega)).mono ?_
                        rw [← HG1.out]
                        rintro e wb ⟨rfl, hbq⟩
                        have HB := Lib.hid (HB.out.below hbq HB.out.lt)
                        have E := Lib.hid (E.out.below hbq)
                        try clear hHeld
                        clear hbq
                        clear f0 f1 f2 g0 g1 g2 p6 p7 hlf
                        clear h0 h1 h2 hlh
                        clear r0 r1 r2 r3 hlr CB
                        obtain ⟨⟨f0, f1, f2⟩, ⟨g0, g1, g2⟩, ⟨p6, p7⟩, hlf⟩ := E.out.cells
                        obtain ⟨⟨h0, h1, h2⟩, _, hlh⟩ := HB.out.c3
                        have CB := Lib.hid (CB0.out.below E.out.bw CB0.out.lt)
                        obtain ⟨⟨r0, r1, r2, r3⟩, _, hlr⟩ := CB.out.c4
                        by_cases hgv : gx = v
                        · have dg : (gx != v) = false := by simpa using hgv
                          have HGV := Lib.hid hgv
                          clear hgv
                          go_wp2_with fail
                          go_loopg [15, 116] (dcK a b) (fun gg s15 s116 wx => ∃ r : Nat, r + gg = dcK a b ∧ s116 = .int .i64 r ∧ (∀ z, z < r → gn a b t z ≤ h.at t) ∧ PE w1 wx A1 n1 c1 a B1 m1 d1 b (dcK a b : Nat) false ∧ Blk wx Hb 31 #[.slice C k s, .int .i64 h.per, .int .i64 h.inc])
                          case atStart => exact ⟨0, by omega, rfl, (fun z hz => by omega), E.out, HB.out⟩
                          case round =>
                            clear E HB
                            clear f0 f1 f2 g0 g1 g2 p6 p7 hlf
                            clear h0 h1 h2 hlh
                            clear r0 r1 r2 r3 hlr CB
                            obtain ⟨r, hrg, rfl, hless, hE, hH⟩ := hrel
                            have E := Lib.hid hE; have HB := Lib.hid hH; have HL2 := Lib.hid hless
                            clear hE hH hless
                            by_cases hr : r < dcK a b
                            · have hri : (r : Int) < ((dcK a b : Nat) : Int) := by omega
                              obtain ⟨gy, hg2⟩ : ∃ z, z = gn a b t r := ⟨_, rfl⟩
                              have HG2 := Lib.hid hg2
                              clear hg2
                              obtain ⟨⟨f0, f1, f2⟩, ⟨g0, g1, g2⟩, ⟨p6, p7⟩, hlf⟩ := E.out.cells
                              obtain ⟨⟨h0, h1, h2⟩, _, hlh⟩ := HB.out.c3
                              have CB := Lib.hid (CB0.out.below E.out.bw CB0.out.lt)
                              obtain ⟨⟨r0, r1, r2, r3⟩, _, hlr⟩ := CB.out.c4
                              go_wp2_with fail
                              refine (prgain_any A1 B1 n1 m1 c1 d1 a b (dcK a b : Nat) false t r _ (by exact E.out.ja) (by exact E.out.jb) HAO.out HBO.out (by omega)).mono ?_
                              rw [← HG2.out]
                              rintro e wc ⟨rfl, hbq⟩
                              have HB := Lib.hid (HB.out.below hbq HB.out.lt)
                              have E := Lib.hid (E.out.below hbq)
                              try clear hHeld
                              clear hbq
                              clear f0 f1 f2 g0 g1 g2 p6 p7 hlf
                              clear h0 h1 h2 hlh
                              clear r0 r1 r2 r3 hlr CB
                              obtain ⟨⟨f0, f1, f2⟩, ⟨g0, g1, g2⟩, ⟨p6, p7⟩, hlf⟩ := E.out.cells
                              obtain ⟨⟨h0, h1, h2⟩, _, hlh⟩ := HB.out.c3
                              have CB := Lib.hid (CB0.out.below E.out.bw CB0.out.lt)
                              obtain ⟨⟨r0, r1, r2, r3⟩, _, hlr⟩ := CB.out.c4
                              by_cases hgt : v < gy
                              · have HGT := Lib.hid hgt
                                have dt : decide (gy > v) = true := by simpa using hgt
                                have dt2 : decide (v < gy) = true := by simpa using hgt
                                clear hgt
                                have FIN := Lib.hid (show ¬ CheckS ⟨xs, p, i⟩ ⟨ys, q, j⟩ h cs from (fun h => by have := ((CI2.out.1 h).2 t htx).2.2.2 r hr; rw [← HG2.out, ← HV.out] at this; have := HGT.out; omega))
                                have bwx := bthen BW0.out E.out.bw
                                go_wp2_with fail
                                try rw [Exit.noGoto_ret]
                                go_ret
                                exact RetQ.no FIN.out bwx
                              · have HGT := Lib.hid hgt
                                have dt2 : decide (v < gy) = false := by simpa using hgt
                                clear hgt
                                go_wp2_with fail
                                go_roundg (gk - 1)
                                case measure => omega
                                case rel => exact ⟨r + 1, by omega, by go_num, (fun z hz => by
                                  rcases Nat.lt_or_ge z r with h1 | h1
                                  · exact HL2.out z h1
                                  · obtain rfl : z = r := by omega
                                    rw [← HG2.out, ← HV.out]; have := HGT.out; omega), E.out, HB.out⟩
                            · have hrK : ¬ (r : Int) < ((dcK a b : Nat) : Int) := by omega
                              have GD := Lib.hid (show TickOk a b h cs t from by
                                refine ⟨by rw [← HAT.out]; omega, by rw [← HAT.out]; omega, ?_, fun z hz => HL2.out z (by omega)⟩
                                rw [← HAT.out, Int.toNat_natCast, ← HG1.out, HGV.out, HV.out])
                              go_wp2_with fail
                              go_roundg (go - 1)
                              case measure => omega
                              case rel => exact ⟨t + 1, by omega, by go_num, (fun z hz => by
                                rcases Nat.lt_or_ge z t with h1 | h1
                                · exact HG.out z h1
                                · obtain rfl : z = t := by omega
                                  exact GD.out), E.out, HB.out⟩
                        · have dg : (gx != v) = true := by simpa using hgv
                          have HGV := Lib.hid hgv
                          clear hgv
                          have FIN := Lib.hid (show ¬ CheckS ⟨xs, p, i⟩ ⟨ys, q, j⟩ h cs from (fun h => by have := ((CI2.out.1 h).2 t htx).2.2.1; rw [← HAT.out, Int.toNat_natCast, ← HG1.out, ← HV.out] at this; exact HGV.out this))
                          have bwx := bthen BW0.out E.out.bw
                          go_wp2_with fail
                          try rw [Exit.noGoto_ret]
                          go_ret
                          exact RetQ.no FIN.out bwx
                  · have htx : t = x := by omega
                    subst htx
                    have FIN := Lib.hid (show CheckS ⟨xs, p, i⟩ ⟨ys, q, j⟩ h cs from CI2.out.2 ⟨by rw [← HXX.out]; exact ID0.out.1, fun z hz => HG.out z (by rw [← ID0.out.1]; exact hz)⟩)
                    have bwx := bthen BW0.out E.out.bw
                    clear ht
                    go_wp2_with fail
                    try rw [Exit.noGoto_ret]
                    go_ret
                    exact RetQ.yes FIN.out bwx
          case true =>
            go_upto_region 11 with fail
            have HB := Lib.hid (Blk.drew HB.out); have E := Lib.hid E.out.drew
            refine wp_region_held_drew (S := fun w' => w'.cell? ⟨w1.heap.size, 0, none⟩ = some (.slice A1 n1 c1) ∧ w'.cell? ⟨w1.heap.size, 1, none⟩ = some (.int .i64 a.per) ∧ w'.cell? ⟨w1.heap.size, 2, none⟩ = some (.int .i64 a.inc) ∧ w'.cell? ⟨w1.heap.size, 3, none⟩ = some (.slice B1 m1 d1) ∧ w'.cell? ⟨w1.heap.size, 4, none⟩ = some (.int .i64 b.per) ∧ w'.cell? ⟨w1.heap.size, 5, none⟩ = some (.int .i64 b.inc) ∧ w'.cell? ⟨w1.heap.size, 6, none⟩ = some (.int .i64 (dcK a b : Nat)) ∧ w'.cell? ⟨w1.heap.size, 7, none⟩ = some (.bool false) ∧ w'.cell? ⟨Hb, 0, none⟩ = some (.slice C k s) ∧ w'.cell? ⟨Hb, 1, none⟩ = some (.int .i64 h.per) ∧ w'.cell? ⟨Hb, 2, none⟩ = some (.int .i64 h.inc) ∧ w'.cell? ⟨w.heap.size + 1 + 1, 3, none⟩ = some (.slice D x y)) (by kernel_rfl) (by exact ⟨f0, f1, f2, g0, g1, g2, p6, p7, h0, h1, h2, r3⟩) (fun hHeld => ?_)
            clear f0 f1 f2 g0 g1 g2 p6 p7 hlf
            clear h0 h1 h2 hlh
            clear r0 r1 r2 r3 hlr CB
            generalize hwd : w7.drew = wd at *
            clear hwd
            obtain ⟨⟨f0, f1, f2⟩, ⟨g0, g1, g2⟩, ⟨p6, p7⟩, hlf⟩ := E.out.cells
            obtain ⟨⟨h0, h1, h2⟩, _, hlh⟩ := HB.out.c3
            have CB := Lib.hid (CB0.out.below E.out.bw CB0.out.lt)
            obtain ⟨⟨r0, r1, r2, r3⟩, _, hlr⟩ := CB.out.c4
            refine wpAnyH_take (i := 0) (oi := _) (v := ?_) (by simp only [g8a, g8z]; rfl) (by kernel_rfl) (by kernel_rfl) (by kernel_rfl) (by exact fun _ _ _ h => h) (Or.inl ⟨by rfl, ?_⟩) (by assumption) ?_
            rotate_left 1
            · (intro w hSw; (try dsimp only at hSw); go_simp; try with_reducible rfl)
            all_goals ((try simp only [Act.put]); (try simp only [g8b]); (try simp only [g8c]); (try simp only [g8d]))
            refine wpAnyH_ready (rs := [1]) (by kernel_rfl) (by simp) ?_
            refine (AllReadyH.cons (by simp only [g8a, g8s, g8z]; rfl) (fun K hK => ?_) AllReadyH.nil)
            rw [if_pos (by rfl)]
            go_simp
            refine (finite_any C k s h.per h.inc h.vals _ (by exact IC0.out.ext E.out.bw) (by omega) (by omega)).mono ?_
            rw [← HFH.out]
            rintro e w8 ⟨rfl, hbq⟩
            have HB := Lib.hid (HB.out.below hbq HB.out.lt)
            have E := Lib.hid (E.out.below hbq)
            try clear hHeld
            clear hbq
            clear f0 f1 f2 g0 g1 g2 p6 p7 hlf
            clear h0 h1 h2 hlh
            clear r0 r1 r2 r3 hlr CB
            obtain ⟨⟨f0, f1, f2⟩, ⟨g0, g1, g2⟩, ⟨p6, p7⟩, hlf⟩ := E.out.cells
            obtain ⟨⟨h0, h1, h2⟩, _, hlh⟩ := HB.out.c3
            have CB := Lib.hid (CB0.out.below E.out.bw CB0.out.lt)
            obtain ⟨⟨r0, r1, r2, r3⟩, _, hlr⟩ := CB.out.c4
            refine hK.out _ _ (by exact ⟨f0, f1, f2, g0, g1, g2, p6, p7, h0, h1, h2, r3⟩) (fun hHeld => ?_)
            clear hK K
            (try simp only [Act.put]); (try simp only [g8b]); (try simp only [g8c]); (try simp only [g8d])
            cases fh
            case false =>
              have NO := Lib.hid (show ¬ CheckS ⟨xs, p, i⟩ ⟨ys, q, j⟩ h cs from fun hc => by
                rw [CI.out, cert_flat NS.out] at hc
                have h1 := hc.1.2 (LA.out.1 (by first | rfl | trivial))
                have h2 := LH.out.2 h1
                cases h2)
              refine wpAnyH_take (i := 2) (oi := _) (v := ?_) (by simp only [g8a, g8s, g8z]; rfl) (by kernel_rfl) (by kernel_rfl) (by kernel_rfl) (by exact fun _ _ _ h => h) (Or.inl ⟨by rfl, ?_⟩) (by assumption) ?_
              rotate_left 1
              · (intro w hSw; (try dsimp only at hSw); go_simp; try with_reducible rfl)
              all_goals ((try simp only [Act.put]); (try simp only [g8b]); (try simp only [g8c]); (try simp only [g8d]))
              refine wpAnyH_take (i := 3) (oi := _) (v := ?_) (by simp only [g8a, g8s, g8z]; rfl) (by kernel_rfl) (by kernel_rfl) (by kernel_rfl) (by exact fun _ _ _ h => h) (Or.inl ⟨by rfl, ?_⟩) (by assumption) ?_
              rotate_left 1
              · (intro w hSw; (try dsimp only at hSw); go_simp; try with_reducible rfl)
              all_goals ((try simp only [Act.put]); (try simp only [g8b]); (try simp only [g8c]); (try simp only [g8d]))
              refine wpAnyH_take (i := 4) (oi := _) (v := undef) (by simp only [g8a, g8s, g8z]; rfl) (by kernel_rfl) (by kernel_rfl) (by kernel_rfl) (by exact fun _ _ _ h => h) (Or.inr ⟨by rfl, rfl⟩) (by assumption) ?_
              (try simp only [Act.put]); (try simp only [g8b]); (try simp only [g8c]); (try simp only [g8d])
              refine wpAnyH_take (i := 5) (oi := _) (v := undef) (by simp only [g8a, g8s, g8z]; rfl) (by kernel_rfl) (by kernel_rfl) (by kernel_rfl) (by exact fun _ _ _ h => h) (Or.inr ⟨by rfl, rfl⟩) (by assumption) ?_
              (try simp only [Act.put]); (try simp only [g8b]); (try simp only [g8c]); (try simp only [g8d])
              refine wpAnyH_take (i := 6) (oi := _) (v := undef) (by simp only [g8a, g8s, g8z]; rfl) (by kernel_rfl) (by kernel_rfl) (by kernel_rfl) (by exact fun _ _ _ h => h) (Or.inr ⟨by rfl, rfl⟩) (by assumption) ?_
              (try simp only [Act.put]); (try simp only [g8b]); (try simp only [g8c]); (try simp only [g8d])
              refine wpAnyH_take (i := 7) (oi := _) (v := undef) (by simp only [g8a, g8s, g8z]; rfl) (by kernel_rfl) (by kernel_rfl) (by kernel_rfl) (by exact fun _ _ _ h => h) (Or.inr ⟨by rfl, rfl⟩) (by assumption) ?_
              (try simp only [Act.put]); (try simp only [g8b]); (try simp only [g8c]); (try simp only [g8d])
              refine wpAnyH_take (i := 8) (oi := _) (v := undef) (by simp only [g8a, g8s, g8z]; rfl) (by kernel_rfl) (by kernel_rfl) (by kernel_rfl) (by exact fun _ _ _ h => h) (Or.inr ⟨by rfl, rfl⟩) (by assumption) ?_
              (try simp only [Act.put]); (try simp only [g8b]); (try simp only [g8c]); (try simp only [g8d])
              refine wpAnyH_take (i := 9) (oi := _) (v := undef) (by simp only [g8a, g8s, g8z]; rfl) (by kernel_rfl) (by kernel_rfl) (by kernel_rfl) (by exact fun _ _ _ h => h) (Or.inr ⟨by rfl, rfl⟩) (by assumption) ?_
              (try simp only [Act.put]); (try simp only [g8b]); (try simp only [g8c]); (try simp only [g8d])
              refine wpAnyH_take (i := 10) (oi := _) (v := undef) (by simp only [g8a, g8s, g8z]; rfl) (by kernel_rfl) (by kernel_rfl) (by kernel_rfl) (by exact fun _ _ _ h => h) (Or.inr ⟨by rfl, rfl⟩) (by assumption) ?_
              (try simp only [Act.put]); (try simp only [g8b]); (try simp only [g8c]); (try simp only [g8d])
              refine wpAnyH_take (i := 11) (oi := _) (v := ?_) (by simp only [g8a, g8s, g8z]; rfl) (by kernel_rfl) (by kernel_rfl) (by kernel_rfl) (by exact fun _ _ _ h => h) (Or.inl ⟨by rfl, ?_⟩) (by assumption) ?_
              rotate_left 1
              · (intro w hSw; (try dsimp only at hSw); go_simp; try with_reducible rfl)
              all_goals ((try simp only [Act.put]); (try simp only [g8b]); (try simp only [g8c]); (try simp only [g8d]))
              refine wpAnyH_take (i := 12) (oi := _) (v := ?_) (by simp only [g8a, g8s, g8z]; rfl) (by kernel_rfl) (by kernel_rfl) (by kernel_rfl) (by exact fun _ _ _ h => h) (Or.inl ⟨by rfl, ?_⟩) (by assumption) ?_
              rotate_left 1
              · (intro w hSw; (try dsimp only at hSw); go_simp; try with_reducible rfl)
              all_goals ((try simp only [Act.put]); (try simp only [g8b]); (try simp only [g8c]); (try simp only [g8d]))
              refine wpAnyH_take (i := 13) (oi := _) (v := undef) (by simp only [g8a, g8s, g8z]; rfl) (by kernel_rfl) (by kernel_rfl) (by kernel_rfl) (by exact fun _ _ _ h => h) (Or.inr ⟨by rfl, rfl⟩) (by assumption) ?_
              (try simp only [Act.put]); (try simp only [g8b]); (try simp only [g8c]); (try simp only [g8d])
              refine wpAnyH_take (i := 14) (oi := _) (v := undef) (by simp only [g8a, g8s, g8z]; rfl) (by kernel_rfl) (by kernel_rfl) (by kernel_rfl) (by exact fun _ _ _ h => h) (Or.inr ⟨by rfl, rfl⟩) (by assumption) ?_
              (try simp only [Act.put]); (try simp only [g8b]); (try simp only [g8c]); (try simp only [g8d])
              refine wpAnyH_take (i := 15) (oi := _) (v := undef) (by simp only [g8a, g8s, g8z]; rfl) (by kernel_rfl) (by kernel_rfl) (by kernel_rfl) (by exact fun _ _ _ h => h) (Or.inr ⟨by rfl, rfl⟩) (by assumption) ?_
              (try simp only [Act.put]); (try simp only [g8b]); (try simp only [g8c]); (try simp only [g8d])
              refine wpAnyH_take (i := 16) (oi := _) (v := undef) (by simp only [g8a, g8s, g8z]; rfl) (by kernel_rfl) (by kernel_rfl) (by kernel_rfl) (by exact fun _ _ _ h => h) (Or.inr ⟨by rfl, rfl⟩) (by assumption) ?_
              (try simp only [Act.put]); (try simp only [g8b]); (try simp only [g8c]); (try simp only [g8d])
              refine wpAnyH_take (i := 17) (oi := _) (v := undef) (by simp only [g8a, g8s, g8z]; rfl) (by kernel_rfl) (by kernel_rfl) (by kernel_rfl) (by exact fun _ _ _ h => h) (Or.inr ⟨by rfl, rfl⟩) (by assumption) ?_
              (try simp only [Act.put]); (try simp only [g8b]); (try simp only [g8c]); (try simp only [g8d])
              refine wpAnyH_take (i := 18) (oi := _) (v := undef) (by simp only [g8a, g8s, g8z]; rfl) (by kernel_rfl) (by kernel_rfl) (by kernel_rfl) (by exact fun _ _ _ h => h) (Or.inr ⟨by rfl, rfl⟩) (by assumption) ?_
              (try simp only [Act.put]); (try simp only [g8b]); (try simp only [g8c]); (try simp only [g8d])
              refine wpAnyH_take (i := 19) (oi := _) (v := undef) (by simp only [g8a, g8s, g8z]; rfl) (by kernel_rfl) (by kernel_rfl) (by kernel_rfl) (by exact fun _ _ _ h => h) (Or.inr ⟨by rfl, rfl⟩) (by assumption) ?_
              (try simp only [Act.put]); (try simp only [g8b]); (try simp only [g8c]); (try simp only [g8d])
              refine wpAnyH_take (i := 20) (oi := _) (v := undef) (by simp only [g8a, g8s, g8z]; rfl) (by kernel_rfl) (by kernel_rfl) (by kernel_rfl) (by exact fun _ _ _ h => h) (Or.inr ⟨by rfl, rfl⟩) (by assumption) ?_
              (try simp only [Act.put]); (try simp only [g8b]); (try simp only [g8c]); (try simp only [g8d])
              refine wpAnyH_take (i := 21) (oi := _) (v := undef) (by simp only [g8a, g8s, g8z]; rfl) (by kernel_rfl) (by kernel_rfl) (by kernel_rfl) (by exact fun _ _ _ h => h) (Or.inr ⟨by rfl, rfl⟩) (by assumption) ?_
              (try simp only [Act.put]); (try simp only [g8b]); (try simp only [g8c]); (try simp only [g8d])
              refine wpAnyH_take (i := 22) (oi := _) (v := ?_) (by simp only [g8a, g8s, g8z]; rfl) (by kernel_rfl) (by kernel_rfl) (by kernel_rfl) (by exact fun _ _ _ h => h) (Or.inl ⟨by rfl, ?_⟩) (by assumption) ?_
              rotate_left 1
              · (intro w hSw; (try dsimp only at hSw); go_simp; try with_reducible rfl)
              all_goals ((try simp only [Act.put]); (try simp only [g8b]); (try simp only [g8c]); (try simp only [g8d]))
              refine wpAnyH_done (by kernel_rfl) ?_ _
              have FIN := Lib.hid (show ¬ CheckS ⟨xs, p, i⟩ ⟨ys, q, j⟩ h cs from NO.out)
              have bwx := bthen BW0.out E.out.bw
              go_wp2_with fail
              try rw [Exit.noGoto_ret]
              go_ret
              exact RetQ.no FIN.out bwx
            case true =>
              obtain ⟨r, hr⟩ : ∃ r, r = a.per.tmod h.per := ⟨_, rfl⟩
              have HR := Lib.hid hr
              have hp0 : ¬ h.per = 0 := by omega
              refine wpAnyH_take (i := 2) (oi := _) (v := ?_) (by simp only [g8a, g8s, g8z]; rfl) (by kernel_rfl) (by kernel_rfl) (by kernel_rfl) (by exact fun _ _ _ h => h) (Or.inl ⟨by rfl, ?_⟩) (by assumption) ?_
              rotate_left 1
              · (intro w hSw; (try dsimp only at hSw); go_simp; try with_reducible rfl)
              all_goals ((try simp only [Act.put]); (try simp only [g8b]); (try simp only [g8c]); (try simp only [g8d]))
              refine wpAnyH_take (i := 3) (oi := _) (v := ?_) (by simp only [g8a, g8s, g8z]; rfl) (by kernel_rfl) (by kernel_rfl) (by kernel_rfl) (by exact fun _ _ _ h => h) (Or.inl ⟨by rfl, ?_⟩) (by assumption) ?_
              rotate_left 1
              · (intro w hSw; (try dsimp only at hSw); go_simp; try with_reducible rfl)
              all_goals ((try simp only [Act.put]); (try simp only [g8b]); (try simp only [g8c]); (try simp only [g8d]))
              refine wpAnyH_take (i := 4) (oi := _) (v := ?_) (by simp only [g8a, g8s, g8z]; rfl) (by kernel_rfl) (by kernel_rfl) (by kernel_rfl) (by exact fun _ _ _ h => h) (Or.inl ⟨by rfl, ?_⟩) (by assumption) ?_
              rotate_left 1
              · (intro w hSw; (try dsimp only at hSw); go_simp; try with_reducible rfl)
              all_goals ((try simp only [Act.put]); (try simp only [g8b]); (try simp only [g8c]); (try simp only [g8d]))
              refine wpAnyH_take (i := 5) (oi := _) (v := ?_) (by simp only [g8a, g8s, g8z]; rfl) (by kernel_rfl) (by kernel_rfl) (by kernel_rfl) (by exact fun _ _ _ h => h) (Or.inl ⟨by rfl, ?_⟩) (by assumption) ?_
              rotate_left 1
              · (intro w hSw; (try dsimp only at hSw); go_simp; try with_reducible rfl)
              all_goals ((try simp only [Act.put]); (try simp only [g8b]); (try simp only [g8c]); (try simp only [g8d]))
              refine wpAnyH_take (i := 6) (oi := _) (v := ?_) (by simp only [g8a, g8s, g8z]; rfl) (by kernel_rfl) (by kernel_rfl) (by kernel_rfl) (by exact fun _ _ _ h => h) (Or.inl ⟨by rfl, ?_⟩) (by assumption) ?_
              rotate_left 1
              · (intro w hSw; (try dsimp only at hSw); go_simp; try with_reducible rfl)
              all_goals ((try simp only [Act.put]); (try simp only [g8b]); (try simp only [g8c]); (try simp only [g8d]))
              refine wpAnyH_take (i := 7) (oi := _) (v := ?_) (by simp only [g8a, g8s, g8z]; rfl) (by kernel_rfl) (by kernel_rfl) (by kernel_rfl) (by exact fun _ _ _ h => h) (Or.inl ⟨by rfl, ?_⟩) (by assumption) ?_
              rotate_left 1
              · (intro w hSw; (try dsimp only at hSw); go_simp; try with_reducible rfl)
              all_goals ((try simp only [Act.put]); (try simp only [g8b]); (try simp only [g8c]); (try simp only [g8d]))
              refine wpAnyH_take (i := 8) (oi := _) (v := ?_) (by simp only [g8a, g8s, g8z]; rfl) (by kernel_rfl) (by kernel_rfl) (by kernel_rfl) (by exact fun _ _ _ h => h) (Or.inl ⟨by rfl, ?_⟩) (by assumption) ?_
              rotate_left 1
              · (intro w hSw; (try dsimp only at hSw); go_simp; try with_reducible rfl)
              all_goals ((try simp only [Act.put]); (try simp only [g8b]); (try simp only [g8c]); (try simp only [g8d]))
              have er := HR.out.symm
              clear hr
              refine wpAnyH_take (i := 9) (oi := _) (v := ?_) (by simp only [g8a, g8s, g8z]; rfl) (by kernel_rfl) (by kernel_rfl) (by kernel_rfl) (by exact fun _ _ _ h => h) (Or.inl ⟨by rfl, ?_⟩) (by assumption) ?_
              rotate_left 1
              · (intro w hSw; (try dsimp only at hSw); go_simp; try with_reducible rfl)
              all_goals ((try simp only [Act.put]); (try simp only [g8b]); (try simp only [g8c]); (try simp only [g8d]))
              by_cases hr0 : r = 0
              case neg =>
                have dr : (r != 0) = true := by simpa using hr0
                have NO := Lib.hid (show ¬ CheckS ⟨xs, p, i⟩ ⟨ys, q, j⟩ h cs from fun hc => by
                  rw [CI.out, cert_flat NS.out] at hc
                  have h1 := (hc.2.1 (LA.out.1 (by first | rfl | trivial))).1
                  exact hr0 (by rw [HR.out]; exact (dvd_mod a3' f3').2 h1))
                clear hr0
                refine wpAnyH_take (i := 10) (oi := _) (v := ?_) (by simp only [g8a, g8s, g8z]; rfl) (by kernel_rfl) (by kernel_rfl) (by kernel_rfl) (by exact fun _ _ _ h => h) (Or.inl ⟨by rfl, ?_⟩) (by assumption) ?_
                rotate_left 1
                · (intro w hSw; (try dsimp only at hSw); go_simp; try with_reducible rfl)
                all_goals ((try simp only [Act.put]); (try simp only [g8b]); (try simp only [g8c]); (try simp only [g8d]))
                refine wpAnyH_take (i := 11) (oi := _) (v := ?_) (by simp only [g8a, g8s, g8z]; rfl) (by kernel_rfl) (by kernel_rfl) (by kernel_rfl) (by exact fun _ _ _ h => h) (Or.inl ⟨by rfl, ?_⟩) (by assumption) ?_
                rotate_left 1
                · (intro w hSw; (try dsimp only at hSw); go_simp; try with_reducible rfl)
                all_goals ((try simp only [Act.put]); (try simp only [g8b]); (try simp only [g8c]); (try simp only [g8d]))
                refine wpAnyH_take (i := 12) (oi := _) (v := ?_) (by simp only [g8a, g8s, g8z]; rfl) (by kernel_rfl) (by kernel_rfl) (by kernel_rfl) (by exact fun _ _ _ h => h) (Or.inl ⟨by rfl, ?_⟩) (by assumption) ?_
                rotate_left 1
                · (intro w hSw; (try dsimp only at hSw); go_simp; try with_reducible rfl)
                all_goals ((try simp only [Act.put]); (try simp only [g8b]); (try simp only [g8c]); (try simp only [g8d]))
                refine wpAnyH_take (i := 13) (oi := _) (v := undef) (by simp only [g8a, g8s, g8z]; rfl) (by kernel_rfl) (by kernel_rfl) (by kernel_rfl) (by exact fun _ _ _ h => h) (Or.inr ⟨by rfl, rfl⟩) (by assumption) ?_
                (try simp only [Act.put]); (try simp only [g8b]); (try simp only [g8c]); (try simp only [g8d])
                refine wpAnyH_take (i := 14) (oi := _) (v := undef) (by simp only [g8a, g8s, g8z]; rfl) (by kernel_rfl) (by kernel_rfl) (by kernel_rfl) (by exact fun _ _ _ h => h) (Or.inr ⟨by rfl, rfl⟩) (by assumption) ?_
                (try simp only [Act.put]); (try simp only [g8b]); (try simp only [g8c]); (try simp only [g8d])
                refine wpAnyH_take (i := 15) (oi := _) (v := undef) (by simp only [g8a, g8s, g8z]; rfl) (by kernel_rfl) (by kernel_rfl) (by kernel_rfl) (by exact fun _ _ _ h => h) (Or.inr ⟨by rfl, rfl⟩) (by assumption) ?_
                (try simp only [Act.put]); (try simp only [g8b]); (try simp only [g8c]); (try simp only [g8d])
                refine wpAnyH_take (i := 16) (oi := _) (v := undef) (by simp only [g8a, g8s, g8z]; rfl) (by kernel_rfl) (by kernel_rfl) (by kernel_rfl) (by exact fun _ _ _ h => h) (Or.inr ⟨by rfl, rfl⟩) (by assumption) ?_
                (try simp only [Act.put]); (try simp only [g8b]); (try simp only [g8c]); (try simp only [g8d])
                refine wpAnyH_take (i := 17) (oi := _) (v := undef) (by simp only [g8a, g8s, g8z]; rfl) (by kernel_rfl) (by kernel_rfl) (by kernel_rfl) (by exact fun _ _ _ h => h) (Or.inr ⟨by rfl, rfl⟩) (by assumption) ?_
                (try simp only [Act.put]); (try simp only [g8b]); (try simp only [g8c]); (try simp only [g8d])
                refine wpAnyH_take (i := 18) (oi := _) (v := undef) (by simp only [g8a, g8s, g8z]; rfl) (by kernel_rfl) (by kernel_rfl) (by kernel_rfl) (by exact fun _ _ _ h => h) (Or.inr ⟨by rfl, rfl⟩) (by assumption) ?_
                (try simp only [Act.put]); (try simp only [g8b]); (try simp only [g8c]); (try simp only [g8d])
                refine wpAnyH_take (i := 19) (oi := _) (v := undef) (by simp only [g8a, g8s, g8z]; rfl) (by kernel_rfl) (by kernel_rfl) (by kernel_rfl) (by exact fun _ _ _ h => h) (Or.inr ⟨by rfl, rfl⟩) (by assumption) ?_
                (try simp only [Act.put]); (try simp only [g8b]); (try simp only [g8c]); (try simp only [g8d])
                refine wpAnyH_take (i := 20) (oi := _) (v := undef) (by simp only [g8a, g8s, g8z]; rfl) (by kernel_rfl) (by kernel_rfl) (by kernel_rfl) (by exact fun _ _ _ h => h) (Or.inr ⟨by rfl, rfl⟩) (by assumption) ?_
                (try simp only [Act.put]); (try simp only [g8b]); (try simp only [g8c]); (try simp only [g8d])
                refine wpAnyH_take (i := 21) (oi := _) (v := undef) (by simp only [g8a, g8s, g8z]; rfl) (by kernel_rfl) (by kernel_rfl) (by kernel_rfl) (by exact fun _ _ _ h => h) (Or.inr ⟨by rfl, rfl⟩) (by assumption) ?_
                (try simp only [Act.put]); (try simp only [g8b]); (try simp only [g8c]); (try simp only [g8d])
                refine wpAnyH_take (i := 22) (oi := _) (v := ?_) (by simp only [g8a, g8s, g8z]; rfl) (by kernel_rfl) (by kernel_rfl) (by kernel_rfl) (by exact fun _ _ _ h => h) (Or.inl ⟨by rfl, ?_⟩) (by assumption) ?_
                rotate_left 1
                · (intro w hSw; (try dsimp only at hSw); go_simp; try with_reducible rfl)
                all_goals ((try simp only [Act.put]); (try simp only [g8b]); (try simp only [g8c]); (try simp only [g8d]))
                refine wpAnyH_done (by kernel_rfl) ?_ _
                have FIN := Lib.hid (show ¬ CheckS ⟨xs, p, i⟩ ⟨ys, q, j⟩ h cs from NO.out)
                have bwx := bthen BW0.out E.out.bw
                go_wp2_with fail
                try rw [Exit.noGoto_ret]
                go_ret
                exact RetQ.no FIN.out bwx
              case pos =>
                have dr : (r != 0) = false := by simpa using hr0
                have DV := Lib.hid (show h.per.toNat ∣ a.per.toNat from (dvd_mod a3' f3').1 (by rw [← HR.out]; exact hr0))
                clear hr0 er
                obtain ⟨gv, hgv⟩ : ∃ z, z = ((a.per.toNat / h.per.toNat : Nat) : Int) * h.inc := ⟨_, rfl⟩
                have HGV := Lib.hid hgv
                clear hgv
                refine wpAnyH_take (i := 10) (oi := _) (v := ?_) (by simp only [g8a, g8s, g8z]; rfl) (by kernel_rfl) (by kernel_rfl) (by kernel_rfl) (by exact fun _ _ _ h => h) (Or.inl ⟨by rfl, ?_⟩) (by assumption) ?_
                rotate_left 1
                · (intro w hSw; (try dsimp only at hSw); go_simp; try with_reducible rfl)
                all_goals ((try simp only [Act.put]); (try simp only [g8b]); (try simp only [g8c]); (try simp only [g8d]))
                refine wpAnyH_take (i := 11) (oi := _) (v := ?_) (by simp only [g8a, g8s, g8z]; rfl) (by kernel_rfl) (by kernel_rfl) (by kernel_rfl) (by exact fun _ _ _ h => h) (Or.inl ⟨by rfl, ?_⟩) (by assumption) ?_
                rotate_left 1
                · (intro w hSw; (try dsimp only at hSw); go_simp; try with_reducible rfl)
                all_goals ((try simp only [Act.put]); (try simp only [g8b]); (try simp only [g8c]); (try simp only [g8d]))
                refine wpAnyH_take (i := 12) (oi := _) (v := ?_) (by simp only [g8a, g8s, g8z]; rfl) (by kernel_rfl) (by kernel_rfl) (by kernel_rfl) (by exact fun _ _ _ h => h) (Or.inl ⟨by rfl, ?_⟩) (by assumption) ?_
                rotate_left 1
                · (intro w hSw; (try dsimp only at hSw); go_simp; try with_reducible rfl)
                all_goals ((try simp only [Act.put]); (try simp only [g8b]); (try simp only [g8c]); (try simp only [g8d]))
                refine wpAnyH_take (i := 13) (oi := _) (v := ?_) (by simp only [g8a, g8s, g8z]; rfl) (by kernel_rfl) (by kernel_rfl) (by kernel_rfl) (by exact fun _ _ _ h => h) (Or.inl ⟨by rfl, ?_⟩) (by assumption) ?_
                rotate_left 1
                · (intro w hSw; (try dsimp only at hSw); go_simp; try with_reducible rfl)
                all_goals ((try simp only [Act.put]); (try simp only [g8b]); (try simp only [g8c]); (try simp only [g8d]))
                refine wpAnyH_take (i := 14) (oi := _) (v := ?_) (by simp only [g8a, g8s, g8z]; rfl) (by kernel_rfl) (by kernel_rfl) (by kernel_rfl) (by exact fun _ _ _ h => h) (Or.inl ⟨by rfl, ?_⟩) (by assumption) ?_
                rotate_left 1
                · (intro w hSw; (try dsimp only at hSw); go_simp; try with_reducible rfl)
                all_goals ((try simp only [Act.put]); (try simp only [g8b]); (try simp only [g8c]); (try simp only [g8d]))
                refine wpAnyH_take (i := 15) (oi := _) (v := ?_) (by simp only [g8a, g8s, g8z]; rfl) (by kernel_rfl) (by kernel_rfl) (by kernel_rfl) (by exact fun _ _ _ h => h) (Or.inl ⟨by rfl, ?_⟩) (by assumption) ?_
                rotate_left 1
                · (intro w hSw; (try dsimp only at hSw); go_simp; try with_reducible rfl)
                all_goals ((try simp only [Act.put]); (try simp only [g8b]); (try simp only [g8c]); (try simp only [g8d]))
                refine wpAnyH_take (i := 16) (oi := _) (v := ?_) (by simp only [g8a, g8s, g8z]; rfl) (by kernel_rfl) (by kernel_rfl) (by kernel_rfl) (by exact fun _ _ _ h => h) (Or.inl ⟨by rfl, ?_⟩) (by assumption) ?_
                rotate_left 1
                · (intro w hSw; (try dsimp only at hSw); go_simp; try with_reducible rfl)
                all_goals ((try simp only [Act.put]); (try simp only [g8b]); (try simp only [g8c]); (try simp only [g8d]))
                refine wpAnyH_take (i := 18) (oi := _) (v := ?_) (by simp only [g8a, g8s, g8z]; rfl) (by kernel_rfl) (by kernel_rfl) (by kernel_rfl) (by exact fun _ _ _ h => h) (Or.inl ⟨by rfl, ?_⟩) (by assumption) ?_
                rotate_left 1
                · (intro w hSw; (try dsimp only at hSw); go_simp; try with_reducible rfl)
                all_goals ((try simp only [Act.put]); (try simp only [g8b]); (try simp only [g8c]); (try simp only [g8d]))
                refine wpAnyH_take (i := 19) (oi := _) (v := ?_) (by simp only [g8a, g8s, g8z]; rfl) (by kernel_rfl) (by kernel_rfl) (by kernel_rfl) (by exact fun _ _ _ h => h) (Or.inl ⟨by rfl, ?_⟩) (by assumption) ?_
                rotate_left 1
                · (intro w hSw; (try dsimp only at hSw); go_simp; try with_reducible rfl)
                all_goals ((try simp only [Act.put]); (try simp only [g8b]); (try simp only [g8c]); (try simp only [g8d]))
                refine wpAnyH_take (i := 20) (oi := _) (v := ?_) (by simp only [g8a, g8s, g8z]; rfl) (by kernel_rfl) (by kernel_rfl) (by kernel_rfl) (by exact fun _ _ _ h => h) (Or.inl ⟨by rfl, ?_⟩) (by assumption) ?_
                rotate_left 1
                · (intro w hSw; (try dsimp only at hSw); go_simp; try with_reducible rfl)
                all_goals ((try simp only [Act.put]); (try simp only [g8b]); (try simp only [g8c]); (try simp only [g8d]))
                refine wpAnyH_ready (rs := [17]) (by kernel_rfl) (by simp) ?_
                refine (AllReadyH.cons (by simp only [g8a, g8s, g8z]; rfl) (fun K hK => ?_) AllReadyH.nil)
                rw [if_pos (by rfl)]
                go_simp
                refine (gain_any C k s h.per h.inc a.per _ (by omega) (by omega) (by omega) (by omega) (by omega)).mono ?_
                rw [← HGV.out]
                rintro e w9 ⟨rfl, hbq⟩
                have HB := Lib.hid (HB.out.below hbq HB.out.lt)
                have E := Lib.hid (E.out.below hbq)
                try clear hHeld
                clear hbq
                clear f0 f1 f2 g0 g1 g2 p6 p7 hlf
                clear h0 h1 h2 hlh
                clear r0 r1 r2 r3 hlr CB
                obtain ⟨⟨f0, f1, f2⟩, ⟨g0, g1, g2⟩, ⟨p6, p7⟩, hlf⟩ := E.out.cells
                obtain ⟨⟨h0, h1, h2⟩, _, hlh⟩ := HB.out.c3
                have CB := Lib.hid (CB0.out.below E.out.bw CB0.out.lt)
                obtain ⟨⟨r0, r1, r2, r3⟩, _, hlr⟩ := CB.out.c4
                refine hK.out _ _ (by exact ⟨f0, f1, f2, g0, g1, g2, p6, p7, h0, h1, h2, r3⟩) (fun hHeld => ?_)
                clear hK K
                (try simp only [Act.put]); (try simp only [g8b]); (try simp only [g8c]); (try simp only [g8d])
                by_cases hgi : gv = a.inc
                case neg =>
                  have dg : (gv != a.inc) = true := by simpa using hgi
                  have NO := Lib.hid (show ¬ CheckS ⟨xs, p, i⟩ ⟨ys, q, j⟩ h cs from fun hc => by
                    rw [CI.out, cert_flat NS.out] at hc
                    have h1 := (hc.2.1 (LA.out.1 (by first | rfl | trivial))).2
                    exact hgi (by rw [HGV.out]; exact h1))
                  clear hgi
                  refine wpAnyH_take (i := 21) (oi := _) (v := ?_) (by simp only [g8a, g8s, g8z]; rfl) (by kernel_rfl) (by kernel_rfl) (by kernel_rfl) (by exact fun _ _ _ h => h) (Or.inl ⟨by rfl, ?_⟩) (by assumption) ?_
                  rotate_left 1
                  · (intro w hSw; (try dsimp only at hSw); go_simp; try with_reducible rfl)
                  all_goals ((try simp only [Act.put]); (try simp only [g8b]); (try simp only [g8c]); (try simp only [g8d]))
                  refine wpAnyH_take (i := 22) (oi := _) (v := ?_) (by simp only [g8a, g8s, g8z]; rfl) (by kernel_rfl) (by kernel_rfl) (by kernel_rfl) (by exact fun _ _ _ h => h) (Or.inl ⟨by rfl, ?_⟩) (by assumption) ?_
                  rotate_left 1
                  · (intro w hSw; (try dsimp only at hSw); go_simp; try with_reducible rfl)
                  all_goals ((try simp only [Act.put]); (try simp only [g8b]); (try simp only [g8c]); (try simp only [g8d]))
                  refine wpAnyH_done (by kernel_rfl) ?_ _
                  have FIN := Lib.hid (show ¬ CheckS ⟨xs, p, i⟩ ⟨ys, q, j⟩ h cs from NO.out)
                  have bwx := bthen BW0.out E.out.bw
                  go_wp2_with fail
                  try rw [Exit.noGoto_ret]
                  go_ret
                  exact RetQ.no FIN.out bwx
                case pos =>
                  have dg : (gv != a.inc) = false := by simpa using hgi
                  have HF := Lib.hid (show h.Fin ↔ a.Fin from ⟨(fun _ => LA.out.1 (by first | rfl | trivial)), (fun _ => LH.out.1 (by first | rfl | trivial))⟩)
                  have HP := Lib.hid (show a.Fin → h.per.toNat ∣ a.per.toNat ∧ ((a.per.toNat / h.per.toNat : Nat) : Int) * h.inc = a.inc from fun h1 => ⟨DV.out, by rw [← HGV.out]; exact hgi⟩)
                  clear hgi
                  refine wpAnyH_take (i := 21) (oi := _) (v := ?_) (by simp only [g8a, g8s, g8z]; rfl) (by kernel_rfl) (by kernel_rfl) (by kernel_rfl) (by exact fun _ _ _ h => h) (Or.inl ⟨by rfl, ?_⟩) (by assumption) ?_
                  rotate_left 1
                  · (intro w hSw; (try dsimp only at hSw); go_simp; try with_reducible rfl)
                  all_goals ((try simp only [Act.put]); (try simp only [g8b]); (try simp only [g8c]); (try simp only [g8d]))
                  refine wpAnyH_take (i := 22) (oi := _) (v := ?_) (by simp only [g8a, g8s, g8z]; rfl) (by kernel_rfl) (by kernel_rfl) (by kernel_rfl) (by exact fun _ _ _ h => h) (Or.inl ⟨by rfl, ?_⟩) (by assumption) ?_
                  rotate_left 1
                  · (intro w hSw; (try dsimp only at hSw); go_simp; try with_reducible rfl)
                  all_goals ((try simp only [Act.put]); (try simp only [g8b]); (try simp only [g8c]); (try simp only [g8d]))
                  refine wpAnyH_done (by kernel_rfl) ?_ _
                  try clear hHeld
                  have CI2 := Lib.hid (show CheckS ⟨xs, p, i⟩ ⟨ys, q, j⟩ h cs ↔ cs.length = dcExt a h ∧ ∀ t, t < cs.length → TickOk a b h cs t from by
                    rw [CI.out, cert_flat NS.out]
                    exact ⟨fun h => h.2.2, fun h' => ⟨HF.out, HP.out, h'⟩⟩)
                  obtain ⟨X, hX⟩ : ∃ X, X = dcExt a h := ⟨_, rfl⟩
                  have hX5 : X ≤ 520 := by
                    rw [hX]; unfold dcExt
                    rw [HN1.out, IC0.out.1]
                    omega
                  have HXX := Lib.hid hX
                  clear hX
                  go_upto_region 15 with fail
                  have HB := Lib.hid (Blk.drew HB.out); have E := Lib.hid E.out.drew
                  refine wp_region_held_drew (S := fun w' => w'.cell? ⟨w1.heap.size, 0, none⟩ = some (.slice A1 n1 c1) ∧ w'.cell? ⟨w1.heap.size, 1, none⟩ = some (.int .i64 a.per) ∧ w'.cell? ⟨w1.heap.size, 2, none⟩ = some (.int .i64 a.inc) ∧ w'.cell? ⟨w1.heap.size, 3, none⟩ = some (.slice B1 m1 d1) ∧ w'.cell? ⟨w1.heap.size, 4, none⟩ = some (.int .i64 b.per) ∧ w'.cell? ⟨w1.heap.size, 5, none⟩ = some (.int .i64 b.inc) ∧ w'.cell? ⟨w1.heap.size, 6, none⟩ = some (.int .i64 (dcK a b : Nat)) ∧ w'.cell? ⟨w1.heap.size, 7, none⟩ = some (.bool false) ∧ w'.cell? ⟨Hb, 0, none⟩ = some (.slice C k s) ∧ w'.cell? ⟨Hb, 1, none⟩ = some (.int .i64 h.per) ∧ w'.cell? ⟨Hb, 2, none⟩ = some (.int .i64 h.inc) ∧ w'.cell? ⟨w.heap.size + 1 + 1, 3, none⟩ = some (.slice D x y)) (by kernel_rfl) (by exact ⟨f0, f1, f2, g0, g1, g2, p6, p7, h0, h1, h2, r3⟩) (fun hHeld => ?_)
                  clear f0 f1 f2 g0 g1 g2 p6 p7 hlf
                  clear h0 h1 h2 hlh
                  clear r0 r1 r2 r3 hlr CB
                  generalize hwd : w9.drew = wd at *
                  clear hwd
                  obtain ⟨⟨f0, f1, f2⟩, ⟨g0, g1, g2⟩, ⟨p6, p7⟩, hlf⟩ := E.out.cells
                  obtain ⟨⟨h0, h1, h2⟩, _, hlh⟩ := HB.out.c3
                  have CB := Lib.hid (CB0.out.below E.out.bw CB0.out.lt)
                  obtain ⟨⟨r0, r1, r2, r3⟩, _, hlr⟩ := CB.out.c4
                  refine wpAnyH_take (i := 0) (oi := _) (v := ?_) (by simp only [g8a, g8z]; rfl) (by kernel_rfl) (by kernel_rfl) (by kernel_rfl) (by exact fun _ _ _ h => h) (Or.inl ⟨by rfl, ?_⟩) (by assumption) ?_
                  rotate_left 1
                  · (intro w hSw; (try dsimp only at hSw); go_simp; try with_reducible rfl)
                  all_goals ((try simp only [Act.put]); (try simp only [g8b]); (try simp only [g8c]); (try simp only [g8d]))
                  refine wpAnyH_take (i := 1) (oi := _) (v := ?_) (by simp only [g8a, g8s, g8z]; rfl) (by kernel_rfl) (by kernel_rfl) (by kernel_rfl) (by exact fun _ _ _ h => h) (Or.inl ⟨by rfl, ?_⟩) (by assumption) ?_
                  rotate_left 1
                  · (intro w hSw; (try dsimp only at hSw); go_simp; try with_reducible rfl)
                  all_goals ((try simp only [Act.put]); (try simp only [g8b]); (try simp only [g8c]); (try simp only [g8d]))
                  refine wpAnyH_take (i := 2) (oi := _) (v := ?_) (by simp only [g8a, g8s, g8z]; rfl) (by kernel_rfl) (by kernel_rfl) (by kernel_rfl) (by exact fun _ _ _ h => h) (Or.inl ⟨by rfl, ?_⟩) (by assumption) ?_
                  rotate_left 1
                  · (intro w hSw; (try dsimp only at hSw); go_simp; try with_reducible rfl)
                  all_goals ((try simp only [Act.put]); (try simp only [g8b]); (try simp only [g8c]); (try simp only [g8d]))
                  refine wpAnyH_take (i := 3) (oi := _) (v := ?_) (by simp only [g8a, g8s, g8z]; rfl) (by kernel_rfl) (by kernel_rfl) (by kernel_rfl) (by exact fun _ _ _ h => h) (Or.inl ⟨by rfl, ?_⟩) (by assumption) ?_
                  rotate_left 1
                  · (intro w hSw; (try dsimp only at hSw); go_simp; try with_reducible rfl)
                  all_goals ((try simp only [Act.put]); (try simp only [g8b]); (try simp only [g8c]); (try simp only [g8d]))
                  refine wpAnyH_take (i := 4) (oi := _) (v := ?_) (by simp only [g8a, g8s, g8z]; rfl) (by kernel_rfl) (by kernel_rfl) (by kernel_rfl) (by exact fun _ _ _ h => h) (Or.inl ⟨by rfl, ?_⟩) (by assumption) ?_
                  rotate_left 1
                  · (intro w hSw; (try dsimp only at hSw); go_simp; try with_reducible rfl)
                  all_goals ((try simp only [Act.put]); (try simp only [g8b]); (try simp only [g8c]); (try simp only [g8d]))
                  refine wpAnyH_ready (rs := [5]) (by kernel_rfl) (by simp) ?_
                  refine (AllReadyH.cons (by simp only [g8a, g8s, g8z]; rfl) (fun K hK => ?_) AllReadyH.nil)
                  rw [if_pos (by rfl)]
                  go_simp
                  refine (extent_any A1 B1 C n1 m1 k c1 d1 s a b h (dcK a b : Nat) false wd (by exact E.out.ja) (by exact E.out.jb) IC0.out.1 HAO.out HBO.out HHO.out).mono ?_
                  rw [← HXX.out]
                  rintro e we ⟨rfl, hbq⟩
                  have HB := Lib.hid (HB.out.below hbq HB.out.lt)
                  have E := Lib.hid (E.out.below hbq)
                  try clear hHeld
                  clear hbq
                  clear f0 f1 f2 g0 g1 g2 p6 p7 hlf
                  clear h0 h1 h2 hlh
                  clear r0 r1 r2 r3 hlr CB
                  obtain ⟨⟨f0, f1, f2⟩, ⟨g0, g1, g2⟩, ⟨p6, p7⟩, hlf⟩ := E.out.cells
                  obtain ⟨⟨h0, h1, h2⟩, _, hlh⟩ := HB.out.c3
                  have CB := Lib.hid (CB0.out.below E.out.bw CB0.out.lt)
                  obtain ⟨⟨r0, r1, r2, r3⟩, _, hlr⟩ := CB.out.c4
                  refine hK.out _ _ (by exact ⟨f0, f1, f2, g0, g1, g2, p6, p7, h0, h1, h2, r3⟩) (fun hHeld => ?_)
                  clear hK K
                  (try simp only [Act.put]); (try simp only [g8b]); (try simp only [g8c]); (try simp only [g8d])
                  by_cases hxX : x = X
                  case neg =>
                    have dx : ((x : Int) != (X : Int)) = true := by simp; omega
                    have HNX := Lib.hid hxX
                    clear hxX
                    refine wpAnyH_take (i := 6) (oi := _) (v := ?_) (by simp only [g8a, g8s, g8z]; rfl) (by kernel_rfl) (by kernel_rfl) (by kernel_rfl) (by exact fun _ _ _ h => h) (Or.inl ⟨by rfl, ?_⟩) (by assumption) ?_
                    rotate_left 1
                    · (intro w hSw; (try dsimp only at hSw); go_simp; try with_reducible rfl)
                    all_goals ((try simp only [Act.put]); (try simp only [g8b]); (try simp only [g8c]); (try simp only [g8d]))
                    refine wpAnyH_done (by kernel_rfl) ?_ _
                    have FIN := Lib.hid (show ¬ CheckS ⟨xs, p, i⟩ ⟨ys, q, j⟩ h cs from (fun h => HNX.out (by have := (CI2.out.1 h).1; rw [ID0.out.1, ← HXX.out] at this; exact this)))
                    have bwx := bthen BW0.out E.out.bw
                    go_wp2_with fail
                    try rw [Exit.noGoto_ret]
                    go_ret
                    exact RetQ.no FIN.out bwx
                  case pos =>
                    subst hxX
                    have dx : ((x : Int) != (x : Int)) = false := by simp
                    refine wpAnyH_take (i := 6) (oi := _) (v := ?_) (by simp only [g8a, g8s, g8z]; rfl) (by kernel_rfl) (by kernel_rfl) (by kernel_rfl) (by exact fun _ _ _ h => h) (Or.inl ⟨by rfl, ?_⟩) (by assumption) ?_
                    rotate_left 1
                    · (intro w hSw; (try dsimp only at hSw); go_simp; try with_reducible rfl)
                    all_goals ((try simp only [Act.put]); (try simp only [g8b]); (try simp only [g8c]); (try simp only [g8d]))
                    refine wpAnyH_done (by kernel_rfl) ?_ _
                    try clear hHeld
                    clear dx
                    go_wp2_with fail
                    clear f0 f1 f2 g0 g1 g2 p6 p7 hlf
                    clear h0 h1 h2 hlh
                    clear r0 r1 r2 r3 hlr CB
                    go_loopg [12, 13, 14, 15, 90] x (fun gg s12 s13 s14 s15 s90 wx => ∃ t : Nat, t + gg = x ∧ s90 = .int .i64 t ∧ (∀ z, z < t → TickOk a b h cs z) ∧ PE w1 wx A1 n1 c1 a B1 m1 d1 b (dcK a b : Nat) false ∧ Blk wx Hb 31 #[.slice C k s, .int .i64 h.per, .int .i64 h.inc])
                    case atStart => exact ⟨0, by omega, rfl, (fun z hz => by omega), E.out, HB.out⟩
                    case round =>
                      clear E HB
                      obtain ⟨t, htg, rfl, hgood, hE, hH⟩ := hrel
                      have E := Lib.hid hE; have HB := Lib.hid hH; have HG := Lib.hid hgood
                      clear hE hH hgood
                      obtain ⟨go, hgo⟩ : ∃ go : Nat, go = gk := ⟨_, rfl⟩
                      subst hgo
                      by_cases ht : t < x
                      · have hti : (t : Int) < x := by omega
                        have ID3 := Lib.hid (ID0.out.ext E.out.bw)
                        obtain ⟨dd, od, hDe, hdl, hdc⟩ := ID3.out.2 (by omega)
                        subst hDe
                        have hdt := hdc t ht
                        obtain ⟨at', hat⟩ : ∃ z, z = nth cs t := ⟨_, rfl⟩
                        rw [← hat] at hdt
                        obtain ⟨v, hv⟩ : ∃ z, z = h.at t := ⟨_, rfl⟩
                        have HAT := Lib.hid hat; have HV := Lib.hid hv
                        clear hdc hat hv
                        obtain ⟨⟨f0, f1, f2⟩, ⟨g0, g1, g2⟩, ⟨p6, p7⟩, hlf⟩ := E.out.cells
                        obtain ⟨⟨h0, h1, h2⟩, _, hlh⟩ := HB.out.c3
                        have CB := Lib.hid (CB0.out.below E.out.bw CB0.out.lt)
                        obtain ⟨⟨r0, r1, r2, r3⟩, _, hlr⟩ := CB.out.c4
                        go_wp2_with fail
                        refine (at_any C k s h.per h.inc (t : Int) h.vals _ (by exact IC0.out.ext E.out.bw) (by omega) (by omega) (by omega) (by omega) (by omega) HHO.out.nn (by omega) (by omega)).mono ?_
                        rw [Int.toNat_natCast, ← HV.out]
                        rintro e wa ⟨rfl, hbq⟩
                        clear hdt hdl ID3
                        have HB := Lib.hid (HB.out.below hbq HB.out.lt)
                        have E := Lib.hid (E.out.below hbq)
                        try clear hHeld
                        clear hbq
                        clear f0 f1 f2 g0 g1 g2 p6 p7 hlf
                        clear h0 h1 h2 hlh
                        clear r0 r1 r2 r3 hlr CB
                        obtain ⟨⟨f0, f1, f2⟩, ⟨g0, g1, g2⟩, ⟨p6, p7⟩, hlf⟩ := E.out.cells
                        obtain ⟨⟨h0, h1, h2⟩, _, hlh⟩ := HB.out.c3
                        have CB := Lib.hid (CB0.out.below E.out.bw CB0.out.lt)
                        obtain ⟨⟨r0, r1, r2, r3⟩, _, hlr⟩ := CB.out.c4
                        have htx : t < cs.length := by rw [ID0.out.1]; exact ht
                        by_cases hn0 : at' < 0
                        · have dz0 : decide (at' < 0) = true := by simpa using hn0
                          have HN0 := Lib.hid hn0
                          clear hn0
                          have FIN := Lib.hid (show ¬ CheckS ⟨xs, p, i⟩ ⟨ys, q, j⟩ h cs from (fun h => by have := ((CI2.out.1 h).2 t htx).1; rw [← HAT.out] at this; have := HN0.out; omega))
                          have bwx := bthen BW0.out E.out.bw
                          go_wp2_with fail
                          try rw [Exit.noGoto_ret]
                          go_ret
                          exact RetQ.no FIN.out bwx
                        · have dz0 : decide (at' < 0) = false := by simpa using hn0
                          by_cases hnK : ((dcK a b : Nat) : Int) ≤ at'
                          · have dz1 : decide (at' ≥ ((dcK a b : Nat) : Int)) = true := by simpa using hnK
                            have HNK := Lib.hid hnK
                            clear hnK
                            have FIN := Lib.hid (show ¬ CheckS ⟨xs, p, i⟩ ⟨ys, q, j⟩ h cs from (fun h => by have := ((CI2.out.1 h).2 t htx).2.1; rw [← HAT.out] at this; have := HNK.out; omega))
                            have bwx := bthen BW0.out E.out.bw
                            go_wp2_with fail
                            try rw [Exit.noGoto_ret]
                            go_ret
                            exact RetQ.no FIN.out bwx
                          · have dz1 : decide (((dcK a b : Nat) : Int) ≤ at') = false := by simpa using hnK
                            obtain ⟨u, hu⟩ : ∃ u : Nat, at' = u := ⟨at'.toNat, by omega⟩
                            subst hu
                            have huK : u < dcK a b := by omega
                            have dz2 : decide (dcK a b ≤ u) = false := by simp; omega
                            have hK := dcK_le HAO.out HBO.out (by unfold ordC; exact HCM.out)
                            obtain ⟨gx, hg1⟩ : ∃ z, z = gn a b t u := ⟨_, rfl⟩
                            have HG1 := Lib.hid hg1
                            clear hg1
                            clear hn0 hnK
                            go_wp2_with fail
                            refine (prgain_any A1 B1 n1 m1 c1 d1 a b (dcK a b : Nat) false t u _ (by exact E.out.ja) (by exact E.out.jb) HAO.out HBO.out (by omega)).mono ?_
                            rw [← HG1.out]
                            rintro e wb ⟨rfl, hbq⟩
                            have HB := Lib.hid (HB.out.below hbq HB.out.lt)
                            have E := Lib.hid (E.out.below hbq)
                            try clear hHeld
                            clear hbq
                            clear f0 f1 f2 g0 g1 g2 p6 p7 hlf
                            clear h0 h1 h2 hlh
                            clear r0 r1 r2 r3 hlr CB
                            obtain ⟨⟨f0, f1, f2⟩, ⟨g0, g1, g2⟩, ⟨p6, p7⟩, hlf⟩ := E.out.cells
                            obtain ⟨⟨h0, h1, h2⟩, _, hlh⟩ := HB.out.c3
                            have CB := Lib.hid (CB0.out.below E.out.bw CB0.out.lt)
                            obtain ⟨⟨r0, r1, r2, r3⟩, _, hlr⟩ := CB.out.c4
                            by_cases hgv : gx = v
                            · have dg : (gx != v) = false := by simpa using hgv
                              have HGV := Lib.hid hgv
                              clear hgv
                              go_wp2_with fail
                              go_loopg [15, 116] (dcK a b) (fun gg s15 s116 wx => ∃ r : Nat, r + gg = dcK a b ∧ s116 = .int .i64 r ∧ (∀ z, z < r → gn a b t z ≤ h.at t) ∧ PE w1 wx A1 n1 c1 a B1 m1 d1 b (dcK a b : Nat) false ∧ Blk wx Hb 31 #[.slice C k s, .int .i64 h.per, .int .i64 h.inc])
                              case atStart => exact ⟨0, by omega, rfl, (fun z hz => by omega), E.out, HB.out⟩
                              case round =>
                                clear E HB
                                clear f0 f1 f2 g0 g1 g2 p6 p7 hlf
                                clear h0 h1 h2 hlh
                                clear r0 r1 r2 r3 hlr CB
                                obtain ⟨r, hrg, rfl, hless, hE, hH⟩ := hrel
                                have E := Lib.hid hE; have HB := Lib.hid hH; have HL2 := Lib.hid hless
                                clear hE hH hless
                                by_cases hr : r < dcK a b
                                · have hri : (r : Int) < ((dcK a b : Nat) : Int) := by omega
                                  obtain ⟨gy, hg2⟩ : ∃ z, z = gn a b t r := ⟨_, rfl⟩
                                  have HG2 := Lib.hid hg2
                                  clear hg2
                                  obtain ⟨⟨f0, f1, f2⟩, ⟨g0, g1, g2⟩, ⟨p6, p7⟩, hlf⟩ := E.out.cells
                                  obtain ⟨⟨h0, h1, h2⟩, _, hlh⟩ := HB.out.c3
                                  have CB := Lib.hid (CB0.out.below E.out.bw CB0.out.lt)
                                  obtain ⟨⟨r0, r1, r2, r3⟩, _, hlr⟩ := CB.out.c4
                                  go_wp2_with fail
                                  refine (prgain_any A1 B1 n1 m1 c1 d1 a b (dcK a b : Nat) false t r _ (by exact E.out.ja) (by exact E.out.jb) HAO.out HBO.out (by omega)).mono ?_
                                  rw [← HG2.out]
                                  rintro e wc ⟨rfl, hbq⟩
                                  have HB := Lib.hid (HB.out.below hbq HB.out.lt)
                                  have E := Lib.hid (E.out.below hbq)
                                  try clear hHeld
                                  clear hbq
                                  clear f0 f1 f2 g0 g1 g2 p6 p7 hlf
                                  clear h0 h1 h2 hlh
                                  clear r0 r1 r2 r3 hlr CB
                                  obtain ⟨⟨f0, f1, f2⟩, ⟨g0, g1, g2⟩, ⟨p6, p7⟩, hlf⟩ := E.out.cells
                                  obtain ⟨⟨h0, h1, h2⟩, _, hlh⟩ := HB.out.c3
                                  have CB := Lib.hid (CB0.out.below E.out.bw CB0.out.lt)
                                  obtain ⟨⟨r0, r1, r2, r3⟩, _, hlr⟩ := CB.out.c4
                                  by_cases hgt : v < gy
                                  · have HGT := Lib.hid hgt
                                    have dt : decide (gy > v) = true := by simpa using hgt
                                    have dt2 : decide (v < gy) = true := by simpa using hgt
                                    clear hgt
                                    have FIN := Lib.hid (show ¬ CheckS ⟨xs, p, i⟩ ⟨ys, q, j⟩ h cs from (fun h => by have := ((CI2.out.1 h).2 t htx).2.2.2 r hr; rw [← HG2.out, ← HV.out] at this; have := HGT.out; omega))
                                    have bwx := bthen BW0.out E.out.bw
                                    go_wp2_with fail
                                    try rw [Exit.noGoto_ret]
                                    go_ret
                                    exact RetQ.no FIN.out bwx
                                  · have HGT := Lib.hid hgt
                                    have dt2 : decide (v < gy) = false := by simpa using hgt
                                    clear hgt
                                    go_wp2_with fail
                                    go_roundg (gk - 1)
                                    case measure => omega
                                    case rel => exact ⟨r + 1, by omega, by go_num, (fun z hz => by
                                      rcases Nat.lt_or_ge z r with h1 | h1
                                      · exact HL2.out z h1
                                      · obtain rfl : z = r := by omega
                                        rw [← HG2.out, ← HV.out]; have := HGT.out; omega), E.out, HB.out⟩
                                · have hrK : ¬ (r : Int) < ((dcK a b : Nat) : Int) := by omega
                                  have GD := Lib.hid (show TickOk a b h cs t from by
                                    refine ⟨by rw [← HAT.out]; omega, by rw [← HAT.out]; omega, ?_, fun z hz => HL2.out z (by omega)⟩
                                    rw [← HAT.out, Int.toNat_natCast, ← HG1.out, HGV.out, HV.out])
                                  go_wp2_with fail
                                  go_roundg (go - 1)
                                  case measure => omega
                                  case rel => exact ⟨t + 1, by omega, by go_num, (fun z hz => by
                                    rcases Nat.lt_or_ge z t with h1 | h1
                                    · exact HG.out z h1
                                    · obtain rfl : z = t := by omega
                                      exact GD.out), E.out, HB.out⟩
                            · have dg : (gx != v) = true := by simpa using hgv
                              have HGV := Lib.hid hgv
                              clear hgv
                              have FIN := Lib.hid (show ¬ CheckS ⟨xs, p, i⟩ ⟨ys, q, j⟩ h cs from (fun h => by have := ((CI2.out.1 h).2 t htx).2.2.1; rw [← HAT.out, Int.toNat_natCast, ← HG1.out, ← HV.out] at this; exact HGV.out this))
                              have bwx := bthen BW0.out E.out.bw
                              go_wp2_with fail
                              try rw [Exit.noGoto_ret]
                              go_ret
                              exact RetQ.no FIN.out bwx
                      · have htx : t = x := by omega
                        subst htx
                        have FIN := Lib.hid (show CheckS ⟨xs, p, i⟩ ⟨ys, q, j⟩ h cs from CI2.out.2 ⟨by rw [← HXX.out]; exact ID0.out.1, fun z hz => HG.out z (by rw [← ID0.out.1]; exact hz)⟩)
                        have bwx := bthen BW0.out E.out.bw
                        clear ht
                        go_wp2_with fail
                        try rw [Exit.noGoto_ret]
                        go_ret
                        exact RetQ.yes FIN.out bwx
end Go.Proofs.Ytbkimphcmmmaiaa
