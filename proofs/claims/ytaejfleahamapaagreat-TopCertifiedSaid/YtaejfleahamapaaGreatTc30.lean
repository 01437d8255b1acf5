/- (convolution.pair).right: the walk. -/
import Derived.Test.YtaejfleahamapaaGreatTc27
import Derived.Test.YtaejfleahamapaaGreatTc12
import Derived.Test.YtaejfleahamapaaGreatTc2
namespace Go.Proofs.YtaejfleahamapaaGreat
open Go.RowKit
set_option linter.unusedVariables false

theorem Ints.at0 {w : World} {B ad of n : Nat} {zs : List Int} (h : Ints w B (some ⟨ad, of, none⟩) n zs) (hn : 0 < n) : w.cell? ⟨ad, of, none⟩ = some (.int .i64 (nth zs 0)) ∧ ad < B := by
  obtain ⟨b, o, he, hb, hc⟩ := h.2 hn
  injection he with he
  injection he with h1 h2
  subst h1 h2
  have := hc 0 hn
  rw [Nat.add_zero] at this
  exact ⟨this, hb⟩
theorem cp_mod {x y : Nat} {p : Int} (hp : 1 ≤ p) : ((x : Int).tmod p = 0 ↔ p.toNat ∣ x) := by
  obtain ⟨q, rfl⟩ := Int.eq_ofNat_of_zero_le (show 0 ≤ p by omega)
  rw [Int.tmod_eq_emod_of_nonneg (by omega)]
  simp only [Int.toNat_natCast]
  rw [Nat.dvd_iff_mod_eq_zero]
  omega
set_option maxHeartbeats 4000000 in
set_option maxRecDepth 100000 in
theorem cpright_any (A B C : Option Addr) (n m k c d s : Nat) (a b h : Cv) (w : World) (hA : Ints w w.heap.size A n a.vals) (hB : Ints w w.heap.size B m b.vals) (hC : Ints w w.heap.size C k h.vals) (ha : a.Ok) (hb : b.Ok) (hk : (k : Int) ≤ 1000000) (hK : ordC a b ≤ 120) :
    Calls Tryz.prog 53 #[.agg (cpA A n c a B m d b (ordC a b : Nat)), .agg #[.slice C k s, .int .i64 h.per, .int .i64 h.inc]] w (RetQ (h.Ok ∧ NF h.at h ∧ RightS a b h) w) := by
  have a1 := ha.n1; have a2 := ha.n2; have a3 := ha.p1; have a4 := ha.p2; have a5 := ha.pn; have a6 := ha.i1; have a7 := ha.i2
  have b1 := hb.n1; have b2 := hb.n2; have b3 := hb.p1; have b4 := hb.p2; have b5 := hb.pn; have b6 := hb.i1; have b7 := hb.i2
  have hln : a.vals.length = n := hA.1
  have hlm : b.vals.length = m := hB.1
  have hlk : h.vals.length = k := hC.1
  rw [hln] at a1 a2 a5
  rw [hlm] at b1 b2 b5
  obtain ⟨ad, oa, hAe, _⟩ := hA.2 (by omega)
  subst hAe
  obtain ⟨bd, ob, hBe, _⟩ := hB.2 (by omega)
  subst hBe
  obtain ⟨K0, hK0⟩ : ∃ K0 : Nat, K0 = ordC a b := ⟨_, rfl⟩
  obtain ⟨KC, hKC⟩ : ∃ KC : Int, KC = (K0 : Int) := ⟨_, rfl⟩
  have hKb1 : 1 ≤ KC := by have := (ord_b ha hb).c1; omega
  have hKb2 : KC ≤ 120 := by omega
  obtain ⟨fa, hfa⟩ : ∃ z, z = (nth a.vals (n - 1) != inf) := ⟨_, rfl⟩
  obtain ⟨fb, hfb⟩ : ∃ z, z = (nth b.vals (m - 1) != inf) := ⟨_, rfl⟩
  have LA := Lib.hid (show fa = true ↔ a.Fin from by rw [hfa, bne_iff_ne, ← hln]; exact ⟨fun h => ⟨ha, h⟩, fun h => h.2⟩)
  have LB := Lib.hid (show fb = true ↔ b.Fin from by rw [hfb, bne_iff_ne, ← hlm]; exact ⟨fun h => ⟨hb, h⟩, fun h => h.2⟩)
  obtain ⟨ga, hga⟩ : ∃ z, z = ((KC.toNat / a.per.toNat : Nat) : Int) * a.inc := ⟨_, rfl⟩
  obtain ⟨gb, hgb⟩ : ∃ z, z = ((KC.toNat / b.per.toNat : Nat) : Int) * b.inc := ⟨_, rfl⟩
  obtain ⟨gl, hgl⟩ : ∃ z, z = ((KC.toNat / h.per.toNat : Nat) : Int) * h.inc := ⟨_, rfl⟩
  have HA1 := Lib.hid (show ga = gnA a b from by rw [hga, hKC, hK0]; rfl)
  have HB1 := Lib.hid (show gb = gnB a b from by rw [hgb, hKC, hK0]; rfl)
  have HL1 := Lib.hid (show gl = gnl h (ordC a b) from by rw [hgl, hKC, hK0]; rfl)
  have hgb9 : ga < 4611686018427387904 ∧ gb < 4611686018427387904 := by
    have B := ord_b ha hb
    have h1 : gnA a b ≤ 128849018880 := B.a1.2
    have h2 : gnB a b ≤ 128849018880 := B.a2.2
    have := HA1.out; have := HB1.out
    omega
  obtain ⟨hga9, hgb9⟩ := hgb9
  obtain ⟨a0, ha0⟩ : ∃ z, z = nth a.vals 0 := ⟨_, rfl⟩
  obtain ⟨b0, hb0⟩ : ∃ z, z = nth b.vals 0 := ⟨_, rfl⟩
  have HFA := Lib.hid hfa; have HFB := Lib.hid hfb; have HGA := Lib.hid hga; have HGB := Lib.hid hgb; have HGL := Lib.hid hgl; have HA0 := Lib.hid ha0; have HB0 := Lib.hid hb0; have HK0 := Lib.hid (show KC = ((ordC a b : Nat) : Int) from by rw [hKC, hK0]); have HLK := Lib.hid hlk
  rw [← hK0, ← hKC]
  have E := Lib.hid (CH.new (c := c) (d := d) (K := KC) (s := s) (h := h) hA hB hC)
  have HAO := Lib.hid ha; have HBO := Lib.hid hb
  clear hA hB hC ha hb hln hlm hlk hK hKC hK0 hfa hfb hga hgb hgl ha0 hb0
  unfold cpA at E
  unfold cpA
  go_enter Tryz.func53, Tryz.ntmps53
  go_upto_region 1 with fail
  generalize hwe : (w.alloc (.cells #[.slice (some ⟨ad, oa, none⟩) n c, .int .i64 a.per, .int .i64 a.inc, .slice (some ⟨bd, ob, none⟩) m d, .int .i64 b.per, .int .i64 b.inc, .int .i64 KC] 91)).alloc (.cells #[.slice C k s, .int .i64 h.per, .int .i64 h.inc] 26) = we at *
  clear hwe
  have E : Hid (CH w we (some ⟨ad, oa, none⟩) n c a (some ⟨bd, ob, none⟩) m d b KC C k s h) := E
  generalize (Value.agg #[.slice (some ⟨ad, oa, none⟩) n c, .int .i64 a.per, .int .i64 a.inc, .slice (some ⟨bd, ob, none⟩) m d, .int .i64 b.per, .int .i64 b.inc, .int .i64 KC]) = v0
  generalize (Value.agg #[.slice C k s, .int .i64 h.per, .int .i64 h.inc]) = v1
  obtain ⟨⟨f0, f1, f2⟩, ⟨g0, g1, g2⟩, p6, ⟨h0, h1, h2⟩, hlh⟩ := E.out.cells
  go_wp2_with fail
  refine (normal_any C k s h.per h.inc h.vals _ (by exact E.out.jc) hk).mono ?_
  rintro e w4 ⟨nn, er, hN, A5, n5, c5, rfl, hI5, hA5, hbq⟩
  have HN := Lib.hid (NormR.of hN)
  have HI5 := Lib.hid (hI5.alloc' (.cells #[.slice A5 n5 c5, .int .i64 nn.per, .int .i64 nn.inc] 26))
  have NB := Lib.hid (Blk.new w4 26 #[.slice A5 n5 c5, .int .i64 nn.per, .int .i64 nn.inc])
  have E := Lib.hid ((E.out.below hbq).alloc (.cells #[.slice A5 n5 c5, .int .i64 nn.per, .int .i64 nn.inc] 26))
  clear hN hI5 hA5 hbq
  clear f0 f1 f2 g0 g1 g2 p6 h0 h1 h2 hlh
  go_upto_region 2 with fail
  generalize hwe : w4.alloc (.cells #[.slice A5 n5 c5, .int .i64 nn.per, .int .i64 nn.inc] 26) = w5 at *
  clear hwe
  generalize w4.heap.size = Nb at *
  rcases HN.out with ⟨hho, hnf, hno, rfl⟩ | ⟨hno, rfl, rfl⟩
  case inr =>
    have HNO := Lib.hid hno
    clear hno HN
    have FIN := Lib.hid (show ¬ (h.Ok ∧ NF h.at h ∧ RightS a b h) from (fun hc => HNO.out hc.1))
    have bw := E.out.bw
    go_wp2_with fail
    go_ret
    exact RetQ.no FIN.out bw
  case inl =>
    have HHO := Lib.hid hho; have HNF := Lib.hid hnf
    have hn5 := hno.n2
    rw [HI5.out.1] at hn5
    clear hho hnf hno HN
    obtain ⟨⟨f0, f1, f2⟩, ⟨g0, g1, g2⟩, p6, ⟨h0, h1, h2⟩, hlh⟩ := E.out.cells
    obtain ⟨⟨k0, k1, k2⟩, _, hlk⟩ := NB.out.c3
    go_wp2_with fail
    refine (same_any A5 C n5 k c5 s nn.per h.per nn.inc h.inc nn.vals h.vals _ (by exact HI5.out) (by exact E.out.jc) (by omega) hk).mono ?_
    rintro e w6 ⟨rfl, hb⟩
    obtain ⟨z, hz⟩ : ∃ z, z = Cv.same ⟨nn.vals, nn.per, nn.inc⟩ ⟨h.vals, h.per, h.inc⟩ := ⟨_, rfl⟩
    rw [← hz]
    have HZ := Lib.hid (show z = true ↔ nn = h from by rw [hz]; exact Cv.same_iff nn h)
    clear hz k0 k1 k2 hlk HI5 NB hn5
    replace E := Lib.hid (E.out.below hb)
    clear hb
    try clear hHeld
    clear f0 f1 f2 g0 g1 g2 p6 h0 h1 h2 hlh
    obtain ⟨⟨f0, f1, f2⟩, ⟨g0, g1, g2⟩, p6, ⟨h0, h1, h2⟩, hlh⟩ := E.out.cells
    cases z
    case false =>
      have FIN := Lib.hid (show ¬ (h.Ok ∧ NF h.at h ∧ RightS a b h) from (fun hc => by have := HZ.out.2 (NF.unique HNF.out hc.2.1); cases this))
      have bw := E.out.bw
      go_wp2_with fail
      go_ret
      exact RetQ.no FIN.out bw
    case true =>
      have hnn := HZ.out.1 rfl
      have HNF := Lib.hid (show NF h.at h from by have h1 := HNF.out; rwa [hnn] at h1)
      clear hnn HZ
      have ff := HHO.out
      have c1' := ff.n1; have c2' := ff.n2; have c3' := ff.p1; have c4' := ff.p2; have c5' := ff.pn; have c6' := ff.i1; have c7' := ff.i2
      rw [HLK.out] at c1' c2' c5'
      clear ff
      obtain ⟨fh, hfh⟩ : ∃ z, z = (nth h.vals (k - 1) != inf) := ⟨_, rfl⟩
      have HFH := Lib.hid hfh
      have LH := Lib.hid (show fh = true ↔ h.Fin from by rw [hfh, bne_iff_ne, ← HLK.out]; exact ⟨fun h => ⟨HHO.out, h⟩, fun h => h.2⟩)
      clear hfh
      obtain ⟨zz, hzz⟩ : ∃ zz, zz = (fh != ((fa || fb) && (a0 != inf) && (b0 != inf))) := ⟨_, rfl⟩
      have ZL := Lib.hid (show zz = false ↔ (h.Fin ↔ (a.Fin ∨ b.Fin) ∧ nth a.vals 0 ≠ inf ∧ nth b.vals 0 ≠ inf) from by
        rw [hzz, ← LH.out, ← LA.out, ← LB.out, ← HA0.out, ← HB0.out]
        by_cases i1 : a0 = inf <;> by_cases i2 : b0 = inf <;> cases fh <;> cases fa <;> cases fb <;> simp [i1, i2])
      have HZZ := Lib.hid hzz
      clear hzz
      go_upto_region 4 with fail
      have E := Lib.hid E.out.drew
      clear f0 f1 f2 g0 g1 g2 p6 h0 h1 h2 hlh
      obtain ⟨⟨f0, f1, f2⟩, ⟨g0, g1, g2⟩, p6, ⟨h0, h1, h2⟩, hlh⟩ := E.out.cells
      refine wp_region_held_drew (S := (fun w' => w'.cell? ⟨w.heap.size, 0, none⟩ = some (.slice (some ⟨ad, oa, none⟩) n c) ∧ w'.cell? ⟨w.heap.size, 1, none⟩ = some (.int .i64 a.per) ∧ w'.cell? ⟨w.heap.size, 2, none⟩ = some (.int .i64 a.inc) ∧ w'.cell? ⟨w.heap.size, 3, none⟩ = some (.slice (some ⟨bd, ob, none⟩) m d) ∧ w'.cell? ⟨w.heap.size, 4, none⟩ = some (.int .i64 b.per) ∧ w'.cell? ⟨w.heap.size, 5, none⟩ = some (.int .i64 b.inc) ∧ w'.cell? ⟨w.heap.size, 6, none⟩ = some (.int .i64 KC) ∧ w'.cell? ⟨w.heap.size + 1, 0, none⟩ = some (.slice C k s) ∧ w'.cell? ⟨w.heap.size + 1, 1, none⟩ = some (.int .i64 h.per) ∧ w'.cell? ⟨w.heap.size + 1, 2, none⟩ = some (.int .i64 h.inc))) (by kernel_rfl) (by exact ⟨f0, f1, f2, g0, g1, g2, p6, h0, h1, h2⟩) (fun hHeld => ?_)
      generalize hwd : w6.drew = wd at *
      clear hwd
      refine tkS (i := 0) (v := ?_) ?_ ?_
      rotate_left 1
      · (intro w hSw; (try dsimp only at hSw); go_simp; try with_reducible rfl)
      all_goals ((try simp only [Act.put]); try simp only [g8b, g8c, g8d])
      refine tkS (i := 1) (v := ?_) ?_ ?_
      rotate_left 1
      · (intro w hSw; (try dsimp only at hSw); go_simp; try with_reducible rfl)
      all_goals ((try simp only [Act.put]); try simp only [g8b, g8c, g8d])
      refine tkS (i := 3) (v := ?_) ?_ ?_
      rotate_left 1
      · (intro w hSw; (try dsimp only at hSw); go_simp; try with_reducible rfl)
      all_goals ((try simp only [Act.put]); try simp only [g8b, g8c, g8d])
      refine tkS (i := 4) (v := ?_) ?_ ?_
      rotate_left 1
      · (intro w hSw; (try dsimp only at hSw); go_simp; try with_reducible rfl)
      all_goals ((try simp only [Act.put]); try simp only [g8b, g8c, g8d])
      refine wpAnyH_ready (rs := [2]) (by kernel_rfl) (by simp) ?_
      refine (AllReadyH.cons (by simp only [g8a, g8s, g8z]; rfl) (fun K hK => ?_) AllReadyH.nil)
      rw [if_pos (by rfl)]
      go_simp
      refine (finite_any _ n c a.per a.inc a.vals _ (by exact E.out.ja) (by omega) (by omega)).mono ?_
      rw [← HFA.out]
      rintro e wf ⟨rfl, hb⟩
      replace E := Lib.hid (E.out.below hb)
      clear hb
      try clear hHeld
      clear f0 f1 f2 g0 g1 g2 p6 h0 h1 h2 hlh
      obtain ⟨⟨f0, f1, f2⟩, ⟨g0, g1, g2⟩, p6, ⟨h0, h1, h2⟩, hlh⟩ := E.out.cells
      refine hK.out _ _ (by exact ⟨f0, f1, f2, g0, g1, g2, p6, h0, h1, h2⟩) (fun hHeld => ?_)
      clear hK K
      (try simp only [Act.put]); (try simp only [g8b]); (try simp only [g8c]); (try simp only [g8d])
      refine wpAnyH_ready (rs := [5]) (by kernel_rfl) (by simp) ?_
      refine (AllReadyH.cons (by simp only [g8a, g8s, g8z]; rfl) (fun K hK => ?_) AllReadyH.nil)
      rw [if_pos (by rfl)]
      go_simp
      refine (finite_any _ m d b.per b.inc b.vals _ (by exact E.out.jb) (by omega) (by omega)).mono ?_
      rw [← HFB.out]
      rintro e wg ⟨rfl, hb⟩
      replace E := Lib.hid (E.out.below hb)
      clear hb
      try clear hHeld
      clear f0 f1 f2 g0 g1 g2 p6 h0 h1 h2 hlh
      obtain ⟨⟨f0, f1, f2⟩, ⟨g0, g1, g2⟩, p6, ⟨h0, h1, h2⟩, hlh⟩ := E.out.cells
      refine hK.out _ _ (by exact ⟨f0, f1, f2, g0, g1, g2, p6, h0, h1, h2⟩) (fun hHeld => ?_)
      clear hK K
      (try simp only [Act.put]); (try simp only [g8b]); (try simp only [g8c]); (try simp only [g8d])
      refine tkS (i := 6) (v := ?_) ?_ ?_
      rotate_left 1
      · (intro w hSw; (try dsimp only at hSw); go_simp; try with_reducible rfl)
      all_goals ((try simp only [Act.put]); try simp only [g8b, g8c, g8d])
      refine tkS (i := 7) (v := ?_) ?_ ?_
      rotate_left 1
      · (intro w hSw; (try dsimp only at hSw); go_simp; try with_reducible rfl)
      all_goals ((try simp only [Act.put]); try simp only [g8b, g8c, g8d])
      refine wpAnyH_done (by kernel_rfl) ?_ _
      try clear hHeld
      go_upto_region 5 with fail
      go_cut [51] (fun s51 wx => s51 = .bool zz ∧ CH w wx (some ⟨ad, oa, none⟩) n c a (some ⟨bd, ob, none⟩) m d b KC C k s h)
      case first =>
        go_wp2_with fail
        refine (finite_any C k s h.per h.inc h.vals _ (by exact E.out.jc) (by omega) (by omega)).mono ?_
        rw [← HFH.out]
        rintro e w7 ⟨rfl, hb⟩
        replace E := Lib.hid (E.out.below hb)
        clear hb
        try clear hHeld
        clear f0 f1 f2 g0 g1 g2 p6 h0 h1 h2 hlh
        obtain ⟨⟨f0, f1, f2⟩, ⟨g0, g1, g2⟩, p6, ⟨h0, h1, h2⟩, hlh⟩ := E.out.cells
        cases fh <;> cases fa <;> cases fb
        case false.false.false =>
          go_wp2_with fail
          go_meet
          exact ⟨congrArg Value.bool (by rw [HZZ.out]; rfl), E.out⟩
        case true.false.false =>
          go_wp2_with fail
          go_meet
          exact ⟨congrArg Value.bool (by rw [HZZ.out]; rfl), E.out⟩
        all_goals
          obtain ⟨k0, kl0⟩ := E.out.ja.at0 (by omega)
          obtain ⟨k1, kl1⟩ := E.out.jb.at0 (by omega)
          rw [← HA0.out] at k0
          rw [← HB0.out] at k1
          by_cases ia : a0 = inf
          · have da : (a0 != 4611686018427387904) = false := by unfold inf at ia; simpa using ia
            have da2 : (a0 != inf) = false := by simpa using ia
            have DA := Lib.hid da2
            clear ia da2
            go_wp2_with fail
            go_meet
            exact ⟨congrArg Value.bool (by rw [HZZ.out]; (rw [DA.out]; rfl)), E.out⟩
          · have da : (a0 != 4611686018427387904) = true := by unfold inf at ia; simpa using ia
            have da2 : (a0 != inf) = true := by simpa using ia
            have DA := Lib.hid da2
            clear ia da2
            by_cases ib : b0 = inf
            · have db : (b0 != 4611686018427387904) = false := by unfold inf at ib; simpa using ib
              have db2 : (b0 != inf) = false := by simpa using ib
              have DB := Lib.hid db2
              clear ib db2
              go_wp2_with fail
              go_meet
              exact ⟨congrArg Value.bool (by rw [HZZ.out]; (rw [DA.out, DB.out]; rfl)), E.out⟩
            · have db : (b0 != 4611686018427387904) = true := by unfold inf at ib; simpa using ib
              have db2 : (b0 != inf) = true := by simpa using ib
              have DB := Lib.hid db2
              clear ib db2
              go_wp2_with fail
              go_meet
              exact ⟨congrArg Value.bool (by rw [HZZ.out]; (rw [DA.out, DB.out]; rfl)), E.out⟩
      case rest =>
        clear E
        try clear f0 f1 f2 g0 g1 g2 p6 h0 h1 h2 hlh
        obtain ⟨rfl, hE⟩ := hcut
        have E := Lib.hid hE
        clear hE
        cases zz
        case true =>
          have FIN := Lib.hid (show ¬ (h.Ok ∧ NF h.at h ∧ RightS a b h) from (fun hc => by have := ZL.out.2 hc.2.2.1; cases this))
          have bw := E.out.bw
          go_wp2_with fail
          go_ret
          exact RetQ.no FIN.out bw
        case false =>
          have ZF := Lib.hid (ZL.out.1 rfl)
          obtain ⟨⟨f0, f1, f2⟩, ⟨g0, g1, g2⟩, p6, ⟨h0, h1, h2⟩, hlh⟩ := E.out.cells
          go_wp2_with fail
          refine (finite_any C k s h.per h.inc h.vals _ (by exact E.out.jc) (by omega) (by omega)).mono ?_
          rw [← HFH.out]
          rintro e w7 ⟨rfl, hb⟩
          replace E := Lib.hid (E.out.below hb)
          clear hb
          try clear hHeld
          clear f0 f1 f2 g0 g1 g2 p6 h0 h1 h2 hlh
          obtain ⟨⟨f0, f1, f2⟩, ⟨g0, g1, g2⟩, p6, ⟨h0, h1, h2⟩, hlh⟩ := E.out.cells
          cases fh
          case false =>
            have FIN := Lib.hid (show h.Ok ∧ NF h.at h ∧ RightS a b h from ⟨HHO.out, HNF.out, ZF.out, fun hf => by have := LH.out.2 hf; cases this⟩)
            have bw := E.out.bw
            go_wp2_with fail
            go_ret
            exact RetQ.yes FIN.out bw
          case true =>
            have FH := Lib.hid (LH.out.1 (by first | rfl | trivial))
            obtain ⟨r, hr⟩ : ∃ r, r = KC.tmod h.per := ⟨_, rfl⟩
            have HR := Lib.hid (show r = ((ordC a b : Nat) : Int).tmod h.per from by rw [hr, HK0.out])
            have hp0 : ¬ h.per = 0 := by omega
            have er1 : KC.tmod h.per = r := hr.symm
            have er2 : KC % h.per = r := by rw [hr, Int.tmod_eq_emod_of_nonneg (by omega)]
            clear hr
            cases fa <;> cases fb
            case false.false =>
              exfalso
              rcases (ZF.out.1 FH.out).1 with h' | h'
              · have := LA.out.2 h'; cases this
              · have := LB.out.2 h'; cases this
            case true.false =>
              have GA := Lib.hid (LA.out.1 (by first | rfl | trivial))
              have GB := Lib.hid (show ¬ b.Fin from fun h' => by have := LB.out.2 h'; cases this)
              go_wp2_with fail
              refine (gain_any _ n c a.per a.inc KC _ (by omega) (by omega) (by omega) (by omega) (by omega)).mono ?_
              rw [← HGA.out]
              rintro e w8 ⟨rfl, hb⟩
              replace E := Lib.hid (E.out.below hb)
              clear hb
              try clear hHeld
              clear f0 f1 f2 g0 g1 g2 p6 h0 h1 h2 hlh
              obtain ⟨⟨f0, f1, f2⟩, ⟨g0, g1, g2⟩, p6, ⟨h0, h1, h2⟩, hlh⟩ := E.out.cells
              have SL := Lib.hid (show slopeC a b = ga from (by rw [slopeC_fi GA.out GB.out, HA1.out]))
              by_cases hr0 : r = 0
              case neg =>
                have dr : (r == 0) = false := by simpa using hr0
                have HR0 := Lib.hid hr0
                clear hr0
                have FIN := Lib.hid (show ¬ (h.Ok ∧ NF h.at h ∧ RightS a b h) from (fun hc => HR0.out (by rw [HR.out]; exact (cp_mod (y := 0) c3').2 ((hc.2.2.2 FH.out).1))))
                have bw := E.out.bw
                go_wp2_with fail
                go_ret
                exact RetQ.no FIN.out bw
              case pos =>
                have dr : (r == 0) = true := by simpa using hr0
                have DV := Lib.hid (show h.per.toNat ∣ ordC a b from (cp_mod (y := 0) c3').1 (by rw [← HR.out]; exact hr0))
                clear hr0
                go_wp2_with fail
                refine (gain_any C k s h.per h.inc KC _ (by omega) (by omega) (by omega) (by omega) (by omega)).mono ?_
                rw [← HGL.out]
                rintro e wg ⟨rfl, hb⟩
                replace E := Lib.hid (E.out.below hb)
                clear hb
                try clear hHeld
                clear f0 f1 f2 g0 g1 g2 p6 h0 h1 h2 hlh
                obtain ⟨⟨f0, f1, f2⟩, ⟨g0, g1, g2⟩, p6, ⟨h0, h1, h2⟩, hlh⟩ := E.out.cells
                by_cases q1 : gl = ga
                case neg =>
                  have d1 : (gl == ga) = false := by simpa using q1
                  have Q1 := Lib.hid q1
                  clear q1
                  have FIN := Lib.hid (show ¬ (h.Ok ∧ NF h.at h ∧ RightS a b h) from (fun hc => Q1.out (by rw [HL1.out, ← SL.out]; exact (hc.2.2.2 FH.out).2)))
                  have bw := E.out.bw
                  go_wp2_with fail
                  go_ret
                  exact RetQ.no FIN.out bw
                case pos =>
                  have d1 : (gl == ga) = true := by simpa using q1
                  have Q1 := Lib.hid q1
                  clear q1
                  have FIN := Lib.hid (show h.Ok ∧ NF h.at h ∧ RightS a b h from ⟨HHO.out, HNF.out, ZF.out, fun _ => ⟨DV.out, by rw [← HL1.out, SL.out]; exact Q1.out⟩⟩)
                  have bw := E.out.bw
                  go_wp2_with fail
                  go_ret
                  exact RetQ.yes FIN.out bw
            case false.true =>
              have GB := Lib.hid (LB.out.1 (by first | rfl | trivial))
              have GA := Lib.hid (show ¬ a.Fin from fun h' => by have := LA.out.2 h'; cases this)
              have em1 : (if (4611686018427387904 : Int) < gb then 4611686018427387904 else gb) = gb := by rw [if_neg (by omega)]
              have em2 : (if gb < (4611686018427387904 : Int) then gb else 4611686018427387904) = gb := by rw [if_pos (by omega)]
              go_wp2_with fail
              refine (gain_any _ m d b.per b.inc KC _ (by omega) (by omega) (by omega) (by omega) (by omega)).mono ?_
              rw [← HGB.out]
              rintro e w8 ⟨rfl, hb⟩
              replace E := Lib.hid (E.out.below hb)
              clear hb
              try clear hHeld
              clear f0 f1 f2 g0 g1 g2 p6 h0 h1 h2 hlh
              obtain ⟨⟨f0, f1, f2⟩, ⟨g0, g1, g2⟩, p6, ⟨h0, h1, h2⟩, hlh⟩ := E.out.cells
              have SL := Lib.hid (show slopeC a b = gb from (by rw [slopeC_if GA.out GB.out, HB1.out]))
              by_cases hr0 : r = 0
              case neg =>
                have dr : (r == 0) = false := by simpa using hr0
                have HR0 := Lib.hid hr0
                clear hr0
                have FIN := Lib.hid (show ¬ (h.Ok ∧ NF h.at h ∧ RightS a b h) from (fun hc => HR0.out (by rw [HR.out]; exact (cp_mod (y := 0) c3').2 ((hc.2.2.2 FH.out).1))))
                have bw := E.out.bw
                go_wp2_with fail
                go_ret
                exact RetQ.no FIN.out bw
              case pos =>
                have dr : (r == 0) = true := by simpa using hr0
                have DV := Lib.hid (show h.per.toNat ∣ ordC a b from (cp_mod (y := 0) c3').1 (by rw [← HR.out]; exact hr0))
                clear hr0
                go_wp2_with fail
                refine (gain_any C k s h.per h.inc KC _ (by omega) (by omega) (by omega) (by omega) (by omega)).mono ?_
                rw [← HGL.out]
                rintro e wg ⟨rfl, hb⟩
                replace E := Lib.hid (E.out.below hb)
                clear hb
                try clear hHeld
                clear f0 f1 f2 g0 g1 g2 p6 h0 h1 h2 hlh
                obtain ⟨⟨f0, f1, f2⟩, ⟨g0, g1, g2⟩, p6, ⟨h0, h1, h2⟩, hlh⟩ := E.out.cells
                by_cases q1 : gl = gb
                case neg =>
                  have d1 : (gl == gb) = false := by simpa using q1
                  have Q1 := Lib.hid q1
                  clear q1
                  have FIN := Lib.hid (show ¬ (h.Ok ∧ NF h.at h ∧ RightS a b h) from (fun hc => Q1.out (by rw [HL1.out, ← SL.out]; exact (hc.2.2.2 FH.out).2)))
                  have bw := E.out.bw
                  go_wp2_with fail
                  go_ret
                  exact RetQ.no FIN.out bw
                case pos =>
                  have d1 : (gl == gb) = true := by simpa using q1
                  have Q1 := Lib.hid q1
                  clear q1
                  have FIN := Lib.hid (show h.Ok ∧ NF h.at h ∧ RightS a b h from ⟨HHO.out, HNF.out, ZF.out, fun _ => ⟨DV.out, by rw [← HL1.out, SL.out]; exact Q1.out⟩⟩)
                  have bw := E.out.bw
                  go_wp2_with fail
                  go_ret
                  exact RetQ.yes FIN.out bw
            case true.true =>
              have GA := Lib.hid (LA.out.1 (by first | rfl | trivial))
              have GB := Lib.hid (LB.out.1 (by first | rfl | trivial))
              obtain ⟨sl, hsl⟩ : ∃ sl, sl = min ga gb := ⟨_, rfl⟩
              have HSL := Lib.hid hsl
              have em1 : (if ga < gb then ga else gb) = sl := by rw [hsl]; split <;> omega
              have em2 : (if gb < ga then gb else ga) = sl := by rw [hsl]; split <;> omega
              clear hsl
              go_wp2_with fail
              refine (gain_any _ n c a.per a.inc KC _ (by omega) (by omega) (by omega) (by omega) (by omega)).mono ?_
              rw [← HGA.out]
              rintro e w8 ⟨rfl, hb⟩
              replace E := Lib.hid (E.out.below hb)
              clear hb
              try clear hHeld
              clear f0 f1 f2 g0 g1 g2 p6 h0 h1 h2 hlh
              obtain ⟨⟨f0, f1, f2⟩, ⟨g0, g1, g2⟩, p6, ⟨h0, h1, h2⟩, hlh⟩ := E.out.cells
              go_wp2_with fail
              refine (gain_any _ m d b.per b.inc KC _ (by omega) (by omega) (by omega) (by omega) (by omega)).mono ?_
              rw [← HGB.out]
              rintro e w9 ⟨rfl, hb⟩
              replace E := Lib.hid (E.out.below hb)
              clear hb
              try clear hHeld
              clear f0 f1 f2 g0 g1 g2 p6 h0 h1 h2 hlh
              obtain ⟨⟨f0, f1, f2⟩, ⟨g0, g1, g2⟩, p6, ⟨h0, h1, h2⟩, hlh⟩ := E.out.cells
              have SL := Lib.hid (show slopeC a b = sl from (by rw [slopeC_ff GA.out GB.out, HSL.out, HA1.out, HB1.out]))
              by_cases hr0 : r = 0
              case neg =>
                have dr : (r == 0) = false := by simpa using hr0
                have HR0 := Lib.hid hr0
                clear hr0
                have FIN := Lib.hid (show ¬ (h.Ok ∧ NF h.at h ∧ RightS a b h) from (fun hc => HR0.out (by rw [HR.out]; exact (cp_mod (y := 0) c3').2 ((hc.2.2.2 FH.out).1))))
                have bw := E.out.bw
                go_wp2_with fail
                go_ret
                exact RetQ.no FIN.out bw
              case pos =>
                have dr : (r == 0) = true := by simpa using hr0
                have DV := Lib.hid (show h.per.toNat ∣ ordC a b from (cp_mod (y := 0) c3').1 (by rw [← HR.out]; exact hr0))
                clear hr0
                go_wp2_with fail
                refine (gain_any C k s h.per h.inc KC _ (by omega) (by omega) (by omega) (by omega) (by omega)).mono ?_
                rw [← HGL.out]
                rintro e wg ⟨rfl, hb⟩
                replace E := Lib.hid (E.out.below hb)
                clear hb
                try clear hHeld
                clear f0 f1 f2 g0 g1 g2 p6 h0 h1 h2 hlh
                obtain ⟨⟨f0, f1, f2⟩, ⟨g0, g1, g2⟩, p6, ⟨h0, h1, h2⟩, hlh⟩ := E.out.cells
                by_cases q1 : gl = sl
                case neg =>
                  have d1 : (gl == sl) = false := by simpa using q1
                  have Q1 := Lib.hid q1
                  clear q1
                  have FIN := Lib.hid (show ¬ (h.Ok ∧ NF h.at h ∧ RightS a b h) from (fun hc => Q1.out (by rw [HL1.out, ← SL.out]; exact (hc.2.2.2 FH.out).2)))
                  have bw := E.out.bw
                  go_wp2_with fail
                  go_ret
                  exact RetQ.no FIN.out bw
                case pos =>
                  have d1 : (gl == sl) = true := by simpa using q1
                  have Q1 := Lib.hid q1
                  clear q1
                  have FIN := Lib.hid (show h.Ok ∧ NF h.at h ∧ RightS a b h from ⟨HHO.out, HNF.out, ZF.out, fun _ => ⟨DV.out, by rw [← HL1.out, SL.out]; exact Q1.out⟩⟩)
                  have bw := E.out.bw
                  go_wp2_with fail
                  go_ret
                  exact RetQ.yes FIN.out bw
end Go.Proofs.YtaejfleahamapaaGreat

