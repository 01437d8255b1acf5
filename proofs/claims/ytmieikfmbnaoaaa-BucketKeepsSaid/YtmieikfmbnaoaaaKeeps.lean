/- The statement BucketKeeps: the walk. -/
import Derived.Test.YtmieikfmbnaoaaaExLaw
import Derived.Test.YtmieikfmbnaoaaaKpLaw
import Derived.Test.YtmieikfmbnaoaaaRefAt
namespace Go.Proofs.Ytmieikfmbnaoaaa
open Go.RowKit
set_option linter.unusedVariables false

/-- whether the sums keep to the curve -/
def RetSums (f : Cv) (z : List Int) (n : Nat) (w : World) (e : Ending) (w' : World) : Prop := ∃ bl : Bool, (bl = true ↔ SumsP f.at z n) ∧ e = .returned (.bool bl) ∧ Below w.heap.size w w'
set_option maxHeartbeats 1000000 in
theorem sums_any (A Z : Option Addr) (m c n d : Nat) (p i0 : Int) (zs z : List Int) (w : World) (hA : Ints w w.heap.size A m zs) (hZ : Ints w w.heap.size Z n z) (hn : (n : Int) ≤ 1000) (hm : (m : Int) ≤ 1000000) (hf : Cv.Ok ⟨zs, p, i0⟩) (hz : SzOk z n) :
    Calls Try.prog 25 #[.agg #[.slice A m c, .int .i64 p, .int .i64 i0], .slice Z n d] w (RetSums ⟨zs, p, i0⟩ z n w) := by
  have f1' := hf.n1; have f2' := hf.n2; have f3 := hf.p1; have f4 := hf.p2; have f5 := hf.pn; have f6 := hf.i1; have f7 := hf.i2
  have hlm : zs.length = m := hA.1
  simp only at f1' f2' f3 f4 f5 f6 f7
  rw [hlm] at f1' f2' f5
  have E := Lib.hid (L1.new (c := c) (p := p) (i := i0) hA)
  have IZ := Lib.hid (hZ.alloc' (.cells #[.slice A m c, .int .i64 p, .int .i64 i0] 41))
  have HF := Lib.hid hf; have SZ := Lib.hid hz
  clear hA hZ hf hz
  go_enter Try.func25, Try.ntmps25
  go_wp2_with fail
  generalize hwe : w.alloc (.cells #[.slice A m c, .int .i64 p, .int .i64 i0] 41) = we at *
  clear hwe
  go_loopg [10] n (fun gg s10 wx => ∃ i : Nat, i + gg = n ∧ s10 = .int .i64 i ∧ SumsI (Cv.at ⟨zs, p, i0⟩) z n i i ∧ Ints wx wx.heap.size Z n z ∧ L1 w wx A m c p i0 zs)
  case atStart => exact ⟨0, by omega, rfl, SumsI.start _ _ _, IZ.out, E.out⟩
  case round =>
    clear E IZ
    obtain ⟨i, hig, rfl, hsi, hiz, hE⟩ := hrel
    have E := Lib.hid hE; have IZ := Lib.hid hiz; have SI := Lib.hid hsi
    clear hE hiz hsi
    obtain ⟨go, hgo⟩ : ∃ go : Nat, go = gk := ⟨_, rfl⟩
    subst hgo
    obtain ⟨f0, f1, f2, hlf⟩ := E.out.cells
    by_cases hi : i < n
    · have hii : (i : Int) < n := by omega
      go_wp2_with fail
      clear f0 f1 f2 hlf
      go_loopg [6, 7] (n - i) (fun gg s6 s7 wx => ∃ (j : Nat) (S : Int), j + gg = n ∧ i ≤ j ∧ s7 = .int .i64 j ∧ s6 = .int .i64 S ∧ Hid (S = pre z j - pre z i) ∧ SumsI (Cv.at ⟨zs, p, i0⟩) z n i j ∧ Ints wx wx.heap.size Z n z ∧ L1 w wx A m c p i0 zs)
      case atStart => exact ⟨i, 0, by omega, Nat.le_refl _, rfl, rfl, Lib.hid (by omega), SI.out, IZ.out, E.out⟩
      case round =>
        clear E IZ SI
        obtain ⟨j, S, hjg, hij, rfl, rfl, hS, hsi, hiz, hE⟩ := hrel
        have E := Lib.hid hE; have IZ := Lib.hid hiz; have SI := Lib.hid hsi
        clear hE hiz hsi
        obtain ⟨f0, f1, f2, hlf⟩ := E.out.cells
        by_cases hj : j < n
        · have hji : (j : Int) < n := by omega
          have hjj : (i : Int) ≤ j := by omega
          obtain ⟨ab, off, hAe, hbl, hcell⟩ := IZ.out.2 (by omega)
          subst hAe
          have hck := hcell j hj
          have hpb := pre_bd SZ.out j (by omega) i hij
          have hSb : 0 ≤ S ∧ S ≤ 1500 * 1000 := by have := hS.out; omega
          have hS0 := hSb.1; have hS1 := hSb.2
          have hxb := SZ.out j hj
          obtain ⟨x, hx⟩ : ∃ x, x = nth z j := ⟨_, rfl⟩
          rw [← hx] at hck hxb
          have hx0 := hxb.1; have hx1 := hxb.2
          have hS' := Lib.hid (show S + x = pre z (j + 1) - pre z i from by rw [pre_succ, hx]; have := hS.out; omega)
          clear hcell hx hpb hSb hxb hS
          obtain ⟨t, ht⟩ : ∃ t : Nat, t = j - i + 1 := ⟨_, rfl⟩
          have e1 : IntKind.i64.wrap ((j : Int) - (i : Int) + 1) = (t : Int) := by rw [IntWalk.i64_in _ (by omega)]; omega
          have e2 : (j : Int) - (i : Int) + 1 = (t : Int) := by omega
          have ht1 : t ≤ 1000 := by omega
          have HT := Lib.hid ht
          clear ht
          go_wp2_with fail
          refine (refAt_any A m c p i0 (t : Int) zs _ (by exact E.out.ints) (by omega) (by omega) (by omega) (by omega) (by omega) HF.out.nn (by omega) (by omega)).mono ?_
          rw [Int.toNat_natCast]
          obtain ⟨v, hv⟩ : ∃ v, v = Cv.at ⟨zs, p, i0⟩ t := ⟨_, rfl⟩
          rw [← hv]
          have HV := Lib.hid hv
          clear hv
          rintro e wq ⟨rfl, hb⟩
          replace E := Lib.hid (E.out.below hb); replace IZ := Lib.hid (IZ.out.ext hb)
          clear hb
          clear f0 f1 f2 hlf
          obtain ⟨f0, f1, f2, hlf⟩ := E.out.cells
          have hbl2 : ab < wq.heap.size := by
            obtain ⟨b', off', e', h1, _⟩ := IZ.out.2 (by omega)
            cases e'; exact h1
          clear hck hbl e1 e2
          by_cases hc : v < S + x
          · have F := Lib.hid (show (false = true ↔ SumsP (Cv.at ⟨zs, p, i0⟩) z n) from ⟨fun h => absurd h (by simp), fun h => by
              have h1 := h i j hij hj
              rw [← hS'.out, ← HT.out, ← HV.out] at h1
              omega⟩)
            have bw := E.out.bw
            go_wp2_with fail
            go_ret
            exact ⟨false, F.out, rfl, bw⟩
          · have F := Lib.hid (SI.out.step (show pre z (j + 1) - pre z i ≤ Cv.at ⟨zs, p, i0⟩ (j - i + 1) from by rw [← hS'.out, ← HT.out, ← HV.out]; omega))
            go_wp2_with fail
            go_roundg (gk - 1)
            case measure => omega
            case rel => exact ⟨j + 1, _, by omega, by omega, by go_num, rfl, hS', F.out, IZ.out, E.out⟩
        · have hjn : j = n := by omega
          subst hjn
          have F := Lib.hid SI.out.next
          clear hj hjg
          clear f0 f1 f2 hlf
          go_wp2_with fail
          go_roundg (go - 1)
          case measure => omega
          case rel => exact ⟨i + 1, by omega, by go_num, F.out, IZ.out, E.out⟩
    · have hin : i = n := by omega
      subst hin
      have F := Lib.hid SI.out.done
      have bw := E.out.bw
      clear f0 f1 f2 hlf
      go_wp2_with fail
      go_ret
      exact ⟨true, ⟨fun _ => F.out, fun _ => rfl⟩, rfl, bw⟩
theorem tok_cur {B b R r : Int} (hB : GOk B b) (hR : GOk R r) (hB1 : B ≤ 1000) (hr : r ≤ 120) (hR1 : R ≤ 1000) : ∃ g, NF (tokV B b R r) g ∧ Lim g ∧ g.Ok := by
  have hb0 := hB.1.1; have hB0 := hB.2; have hr0 := hR.1.1; have hR0 := hR.2
  refine lim_of (tok_up hB0 hb0 hR0 hr0) (p := r.toNat) (i := R) (by omega) (by omega) (tok_per hb0 hr0) (fun t ht => ?_) (by omega)
  by_cases h0 : t = 0
  · rw [h0, tok_zero]; omega
  · have h1 := tok_le hB0 hb0 hR0 hr0 (t := t) (by omega)
    have h2 : R * ((t : Int) - 1) ≤ 1000 * 120 := Int.mul_le_mul hR1 (by omega) (by omega) (by omega)
    omega
theorem tok_made {B b R r : Int} (hB : GOk B b) (hR : GOk R r) (hr : r ≤ 120) {f g : Cv} {er : Int} (h : TokS B b R r f er) (hg : NF (tokV B b R r) g) (hl : Lim g) : f = g ∧ er = 0 := by
  rcases h with ⟨h, _⟩ | ⟨_, _, h, _⟩ | ⟨_, _, _, h⟩
  · exact absurd ⟨hB, hR⟩ h
  · omega
  · exact h.eq hg hl
theorem szok_set {z : List Int} {k i : Nat} {v : Int} (h : SzOk z k) (hl : z.length = k) (hi : i < k) (h0 : 0 ≤ v) (h1 : v ≤ 1500) : SzOk (z.set i v) k := fun x hx => by
  rw [nth_set z i x v (by omega)]
  split
  · exact ⟨h0, h1⟩
  · exact h x hx
set_option maxHeartbeats 4000000 in
set_option maxRecDepth 100000 in
theorem keeps_any (A0 : Option Addr) (n0 c0 : Nat) (L0 : List Int) (w : World) (hL : Ints w w.heap.size A0 n0 L0) (hc0 : n0 ≤ c0) (hn0 : (n0 : Int) ≤ 9223372036854775807) :
    Calls Try.prog 4 #[.slice A0 n0 c0] w fun e w' => e = .returned (.bool true) ∧ Below w.heap.size w w' := by
  obtain ⟨i0, hi0, hz0, hz1, hz2⟩ := info_parts info_int
  have HZ := Lib.hid (And.intro hi0 (And.intro hz0 (And.intro hz1 hz2)))
  clear hi0 hz0 hz1 hz2
  go_enter Try.func4, Try.ntmps4
  go_wp2_with fail
  refine (new_any A0 n0 c0 L0 w hL hc0 hn0).mono ?_
  rintro e w1 ⟨rfl, hS1, hb1⟩
  have E := Lib.hid (EnvL.start hS1 hb1)
  clear hL hS1 hb1
  -- 30 top, 3 most, _ the world before, w2 the world behind, B b the fraction, hF1 its facts
  go_wp2_with fail
  refine (srcFr_any w.heap.size 30 3 _ (by exact E.out.s) (by omega) (by omega) (by omega) (by omega)).mono ?_
  rintro e w2 ⟨B, b, hF1, rfl, hS, hk⟩
  have E := Lib.hid (E.out.kept hS hk)
  clear hS hk
  -- 6 top, 4 most, _ the world before, w3 the world behind, R r the fraction, hF2 its facts
  go_wp2_with fail
  refine (srcFr_any w.heap.size 6 4 _ (by exact E.out.s) (by omega) (by omega) (by omega) (by omega)).mono ?_
  rintro e w3 ⟨R, r, hF2, rfl, hS, hk⟩
  have E := Lib.hid (E.out.kept hS hk)
  clear hS hk
  obtain ⟨hB, hb3, hB90⟩ := hF1
  obtain ⟨hR, hr4, hR24⟩ := hF2
  obtain ⟨g, hg1, hg2, hg3⟩ := tok_cur hB hR (by omega) (by omega) (by omega)
  have HG := Lib.hid hg1; have HG2 := Lib.hid hg2; have HG3 := Lib.hid hg3; have HB := Lib.hid hB; have HR := Lib.hid hR
  have g2 := hg3.n2
  clear hg1 hg2 hg3 hB hR
  have hpP := E.out.s.lt
  replace E := Lib.hid (E.out.alloc (.cells #[.int .i64 B, .int .i64 b, .int .i64 R, .int .i64 r] 25))
  have BB := Lib.hid (Blk.new w3 25 #[.int .i64 B, .int .i64 b, .int .i64 R, .int .i64 r])
  go_upto_region 3 with fail
  generalize hwe : w3.alloc (.cells #[.int .i64 B, .int .i64 b, .int .i64 R, .int .i64 r] 25) = w4 at *
  clear hwe
  generalize w3.heap.size = P at *
  go_wp2_with fail
  refine (n_any w.heap.size 12 w4 (by exact E.out.s) (by omega) (by omega)).mono ?_
  rintro e w5 ⟨z, hz0, hz1, rfl, hS, hk⟩
  have E := Lib.hid (E.out.kept hS hk)
  replace BB := Lib.hid (BB.out.kept (by omega) hk)
  obtain ⟨k, rfl⟩ := Int.eq_ofNat_of_zero_le hz0
  clear hz0 hS hk
  have hk12 : k < 12 := by omega
  obtain ⟨hi0, hz0, hy1, hy2⟩ := HZ.out
  go_wp2_with (at_make; refine wpList_make_full _ rfl _ _ 26 rfl w5.heap.size 3 i0 _ 1 Try.underlying26 hi0 hz0 hy1 .i64 .i64 _ _ k rfl rfl rfl rfl (by rw [hy2]; omega) (by unfold maxLen; omega) (by simp) ?_; intro w6 own1 grow1)
  have hb6 : Below w5.heap.size w5 w6 := (Below.refl _ _).grown grow1 (by simp) (by simp)
  have SM := Lib.hid (own_zeros own1)
  have hgp := E.out.s.lt
  have hPg := BB.out.lt
  have E := Lib.hid (E.out.below hb6); replace BB := Lib.hid (BB.out.below hb6 hPg)
  clear hi0 hz0 hy1 hy2 own1 grow1 hb6 hz1 HZ
  generalize w5.heap.size = q at *
  go_loopg [6, 23] k (fun gg s6 s23 wx => ∃ (i : Nat) (zs : List Int), i + gg = k ∧ s23 = .int .i64 i ∧ Hid (zs.length = k ∧ SzOk zs k) ∧ RowI wx q zs ∧ EnvL w.heap.size w wx [] ∧ Blk wx P 25 #[.int .i64 B, .int .i64 b, .int .i64 R, .int .i64 r])
  case atStart => exact ⟨0, List.replicate k 0, by omega, rfl, Lib.hid ⟨by simp, fun x hx => by rw [nth_replicate]; omega⟩, SM.out, E.out, BB.out⟩
  case round =>
    clear SM E BB
    obtain ⟨i, zs, hig, rfl, HLZ, hR, hE, hBB⟩ := hrel
    have SM := Lib.hid hR; have E := Lib.hid hE; have BB := Lib.hid hBB
    clear hR hE hBB
    by_cases hi : i < k
    · have hii : (i : Int) < k := by omega
      have hps := E.out.s.lt
      have il := ints_litC wr [0, 0, 1, 4, 9, 20]
      simp only [List.map_cons, List.map_nil] at il
      have IL := Lib.hid il
      have E := Lib.hid (E.out.alloc (.cells #[.int .i64 0, .int .i64 0, .int .i64 1, .int .i64 4, .int .i64 9, .int .i64 20] 3)); replace BB := Lib.hid (BB.out.alloc (.cells #[.int .i64 0, .int .i64 0, .int .i64 1, .int .i64 4, .int .i64 9, .int .i64 20] 3))
      have SM := Lib.hid (SM.out.alloc (.cells #[.int .i64 0, .int .i64 0, .int .i64 1, .int .i64 4, .int .i64 9, .int .i64 20] 3))
      clear il
      go_wp2_with fail
      refine (pick_any w.heap.size (some ⟨wr.heap.size, 0, none⟩) 6 6 [0, 0, 1, 4, 9, 20] _ (by exact E.out.s) (by exact IL.out) (fun b off s e => by cases e; omega) (by omega) (by omega)).mono ?_
      rintro e w7 ⟨⟨jj, hjj, rfl⟩, hS, hk⟩
      have E := Lib.hid (E.out.kept hS hk)
      have SM := Lib.hid (SM.out.kept (by omega) hk); replace BB := Lib.hid (BB.out.kept (by omega) hk)
      have hv : 0 ≤ nth [0, 0, 1, 4, 9, 20] jj ∧ nth [0, 0, 1, 4, 9, 20] jj ≤ 1500 := by
        have h : ∀ k, k < 6 → 0 ≤ nth [0, 0, 1, 4, 9, 20] k ∧ nth [0, 0, 1, 4, 9, 20] k ≤ 1500 := by decide
        exact h jj hjj
      generalize nth [0, 0, 1, 4, 9, 20] jj = v at hv ⊢
      obtain ⟨hv0, hv1⟩ := hv
      clear hS hk IL hjj hps
      have q0 := SM.out.cell i (by have := HLZ.out.1; omega)
      have z0 := SM.out.frozen i
      have hlt := SM.out.lt
      go_wp2_with fail
      go_roundg (gk - 1)
      case measure => omega
      case rel => exact ⟨i + 1, zs.set i v, by omega, by go_num, Lib.hid ⟨by rw [List.length_set]; exact HLZ.out.1, szok_set HLZ.out.2 HLZ.out.1 hi hv0 hv1⟩, SM.out.set_ i (by have := HLZ.out.1; omega) v, ⟨E.out.s.far (by show w.heap.size < q; omega) _, E.out.k.setCell (.inr (by show w.heap.size ≤ q; omega)) _, fun x hx => by cases hx⟩, BB.out.far (by show P ≠ q; omega) _⟩
    · have hin : i = k := by omega
      subst hin
      clear hi hig
      obtain ⟨k, hkk⟩ : ∃ k : Nat, k = i := ⟨_, rfl⟩
      subst hkk
      have hzi := SM.out.ints
      rw [HLZ.out.1] at hzi
      have IZ := Lib.hid hzi
      have SZ := Lib.hid HLZ.out.2
      have BW := Lib.hid E.out.fin
      clear hzi SM E HLZ
      have hB0 := HB.out.2; have hb0 := HB.out.1.1; have hR0 := HR.out.2; have hr0 := HR.out.1.1
      obtain ⟨x0, x1, x2, x3⟩ : _ ∧ _ ∧ _ ∧ _ := ⟨BB.out.cell 0, BB.out.cell 1, BB.out.cell 2, BB.out.cell 3⟩
      simp at x0 x1 x2 x3
      have hlx := BB.out.lt
      go_wp2_with fail
      refine (token_any B b R r _).mono ?_
      rintro e w7 ⟨f, er, hS, A, n, c, rfl, hI, hA, hb⟩
      obtain ⟨rfl, rfl⟩ : f = g ∧ er = 0 := tok_made HB.out HR.out (by omega) hS HG.out HG2.out
      have hn : f.vals.length = n := hI.1
      rw [hn] at g2
      have FA := Lib.hid (By.new (L := 0) (B := 0) (c := c) hI (fun b off s e => Nat.zero_le _) (Nat.le_refl _) (Nat.zero_le _))
      replace IZ := Lib.hid ((IZ.out.ext hb).alloc' (.cells #[.slice A n c, .int .i64 f.per, .int .i64 f.inc] 41))
      replace BB := Lib.hid ((BB.out.below hb BB.out.lt).alloc (.cells #[.slice A n c, .int .i64 f.per, .int .i64 f.inc] 41))
      replace BW := Lib.hid (bthen (bthen BW.out hb) (balloc _ (.cells #[.slice A n c, .int .i64 f.per, .int .i64 f.inc] 41)))
      clear hS hI hA hb
      clear x0 x1 x2 x3 hlx
      go_upto_region 10 with fail
      generalize hwe : w7.alloc (.cells #[.slice A n c, .int .i64 f.per, .int .i64 f.inc] 41) = w8 at *
      clear hwe
      generalize w7.heap.size = PF at *
      obtain ⟨x0, x1, x2, x3⟩ : _ ∧ _ ∧ _ ∧ _ := ⟨BB.out.cell 0, BB.out.cell 1, BB.out.cell 2, BB.out.cell 3⟩
      simp at x0 x1 x2 x3
      have hlx := BB.out.lt
      go_wp2_with fail
      refine (excess_any B b R r (some ⟨q, 0, none⟩) k k zs _ (by exact IZ.out) (by omega)).mono ?_
      rintro e w9 ⟨x, y, er, hS, rfl, hb⟩
      obtain ⟨M, hM, hxy, hok, rfl⟩ : ∃ M, ExcM zs R r k M ∧ x * r = M * y ∧ FOk x y ∧ er = 0 := by
        rcases hS with ⟨h, _⟩ | ⟨_, M, hM, rfl, rfl, rfl⟩
        · exact absurd ⟨HB.out, HR.out, by omega, SZ.out⟩ h
        · have hM1 := hM.le SZ.out (Nat.le_refl _) hR0 (by omega)
          have hM2 : 1500 * (k : Int) * r ≤ 1500 * 12 * 4 := Int.mul_le_mul (by omega) hr4 (by omega) (by omega)
          obtain ⟨h1, h2⟩ := fnew_small (m := M) (d := r) hM.1 (by omega) hr0 (by omega)
          exact ⟨M, hM, h2, fnew_ok hr0 h1, h1⟩
      have HM := Lib.hid hM; have HXY := Lib.hid hxy; have HOK := Lib.hid hok
      replace FA := Lib.hid ((FA.out.below hb).alloc (.cells #[.int .i64 x, .int .i64 y] 23))
      replace IZ := Lib.hid ((IZ.out.ext hb).alloc' (.cells #[.int .i64 x, .int .i64 y] 23))
      replace BB := Lib.hid ((BB.out.below hb BB.out.lt).alloc (.cells #[.int .i64 x, .int .i64 y] 23))
      replace BW := Lib.hid (bthen (bthen BW.out hb) (balloc _ (.cells #[.int .i64 x, .int .i64 y] 23)))
      have XB := Lib.hid (Blk.new w9 23 #[.int .i64 x, .int .i64 y])
      clear hS hM hxy hok hb
      clear x0 x1 x2 x3 hlx
      go_upto_region 11 with fail
      generalize hwe : w9.alloc (.cells #[.int .i64 x, .int .i64 y] 23) = wa at *
      clear hwe
      generalize w9.heap.size = PX at *
      obtain ⟨cm, hcm⟩ : ∃ cm, cm = fcmp x y B b := ⟨_, rfl⟩
      have HCM := Lib.hid hcm
      clear hcm
      obtain ⟨a0, a1, a2, hla⟩ := FA.out.cells
      obtain ⟨y0, y1⟩ : _ ∧ _ := ⟨XB.out.cell 0, XB.out.cell 1⟩
      simp at y0 y1
      have hly := XB.out.lt
      obtain ⟨x0, x1, x2, x3⟩ : _ ∧ _ ∧ _ ∧ _ := ⟨BB.out.cell 0, BB.out.cell 1, BB.out.cell 2, BB.out.cell 3⟩
      simp at x0 x1 x2 x3
      have hlx := BB.out.lt
      cases htb : decide (cm ≤ 0)
      all_goals
        go_region_held3 (fun w' => w'.cell? ⟨PF, 0, none⟩ = some (.slice A n c) ∧ w'.cell? ⟨PF, 1, none⟩ = some (.int .i64 f.per) ∧ w'.cell? ⟨PF, 2, none⟩ = some (.int .i64 f.inc) ∧ w'.cell? ⟨P, 0, none⟩ = some (.int .i64 B) ∧ w'.cell? ⟨P, 1, none⟩ = some (.int .i64 b) ∧ w'.cell? ⟨PX, 0, none⟩ = some (.int .i64 x) ∧ w'.cell? ⟨PX, 1, none⟩ = some (.int .i64 y)) (first | go_keep)
          (first
            | (go_at_call 24
               refine (refValid_any A n c f.per f.inc f.vals _ (by exact FA.out.ints.drew) (by omega)).mono ?_
               rw [show Cv.okB ⟨f.vals, f.per, f.inc⟩ = true from Cv.okB_true HG3.out]
               rintro e wq ⟨rfl, hb⟩
               have hb := bofdrew hb
               replace FA := Lib.hid (FA.out.below hb); replace IZ := Lib.hid (IZ.out.ext hb); replace XB := Lib.hid (XB.out.below hb XB.out.lt); replace BB := Lib.hid (BB.out.below hb BB.out.lt); replace BW := Lib.hid (bthen BW.out hb)
               clear hb
               clear a0 a1 a2 hla y0 y1 hly
               clear x0 x1 x2 x3 hlx
               obtain ⟨a0, a1, a2, hla⟩ := FA.out.cells
               obtain ⟨y0, y1⟩ : _ ∧ _ := ⟨XB.out.cell 0, XB.out.cell 1⟩
               simp at y0 y1
               have hly := XB.out.lt
               obtain ⟨x0, x1, x2, x3⟩ : _ ∧ _ ∧ _ ∧ _ := ⟨BB.out.cell 0, BB.out.cell 1, BB.out.cell 2, BB.out.cell 3⟩
               simp at x0 x1 x2 x3
               have hlx := BB.out.lt
               skip)
            | (go_at_call 25
               refine (sums_any A (some ⟨q, 0, none⟩) n c k k f.per f.inc f.vals zs _ (by exact FA.out.ints) (by exact IZ.out) (by omega) (by omega) HG3.out SZ.out).mono ?_
               rintro e wq2 ⟨bl, hbl, rfl, hb⟩
               rw [show SumsP (Cv.at ⟨f.vals, f.per, f.inc⟩) zs k ↔ SumsP (tokV B b R r) zs k from SumsP.congr HG.out.at] at hbl
               have hbl2 := keeps_bool HB.out hr0 HOK.out HXY.out HM.out hbl
               rw [← HCM.out, htb] at hbl2
               subst hbl2
               clear hbl
               replace FA := Lib.hid (FA.out.below hb); replace IZ := Lib.hid (IZ.out.ext hb); replace XB := Lib.hid (XB.out.below hb XB.out.lt); replace BB := Lib.hid (BB.out.below hb BB.out.lt); replace BW := Lib.hid (bthen BW.out hb)
               clear hb
               clear a0 a1 a2 hla y0 y1 hly
               clear x0 x1 x2 x3 hlx
               obtain ⟨a0, a1, a2, hla⟩ := FA.out.cells
               obtain ⟨y0, y1⟩ : _ ∧ _ := ⟨XB.out.cell 0, XB.out.cell 1⟩
               simp at y0 y1
               have hly := XB.out.lt
               obtain ⟨x0, x1, x2, x3⟩ : _ ∧ _ ∧ _ ∧ _ := ⟨BB.out.cell 0, BB.out.cell 1, BB.out.cell 2, BB.out.cell 3⟩
               simp at x0 x1 x2 x3
               have hlx := BB.out.lt
               skip)
            | (go_at_call 26
               refine (rcmp_any x y B b _ HOK.out HB.out.1).mono ?_
               rw [← HCM.out]
               rintro e wq3 ⟨rfl, hb⟩
               replace FA := Lib.hid (FA.out.below hb); replace IZ := Lib.hid (IZ.out.ext hb); replace XB := Lib.hid (XB.out.below hb XB.out.lt); replace BB := Lib.hid (BB.out.below hb BB.out.lt); replace BW := Lib.hid (bthen BW.out hb)
               clear hb
               clear a0 a1 a2 hla y0 y1 hly
               clear x0 x1 x2 x3 hlx
               obtain ⟨a0, a1, a2, hla⟩ := FA.out.cells
               obtain ⟨y0, y1⟩ : _ ∧ _ := ⟨XB.out.cell 0, XB.out.cell 1⟩
               simp at y0 y1
               have hly := XB.out.lt
               obtain ⟨x0, x1, x2, x3⟩ : _ ∧ _ ∧ _ ∧ _ := ⟨BB.out.cell 0, BB.out.cell 1, BB.out.cell 2, BB.out.cell 3⟩
               simp at x0 x1 x2 x3
               have hlx := BB.out.lt
               skip)
            | (go_at_call 15
               refine (awake11_any _).mono ?_
               rintro e wq4 ⟨rfl, hb⟩
               replace FA := Lib.hid (FA.out.below hb); replace IZ := Lib.hid (IZ.out.ext hb); replace XB := Lib.hid (XB.out.below hb XB.out.lt); replace BB := Lib.hid (BB.out.below hb BB.out.lt); replace BW := Lib.hid (bthen BW.out hb)
               clear hb
               clear a0 a1 a2 hla y0 y1 hly
               clear x0 x1 x2 x3 hlx
               obtain ⟨a0, a1, a2, hla⟩ := FA.out.cells
               obtain ⟨y0, y1⟩ : _ ∧ _ := ⟨XB.out.cell 0, XB.out.cell 1⟩
               simp at y0 y1
               have hly := XB.out.lt
               obtain ⟨x0, x1, x2, x3⟩ : _ ∧ _ ∧ _ ∧ _ := ⟨BB.out.cell 0, BB.out.cell 1, BB.out.cell 2, BB.out.cell 3⟩
               simp at x0 x1 x2 x3
               have hlx := BB.out.lt
               skip))
        all_goals
          go_wp2_with fail
          go_ret
          exact ⟨rfl, BW.out⟩
end Go.Proofs.Ytmieikfmbnaoaaa
