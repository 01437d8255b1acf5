/- The statement ClosureSums: the walk. -/
import Derived.Test.YthdibkmjoiipgaaClKit
import Derived.Test.YthdibkmjoiipgaaSrcCurve
import Derived.Deep.DeepCutAuto
namespace Go.Proofs.Ythdibkmjoiipgaa
open Go.RowKit
set_option linter.unusedVariables false
/-- the block Z is a variable that holds a certificate -/
structure Vp (w : World) (Z : Nat) (A : Option Addr) (n c : Nat) (r : Cv) (fr : Int) (B : Option Addr) (m d : Nat) (cs : List Int) : Prop where
  blk : Blk w Z 63 #[.slice A n c, .int .i64 r.per, .int .i64 r.inc, .int .i64 fr, .slice B m d]
  ints : Ints w w.heap.size A n r.vals
  jnts : Ints w w.heap.size B m cs
theorem Vp.below {w w' : World} {Z n c m d : Nat} {A B : Option Addr} {r : Cv} {fr : Int} {cs : List Int} (h : Vp w Z A n c r fr B m d cs) (hb : Below w.heap.size w w') : Vp w' Z A n c r fr B m d cs := ⟨h.blk.below hb h.blk.lt, h.ints.ext hb, h.jnts.ext hb⟩
theorem Vp.new {w : World} {n c m d : Nat} {A B : Option Addr} {r : Cv} {fr : Int} {cs : List Int} (h : Ints w w.heap.size A n r.vals) (k : Ints w w.heap.size B m cs) : Vp (w.alloc (.cells #[.slice A n c, .int .i64 r.per, .int .i64 r.inc, .int .i64 fr, .slice B m d] 63)) w.heap.size A n c r fr B m d cs := ⟨Blk.new _ _ _, h.alloc' _, k.alloc' _⟩
theorem ints_kept {w w' : World} {p n : Nat} {A : Option Addr} {zs : List Int} (h : Ints w w.heap.size A n zs) (ha : ∀ b off s, A = some ⟨b, off, s⟩ → b ≠ p) (k : Kept w.heap.size p w w') : Ints w' w'.heap.size A n zs := h.kept0 (fun _ => ha) k
theorem Vp.kept {w w' : World} {p Z n c m d : Nat} {A B : Option Addr} {r : Cv} {fr : Int} {cs : List Int} (h : Vp w Z A n c r fr B m d cs) (hZ : Z ≠ p) (hA : ∀ b off s, A = some ⟨b, off, s⟩ → b ≠ p) (hB : ∀ b off s, B = some ⟨b, off, s⟩ → b ≠ p) (k : Kept w.heap.size p w w') : Vp w' Z A n c r fr B m d cs :=
  ⟨h.blk.kept hZ k, ints_kept h.ints hA k, ints_kept h.jnts hB k⟩
theorem ck_len {f h : Cv} {fr : Int} {cs : List Int} (H : CkC f h fr cs) : cs.length ≤ 1100 := by
  obtain ⟨hf, hh, _, _, a, ha, hl, hA, _, _⟩ := H
  have h1 := cst_le (nf_small hf ha).1; have h2 := cst_le hh
  rw [hA.2.1]
  unfold clF
  omega
set_option maxHeartbeats 4000000 in
set_option maxRecDepth 100000 in
theorem clSm_any (A0 : Option Addr) (n0 c0 : Nat) (L : List Int) (w : World) (hL : Ints w w.heap.size A0 n0 L) (hc0 : n0 ≤ c0) (hn0 : (n0 : Int) ≤ 9223372036854775807) :
    Calls Try.prog 8 #[.slice A0 n0 c0] w fun e w' => e = .returned (.bool true) ∧ Below w.heap.size w w' := by
  go_enter Try.func8, Try.ntmps8
  go_wp2_with fail
  refine (new_any A0 n0 c0 L w hL hc0 hn0).mono ?_
  rintro e w1 ⟨rfl, hS1, hb1⟩
  have E := Lib.hid (EnvL.start hS1 hb1)
  clear hL hS1 hb1
  go_wp2_with fail
  refine (srcCurve2_any w.heap.size 7 w1 (by exact E.out.s) (by omega) (by omega)).mono ?_
  rintro e w2 ⟨f, A, n, c, hD, hcf, rfl, hI, hA, hS, hk⟩
  have hps := E.out.s.lt
  have E := Lib.hid (show EnvL w.heap.size w _ _ from (E.out.kept hS hk).push (X := ⟨A, n, c, f⟩) (CR.In.new hI hA hps))
  dsimp only [List.cons_append, List.nil_append] at E
  have Hf := Lib.hid (show DrawC 7 f from hD)
  have HCf := Lib.hid hcf
  have hlenf := hI.1
  try simp only at hlenf
  have hnf : n ≤ 20 := by have h1 := Hf.out.len; omega
  clear hlenf
  clear hD hI hA hS hk hps hcf
  have FO := Lib.hid Hf.out.ok
  have hp1 := Hf.out.ok.p1; have hpn := Hf.out.ok.pn; have hi1 := Hf.out.ok.i1; have hi2 := Hf.out.ok.i2
  have hlf : f.vals.length = n := (E.out.get 0 rfl).inn.ints.1
  rw [hlf] at hpn
  clear Hf HCf hlf
  go_upto_region 3 with fail
  generalize hwe : w2.alloc (.cells #[.slice A n c, .int .i64 f.per, .int .i64 f.inc] 46) = we at *
  clear hwe
  obtain ⟨x0, x1, x2, hlx⟩ := (E.out.get 0 rfl).cells
  go_wp2_with fail
  refine (clprv_any A n c f _ (by exact (E.out.get 0 rfl).inn.ints) (by omega)).mono ?_
  rintro e w4 ⟨r, fr, cs, er, hS, A4, n4, c4, B4, m4, d4, hc4, hd4, rfl, hI, hJ, hA, hB, hb⟩
  have hps := E.out.s.lt
  have NA := Lib.hid (show ∀ b off s, A4 = some ⟨b, off, s⟩ → b ≠ w.heap.size from fun b off s e => by have := hA b off s e; omega)
  have NB := Lib.hid (show ∀ b off s, B4 = some ⟨b, off, s⟩ → b ≠ w.heap.size from fun b off s e => by have := hB b off s e; omega)
  have VP := Lib.hid (Vp.new (c := c4) (d := d4) (fr := fr) hI hJ)
  have E := Lib.hid ((E.out.below hb).alloc (.cells #[.slice A4 n4 c4, .int .i64 r.per, .int .i64 r.inc, .int .i64 fr, .slice B4 m4 d4] 63))
  have NZ := Lib.hid (show w4.heap.size ≠ w.heap.size from by have := hb.size; omega)
  have PV := Lib.hid hS
  clear hS hc4 hd4 hI hJ hA hB hb hps x0 x1 x2 hlx
  go_upto_region 4 with fail
  generalize hwe : w4.alloc (.cells #[.slice A4 n4 c4, .int .i64 r.per, .int .i64 r.inc, .int .i64 fr, .slice B4 m4 d4] 63) = w5 at *
  clear hwe
  generalize w4.heap.size = ZP at *
  rcases pv_er FO.out PV.out with rfl | ⟨rfl, hrn⟩
  case inr =>
    clear hrn PV
    go_wp2_with fail
    refine (awake9_any _).mono ?_
    rintro e wq ⟨rfl, hb⟩
    have bw := (E.out.below hb).fin
    go_wp2_with fail
    go_ret
    exact ⟨rfl, bw⟩
  case inl =>
    have CK := Lib.hid (pv_ck PV.out)
    clear PV
    have hro := (ck_get CK.out).1
    have hl4 : n4 ≤ 400 := by have h1 := hro.n2; have h2 : r.vals.length = n4 := VP.out.ints.1; omega
    have RO := Lib.hid hro
    clear hro
    go_wp2_with fail
    go_loopg [7, 8, 9, 10, 11, 12, 13] 12 (fun gg s7 s8 s9 s10 s11 s12 s13 wx => ∃ (i t S : Nat), i + gg = 12 ∧ s9 = .int .i64 i ∧ s7 = .int .i64 t ∧ s8 = .int .i64 S ∧ t ≤ 9 * i ∧ S ≤ 430570471424 * i ∧ (¬ r.infAt t ∧ r.at t ≤ S) ∧ EnvL w.heap.size w wx [(w2.heap.size, ⟨A, n, c, f⟩)] ∧ Vp wx ZP A4 n4 c4 r fr B4 m4 d4 cs)
    case atStart => exact ⟨0, 0, 0, rfl, rfl, rfl, rfl, by omega, by omega, by have := ck_sum0 CK.out; exact ⟨this.1, by omega⟩, E.out, VP.out⟩
    case round =>
      clear E VP
      obtain ⟨i, t, S, hig, rfl, rfl, rfl, ht9, hS9, hrS, hE, hVP⟩ := hrel
      have E := Lib.hid hE; have VP := Lib.hid hVP; have RS := Lib.hid hrS
      clear hE hVP hrS
      by_cases hi : i < 12
      case pos =>
        have hii : (i : Int) < 12 := by omega
        go_wp2_with fail
        refine (n_any w.heap.size 9 _ (by exact E.out.s) (by omega) (by omega)).mono ?_
        rintro e w6 ⟨z, hz0, hz1, rfl, hSk, hk⟩
        have E := Lib.hid (E.out.kept hSk hk)
        replace VP := Lib.hid (VP.out.kept NZ.out NA.out NB.out hk)
        obtain ⟨z, rfl⟩ := Int.eq_ofNat_of_zero_le hz0
        clear hSk hk hz0
        obtain ⟨k, hkz⟩ : ∃ k : Nat, k = 1 + z := ⟨_, rfl⟩
        have hk9 : k ≤ 9 := by omega
        have HK := Lib.hid hkz
        have hz9 : (z : Int) ≤ 8 := by omega
        clear hkz hz1
        obtain ⟨x0, x1, x2, hlx⟩ := (E.out.get 0 rfl).cells
        go_wp2_with fail
        refine (refAt_any A n c f.per f.inc (1 + (z : Int)) f.vals _ (by exact (E.out.get 0 rfl).inn.ints) (by omega) (by omega) (by omega) (by omega) (by omega) FO.out.nn (by omega) (by omega)).mono ?_
        obtain ⟨v, hv⟩ : ∃ v, v = f.at k := ⟨_, rfl⟩
        have HV := Lib.hid hv
        rw [show (1 + (z : Int)).toNat = k from by have := HK.out; omega, show Cv.at ⟨f.vals, f.per, f.inc⟩ k = v from hv.symm]
        rintro e w7 ⟨rfl, hb⟩
        have E := Lib.hid (E.out.below hb)
        replace VP := Lib.hid (VP.out.below hb)
        clear hb hv x0 x1 x2 hlx
        by_cases hvi : v = inf
        case pos =>
          have d1 : (v == 4611686018427387904) = true := by unfold inf at hvi; simpa using hvi
          clear hvi
          go_wp2_with fail
          go_roundg (gk - 1)
          case measure => omega
          case rel => exact ⟨i + 1, t, S, by omega, by go_num, rfl, rfl, by omega, by omega, RS.out, E.out, VP.out⟩
        case neg =>
          have d1 : (v == 4611686018427387904) = false := by unfold inf at hvi; simpa using hvi
          have nfi : ¬ f.infAt k := fun q => hvi (by rw [HV.out]; exact q.2)
          have hvb := FO.out.fin_bd nfi (by omega)
          have hsum := ck_sum CK.out RS.out.1 RS.out.2 nfi
          rw [← HV.out] at hvb hsum
          have SM := Lib.hid hsum
          obtain ⟨V, rfl⟩ := Int.eq_ofNat_of_zero_le hvb.1
          clear hvi nfi hsum
          have hvb2 : V ≤ 430570471424 := by omega
          clear hvb
          obtain ⟨⟨p0, p1, p2, p3, p4⟩, _, hlp⟩ := VP.out.blk.q5
          have hti9 : (t : Int) ≤ 108 := by omega
          have hSi9 : (S : Int) ≤ 5166845657088 := by omega
          have hVi9 : (V : Int) ≤ 430570471424 := by omega
          go_wp2_with fail
          refine (value_any A4 n4 c4 r.per r.inc ((t : Int) + (1 + (z : Int))) r.vals _ (by exact VP.out.ints) (by omega)).mono ?_
          rw [show Cv.value ⟨r.vals, r.per, r.inc⟩ ((t : Int) + (1 + (z : Int))) = (r.at (t + k), 0) from by
            unfold Cv.value
            rw [if_pos (Cv.okB_true RO.out), if_neg (by omega), show ((t : Int) + (1 + (z : Int))).toNat = t + k from by have := HK.out; omega]]
          obtain ⟨y, hy⟩ : ∃ y, y = r.at (t + k) := ⟨_, rfl⟩
          have hyS : y ≤ (S : Int) + (V : Int) := by rw [hy]; exact SM.out.2
          rw [← hy]
          rintro e w8 ⟨rfl, hb⟩
          have E := Lib.hid (E.out.below hb)
          replace VP := Lib.hid (VP.out.below hb)
          have d2 : decide ((S : Int) + (V : Int) < y) = false := by simpa using hyS
          have d3 : decide (y > (S : Int) + (V : Int)) = false := by simpa using hyS
          clear hb hy p0 p1 p2 p3 p4 hlp hyS
          go_wp2_with fail
          go_roundg (gk - 1)
          case measure => omega
          case rel => exact ⟨i + 1, t + k, S + V, by omega, by go_num, by congr 1; have := HK.out; omega, by congr 1, by omega, by omega, ⟨SM.out.1, by have := SM.out.2; omega⟩, E.out, VP.out⟩
      case neg =>
        have hii : ¬ (i : Int) < 12 := by omega
        obtain ⟨x0, x1, x2, hlx⟩ := (E.out.get 0 rfl).cells
        obtain ⟨⟨p0, p1, p2, p3, p4⟩, _, hlp⟩ := VP.out.blk.q5
        have hm4 : m4 ≤ 1100 := by have h1 := ck_len CK.out; have h2 : cs.length = m4 := VP.out.jnts.1; omega
        go_wp2_with fail
        refine (clck_any A A4 B4 n c n4 c4 m4 d4 f r fr cs _ (by exact (E.out.get 0 rfl).inn.ints) (by exact VP.out.ints) (by exact VP.out.jnts) (by omega) (by omega) (by omega)).mono ?_
        rintro e w6 ⟨⟨bk, hbk, rfl⟩, hb⟩
        obtain rfl : bk = true := hbk.2 CK.out
        have E := Lib.hid (E.out.below hb)
        clear hb hbk x0 x1 x2 hlx p0 p1 p2 p3 p4 hlp
        go_wp2_with fail
        refine (awake9_any _).mono ?_
        rintro e wq ⟨rfl, hb⟩
        have bw := (E.out.below hb).fin
        go_wp2_with fail
        go_ret
        exact ⟨rfl, bw⟩
end Go.Proofs.Ythdibkmjoiipgaa
