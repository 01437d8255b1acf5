/- The statement ClosureKeeps: the walk. -/
import Derived.Test.YthdibkmjoiipgaaClKit
import Derived.Test.YthdibkmjoiipgaaClKpLaw
import Derived.Test.YthdibkmjoiipgaaRefMade
import Derived.Test.YthdibkmjoiipgaaSrcCurve
import Derived.BigRegion
namespace Go.Proofs.Ythdibkmjoiipgaa
open Go.RowKit
set_option linter.unusedVariables false
attribute [local go_sem ↓] app_fold
theorem kp_env {p FF Q m cm : Nat} {w wq ws : World} {Am : Option Addr} {zs : List Int} {st : Int} (E : EnvL p w wq []) (hq : Q = wq.heap.size) (OWN : Own ws Q (.slice Am m cm) m zs) (KK : Kept Q p wq ws) (SS : SrcAt ws p)
    (FB : Blk ws FF 46 #[.slice Am m cm, .int .i64 1, .int .i64 st]) (hne : FF ≠ p) (hp : p < Q) : EnvL p w ws [(FF, ⟨Am, m, cm, ⟨zs, 1, st⟩⟩)] := by
  subst hq
  obtain ⟨A', c', e', _, hI, hf⟩ := OWN.ints
  injection e' with e1 e2 e3
  subst e1 e3
  refine ⟨SS, kstep E.k KK, fun x hx => ?_⟩
  rw [List.mem_singleton] at hx
  subst hx
  exact ⟨FB, ⟨hI, fun _ b off s e => by have := hf b off s e; omega⟩, hne⟩
set_option maxHeartbeats 4000000 in
set_option maxRecDepth 100000 in
theorem clKp_any (A0 : Option Addr) (n0 c0 : Nat) (L : List Int) (w : World) (hL : Ints w w.heap.size A0 n0 L) (hc0 : n0 ≤ c0) (hn0 : (n0 : Int) ≤ 9223372036854775807) :
    Calls Try.prog 9 #[.slice A0 n0 c0] w fun e w' => e = .returned (.bool true) ∧ Below w.heap.size w w' := by
  go_enter Try.func9, Try.ntmps9
  go_wp2_with fail
  refine (new_any A0 n0 c0 L w hL hc0 hn0).mono ?_
  rintro e w1 ⟨rfl, hS1, hb1⟩
  have E := Lib.hid (EnvL.start hS1 hb1)
  clear hL hS1 hb1
  rename World => wq
  have hpz := E.out.s.lt
  have OWN := Lib.hid ((Own.one_ wq 0 (Nat.le_refl _)).alloc (.cells #[.slice (some ⟨wq.heap.size, 0, none⟩) 1 1, .int .i64 1, .int .i64 0] 46))
  have FB := Lib.hid (Blk.new (wq.alloc (.cells #[.int .i64 0] 3)) 46 #[.slice (some ⟨wq.heap.size, 0, none⟩) 1 1, .int .i64 1, .int .i64 0])
  rw [World.size_alloc] at FB
  have KK := Lib.hid (((Kept.refl wq.heap.size w.heap.size wq).alloc (Nat.le_refl _) (.cells #[.int .i64 0] 3)).alloc (by simp) (.cells #[.slice (some ⟨wq.heap.size, 0, none⟩) 1 1, .int .i64 1, .int .i64 0] 46))
  have SS := Lib.hid ((E.out.s.alloc (.cells #[.int .i64 0] 3)).alloc (.cells #[.slice (some ⟨wq.heap.size, 0, none⟩) 1 1, .int .i64 1, .int .i64 0] 46))
  go_upto_region 3 with fail
  generalize hwe : (wq.alloc (.cells #[.int .i64 0] 3)).alloc (.cells #[.slice (some ⟨wq.heap.size, 0, none⟩) 1 1, .int .i64 1, .int .i64 0] 46) = wb at *
  clear hwe
  obtain ⟨FF, hFF⟩ : ∃ FF, FF = wq.heap.size + 1 := ⟨_, rfl⟩
  rw [← hFF] at FB ⊢
  have hF1 : wq.heap.size < FF := by omega
  clear hFF
  go_wp2_with fail
  refine (n_any w.heap.size 20 wb (by exact SS.out) (by omega) (by omega)).mono ?_
  rintro e wc ⟨y, hz0, hz1, rfl, hS, hk⟩
  have hFl := FB.out.lt
  have OWN := Lib.hid (OWN.out.kept (p := w.heap.size) (fun e => by have := (OWN.out.blk_lt _ e).1; omega) hk)
  have FB := Lib.hid (FB.out.kept (by omega) hk)
  have KK := Lib.hid (KK.out.trans (hk.mono KK.out.size))
  have SS := Lib.hid hS
  clear hS hk hFl
  have sb0 : 0 ≤ 20 + y := by omega
  have sb1 : 20 + y ≤ 39 := by omega
  obtain ⟨st0, hst⟩ : ∃ st0, st0 = 20 + y := ⟨_, rfl⟩
  have es1 : IntKind.i64.wrap (20 + y) = st0 := by rw [IntWalk.i64_in _ (by omega)]; omega
  have es2 : 20 + y = st0 := by omega
  rw [← hst] at sb0 sb1
  clear hst hz0 hz1
  go_wp2_with fail
  clear es1 es2
  refine (n_any w.heap.size 7 wc (by exact SS.out) (by omega) (by omega)).mono ?_
  rintro e wd ⟨u, hz0, hz1, rfl, hS, hk⟩
  have hFl := FB.out.lt
  have OWN := Lib.hid (OWN.out.kept (p := w.heap.size) (fun e => by have := (OWN.out.blk_lt _ e).1; omega) hk)
  have FB := Lib.hid (FB.out.kept (by omega) hk)
  have KK := Lib.hid (KK.out.trans (hk.mono KK.out.size))
  have SS := Lib.hid hS
  clear hS hk hFl
  obtain ⟨kk, rfl⟩ := Int.eq_ofNat_of_zero_le hz0
  have hk4 : kk ≤ 6 := by omega
  have C0 := Lib.hid (CcS.first sb0 sb1)
  clear hz0 hz1
  go_wp2_with fail
  go_loopg [5, 6] (kk + 1) (fun gg s7 s8 wx => ∃ (j st : Int) (m cm : Nat) (Am : Option Addr) (zs : List Int), j + 1 ≤ gg ∧ (gg : Int) ≤ j + 1 ∧ m + gg ≤ 8 ∧ 1 ≤ m ∧ s8 = .int .i64 j ∧ s7 = .int .i64 st ∧ CcS zs st ∧ 0 ≤ st ∧ st ≤ 39 ∧ Blk wx FF 46 #[.slice Am m cm, .int .i64 1, .int .i64 0] ∧ Own wx wq.heap.size (.slice Am m cm) m zs ∧ Kept wq.heap.size w.heap.size wq wx ∧ SrcAt wx w.heap.size)
  case atStart => exact ⟨kk, st0, 1, 1, _, [0], by omega, by omega, by omega, by omega, rfl, rfl, C0.out, sb0, sb1, FB.out, OWN.out, KK.out, SS.out⟩
  case round =>
    clear FB OWN KK SS C0 sb0 sb1
    obtain ⟨j, st, m, cm, Am, zs, hj1, hj2, hm1, hm2, rfl, rfl, hcc, hst0, hst1, hF, hO, hK, hS⟩ := hrel
    have FB := Lib.hid hF; have OWN := Lib.hid hO; have KK := Lib.hid hK; have SS := Lib.hid hS; have CC := Lib.hid hcc
    clear hF hO hK hS hcc
    have hzl := Lib.hid OWN.out.len
    by_cases hj : 0 ≤ j
    case pos =>
      have dj : decide (0 ≤ j) = true := by simpa using hj
      have dj2 : decide (j ≥ 0) = true := by simpa using hj
      go_upto_region 7 with fail
      clear dj dj2
      go_cut [] (fun wx => ∃ (A' : Option Addr) (c' : Nat), Blk wx FF 46 #[.slice A' (m + 1) c', .int .i64 1, .int .i64 0] ∧ Own wx wq.heap.size (.slice A' (m + 1) c') (m + 1) (zs ++ [nth zs (m - 1) + st]) ∧ Kept wq.heap.size w.heap.size wq wx ∧ SrcAt wx w.heap.size)
      case first =>
        obtain ⟨A', c', e', hcc, hI, _⟩ := OWN.out.ints
        injection e' with e1 e2 e3
        subst e1 e3
        obtain ⟨b2, off2, rfl, hb2, hc2⟩ := hI.2 (by omega)
        obtain ⟨M, hM⟩ : ∃ M, M = m - 1 := ⟨_, rfl⟩
        have hM1 : M < m := by omega
        have hM2 : (M : Int) < m := by omega
        have hM3 : 0 ≤ (M : Int) := by omega
        have hcM := hc2 M hM1
        obtain ⟨x, hx⟩ : ∃ x, x = nth zs M := ⟨_, rfl⟩
        rw [← hx] at hcM
        have xb := CC.out.sm M (by rw [hzl.out]; exact hM1)
        have xn := CC.out.nn M (by rw [hzl.out]; exact hM1)
        rw [← hx] at xb xn
        have w1' : IntKind.i64.wrap ((m : Int) - 1) = (M : Int) := by rw [IntWalk.i64_in _ (by omega)]; omega
        have w2' : IntKind.i64.wrap (x + st) = x + st := by rw [IntWalk.i64_in _ (by omega)]
        have HX := Lib.hid hx; have HM := Lib.hid hM
        have HII := Lib.hid hI
        clear hx hM hc2 hI
        have nbF := OWN.out.ne_blk FB.out (by decide)
        have hob := fun g hg => (OWN.out.blk_lt g hg).1
        have HOB := Lib.hid hob; clear hob
        have NBF := Lib.hid nbF; clear nbF
        have hsz1 := KK.out.size
        have hlit := (ints_lit wr [x + st]).more (B' := wr.heap.size + 1) (by simp)
        obtain ⟨v2, w2, hrun, own2, grow2, at2⟩ := run_appSem (w := (wr.alloc (.cells #[.int .i64 (x + st)] 3)).drew) (base := wq.heap.size) (OWN.out.alloc _).drew 1 (A := some ⟨wr.heap.size, 0, none⟩) (m := 1) (zs := [x + st]) hlit (by omega) (by simp; omega)
        have b2' : Below wq.heap.size wr w2 := Below.grown (((Below.refl wq.heap.size wr).alloc hsz1 _).drew) grow2 (by simp; omega) (fun k hk => HOB.out k hk)
        have fb2 := Blk.grown (Blk.drew (FB.out.alloc _)) grow2 (fun e => NBF.out e.symm)
        have o20 := fb2.cell 0; have y20 := fb2.frozen 0
        simp at o20
        have hlf2 := fb2.lt
        obtain ⟨A2, c2, rfl, hc2, hI2, hf2⟩ := own2.ints
        have FB2 := Lib.hid fb2; have OWN2 := Lib.hid own2
        have KK2 := Lib.hid (KK.out.trans (Kept.of b2'))
        have SS2 := Lib.hid (SS.out.below b2' (by omega))
        have f0 := FB.out.cell 0
        simp at f0
        have hlf := FB.out.lt
        clear at2 own2 b2' fb2 hI2 hf2 grow2 hlit
        go_wp2_with fail
        go_region
        all_goals
          go_wp2_with fail
          go_meet
          have nb := OWN2.out.ne_blk FB2.out (by decide)
          have own3 := OWN2.out
          rw [HX.out, HM.out] at own3
          exact ⟨A2, c2, FB2.out.set_ 0 _, own3.far nb _, KK2.out.setCell (.inr (by show wq.heap.size ≤ FF; omega)) _, SS2.out.far (a := ⟨FF, 0, none⟩) (by show w.heap.size < FF; omega) _⟩
      case rest =>
        clear FB OWN KK SS
        obtain ⟨A', c', hF, hO, hK, hS⟩ := hcut
        have FB := Lib.hid hF; have OWN := Lib.hid hO; have KK := Lib.hid hK; have SS := Lib.hid hS
        clear hF hO hK hS
        go_wp2_with fail
        refine (n_any w.heap.size 9 wc (by exact SS.out) (by omega) (by omega)).mono ?_
        rintro e wk ⟨q, hz0, hz1, rfl, hS, hk⟩
        have hFl := FB.out.lt
        have OWN := Lib.hid (OWN.out.kept (p := w.heap.size) (fun e => by have := (OWN.out.blk_lt _ e).1; omega) hk)
        have FB := Lib.hid (FB.out.kept (by omega) hk)
        have KK := Lib.hid (KK.out.trans (hk.mono KK.out.size))
        have SS := Lib.hid hS
        clear hS hk hFl
        obtain ⟨mx, hmx⟩ : ∃ mx : Int, mx = max 0 (st - q) := ⟨_, rfl⟩
        have em1 : (if (0 : Int) < st - q then st - q else 0) = mx := by rw [hmx]; split <;> omega
        have mx0 : 0 ≤ mx := by omega
        have mx1 : mx ≤ st := by omega
        have mx2 : mx ≤ 39 := by omega
        have CN := Lib.hid (CC.out.snoc mx0 mx1)
        rw [hzl.out] at CN
        have HMX := Lib.hid hmx
        clear hmx
        go_wp2_with fail
        all_goals
          go_roundg (gk - 1)
          case measure => omega
          case rel => exact ⟨j - 1, mx, m + 1, c', A', _, by omega, by omega, by omega, by omega, by first | rfl | go_num, by first | rfl | (rw [HMX.out]; go_num), CN.out, mx0, mx2, FB.out, OWN.out, KK.out, SS.out⟩
    case neg =>
      have dj : decide (0 ≤ j) = false := by simpa using hj
      have dj2 : decide (j ≥ 0) = false := by simp; omega
      obtain ⟨A', c', e', hcc, hI, hf9⟩ := OWN.out.ints
      injection e' with e1 e2 e3
      subst e1 e3
      have NBF := Lib.hid (OWN.out.ne_blk FB.out (by decide))
      have hrl := KK.out.size
      go_upto_region 9 with fail
      obtain ⟨⟨f0, f1, f2⟩, ⟨y0, y1, y2⟩, hlf⟩ := FB.out.c3
      go_upto_region 10 with fail
      have OWN := Lib.hid (OWN.out.far (p := ⟨FF, 2, none⟩) NBF.out (.int .i64 st))
      have FB := Lib.hid (show Blk _ FF 46 #[.slice Am m cm, .int .i64 1, .int .i64 st] from FB.out.set_ 2 (.int .i64 st))
      have KK := Lib.hid (KK.out.setCell (a := ⟨FF, 2, none⟩) (.inr (by show wq.heap.size ≤ FF; omega)) (.int .i64 st))
      have SS := Lib.hid (SS.out.far (a := ⟨FF, 2, none⟩) (by show w.heap.size < FF; omega) (.int .i64 st))
      generalize hwe : wr.setCell ⟨FF, 2, none⟩ (.int .i64 st) = ws at *
      clear hwe f0 f1 f2 y0 y1 y2 hlf hI hf9 hcc
      have E := Lib.hid (kp_env E.out rfl OWN.out KK.out SS.out FB.out (by omega) hpz)
      clear OWN FB KK SS NBF hrl
      obtain ⟨f, hf⟩ : ∃ f : Cv, f = ⟨zs, 1, st⟩ := ⟨_, rfl⟩
      rw [← hf] at E
      have ep : (1 : Int) = f.per := by rw [hf]
      have ei : st = f.inc := by rw [hf]
      have hm8 : m ≤ 8 := by omega
      have FFN := Lib.hid (show f.Fin from by rw [hf]; exact cc_fin CC.out (by have := hzl.out; omega))
      have hlz := hzl.out
      have hfl : f.vals.length ≤ 20 := by rw [hf]; show zs.length ≤ 20; omega
      have hca := cc_at CC.out (show zs.length ≤ 20 by omega)
      rw [← hf] at hca
      have KP := Lib.hid (show ∀ n : Cv, NF f.at n → ClS f n 0 ∧ AddB n ∧ n.Ok ∧ NF n.at n from fun n nf => cl_keeps FFN.out ep.symm hfl hca.1 hca.2 nf)
      clear hlz hfl hca
      clear hf ep ei CC hzl hj1 hj2 hm1 hm2 hst0 hst1 dj dj2 hj
      obtain ⟨x0, x1, x2, hlx⟩ := (E.out.get 0 rfl).cells
      go_wp2_with fail
      refine (normal_any Am m cm f.per f.inc f.vals _ (by exact (E.out.get 0 rfl).inn.ints) (by omega)).mono ?_
      rintro e w4 ⟨r, er, hS, A4, n4, c4, rfl, hI, hA, hb⟩
      obtain ⟨rfl, hnf, _⟩ := normal_ok FFN.out.1 (show NormalS f r er from hS)
      have K4 := Lib.hid (KP.out r hnf)
      have hps := E.out.s.lt
      have E := Lib.hid (show EnvL w.heap.size w _ _ from (E.out.below hb).push (X := ⟨A4, n4, c4, r⟩) (CR.In.new hI hA hps))
      dsimp only [List.cons_append, List.nil_append] at E
      clear hS hI hA hb hps x0 x1 x2 hlx
      have NFH := Lib.hid hnf
      clear hnf
      go_upto_region 11 with fail
      generalize hwe : w4.alloc (.cells #[.slice A4 n4 c4, .int .i64 r.per, .int .i64 r.inc] 46) = wg at *
      clear hwe
      generalize w4.heap.size = ZN at *
      obtain ⟨x0, x1, x2, hlx⟩ := (E.out.get 0 rfl).cells
      go_wp2_with fail
      refine (subaddF_any Am m cm f.per f.inc f.vals _ (by exact (E.out.get 0 rfl).inn.ints) (by omega)).mono ?_
      rintro e w5 ⟨bs, es, hSA, rfl, hb⟩
      obtain ⟨rfl, rfl⟩ : bs = true ∧ es = 0 := by
        rcases (show SaS f bs es from hSA) with ⟨h, _⟩ | ⟨_, ⟨a, ha, h⟩, h2⟩
        · exact absurd FFN.out.1 h
        · obtain rfl := ha.unique NFH.out
          exact ⟨h.2 K4.out.2.1, h2⟩
      have E := Lib.hid (E.out.below hb)
      clear hSA hb x0 x1 x2 hlx
      obtain ⟨x0, x1, x2, hlx⟩ := (E.out.get 0 rfl).cells
      go_wp2_with fail
      refine (clof_any Am m cm f _ (by exact (E.out.get 0 rfl).inn.ints) (by omega)).mono ?_
      rintro e w6 ⟨a, ea, hSS, A5, n5, c5, hle, rfl, hI, hA, hb⟩
      have Sa := Lib.hid (show ClS f a ea from hSS)
      have HCa := Lib.hid hle
      have hps := E.out.s.lt
      have E := Lib.hid (show EnvL w.heap.size w _ _ from (E.out.below hb).push (X := ⟨A5, n5, c5, a⟩) (CR.In.new hI hA hps))
      dsimp only [List.cons_append, List.nil_append] at E
      clear hSS hI hA hb hps hle x0 x1 x2 hlx
      go_upto_region 13 with fail
      generalize hwe : w6.alloc (.cells #[.slice A5 n5 c5, .int .i64 a.per, .int .i64 a.inc] 46) = we at *
      clear hwe
      generalize w6.heap.size = Za at *
      obtain ⟨rfl, rfl⟩ := ClS.unique Sa.out K4.out.1
      clear Sa HCa
      have hn4 : n4 ≤ 400 := by have h1 := K4.out.2.2.1.n2; have h2 : a.vals.length = n4 := (E.out.get 1 rfl).inn.ints.1; omega
      have hn5 : n5 ≤ 400 := by have h1 := K4.out.2.2.1.n2; have h2 : a.vals.length = n5 := (E.out.get 2 rfl).inn.ints.1; omega
      obtain ⟨x0, x1, x2, hlx⟩ := (E.out.get 2 rfl).cells
      obtain ⟨y0, y1, y2, hly⟩ := (E.out.get 1 rfl).cells
      go_wp2_with fail
      refine (refSame_any A5 A4 n5 n4 c5 c4 a.per a.per a.inc a.inc a.vals a.vals _ (by exact (E.out.get 2 rfl).inn.ints) (by exact (E.out.get 1 rfl).inn.ints) (by omega) (by omega)).mono ?_
      rw [show Cv.same ⟨a.vals, a.per, a.inc⟩ ⟨a.vals, a.per, a.inc⟩ = true from (Cv.same_iff _ _).2 rfl]
      rintro e wq ⟨rfl, hb⟩
      have E := Lib.hid (E.out.below hb)
      clear hb x0 x1 x2 hlx y0 y1 y2 hly
      go_wp2_with fail
      refine (awake9_any _).mono ?_
      rintro e wq ⟨rfl, hb⟩
      have bw := (E.out.below hb).fin
      go_wp2_with fail
      go_ret
      exact ⟨rfl, bw⟩
end Go.Proofs.Ythdibkmjoiipgaa
