/- The statement ConvolutionConcave: the walk. -/
import Derived.Test.YtbkimphcmmmaiaaAwake7
import Derived.Test.YtbkimphcmmmaiaaEnvL
import Derived.Test.YtbkimphcmmmaiaaRefMn
import Derived.Test.YtbkimphcmmmaiaaCcLaw
import Derived.BigRegion
namespace Go.Proofs.Ytbkimphcmmmaiaa
open Go.RowKit
set_option linter.unusedVariables false

attribute [local go_sem ↓] app_fold
/-- a curve that grows less and less, as the loop makes it -/
def CcX (Z : Nat) (X : CR) : Prop := (∃ zs st, X.f = ⟨zs, 1, st⟩ ∧ CcS zs st ∧ zs.length ≤ 7) ∧ X.n ≤ X.c ∧ ∀ b off s, X.A = some ⟨b, off, s⟩ → Z < b
theorem CcX.get {Z : Nat} {X : CR} (h : CcX Z X) : X.f.Fin ∧ Conc X.f.at ∧ X.f.at 0 = 0 := by
  obtain ⟨⟨zs, st, he, hc, hl⟩, _⟩ := h
  rw [he]
  exact ⟨cc_fin hc (by omega), cc_at hc (by omega)⟩
theorem ext_er2 {l : Bool} {f g r : Cv} {er : Int} (hf : f.Ok) (hg : g.Ok) (H : ExtS l f g r er) : (er = 0 ∧ r.Ok) ∨ (er = 3 ∧ r = Cv.none) := by
  rcases H with ⟨h, _⟩ | ⟨hf, hg, a, b, ha, hb, H⟩
  · exact absurd ⟨hf, hg⟩ h
  · rcases H with ⟨_, h2, h⟩ | ⟨hc, h2⟩
    · exact .inr ⟨h, h2⟩
    · rw [exV_nf hf hg ha hb] at h2
      rcases h2.get (exV_up hf hg) with h3 | h3
      · exact .inl ⟨h3.1, h3.2.1⟩
      · exact .inr h3
theorem CR.In.far3 {p G a b c : Nat} {w : World} {X : CR} {x y z : Value} (h : X.In p w) (hA : ∀ b off s, X.A = some ⟨b, off, s⟩ → b ≠ G) :
    X.In p (((w.setCell ⟨G, a, none⟩ x).setCell ⟨G, b, none⟩ y).setCell ⟨G, c, none⟩ z) :=
  ⟨by simpa using ((h.ints.setCell (p := ⟨G, a, none⟩) hA x).setCell (p := ⟨G, b, none⟩) hA y).setCell (p := ⟨G, c, none⟩) hA z, h.ap⟩
/-- what holds when a curve has been stored in the array -/
theorem cc_stored {p Z m cm o0 o1 o2 : Nat} {w wq ws : World} {Am : Option Addr} {zs : List Int} {st : Int} {x y z : Value} (E : EnvL p w wq []) (hw : w.heap.size = p) (OWN : Own ws wq.heap.size (.slice Am m cm) m zs) (KK : Kept wq.heap.size p wq ws) (SS : SrcAt ws p)
    (hZ : p < Z) (hzq : Z < wq.heap.size) (hcc : m ≤ cm) (hl : m ≤ 7) (CC : CcS zs st) :
    EnvL p w (((ws.setCell ⟨Z, o0, none⟩ x).setCell ⟨Z, o1, none⟩ y).setCell ⟨Z, o2, none⟩ z) [] ∧ CcX Z ⟨Am, m, cm, ⟨zs, 1, st⟩⟩ ∧
    CR.In ⟨Am, m, cm, ⟨zs, 1, st⟩⟩ p (((ws.setCell ⟨Z, o0, none⟩ x).setCell ⟨Z, o1, none⟩ y).setCell ⟨Z, o2, none⟩ z) := by
  obtain ⟨A', c', e', _, hI, hf⟩ := OWN.ints
  injection e' with e1 e2 e3
  subst e1 e3
  have hlen := OWN.len
  refine ⟨⟨((SS.far (a := ⟨Z, o0, none⟩) hZ x).far (a := ⟨Z, o1, none⟩) hZ y).far (a := ⟨Z, o2, none⟩) hZ z, (((kstep E.k KK).setCell (a := ⟨Z, o0, none⟩) (.inr (by show w.heap.size ≤ Z; omega)) x).setCell (a := ⟨Z, o1, none⟩) (.inr (by show w.heap.size ≤ Z; omega)) y).setCell (a := ⟨Z, o2, none⟩) (.inr (by show w.heap.size ≤ Z; omega)) z, fun q hq => by cases hq⟩, ⟨⟨zs, st, rfl, CC, by omega⟩, hcc, fun b off s e => by have := hf b off s e; omega⟩, CR.In.far3 ⟨hI, fun _ b off s e => by have := hf b off s e; omega⟩ (fun b off s e => by have := hf b off s e; omega)⟩
set_option maxHeartbeats 4000000 in
set_option maxRecDepth 100000 in
theorem cvCc_any (A0 : Option Addr) (n0 c0 : Nat) (L : List Int) (w : World) (hL : Ints w w.heap.size A0 n0 L) (hc0 : n0 ≤ c0) (hn0 : (n0 : Int) ≤ 9223372036854775807) :
    Calls Try.prog 8 #[.slice A0 n0 c0] w fun e w' => e = .returned (.bool true) ∧ Below w.heap.size w w' := by
  go_enter Try.func8, Try.ntmps8
  go_wp2_with fail
  refine (new_any A0 n0 c0 L w hL hc0 hn0).mono ?_
  rintro e w1 ⟨rfl, hS1, hb1⟩
  have E := Lib.hid (EnvL.start hS1 hb1)
  clear hL hS1 hb1
  have ZB := Lib.hid (Blk.new w1 54 #[.slice none 0 0, .int .i64 0, .int .i64 0, .slice none 0 0, .int .i64 0, .int .i64 0])
  have hpz := E.out.s.lt
  have E := Lib.hid (E.out.alloc (.cells #[.slice none 0 0, .int .i64 0, .int .i64 0, .slice none 0 0, .int .i64 0, .int .i64 0] 54))
  go_upto_region 3 with fail
  generalize hwe : w1.alloc (.cells #[.slice none 0 0, .int .i64 0, .int .i64 0, .slice none 0 0, .int .i64 0, .int .i64 0] 54) = we at *
  clear hwe
  generalize w1.heap.size = Z at *
  go_wp2_with fail
  go_loopg [5, 6, 7, 8, 15] 2 (fun gg s5 s6 s7 s8 s15 wx => ∃ k : Nat, k + gg = 2 ∧ s15 = .int .i64 k ∧ EnvL w.heap.size w wx [] ∧ ((k = 0 ∧ Blk wx Z 54 #[.slice none 0 0, .int .i64 0, .int .i64 0, .slice none 0 0, .int .i64 0, .int .i64 0]) ∨ (k = 1 ∧ ∃ X : CR, CcX Z X ∧ X.In w.heap.size wx ∧ Blk wx Z 54 #[.slice X.A X.n X.c, .int .i64 X.f.per, .int .i64 X.f.inc, .slice none 0 0, .int .i64 0, .int .i64 0]) ∨ (k = 2 ∧ ∃ X Y : CR, CcX Z X ∧ CcX Z Y ∧ X.In w.heap.size wx ∧ Y.In w.heap.size wx ∧ Blk wx Z 54 #[.slice X.A X.n X.c, .int .i64 X.f.per, .int .i64 X.f.inc, .slice Y.A Y.n Y.c, .int .i64 Y.f.per, .int .i64 Y.f.inc])))
  case atStart => exact ⟨0, by omega, rfl, E.out, .inl ⟨rfl, ZB.out⟩⟩
  case round =>
    clear E ZB
    obtain ⟨k, hkg, rfl, hE, hk⟩ := hrel
    have E := Lib.hid hE
    clear hE
    rcases hk with ⟨rfl, hZ⟩ | ⟨rfl, X, hX1, hX2, hZ⟩ | ⟨rfl, X, Y, hX1, hY1, hX2, hY2, hZ⟩
    · have ZB := Lib.hid hZ
      clear hZ
      go_wp2_with fail
      -- one curve is made, from world wq on; E, ZB (and X) stand; a b c are the cells of the array, {3} how the round ends
      rename World => wq
      have hpr := E.out.s.lt
      have hzq := ZB.out.lt
      have OWN := Lib.hid ((Own.one_ wq 0 (Nat.le_refl _)).alloc (.cells #[.slice (some ⟨wq.heap.size, 0, none⟩) 1 1, .int .i64 1, .int .i64 0] 31))
      have FB := Lib.hid (Blk.new (wq.alloc (.cells #[.int .i64 0] 3)) 31 #[.slice (some ⟨wq.heap.size, 0, none⟩) 1 1, .int .i64 1, .int .i64 0])
      rw [World.size_alloc] at FB
      have KK := Lib.hid (((Kept.refl wq.heap.size w.heap.size wq).alloc (Nat.le_refl _) (.cells #[.int .i64 0] 3)).alloc (by simp) (.cells #[.slice (some ⟨wq.heap.size, 0, none⟩) 1 1, .int .i64 1, .int .i64 0] 31))
      have SS := Lib.hid ((E.out.s.alloc (.cells #[.int .i64 0] 3)).alloc (.cells #[.slice (some ⟨wq.heap.size, 0, none⟩) 1 1, .int .i64 1, .int .i64 0] 31))
      go_upto_region 7 with fail
      generalize hwe : (wq.alloc (.cells #[.int .i64 0] 3)).alloc (.cells #[.slice (some ⟨wq.heap.size, 0, none⟩) 1 1, .int .i64 1, .int .i64 0] 31) = wb at *
      clear hwe
      obtain ⟨FF, hFF⟩ : ∃ FF, FF = wq.heap.size + 1 := ⟨_, rfl⟩
      rw [← hFF] at FB ⊢
      have hF1 : wq.heap.size < FF := by omega
      clear hFF
      go_wp2_with fail
      -- a number is drawn: 30 the bound, wb wc the worlds, y the number
      refine (n_any w.heap.size 30 wb (by exact SS.out) (by omega) (by omega)).mono ?_
      rintro e wc ⟨y, hz0, hz1, rfl, hS, hk⟩
      have hFl := FB.out.lt
      have OWN := Lib.hid (OWN.out.kept (p := w.heap.size) (fun e => by have := (OWN.out.blk_lt _ e).1; omega) hk)
      have FB := Lib.hid (FB.out.kept (by omega) hk)
      have KK := Lib.hid (KK.out.trans (hk.mono KK.out.size))
      have SS := Lib.hid hS
      clear hS hk hFl
      have sb0 : 0 ≤ 10 + y := by omega
      have sb1 : 10 + y ≤ 39 := by omega
      obtain ⟨st0, hst⟩ : ∃ st0, st0 = 10 + y := ⟨_, rfl⟩
      have es1 : IntKind.i64.wrap (10 + y) = st0 := by rw [IntWalk.i64_in _ (by omega)]; omega
      have es2 : 10 + y = st0 := by omega
      rw [← hst] at sb0 sb1
      clear hst hz0 hz1
      go_wp2_with fail
      clear es1 es2
      -- a number is drawn: 5 the bound, wc wd the worlds, u the number
      refine (n_any w.heap.size 5 wc (by exact SS.out) (by omega) (by omega)).mono ?_
      rintro e wd ⟨u, hz0, hz1, rfl, hS, hk⟩
      have hFl := FB.out.lt
      have OWN := Lib.hid (OWN.out.kept (p := w.heap.size) (fun e => by have := (OWN.out.blk_lt _ e).1; omega) hk)
      have FB := Lib.hid (FB.out.kept (by omega) hk)
      have KK := Lib.hid (KK.out.trans (hk.mono KK.out.size))
      have SS := Lib.hid hS
      clear hS hk hFl
      obtain ⟨kk, rfl⟩ := Int.eq_ofNat_of_zero_le hz0
      have hk4 : kk ≤ 4 := by omega
      have C0 := Lib.hid (CcS.first sb0 sb1)
      clear hz0 hz1
      obtain ⟨gz, hgz⟩ : ∃ gz, gz = gk := ⟨_, rfl⟩
      subst hgz
      go_wp2_with fail
      go_loopg [7, 8] (kk + 1) (fun gg s7 s8 wx => ∃ (j st : Int) (m cm : Nat) (Am : Option Addr) (zs : List Int), j + 1 ≤ gg ∧ (gg : Int) ≤ j + 1 ∧ m + gg ≤ 6 ∧ 1 ≤ m ∧ s8 = .int .i64 j ∧ s7 = .int .i64 st ∧ CcS zs st ∧ 0 ≤ st ∧ st ≤ 39 ∧ Blk wx FF 31 #[.slice Am m cm, .int .i64 1, .int .i64 0] ∧ Own wx wq.heap.size (.slice Am m cm) m zs ∧ Kept wq.heap.size w.heap.size wq wx ∧ SrcAt wx w.heap.size)
      case atStart => exact ⟨kk, st0, 1, 1, _, [0], by omega, by omega, by omega, by omega, rfl, rfl, C0.out, sb0, sb1, FB.out, OWN.out, KK.out, SS.out⟩
      case round =>
        clear FB OWN KK SS C0 sb0 sb1
        obtain ⟨j, st, m, cm, Am, zs, hj1, hj2, hm1, hm2, rfl, rfl, hcc, hst0, hst1, hF, hO, hK, hS⟩ := hrel
        have FB := Lib.hid hF; have OWN := Lib.hid hO; have KK := Lib.hid hK; have SS := Lib.hid hS; have CC := Lib.hid hcc
        clear hF hO hK hS hcc
        have hzl := Lib.hid OWN.out.len
        by_cases hj : 0 ≤ j
        case pos =>
          have dj : decide (0 ≤ j) = true := by simpa using hj
          have dj2 : decide (j ≥ 0) = true := by simpa using hj
          go_upto_region 11 with fail
          clear dj dj2
          go_cut [] (fun wx => ∃ (A' : Option Addr) (c' : Nat), Blk wx FF 31 #[.slice A' (m + 1) c', .int .i64 1, .int .i64 0] ∧ Own wx wq.heap.size (.slice A' (m + 1) c') (m + 1) (zs ++ [nth zs (m - 1) + st]) ∧ Kept wq.heap.size w.heap.size wq wx ∧ SrcAt wx w.heap.size)
          case first =>
            obtain ⟨A', c', e', hcc, hI, _⟩ := OWN.out.ints
            injection e' with e1 e2 e3
            subst e1 e3
            obtain ⟨b2, off2, rfl, hb2, hc2⟩ := hI.2 (by omega)
            obtain ⟨M, hM⟩ : ∃ M, M = m - 1 := ⟨_, rfl⟩
            have hM1 : M < m := by omega
            have hM2 : (M : Int) < m := by omega
            have hM3 : 0 ≤ (M : Int) := by omega
            have hcM := hc2 M hM1
            obtain ⟨x, hx⟩ : ∃ x, x = nth zs M := ⟨_, rfl⟩
            rw [← hx] at hcM
            have xb := CC.out.sm M (by rw [hzl.out]; exact hM1)
            have xn := CC.out.nn M (by rw [hzl.out]; exact hM1)
            rw [← hx] at xb xn
            have w1' : IntKind.i64.wrap ((m : Int) - 1) = (M : Int) := by rw [IntWalk.i64_in _ (by omega)]; omega
            have w2' : IntKind.i64.wrap (x + st) = x + st := by rw [IntWalk.i64_in _ (by omega)]
            have HX := Lib.hid hx; have HM := Lib.hid hM
            have HII := Lib.hid hI
            clear hx hM hc2 hI
            have nbF := OWN.out.ne_blk FB.out (by decide)
            have hob := fun g hg => (OWN.out.blk_lt g hg).1
            have HOB := Lib.hid hob; clear hob
            have NBF := Lib.hid nbF; clear nbF
            have hsz1 := KK.out.size
            have hlit := (ints_lit wr [x + st]).more (B' := wr.heap.size + 1) (by simp)
            obtain ⟨v2, w2, hrun, own2, grow2, at2⟩ := run_appSem (w := (wr.alloc (.cells #[.int .i64 (x + st)] 3)).drew) (base := wq.heap.size) (OWN.out.alloc _).drew 1 (A := some ⟨wr.heap.size, 0, none⟩) (m := 1) (zs := [x + st]) hlit (by omega) (by simp; omega)
            have b2' : Below wq.heap.size wr w2 := Below.grown (((Below.refl wq.heap.size wr).alloc hsz1 _).drew) grow2 (by simp; omega) (fun k hk => HOB.out k hk)
            have fb2 := Blk.grown (Blk.drew (FB.out.alloc _)) grow2 (fun e => NBF.out e.symm)
            have o20 := fb2.cell 0; have y20 := fb2.frozen 0
            simp at o20
            have hlf2 := fb2.lt
            obtain ⟨A2, c2, rfl, hc2, hI2, hf2⟩ := own2.ints
            have FB2 := Lib.hid fb2; have OWN2 := Lib.hid own2
            have KK2 := Lib.hid (KK.out.trans (Kept.of b2'))
            have SS2 := Lib.hid (SS.out.below b2' (by omega))
            have f0 := FB.out.cell 0
            simp at f0
            have hlf := FB.out.lt
            clear at2 own2 b2' fb2 hI2 hf2 grow2 hlit
            go_wp2_with fail
            go_region
            all_goals
              go_wp2_with fail
              go_meet
              have nb := OWN2.out.ne_blk FB2.out (by decide)
              have own3 := OWN2.out
              rw [HX.out, HM.out] at own3
              exact ⟨A2, c2, FB2.out.set_ 0 _, own3.far nb _, KK2.out.setCell (.inr (by show wq.heap.size ≤ FF; omega)) _, SS2.out.far (a := ⟨FF, 0, none⟩) (by show w.heap.size < FF; omega) _⟩
          case rest =>
            clear FB OWN KK SS
            obtain ⟨A', c', hF, hO, hK, hS⟩ := hcut
            have FB := Lib.hid hF; have OWN := Lib.hid hO; have KK := Lib.hid hK; have SS := Lib.hid hS
            clear hF hO hK hS
            go_wp2_with fail
            -- a number is drawn: 12 the bound, wc wk the worlds, q the number
            refine (n_any w.heap.size 12 wc (by exact SS.out) (by omega) (by omega)).mono ?_
            rintro e wk ⟨q, hz0, hz1, rfl, hS, hk⟩
            have hFl := FB.out.lt
            have OWN := Lib.hid (OWN.out.kept (p := w.heap.size) (fun e => by have := (OWN.out.blk_lt _ e).1; omega) hk)
            have FB := Lib.hid (FB.out.kept (by omega) hk)
            have KK := Lib.hid (KK.out.trans (hk.mono KK.out.size))
            have SS := Lib.hid hS
            clear hS hk hFl
            obtain ⟨mx, hmx⟩ : ∃ mx : Int, mx = max 0 (st - q) := ⟨_, rfl⟩
            have em1 : (if (0 : Int) < st - q then st - q else 0) = mx := by rw [hmx]; split <;> omega
            have mx0 : 0 ≤ mx := by omega
            have mx1 : mx ≤ st := by omega
            have mx2 : mx ≤ 39 := by omega
            have CN := Lib.hid (CC.out.snoc mx0 mx1)
            rw [hzl.out] at CN
            have HMX := Lib.hid hmx
            clear hmx
            go_wp2_with fail
            all_goals
              go_roundg (gk - 1)
              case measure => omega
              case rel => exact ⟨j - 1, mx, m + 1, c', A', _, by omega, by omega, by omega, by omega, by first | rfl | go_num, by first | rfl | (rw [HMX.out]; go_num), CN.out, mx0, mx2, FB.out, OWN.out, KK.out, SS.out⟩
        case neg =>
          have dj : decide (0 ≤ j) = false := by simpa using hj
          have dj2 : decide (j ≥ 0) = false := by simp; omega
          obtain ⟨A', c', e', hcc, hI, hf9⟩ := OWN.out.ints
          injection e' with e1 e2 e3
          subst e1 e3
          have HCC := Lib.hid hcc
          have NBF := Lib.hid (OWN.out.ne_blk FB.out (by decide))
          have hrl := KK.out.size
          have ZB := Lib.hid (ZB.out.kept (by omega) KK.out)
          go_upto_region 13 with fail
          obtain ⟨⟨f0, f1, f2⟩, ⟨y0, y1, y2⟩, hlf⟩ := FB.out.c3
          go_upto_region 14 with fail
          have OWN := Lib.hid (OWN.out.far (p := ⟨FF, 2, none⟩) NBF.out (.int .i64 st))
          have FB := Lib.hid (show Blk _ FF 31 #[.slice Am m cm, .int .i64 1, .int .i64 st] from FB.out.set_ 2 (.int .i64 st))
          have ZB := Lib.hid (ZB.out.far (p := ⟨FF, 2, none⟩) (by show Z ≠ FF; omega) (.int .i64 st))
          have KK := Lib.hid (KK.out.setCell (a := ⟨FF, 2, none⟩) (.inr (by show wq.heap.size ≤ FF; omega)) (.int .i64 st))
          have SS := Lib.hid (SS.out.far (a := ⟨FF, 2, none⟩) (by show w.heap.size < FF; omega) (.int .i64 st))
          generalize hwe : wr.setCell ⟨FF, 2, none⟩ (.int .i64 st) = ws at *
          clear hwe f0 f1 f2 y0 y1 y2 hlf
          obtain ⟨⟨f0, f1, f2⟩, ⟨y0, y1, y2⟩, hlf⟩ := FB.out.c3
          obtain ⟨z0, z1, z2⟩ : _ ∧ _ ∧ _ := ⟨ZB.out.cell 0, ZB.out.cell 1, ZB.out.cell 2⟩
          simp at z0 z1 z2
          have v0 := ZB.out.frozen 0; have v1 := ZB.out.frozen 1; have v2 := ZB.out.frozen 2
          have hlz := ZB.out.lt
          go_wp2_with fail
          go_roundg (gz - 1)
          case measure => omega
          case rel =>
            obtain ⟨e9, cx, ix⟩ := cc_stored (o0 := 0) (o1 := 1) (o2 := 2) (x := .slice Am m cm) (y := .int .i64 1) (z := .int .i64 st) E.out rfl OWN.out KK.out SS.out hpz hzq HCC.out (by omega) CC.out
            exact ⟨1, by omega, rfl, e9, .inr (.inl ⟨rfl, _, cx, ix, ((ZB.out.set_ 0 _).set_ 1 _).set_ 2 _⟩)⟩
    · have ZB := Lib.hid hZ; have HX1 := Lib.hid hX1; have HX2 := Lib.hid hX2
      clear hZ hX1 hX2
      go_wp2_with fail
      -- one curve is made, from world wq on; E, ZB (and X) stand; a b c are the cells of the array, {3} how the round ends
      rename World => wq
      have hpr := E.out.s.lt
      have hzq := ZB.out.lt
      have OWN := Lib.hid ((Own.one_ wq 0 (Nat.le_refl _)).alloc (.cells #[.slice (some ⟨wq.heap.size, 0, none⟩) 1 1, .int .i64 1, .int .i64 0] 31))
      have FB := Lib.hid (Blk.new (wq.alloc (.cells #[.int .i64 0] 3)) 31 #[.slice (some ⟨wq.heap.size, 0, none⟩) 1 1, .int .i64 1, .int .i64 0])
      rw [World.size_alloc] at FB
      have KK := Lib.hid (((Kept.refl wq.heap.size w.heap.size wq).alloc (Nat.le_refl _) (.cells #[.int .i64 0] 3)).alloc (by simp) (.cells #[.slice (some ⟨wq.heap.size, 0, none⟩) 1 1, .int .i64 1, .int .i64 0] 31))
      have SS := Lib.hid ((E.out.s.alloc (.cells #[.int .i64 0] 3)).alloc (.cells #[.slice (some ⟨wq.heap.size, 0, none⟩) 1 1, .int .i64 1, .int .i64 0] 31))
      go_upto_region 7 with fail
      generalize hwe : (wq.alloc (.cells #[.int .i64 0] 3)).alloc (.cells #[.slice (some ⟨wq.heap.size, 0, none⟩) 1 1, .int .i64 1, .int .i64 0] 31) = wb at *
      clear hwe
      obtain ⟨FF, hFF⟩ : ∃ FF, FF = wq.heap.size + 1 := ⟨_, rfl⟩
      rw [← hFF] at FB ⊢
      have hF1 : wq.heap.size < FF := by omega
      clear hFF
      go_wp2_with fail
      -- a number is drawn: 30 the bound, wb wc the worlds, y the number
      refine (n_any w.heap.size 30 wb (by exact SS.out) (by omega) (by omega)).mono ?_
      rintro e wc ⟨y, hz0, hz1, rfl, hS, hk⟩
      have hFl := FB.out.lt
      have OWN := Lib.hid (OWN.out.kept (p := w.heap.size) (fun e => by have := (OWN.out.blk_lt _ e).1; omega) hk)
      have FB := Lib.hid (FB.out.kept (by omega) hk)
      have KK := Lib.hid (KK.out.trans (hk.mono KK.out.size))
      have SS := Lib.hid hS
      clear hS hk hFl
      have sb0 : 0 ≤ 10 + y := by omega
      have sb1 : 10 + y ≤ 39 := by omega
      obtain ⟨st0, hst⟩ : ∃ st0, st0 = 10 + y := ⟨_, rfl⟩
      have es1 : IntKind.i64.wrap (10 + y) = st0 := by rw [IntWalk.i64_in _ (by omega)]; omega
      have es2 : 10 + y = st0 := by omega
      rw [← hst] at sb0 sb1
      clear hst hz0 hz1
      go_wp2_with fail
      clear es1 es2
      -- a number is drawn: 5 the bound, wc wd the worlds, u the number
      refine (n_any w.heap.size 5 wc (by exact SS.out) (by omega) (by omega)).mono ?_
      rintro e wd ⟨u, hz0, hz1, rfl, hS, hk⟩
      have hFl := FB.out.lt
      have OWN := Lib.hid (OWN.out.kept (p := w.heap.size) (fun e => by have := (OWN.out.blk_lt _ e).1; omega) hk)
      have FB := Lib.hid (FB.out.kept (by omega) hk)
      have KK := Lib.hid (KK.out.trans (hk.mono KK.out.size))
      have SS := Lib.hid hS
      clear hS hk hFl
      obtain ⟨kk, rfl⟩ := Int.eq_ofNat_of_zero_le hz0
      have hk4 : kk ≤ 4 := by omega
      have C0 := Lib.hid (CcS.first sb0 sb1)
      clear hz0 hz1
      obtain ⟨gz, hgz⟩ : ∃ gz, gz = gk := ⟨_, rfl⟩
      subst hgz
      go_wp2_with fail
      go_loopg [7, 8] (kk + 1) (fun gg s7 s8 wx => ∃ (j st : Int) (m cm : Nat) (Am : Option Addr) (zs : List Int), j + 1 ≤ gg ∧ (gg : Int) ≤ j + 1 ∧ m + gg ≤ 6 ∧ 1 ≤ m ∧ s8 = .int .i64 j ∧ s7 = .int .i64 st ∧ CcS zs st ∧ 0 ≤ st ∧ st ≤ 39 ∧ Blk wx FF 31 #[.slice Am m cm, .int .i64 1, .int .i64 0] ∧ Own wx wq.heap.size (.slice Am m cm) m zs ∧ Kept wq.heap.size w.heap.size wq wx ∧ SrcAt wx w.heap.size)
      case atStart => exact ⟨kk, st0, 1, 1, _, [0], by omega, by omega, by omega, by omega, rfl, rfl, C0.out, sb0, sb1, FB.out, OWN.out, KK.out, SS.out⟩
      case round =>
        clear FB OWN KK SS C0 sb0 sb1
        obtain ⟨j, st, m, cm, Am, zs, hj1, hj2, hm1, hm2, rfl, rfl, hcc, hst0, hst1, hF, hO, hK, hS⟩ := hrel
        have FB := Lib.hid hF; have OWN := Lib.hid hO; have KK := Lib.hid hK; have SS := Lib.hid hS; have CC := Lib.hid hcc
        clear hF hO hK hS hcc
        have hzl := Lib.hid OWN.out.len
        by_cases hj : 0 ≤ j
        case pos =>
          have dj : decide (0 ≤ j) = true := by simpa using hj
          have dj2 : decide (j ≥ 0) = true := by simpa using hj
          go_upto_region 11 with fail
          clear dj dj2
          go_cut [] (fun wx => ∃ (A' : Option Addr) (c' : Nat), Blk wx FF 31 #[.slice A' (m + 1) c', .int .i64 1, .int .i64 0] ∧ Own wx wq.heap.size (.slice A' (m + 1) c') (m + 1) (zs ++ [nth zs (m - 1) + st]) ∧ Kept wq.heap.size w.heap.size wq wx ∧ SrcAt wx w.heap.size)
          case first =>
            obtain ⟨A', c', e', hcc, hI, _⟩ := OWN.out.ints
            injection e' with e1 e2 e3
            subst e1 e3
            obtain ⟨b2, off2, rfl, hb2, hc2⟩ := hI.2 (by omega)
            obtain ⟨M, hM⟩ : ∃ M, M = m - 1 := ⟨_, rfl⟩
            have hM1 : M < m := by omega
            have hM2 : (M : Int) < m := by omega
            have hM3 : 0 ≤ (M : Int) := by omega
            have hcM := hc2 M hM1
            obtain ⟨x, hx⟩ : ∃ x, x = nth zs M := ⟨_, rfl⟩
            rw [← hx] at hcM
            have xb := CC.out.sm M (by rw [hzl.out]; exact hM1)
            have xn := CC.out.nn M (by rw [hzl.out]; exact hM1)
            rw [← hx] at xb xn
            have w1' : IntKind.i64.wrap ((m : Int) - 1) = (M : Int) := by rw [IntWalk.i64_in _ (by omega)]; omega
            have w2' : IntKind.i64.wrap (x + st) = x + st := by rw [IntWalk.i64_in _ (by omega)]
            have HX := Lib.hid hx; have HM := Lib.hid hM
            have HII := Lib.hid hI
            clear hx hM hc2 hI
            have nbF := OWN.out.ne_blk FB.out (by decide)
            have hob := fun g hg => (OWN.out.blk_lt g hg).1
            have HOB := Lib.hid hob; clear hob
            have NBF := Lib.hid nbF; clear nbF
            have hsz1 := KK.out.size
            have hlit := (ints_lit wr [x + st]).more (B' := wr.heap.size + 1) (by simp)
            obtain ⟨v2, w2, hrun, own2, grow2, at2⟩ := run_appSem (w := (wr.alloc (.cells #[.int .i64 (x + st)] 3)).drew) (base := wq.heap.size) (OWN.out.alloc _).drew 1 (A := some ⟨wr.heap.size, 0, none⟩) (m := 1) (zs := [x + st]) hlit (by omega) (by simp; omega)
            have b2' : Below wq.heap.size wr w2 := Below.grown (((Below.refl wq.heap.size wr).alloc hsz1 _).drew) grow2 (by simp; omega) (fun k hk => HOB.out k hk)
            have fb2 := Blk.grown (Blk.drew (FB.out.alloc _)) grow2 (fun e => NBF.out e.symm)
            have o20 := fb2.cell 0; have y20 := fb2.frozen 0
            simp at o20
            have hlf2 := fb2.lt
            obtain ⟨A2, c2, rfl, hc2, hI2, hf2⟩ := own2.ints
            have FB2 := Lib.hid fb2; have OWN2 := Lib.hid own2
            have KK2 := Lib.hid (KK.out.trans (Kept.of b2'))
            have SS2 := Lib.hid (SS.out.below b2' (by omega))
            have f0 := FB.out.cell 0
            simp at f0
            have hlf := FB.out.lt
            clear at2 own2 b2' fb2 hI2 hf2 grow2 hlit
            go_wp2_with fail
            go_region
            all_goals
              go_wp2_with fail
              go_meet
              have nb := OWN2.out.ne_blk FB2.out (by decide)
              have own3 := OWN2.out
              rw [HX.out, HM.out] at own3
              exact ⟨A2, c2, FB2.out.set_ 0 _, own3.far nb _, KK2.out.setCell (.inr (by show wq.heap.size ≤ FF; omega)) _, SS2.out.far (a := ⟨FF, 0, none⟩) (by show w.heap.size < FF; omega) _⟩
          case rest =>
            clear FB OWN KK SS
            obtain ⟨A', c', hF, hO, hK, hS⟩ := hcut
            have FB := Lib.hid hF; have OWN := Lib.hid hO; have KK := Lib.hid hK; have SS := Lib.hid hS
            clear hF hO hK hS
            go_wp2_with fail
            -- a number is drawn: 12 the bound, wc wk the worlds, q the number
            refine (n_any w.heap.size 12 wc (by exact SS.out) (by omega) (by omega)).mono ?_
            rintro e wk ⟨q, hz0, hz1, rfl, hS, hk⟩
            have hFl := FB.out.lt
            have OWN := Lib.hid (OWN.out.kept (p := w.heap.size) (fun e => by have := (OWN.out.blk_lt _ e).1; omega) hk)
            have FB := Lib.hid (FB.out.kept (by omega) hk)
            have KK := Lib.hid (KK.out.trans (hk.mono KK.out.size))
            have SS := Lib.hid hS
            clear hS hk hFl
            obtain ⟨mx, hmx⟩ : ∃ mx : Int, mx = max 0 (st - q) := ⟨_, rfl⟩
            have em1 : (if (0 : Int) < st - q then st - q else 0) = mx := by rw [hmx]; split <;> omega
            have mx0 : 0 ≤ mx := by omega
            have mx1 : mx ≤ st := by omega
            have mx2 : mx ≤ 39 := by omega
            have CN := Lib.hid (CC.out.snoc mx0 mx1)
            rw [hzl.out] at CN
            have HMX := Lib.hid hmx
            clear hmx
            go_wp2_with fail
            all_goals
              go_roundg (gk - 1)
              case measure => omega
              case rel => exact ⟨j - 1, mx, m + 1, c', A', _, by omega, by omega, by omega, by omega, by first | rfl | go_num, by first | rfl | (rw [HMX.out]; go_num), CN.out, mx0, mx2, FB.out, OWN.out, KK.out, SS.out⟩
        case neg =>
          have dj : decide (0 ≤ j) = false := by simpa using hj
          have dj2 : decide (j ≥ 0) = false := by simp; omega
          obtain ⟨A', c', e', hcc, hI, hf9⟩ := OWN.out.ints
          injection e' with e1 e2 e3
          subst e1 e3
          have HCC := Lib.hid hcc
          have NBF := Lib.hid (OWN.out.ne_blk FB.out (by decide))
          have hrl := KK.out.size
          have ZB := Lib.hid (ZB.out.kept (by omega) KK.out)
          go_upto_region 13 with fail
          obtain ⟨⟨f0, f1, f2⟩, ⟨y0, y1, y2⟩, hlf⟩ := FB.out.c3
          go_upto_region 14 with fail
          have OWN := Lib.hid (OWN.out.far (p := ⟨FF, 2, none⟩) NBF.out (.int .i64 st))
          have FB := Lib.hid (show Blk _ FF 31 #[.slice Am m cm, .int .i64 1, .int .i64 st] from FB.out.set_ 2 (.int .i64 st))
          have ZB := Lib.hid (ZB.out.far (p := ⟨FF, 2, none⟩) (by show Z ≠ FF; omega) (.int .i64 st))
          have KK := Lib.hid (KK.out.setCell (a := ⟨FF, 2, none⟩) (.inr (by show wq.heap.size ≤ FF; omega)) (.int .i64 st))
          have SS := Lib.hid (SS.out.far (a := ⟨FF, 2, none⟩) (by show w.heap.size < FF; omega) (.int .i64 st))
          generalize hwe : wr.setCell ⟨FF, 2, none⟩ (.int .i64 st) = ws at *
          clear hwe f0 f1 f2 y0 y1 y2 hlf
          obtain ⟨⟨f0, f1, f2⟩, ⟨y0, y1, y2⟩, hlf⟩ := FB.out.c3
          obtain ⟨z0, z1, z2⟩ : _ ∧ _ ∧ _ := ⟨ZB.out.cell 3, ZB.out.cell 4, ZB.out.cell 5⟩
          simp at z0 z1 z2
          have v0 := ZB.out.frozen 3; have v1 := ZB.out.frozen 4; have v2 := ZB.out.frozen 5
          have hlz := ZB.out.lt
          go_wp2_with fail
          go_roundg (gz - 1)
          case measure => omega
          case rel =>
            obtain ⟨e9, cx, ix⟩ := cc_stored (o0 := 3) (o1 := 4) (o2 := 5) (x := .slice Am m cm) (y := .int .i64 1) (z := .int .i64 st) E.out rfl OWN.out KK.out SS.out hpz hzq HCC.out (by omega) CC.out
            exact ⟨2, by omega, rfl, e9, .inr (.inr ⟨rfl, X, _, HX1.out, cx, (HX2.out.kept KK.out).far3 (fun b off s e => by have := HX1.out.2.2 b off s e; omega), ix, ((ZB.out.set_ 3 _).set_ 4 _).set_ 5 _⟩)⟩
    · have ZB := Lib.hid hZ; have CX := Lib.hid hX1; have CY := Lib.hid hY1; have IX := Lib.hid hX2; have IY := Lib.hid hY2
      clear hZ hX1 hX2 hY1 hY2
      obtain ⟨⟨⟨xs, xt, hxe, hxc, hxl⟩, hxn, hxa⟩, ⟨ys, yt, hye, hyc, hyl⟩, hyn, hya⟩ := And.intro CX.out CY.out
      clear hxc hyc hxa hya
      obtain ⟨AX, nx, cX, fX⟩ := X
      obtain ⟨AY, ny, cY, fY⟩ := Y
      obtain ⟨fvX, fpX, fiX⟩ := fX
      obtain ⟨fvY, fpY, fiY⟩ := fY
      simp only at ZB hxn hyn hxe hye
      have hlx : nx ≤ 7 := by
        have h1 := IX.out.len
        simp only at h1
        injection hxe with e1 e2 e3
        subst e1
        omega
      have hly : ny ≤ 7 := by
        have h1 := IY.out.len
        injection hye with e1 e2 e3
        subst e1
        simp only at h1
        omega
      clear hxe hye hxl hyl
      obtain ⟨z0, z1, z2, z3, z4, z5⟩ : _ ∧ _ ∧ _ ∧ _ ∧ _ ∧ _ := ⟨ZB.out.cell 0, ZB.out.cell 1, ZB.out.cell 2, ZB.out.cell 3, ZB.out.cell 4, ZB.out.cell 5⟩
      simp at z0 z1 z2 z3 z4 z5
      have hlz := ZB.out.lt
      go_wp2_with fail
      refine (cvfn_any AX AY nx ny cX cY fpX fiX fpY fiY fvX fvY _ (by exact IX.out.ints) (by exact IY.out.ints) (by omega) (by omega)).mono ?_
      rintro e w2 ⟨r, er, hSS, A4, n4, c4, hle, rfl, hI, hA, hb⟩
      have SR := Lib.hid hSS
      have hps := E.out.s.lt
      have E := Lib.hid (show EnvL w.heap.size w _ _ from (E.out.below hb).push (X := ⟨A4, n4, c4, r⟩) (CR.In.new hI hA hps))
      have ZB := Lib.hid ((ZB.out.below hb ZB.out.lt).alloc (.cells #[.slice A4 n4 c4, .int .i64 r.per, .int .i64 r.inc] 31))
      have IX := Lib.hid ((IX.out.below hb).alloc (.cells #[.slice A4 n4 c4, .int .i64 r.per, .int .i64 r.inc] 31))
      have IY := Lib.hid ((IY.out.below hb).alloc (.cells #[.slice A4 n4 c4, .int .i64 r.per, .int .i64 r.inc] 31))
      dsimp only [List.cons_append, List.nil_append] at E
      clear hSS hI hA hb hps z0 z1 z2 z3 z4 z5 hlz
      go_upto_region 17 with fail
      generalize hwe : w2.alloc (.cells #[.slice A4 n4 c4, .int .i64 r.per, .int .i64 r.inc] 31) = wf at *
      clear hwe
      generalize w2.heap.size = ZR at *
      obtain ⟨z0, z1, z2, z3, z4, z5⟩ : _ ∧ _ ∧ _ ∧ _ ∧ _ ∧ _ := ⟨ZB.out.cell 0, ZB.out.cell 1, ZB.out.cell 2, ZB.out.cell 3, ZB.out.cell 4, ZB.out.cell 5⟩
      simp at z0 z1 z2 z3 z4 z5
      have hlz := ZB.out.lt
      go_wp2_with fail
      refine (refMin_any AX AY nx ny cX cY fpX fiX fpY fiY fvX fvY _ (by exact IX.out.ints) (by exact IY.out.ints) (by omega) (by omega) hxn hyn).mono ?_
      rintro e w3 ⟨m, em, A5, n5, c5, hSM, hlm, rfl, hI, hA, hb⟩
      have SM := Lib.hid hSM
      have hps := E.out.s.lt
      have E := Lib.hid (show EnvL w.heap.size w _ _ from (E.out.below hb).push (X := ⟨A5, n5, c5, m⟩) (CR.In.new hI hA hps))
      dsimp only [List.cons_append, List.nil_append] at E
      clear hSM hI hA hb hps z0 z1 z2 z3 z4 z5 hlz IX IY ZB
      go_upto_region 18 with fail
      generalize hwe : w3.alloc (.cells #[.slice A5 n5 c5, .int .i64 m.per, .int .i64 m.inc] 31) = wg at *
      clear hwe
      generalize w3.heap.size = ZM at *
      have GX := Lib.hid CX.out.get; have GY := Lib.hid CY.out.get
      dsimp only at GX GY
      rcases cv_er2 GX.out.1.1 GY.out.1.1 SR.out with ⟨rfl, hro⟩ | ⟨rfl, _⟩
      case inr =>
        rcases ext_er2 GX.out.1.1 GY.out.1.1 SM.out with ⟨rfl, _⟩ | ⟨rfl, _⟩
        all_goals
          go_wp2_with fail
          refine (awake7_any _).mono ?_
          rintro e wq ⟨rfl, hb⟩
          have bw := (E.out.below hb).fin
          go_wp2_with fail
          go_ret
          exact ⟨rfl, bw⟩
      case inl =>
      rcases ext_er2 GX.out.1.1 GY.out.1.1 SM.out with ⟨rfl, hmo⟩ | ⟨rfl, _⟩
      case inr =>
        go_wp2_with fail
        refine (awake7_any _).mono ?_
        rintro e wq ⟨rfl, hb⟩
        have bw := (E.out.below hb).fin
        go_wp2_with fail
        go_ret
        exact ⟨rfl, bw⟩
      case inl =>
      have OKR := Lib.hid hro; have OKM := Lib.hid hmo
      clear hro hmo
      have hl4 : n4 ≤ 400 := by have h1 := OKR.out.n2; have h2 : r.vals.length = n4 := (E.out.get 0 rfl).inn.ints.1; omega
      have hl5 : n5 ≤ 400 := by have h1 := OKM.out.n2; have h2 : m.vals.length = n5 := (E.out.get 1 rfl).inn.ints.1; omega
      have ERM := Lib.hid (cc_law GX.out.1 GY.out.1 GX.out.2.1 GY.out.2.1 GX.out.2.2 GY.out.2.2 SR.out SM.out)
      -- Same: r .. c4 the first curve and its slice, m .. c5 the second one, 0 1 places, ERM.out the equation of the curves
      obtain ⟨x0, x1, x2, hlx⟩ := (E.out.get 0 rfl).cells
      obtain ⟨y0, y1, y2, hly⟩ := (E.out.get 1 rfl).cells
      go_wp2_with fail
      refine (refSame_any A4 A5 n4 n5 c4 c5 r.per m.per r.inc m.inc r.vals m.vals _ (by exact (E.out.get 0 rfl).inn.ints) (by exact (E.out.get 1 rfl).inn.ints) (by omega) (by omega)).mono ?_
      rw [show Cv.same ⟨r.vals, r.per, r.inc⟩ ⟨m.vals, m.per, m.inc⟩ = true from (Cv.same_iff _ _).2 ERM.out]
      rintro e wq ⟨rfl, hb⟩
      have E := Lib.hid (E.out.below hb)
      clear hb x0 x1 x2 hlx y0 y1 y2 hly
      go_wp2_with fail
      refine (awake7_any _).mono ?_
      rintro e wq ⟨rfl, hb⟩
      have bw := (E.out.below hb).fin
      go_wp2_with fail
      go_ret
      exact ⟨rfl, bw⟩
end Go.Proofs.Ytbkimphcmmmaiaa
