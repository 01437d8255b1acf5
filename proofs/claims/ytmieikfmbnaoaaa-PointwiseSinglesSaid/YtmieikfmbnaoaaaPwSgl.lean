/- The statement PointwiseSingles: the walk. -/
import Derived.Test.YtmieikfmbnaoaaaAwake5
import Derived.Test.YtmieikfmbnaoaaaBent
import Derived.Test.YtmieikfmbnaoaaaRefLow
import Derived.Test.YtmieikfmbnaoaaaRefTot
import Derived.Test.YtmieikfmbnaoaaaRefScale
import Derived.Test.YtmieikfmbnaoaaaPwScale
import Derived.Test.YtmieikfmbnaoaaaRefSame
import Derived.Test.YtmieikfmbnaoaaaPwChooseX
import Derived.Deep.LoopGhost
import Derived.Deep.RegionHeld3
import Derived.Deep.DeepCutAuto
namespace Go.Proofs.Ytmieikfmbnaoaaa
open Go.RowKit
set_option linter.unusedVariables false

theorem EnvL.addS {p F : Nat} {w0 w : World} {vs : List (Nat × CR)} {X : CR} (h : EnvL p w0 w vs) (hx : Lc p w F X) : EnvL p w0 w (vs ++ [(F, X)]) := ⟨h.s, h.k, fun x hx' => by
  rcases List.mem_append.1 hx' with hx' | hx'
  · exact h.v x hx'
  · simp only [List.mem_singleton] at hx'
    subst hx'
    exact hx⟩
theorem b3ss {B : Nat} {w0 w : World} (h : Below B w0 w) {g : Nat} (hg : B ≤ g) (x y z : Value) : Below B w0 (((w.setCell ⟨g, 0, none⟩ x).setCell ⟨g, 1, none⟩ y).setCell ⟨g, 2, none⟩ z) := ((h.setCell (by simpa using hg) x).setCell (by simpa using hg) y).setCell (by simpa using hg) z
theorem MadeS.lenS {h : Nat → Int} {r : Cv} {er : Int} (m : MadeS h r er) : r.vals.length ≤ 400 := by
  obtain ⟨g, hg, ⟨hl, rfl, _⟩ | ⟨_, rfl, _⟩⟩ := m
  · exact hl.1
  · decide
theorem MadeL.lenS {h : Nat → Int} {r : Cv} {er : Int} (m : MadeL h r er) : r.vals.length ≤ 400 := by
  rcases m with ⟨_, hl, _⟩ | ⟨_, rfl, _⟩
  · exact hl.1
  · decide
theorem OneS.lenS {lo hi : Int} {S : Cv → Cv → Int → Prop} {f r : Cv} {n er : Int} (hS : ∀ a r er, S a r er → r.vals.length ≤ 400) (h : OneS lo hi S f n r er) : r.vals.length ≤ 400 := by
  rcases h with ⟨_, rfl, _⟩ | ⟨_, _, rfl, _⟩ | ⟨_, _, _, a, _, h⟩
  · decide
  · decide
  · exact hS a r er h
theorem ScaleS.lenS {f r : Cv} {d er : Int} (h : ScaleS f d r er) : r.vals.length ≤ 400 := OneS.lenS (S := fun a r er => MadeS (scaleV a d) r er) (fun a r er h => h.lenS) h
theorem LaterS.lenS {f r : Cv} {d er : Int} (h : LaterS f d r er) : r.vals.length ≤ 400 := OneS.lenS (S := fun a r er => MadeS (laterV a d.toNat) r er) (fun a r er h => h.lenS) h
theorem AheadFS.lenS {f r : Cv} {d er : Int} (h : AheadFS f d r er) : r.vals.length ≤ 400 := OneS.lenS (S := fun a r er => MadeL (aheadV a d.toNat) r er) (fun a r er h => h.lenS) h
theorem LowerS.lenS {f r : Cv} {d er : Int} (h : LowerS f d r er) : r.vals.length ≤ 400 := OneS.lenS (S := fun a r er => MadeL (lowerV a d) r er) (fun a r er h => h.lenS) h
theorem RaiseS.lenS {f r : Cv} {d er : Int} (h : RaiseS f d r er) : r.vals.length ≤ 400 := OneS.lenS (S := fun a r er => MadeL (raiseV a d) r er) (fun a r er h => h.lenS) h
theorem SumS.lenS {f g r : Cv} {er : Int} (h : SumS f g r er) : r.vals.length ≤ 400 := by
  rcases h with ⟨_, rfl, _⟩ | ⟨_, _, a, b, _, _, ⟨_, rfl, _⟩ | ⟨_, h⟩⟩
  · decide
  · decide
  · exact MadeS.lenS (h := sumV a b) h
theorem TotR.lenS : ∀ {fs : List Cv} {s r : Cv} {er : Int}, s.vals.length ≤ 400 → TotR s fs r er → r.vals.length ≤ 400
  | [], s, r, er, hs, h => by obtain ⟨rfl, _⟩ := h; exact hs
  | f :: fs, s, r, er, hs, h => by
    obtain ⟨t, e, h1, ⟨_, h2⟩ | ⟨_, rfl, _⟩⟩ := h
    · exact TotR.lenS h1.lenS h2
    · decide
theorem TotR.uniqueS : ∀ {fs : List Cv} {s r r' : Cv} {er er' : Int}, TotR s fs r er → TotR s fs r' er' → r = r' ∧ er = er'
  | [], s, r, r', er, er', h, k => by obtain ⟨rfl, rfl⟩ := h; obtain ⟨rfl, rfl⟩ := k; exact ⟨rfl, rfl⟩
  | f :: fs, s, r, r', er, er', h, k => by
    obtain ⟨t, e, h1, h2⟩ := h
    obtain ⟨t', e', k1, k2⟩ := k
    obtain ⟨rfl, rfl⟩ := SumS.unique h1 k1
    rcases h2 with ⟨he, h2⟩ | ⟨he, rfl, rfl⟩ <;> rcases k2 with ⟨ke, k2⟩ | ⟨ke, rfl, rfl⟩
    · exact TotR.uniqueS h2 k2
    · exact absurd he ke
    · exact absurd ke he
    · exact ⟨rfl, rfl⟩
/-- a curve that may be handed on -/
def CR.FitS (x : CR) : Prop := x.n ≤ 1000 ∧ x.n ≤ x.c

/-- a list of curves that may be handed on -/
def LstOk (w : World) (v : Value) : Prop := ∃ (b : Option Addr) (n c : Nat) (xs : List CR), v = .slice b n c ∧ xs.length = n ∧ n ≤ 1000 ∧ (0 < n → ∃ g o, b = some ⟨g, o, none⟩ ∧ RowO w g o xs) ∧ ∀ x ∈ xs, x.FitS
theorem LstOk.below {w w' : World} {v : Value} (h : LstOk w v) (hb : Below w.heap.size w w') : LstOk w' v := by
  obtain ⟨b, n, c, xs, h1, h2, h3, h4, h5⟩ := h
  exact ⟨b, n, c, xs, h1, h2, h3, fun hn => by obtain ⟨g, o, hg, hr⟩ := h4 hn; exact ⟨g, o, hg, hr.below hb⟩, h5⟩
theorem LstOk.row {p : Nat} {w : World} {b : Nat} {xs : List CR} {n : Nat} (h : Row p w b xs) (hn : xs.length = n) (h2 : n ≤ 1000) (hf : ∀ x ∈ xs, x.FitS) : LstOk w (.slice (some ⟨b, 0, none⟩) n n) :=
  ⟨_, n, n, xs, rfl, hn, h2, fun _ => ⟨b, 0, rfl, h.toC.toO⟩, hf⟩
theorem LstOk.nil_ (w : World) : LstOk w (.slice none 0 0) := ⟨none, 0, 0, [], rfl, rfl, by omega, fun h => by omega, fun x hx => by cases hx⟩
/-- block b holds four lists of curves -/
def Lists (w : World) (b : Nat) : Prop := ∃ vs : List Value, vs.length = 4 ∧ Blk w b 67 vs.toArray ∧ ∀ v ∈ vs, LstOk w v
theorem Lists.below {w w' : World} {b : Nat} (h : Lists w b) (hb : Below w.heap.size w w') : Lists w' b := by
  obtain ⟨vs, h1, h2, h3⟩ := h
  exact ⟨vs, h1, h2.below hb h2.lt, fun v hv => (h3 v hv).below hb⟩
theorem Lists.get {w : World} {b k : Nat} (h : Lists w b) (hk : k < 4) : ∃ v, w.cell? ⟨b, k, none⟩ = some v ∧ LstOk w v := by
  obtain ⟨vs, h1, h2, h3⟩ := h
  have h4 : k < vs.length := by omega
  refine ⟨vs[k], ?_, h3 _ (List.getElem_mem h4)⟩
  have := h2.cell k
  rw [List.getElem?_toArray, List.getElem?_eq_getElem h4] at this
  exact this
set_option maxHeartbeats 8000000 in
set_option maxRecDepth 100000 in
theorem sglLaw_any (A1 : Option Addr) (n1 c1 : Nat) (p1 i1 : Int) (L1 : List Int) (t0 : Int) (AL : Option Addr) (nL cL : Nat) (xs : List CR) (A0 : Option Addr) (n0 c0 : Nat) (L : List Int) (W : World)
    (hI1 : Ints W W.heap.size A1 n1 L1) (hc1 : n1 ≤ c1) (hn1 : (n1 : Int) ≤ 9223372036854775807) (hxl : xs.length = nL) (hnL : (nL : Int) ≤ 9223372036854775807) (hrow : 0 < nL → ∃ g o, AL = some ⟨g, o, none⟩ ∧ RowO W g o xs) (hxs : ∀ x ∈ xs, x.n ≤ x.c ∧ (x.n : Int) ≤ 9223372036854775807)
    (hL0 : Ints W W.heap.size A0 n0 L) (hc0 : n0 ≤ c0) (hn0 : (n0 : Int) ≤ 9223372036854775807) :
    Calls Try.prog 14 #[.agg #[.slice A1 n1 c1, .int .i64 p1, .int .i64 i1], .int .i64 t0, .slice AL nL cL, .slice A0 n0 c0] W fun e w' => e = .returned (.bool true) ∧ Below W.heap.size W w' := by
  have RI := Lib.hid (hI1.alloc' (.cells #[.slice A1 n1 c1, .int .i64 p1, .int .i64 i1] 41))
  have LI := Lib.hid (hL0.alloc' (.cells #[.slice A1 n1 c1, .int .i64 p1, .int .i64 i1] 41))
  have RX := Lib.hid (Blk.new W 41 #[.slice A1 n1 c1, .int .i64 p1, .int .i64 i1])
  have BW := Lib.hid (balloc W (.cells #[.slice A1 n1 c1, .int .i64 p1, .int .i64 i1] 41))
  have HC1 := Lib.hid hc1; have HROW := Lib.hid hrow; have HXL := Lib.hid hxl; have HXS := Lib.hid hxs
  clear hI1 hL0 hc1 hrow hxl hxs
  go_enter Try.func14, Try.ntmps14
  go_wp2_with fail
  refine (small_any A1 n1 c1 p1 i1 _ hn1).mono ?_
  rintro e wa ⟨rfl, hb⟩
  have RI := Lib.hid (RI.out.ext hb); have LI := Lib.hid (LI.out.ext hb)
  have RX := Lib.hid (RX.out.below hb RX.out.lt); have BW := Lib.hid (bthen BW.out hb)
  clear hb
  by_cases h1 : (n1 : Int) ≤ 800
  · rw [decide_eq_true h1]
    by_cases h6 : (6 : Int) < nL
    · go_wp2_with fail
      refine (awake5_any _).mono ?_
      rintro q wq ⟨rfl, hbq⟩
      have bw := bthen BW.out hbq
      go_wp2_with fail
      go_ret
      exact ⟨rfl, bw⟩
    · go_wp2_with fail
      go_loopg [9, 41] nL (fun gg s9 s41 wx => ∃ k : Nat, k + gg = nL ∧ s41 = .int .i64 k ∧ (∀ (j : Nat) (x : CR), j < k → xs[j]? = some x → x.n ≤ 800) ∧ Below wa.heap.size wa wx)
      case atStart => exact ⟨0, by omega, rfl, fun j x h => by omega, Below.refl _ _⟩
      case round =>
        obtain ⟨k, hkg, rfl, hall, hB⟩ := hrel
        have ALL := Lib.hid hall; have BA := Lib.hid hB
        clear hall hB
        by_cases hk : k < nL
        · have hki : (k : Int) < nL := by omega
          obtain ⟨g, o, hg, hr⟩ := HROW.out (by omega)
          subst hg
          obtain ⟨x, hx, hix, x0, x1, x2⟩ := (hr.below (BW.out.trans (BA.out.mono BW.out.size))).get (k := k) (by rw [HXL.out]; exact hk)
          have hlg := (hr.below (BW.out.trans (BA.out.mono BW.out.size))).lt
          have hxn := (HXS.out x (List.mem_of_getElem? hx)).2
          have HX := Lib.hid hx
          clear hx hix hr
          go_wp2_with fail
          refine (small_any x.A x.n x.c x.f.per x.f.inc _ hxn).mono ?_
          rintro e wb ⟨rfl, hb⟩
          clear x0 x1 x2 hlg
          have BA := Lib.hid (bthen BA.out hb)
          clear hb
          by_cases hx8 : (x.n : Int) ≤ 800
          · rw [decide_eq_true hx8]
            have ALL2 := Lib.hid (show ∀ (j : Nat) (y : CR), j < k + 1 → xs[j]? = some y → y.n ≤ 800 from fun j y hj hy => by
              rcases Nat.lt_or_ge j k with h | h
              · exact ALL.out j y h hy
              · have : j = k := by omega
                subst this
                have h2 := HX.out
                rw [hy] at h2
                injection h2 with h2
                rw [h2]; omega)
            go_wp2_with fail
            go_roundg (gk - 1)
            case measure => omega
            case rel => exact ⟨k + 1, by omega, by go_num, ALL2.out, BA.out⟩
          · rw [decide_eq_false hx8]
            go_wp2_with fail
            refine (awake5_any _).mono ?_
            rintro q wq ⟨rfl, hbq⟩
            have bw := bthen (BW.out.trans (BA.out.mono BW.out.size)) hbq
            go_wp2_with fail
            go_ret
            exact ⟨rfl, bw⟩
        · have hkn : k = nL := by omega
          subst hkn
          have FITL := Lib.hid (show ∀ x ∈ xs, x.FitS from fun x hx => by
            obtain ⟨j, hj⟩ := List.mem_iff_getElem?.1 hx
            have hjl : j < xs.length := by
              rcases Nat.lt_or_ge j xs.length with h | h
              · exact h
              · rw [List.getElem?_eq_none h] at hj; cases hj
            exact ⟨by have := ALL.out j x (by rw [← HXL.out]; exact hjl) hj; show x.n ≤ 1000; omega, (HXS.out x hx).1⟩)
          have ROWL := Lib.hid (show 0 < k → ∃ g o, AL = some ⟨g, o, none⟩ ∧ RowO wr g o xs from fun h => by
            obtain ⟨g, o, hg, hr⟩ := HROW.out h
            exact ⟨g, o, hg, hr.below (BW.out.trans (BA.out.mono BW.out.size))⟩)
          have BWW := Lib.hid (BW.out.trans (BA.out.mono BW.out.size))
          have R0 := Lib.hid (show Lc wr.heap.size wr W.heap.size ⟨A1, n1, c1, ⟨L1, p1, i1⟩⟩ from ⟨RX.out.below BA.out RX.out.lt, CR.In.old (RI.out.ext BA.out), Nat.ne_of_lt (RX.out.below BA.out RX.out.lt).lt⟩)
          have hL := LI.out.ext BA.out
          have FIT1 := Lib.hid (show (CR.mk A1 n1 c1 ⟨L1, p1, i1⟩).FitS from ⟨by show n1 ≤ 1000; omega, HC1.out⟩)
          have hk6 : k ≤ 6 := by omega
          clear ALL HXS HROW BW BA RX RI LI HC1 hn1 h1 h6 hnL hk hkg
          obtain ⟨w, hw⟩ : ∃ w : World, w = wr := ⟨_, rfl⟩
          subst hw
          obtain ⟨nL, hnl⟩ : ∃ nL : Nat, nL = k := ⟨_, rfl⟩
          subst hnl
          go_wp2_with fail
          refine (new_any A0 n0 c0 L w hL hc0 hn0).mono ?_
          rintro e w1 ⟨rfl, hS1, hb1⟩
          have E := Lib.hid (show EnvL w.heap.size w w1 [(W.heap.size, ⟨A1, n1, c1, ⟨L1, p1, i1⟩⟩)] from (EnvL.start hS1 hb1).addS (R0.out.below hb1))
          clear hL hS1 hb1 R0
          -- a curve drawn, not yet in a variable: srcCurve2_any the contract, 9 most, _ w2 the worlds, f the curve, A n c, DrawC 9 f its facts
          go_wp2_with fail
          refine (srcCurve2_any w.heap.size 9 _ (by exact E.out.s) (by omega) (by omega)).mono ?_
          rintro e w2 ⟨f, A, n, c, hD, hcf, rfl, hI, hA, hS, hk⟩
          have hps := E.out.s.lt
          have E := Lib.hid (E.out.kept hS hk)
          have Vf := Lib.hid (show (CR.mk A n c f).In w.heap.size w2 from CR.In.new hI hA hps)
          have Hf := Lib.hid (show DrawC 9 f from hD)
          have HCf := Lib.hid hcf
          have hlenf := hI.1
          try simp only at hlenf
          have hnf : n ≤ 20 := by have h1 := Hf.out.len; omega
          clear hlenf
          clear hD hI hA hS hk hps hcf
          have E := Lib.hid (show EnvL w.heap.size w _ _ from E.out.push (X := ⟨A, n, c, f⟩) Vf.out)
          dsimp only [List.cons_append, List.nil_append] at E
          have FITF := Lib.hid (show (CR.mk A n c f).FitS from ⟨by show n ≤ 1000; omega, HCf.out⟩)
          clear Vf HCf
          go_upto_region 11 with fail
          generalize hwe : w2.alloc (.cells #[.slice A n c, .int .i64 f.per, .int .i64 f.inc] 41) = we at E ⊢
          clear hwe
          go_cut [61, 62, 63] (fun s61 s62 s63 wx => ∃ (b3 : Nat) (ys : List CR), s61 = .slice (some ⟨b3, 0, none⟩) 3 3 ∧ s62 = .int .i64 3 ∧ s63 = .int .i64 0 ∧ ys.length = 3 ∧ (∀ x ∈ ys, x.FitS) ∧ EnvL w.heap.size w wx [(W.heap.size, ⟨A1, n1, c1, ⟨L1, p1, i1⟩⟩), (w2.heap.size, ⟨A, n, c, f⟩)] ∧ Row w.heap.size wx b3 ys)
          case first =>
            obtain ⟨u0, u1, u2, hlu⟩ := (E.out.get 0 rfl).cells
            obtain ⟨f0, f1, f2, hlf⟩ := (E.out.get 1 rfl).cells
            go_region_held3 (fun w' => (w'.cell? ⟨W.heap.size, 0, none⟩ = some (.slice A1 n1 c1) ∧ w'.cell? ⟨W.heap.size, 1, none⟩ = some (.int .i64 p1) ∧ w'.cell? ⟨W.heap.size, 2, none⟩ = some (.int .i64 i1)) ∧ w'.cell? ⟨w2.heap.size, 0, none⟩ = some (.slice A n c) ∧ w'.cell? ⟨w2.heap.size, 1, none⟩ = some (.int .i64 f.per) ∧ w'.cell? ⟨w2.heap.size, 2, none⟩ = some (.int .i64 f.inc)) (first | go_keep)
              (first
                | (go_at_call 35
                   refine (srcBent2_any w.heap.size A n c f.per f.inc f.vals _ (by exact E.out.s.drew) (by exact (E.out.get 1 rfl).inn.drew.ints) (by omega)).mono ?_
                   rintro e w7 ⟨h, AB, nB, cB, hlB, hcB, rfl, hIB, hBB, hSB, hkB⟩
                   have hkB := kofdrew hkB
                   have hps := E.out.s.lt
                   have E := Lib.hid (E.out.kept hSB hkB)
                   have VB := Lib.hid (show (CR.mk AB nB cB h).In w.heap.size w7 from CR.In.new hIB hBB (by simpa using hps))
                   have FITB := Lib.hid (show (CR.mk AB nB cB h).FitS from ⟨by have h2 : h.vals.length = nB := hIB.1; show nB ≤ 1000; omega, hcB⟩)
                   clear hIB hBB hSB hkB hlB hcB hps
                   clear u0 u1 u2 hlu f0 f1 f2 hlf
                   obtain ⟨u0, u1, u2, hlu⟩ := (E.out.get 0 rfl).cells
                   obtain ⟨f0, f1, f2, hlf⟩ := (E.out.get 1 rfl).cells
                   dsimp only))
            all_goals
              go_wp2_with fail
              go_meet
              exact ⟨w7.heap.size, [⟨A1, n1, c1, ⟨L1, p1, i1⟩⟩, ⟨A, n, c, f⟩, ⟨AB, nB, cB, h⟩], rfl, rfl, rfl, rfl, (by
                intro x hx
                simp only [List.mem_cons, List.not_mem_nil, or_false] at hx
                rcases hx with rfl | rfl | rfl
                · exact FIT1.out
                · exact FITF.out
                · exact FITB.out), E.out.alloc _, Blk.new _ _ _, (by
                intro x hx
                simp only [List.mem_cons, List.not_mem_nil, or_false] at hx
                rcases hx with rfl | rfl | rfl
                · exact (E.out.get 0 rfl).inn.alloc _
                · exact (E.out.get 1 rfl).inn.alloc _
                · exact VB.out.alloc _), Nat.ne_of_gt E.out.s.lt⟩
          case rest =>
            obtain ⟨b3, ys, rfl, rfl, rfl, hyl, hyf, hE, hR⟩ := hcut
            clear E
            have E := Lib.hid hE; have ROW := Lib.hid hR; have HYL := Lib.hid hyl; have HYF := Lib.hid hyf
            clear hE hR hyl hyf
            go_wp2_with fail
            go_loopg [63] 3 (fun gg s63 wx => ∃ k : Nat, k + gg = 3 ∧ s63 = .int .i64 k ∧ EnvL w.heap.size w wx [(W.heap.size, ⟨A1, n1, c1, ⟨L1, p1, i1⟩⟩), (w2.heap.size, ⟨A, n, c, f⟩)] ∧ Row w.heap.size wx b3 ys)
            case atStart => exact ⟨0, rfl, rfl, E.out, ROW.out⟩
            case round =>
              clear E ROW
              obtain ⟨k, hkg, rfl, hE, hR⟩ := hrel
              have E := Lib.hid hE; have ROW := Lib.hid hR
              clear hE hR
              by_cases hk : k < 3
              · have hki : (k : Int) < 3 := by omega
                obtain ⟨X, hXm, hXi, k0, k1, k2⟩ := ROW.out.get (k := k) (by rw [HYL.out]; exact hk)
                have hlw := ROW.out.lt
                have LX := Lib.hid (Lc.new hXi E.out.s.lt)
                have FX := Lib.hid (HYF.out X hXm)
                have E := Lib.hid (E.out.alloc (.cells #[.slice X.A X.n X.c, .int .i64 X.f.per, .int .i64 X.f.inc] 41))
                have ROW := Lib.hid (ROW.out.alloc (.cells #[.slice X.A X.n X.c, .int .i64 X.f.per, .int .i64 X.f.inc] 41))
                go_upto_region 14 with fail
                clear k0 k1 k2 hXi hXm hlw
                generalize hwe : wr.alloc (.cells #[.slice X.A X.n X.c, .int .i64 X.f.per, .int .i64 X.f.inc] 41) = wo at E ROW LX ⊢
                clear hwe
                generalize wr.heap.size = ZX at LX ⊢
                obtain ⟨go, hgo⟩ : ∃ go : Nat, go = gk := ⟨_, rfl⟩
                subst hgo
                go_wp2_with fail
                refine (n_any w.heap.size 30 _ (by exact E.out.s) (by omega) (by omega)).mono ?_
                rintro e w8 ⟨u0, hu0, hu1, rfl, hS, hk8⟩
                have E := Lib.hid (E.out.kept hS hk8); have ROW := Lib.hid (ROW.out.kept hk8); have LX := Lib.hid (LX.out.kept hk8)
                clear hS hk8 hu0 hu1
                have hp8 := E.out.s.lt
                have il := ints_litC w8 [-1, 0, 1, 398, 400, 1048576, 1048577, 1073741824, 1073741825]
                simp only [List.map_cons, List.map_nil] at il
                have IL := Lib.hid il
                have E := Lib.hid (E.out.alloc (.cells #[.int .i64 (-1), .int .i64 0, .int .i64 1, .int .i64 398, .int .i64 400, .int .i64 1048576, .int .i64 1048577, .int .i64 1073741824, .int .i64 1073741825] 3))
                have ROW := Lib.hid (ROW.out.alloc (.cells #[.int .i64 (-1), .int .i64 0, .int .i64 1, .int .i64 398, .int .i64 400, .int .i64 1048576, .int .i64 1048577, .int .i64 1073741824, .int .i64 1073741825] 3))
                have LX := Lib.hid (LX.out.alloc (.cells #[.int .i64 (-1), .int .i64 0, .int .i64 1, .int .i64 398, .int .i64 400, .int .i64 1048576, .int .i64 1048577, .int .i64 1073741824, .int .i64 1073741825] 3))
                clear il
                go_wp2_with fail
                refine (pick_any w.heap.size (some ⟨w8.heap.size, 0, none⟩) 9 9 [-1, 0, 1, 398, 400, 1048576, 1048577, 1073741824, 1073741825] _ (by exact E.out.s) (by exact IL.out) (fun b off s e => by cases e; omega) (by omega) (by omega)).mono ?_
                rintro e w9 ⟨⟨jj, hjj, rfl⟩, hS, hk9⟩
                have E := Lib.hid (E.out.kept hS hk9); have ROW := Lib.hid (ROW.out.kept hk9); have LX := Lib.hid (LX.out.kept hk9)
                generalize nth [-1, 0, 1, 398, 400, 1048576, 1048577, 1073741824, 1073741825] jj = v
                clear hS hk9 IL hjj hp8
                obtain ⟨ks, hks⟩ : ∃ ks : List Int, ks = [t0, u0, v] := ⟨_, rfl⟩
                have tb : Ints (w9.alloc (.cells (([t0, u0, v] : List Int).map (Value.int .i64)).toArray 3)) (w9.alloc (.cells (([t0, u0, v] : List Int).map (Value.int .i64)).toArray 3)).heap.size (some ⟨w9.heap.size, 0, none⟩) 3 [t0, u0, v] := ints_litC w9 [t0, u0, v]
                rw [← hks] at tb
                have TB := Lib.hid tb
                have hz3 : w9.heap.size < (w9.alloc (.cells (ks.map (Value.int .i64)).toArray 3)).heap.size := by rw [World.size_alloc]; omega
                have E := Lib.hid (E.out.alloc (.cells (ks.map (Value.int .i64)).toArray 3)); have ROW := Lib.hid (ROW.out.alloc (.cells (ks.map (Value.int .i64)).toArray 3)); have LX := Lib.hid (LX.out.alloc (.cells (ks.map (Value.int .i64)).toArray 3))
                clear tb
                rw [hks] at TB E ROW LX hz3
                simp only [List.map_cons, List.map_nil] at TB E ROW LX hz3
                go_wp2_with fail
                generalize hwe : w9.alloc (.cells #[.int .i64 t0, .int .i64 u0, .int .i64 v] 3) = wl at TB E ROW LX hz3 ⊢
                clear hwe
                rw [← hks] at TB
                clear hks
                generalize w9.heap.size = ZK at TB hz3 ⊢
                go_loopg [75] 3 (fun gg s75 wy => ∃ j : Nat, j + gg = 3 ∧ s75 = .int .i64 j ∧ EnvL w.heap.size w wy [(W.heap.size, ⟨A1, n1, c1, ⟨L1, p1, i1⟩⟩), (w2.heap.size, ⟨A, n, c, f⟩)] ∧ Row w.heap.size wy b3 ys ∧ Lc w.heap.size wy ZX X ∧ Ints wy wy.heap.size (some ⟨ZK, 0, none⟩) 3 ks)
                case atStart => exact ⟨0, rfl, rfl, E.out, ROW.out, LX.out, by exact TB.out⟩
                case round =>
                  clear E ROW LX TB
                  as_aux_lemma =>
                  obtain ⟨j, hjg, rfl, hE, hR, hLX, hTB⟩ := hrel
                  have E := Lib.hid hE; have ROW := Lib.hid hR; have LX := Lib.hid hLX; have TB := Lib.hid hTB
                  clear hE hR hLX hTB
                  by_cases hj : j < 3
                  · have hji : (j : Int) < 3 := by omega
                    obtain ⟨b, off, hAe, hbl, hcell⟩ := TB.out.2 (by omega)
                    have hck := hcell j hj
                    cases hAe
                    rw [Nat.zero_add] at hck
                    obtain ⟨t, ht⟩ : ∃ t, t = nth ks j := ⟨_, rfl⟩
                    rw [← ht] at hck
                    clear ht hcell
                    go_upto_region 17 with fail
                    clear hck hbl
                    obtain ⟨wi, hwi⟩ : ∃ wi : World, wi = wr := ⟨_, rfl⟩
                    subst hwi
                    have BI := Lib.hid (Below.refl wi.heap.size wi)
                    have hfx := FX.out.1; have hfx2 := FX.out.2
                    obtain ⟨x0, x1, x2, hlx⟩ := (LX.out.below BI.out).cells
                    go_wp2_with fail
                    refine (pscale_any X.A X.n X.c X.f.per X.f.inc t X.f.vals _ (by exact (LX.out.below BI.out).inn.ints) (by omega)).mono ?_
                    rintro e wa5 ⟨r5, er5, hS, A5, n5, c5, rfl, hI, hA, hb⟩
                    have HS5 := Lib.hid hS
                    have hn5 : n5 ≤ 400 := by have h1 := ScaleS.lenS hS; have h2 : r5.vals.length = n5 := hI.1; omega
                    -- the variables stay behind a call
                    try (replace B5 := Lib.hid (B5.out.below hb B5.out.lt))
                    try (replace B6 := Lib.hid (B6.out.below hb B6.out.lt))
                    try (replace B7 := Lib.hid (B7.out.below hb B7.out.lt))
                    try (replace B8 := Lib.hid (B8.out.below hb B8.out.lt))
                    try (replace I5 := Lib.hid (I5.out.ext hb))
                    try (replace I6 := Lib.hid (I6.out.ext hb))
                    try (replace I7 := Lib.hid (I7.out.ext hb))
                    try (replace I8 := Lib.hid (I8.out.ext hb))
                    replace BI := Lib.hid (bthen BI.out hb)
                    try (have hl55 := B5.out.lt)
                    try (have hl65 := B6.out.lt)
                    try (have hl75 := B7.out.lt)
                    -- .. and behind a new variable with the curve number 5, the world wa5
                    try (replace B5 := Lib.hid (B5.out.alloc (.cells #[.slice A5 n5 c5, .int .i64 r5.per, .int .i64 r5.inc] 41)))
                    try (replace B6 := Lib.hid (B6.out.alloc (.cells #[.slice A5 n5 c5, .int .i64 r5.per, .int .i64 r5.inc] 41)))
                    try (replace B7 := Lib.hid (B7.out.alloc (.cells #[.slice A5 n5 c5, .int .i64 r5.per, .int .i64 r5.inc] 41)))
                    try (replace I5 := Lib.hid (I5.out.alloc' (.cells #[.slice A5 n5 c5, .int .i64 r5.per, .int .i64 r5.inc] 41)))
                    try (replace I6 := Lib.hid (I6.out.alloc' (.cells #[.slice A5 n5 c5, .int .i64 r5.per, .int .i64 r5.inc] 41)))
                    try (replace I7 := Lib.hid (I7.out.alloc' (.cells #[.slice A5 n5 c5, .int .i64 r5.per, .int .i64 r5.inc] 41)))
                    have B5 := Lib.hid (Blk.new wa5 41 #[.slice A5 n5 c5, .int .i64 r5.per, .int .i64 r5.inc])
                    have I5 := Lib.hid (hI.alloc' (.cells #[.slice A5 n5 c5, .int .i64 r5.per, .int .i64 r5.inc] 41))
                    have hz5 := BI.out.size
                    replace BI := Lib.hid (bthen BI.out (balloc _ (.cells #[.slice A5 n5 c5, .int .i64 r5.per, .int .i64 r5.inc] 41)))
                    clear hS hI hA hb
                    go_upto_region 18 with fail
                    clear x0 x1 x2 hlx
                    generalize hwe : wa5.alloc (.cells #[.slice A5 n5 c5, .int .i64 r5.per, .int .i64 r5.inc] 41) = wc5 at *
                    clear hwe
                    generalize wa5.heap.size = Z5 at *
                    obtain ⟨x0, x1, x2, hlx⟩ := (LX.out.below BI.out).cells
                    go_wp2_with fail
                    refine (refScale_any X.A X.n X.c X.f.per X.f.inc t X.f.vals _ (by exact (LX.out.below BI.out).inn.ints) (by omega) hfx2).mono ?_
                    rintro e wa6 ⟨r6, er6, A6, n6, c6, hS, hc6, rfl, hI, hA, hb⟩
                    have hn6 : n6 ≤ 400 := by have h1 := ScaleS.lenS hS; have h2 : r6.vals.length = n6 := hI.1; omega
                    -- the variables stay behind a call
                    try (replace B5 := Lib.hid (B5.out.below hb B5.out.lt))
                    try (replace B6 := Lib.hid (B6.out.below hb B6.out.lt))
                    try (replace B7 := Lib.hid (B7.out.below hb B7.out.lt))
                    try (replace B8 := Lib.hid (B8.out.below hb B8.out.lt))
                    try (replace I5 := Lib.hid (I5.out.ext hb))
                    try (replace I6 := Lib.hid (I6.out.ext hb))
                    try (replace I7 := Lib.hid (I7.out.ext hb))
                    try (replace I8 := Lib.hid (I8.out.ext hb))
                    replace BI := Lib.hid (bthen BI.out hb)
                    try (have hl56 := B5.out.lt)
                    try (have hl66 := B6.out.lt)
                    try (have hl76 := B7.out.lt)
                    -- .. and behind a new variable with the curve number 6, the world wa6
                    try (replace B5 := Lib.hid (B5.out.alloc (.cells #[.slice A6 n6 c6, .int .i64 r6.per, .int .i64 r6.inc] 41)))
                    try (replace B6 := Lib.hid (B6.out.alloc (.cells #[.slice A6 n6 c6, .int .i64 r6.per, .int .i64 r6.inc] 41)))
                    try (replace B7 := Lib.hid (B7.out.alloc (.cells #[.slice A6 n6 c6, .int .i64 r6.per, .int .i64 r6.inc] 41)))
                    try (replace I5 := Lib.hid (I5.out.alloc' (.cells #[.slice A6 n6 c6, .int .i64 r6.per, .int .i64 r6.inc] 41)))
                    try (replace I6 := Lib.hid (I6.out.alloc' (.cells #[.slice A6 n6 c6, .int .i64 r6.per, .int .i64 r6.inc] 41)))
                    try (replace I7 := Lib.hid (I7.out.alloc' (.cells #[.slice A6 n6 c6, .int .i64 r6.per, .int .i64 r6.inc] 41)))
                    have B6 := Lib.hid (Blk.new wa6 41 #[.slice A6 n6 c6, .int .i64 r6.per, .int .i64 r6.inc])
                    have I6 := Lib.hid (hI.alloc' (.cells #[.slice A6 n6 c6, .int .i64 r6.per, .int .i64 r6.inc] 41))
                    have hz6 := BI.out.size
                    replace BI := Lib.hid (bthen BI.out (balloc _ (.cells #[.slice A6 n6 c6, .int .i64 r6.per, .int .i64 r6.inc] 41)))
                    have HEQ6 := Lib.hid (ScaleS.unique HS5.out hS)
                    clear hS hI hA hb hc6 HS5
                    go_upto_region 19 with fail
                    clear x0 x1 x2 hlx
                    generalize hwe : wa6.alloc (.cells #[.slice A6 n6 c6, .int .i64 r6.per, .int .i64 r6.inc] 41) = wc6 at *
                    clear hwe
                    generalize wa6.heap.size = Z6 at *
                    obtain ⟨x0, x1, x2, hlx⟩ := (LX.out.below BI.out).cells
                    go_wp2_with fail
                    refine (platerF_any X.A X.n X.c X.f.per X.f.inc t X.f.vals _ (by exact (LX.out.below BI.out).inn.ints) (by omega)).mono ?_
                    rintro e wa7 ⟨r7, er7, hS, A7, n7, c7, rfl, hI, hA, hb⟩
                    have HS7 := Lib.hid hS
                    have hn7 : n7 ≤ 400 := by have h1 := LaterS.lenS hS; have h2 : r7.vals.length = n7 := hI.1; omega
                    -- the variables stay behind a call
                    try (replace B5 := Lib.hid (B5.out.below hb B5.out.lt))
                    try (replace B6 := Lib.hid (B6.out.below hb B6.out.lt))
                    try (replace B7 := Lib.hid (B7.out.below hb B7.out.lt))
                    try (replace B8 := Lib.hid (B8.out.below hb B8.out.lt))
                    try (replace I5 := Lib.hid (I5.out.ext hb))
                    try (replace I6 := Lib.hid (I6.out.ext hb))
                    try (replace I7 := Lib.hid (I7.out.ext hb))
                    try (replace I8 := Lib.hid (I8.out.ext hb))
                    replace BI := Lib.hid (bthen BI.out hb)
                    try (have hl57 := B5.out.lt)
                    try (have hl67 := B6.out.lt)
                    try (have hl77 := B7.out.lt)
                    -- .. and behind a new variable with the curve number 7, the world wa7
                    try (replace B5 := Lib.hid (B5.out.alloc (.cells #[.slice A7 n7 c7, .int .i64 r7.per, .int .i64 r7.inc] 41)))
                    try (replace B6 := Lib.hid (B6.out.alloc (.cells #[.slice A7 n7 c7, .int .i64 r7.per, .int .i64 r7.inc] 41)))
                    try (replace B7 := Lib.hid (B7.out.alloc (.cells #[.slice A7 n7 c7, .int .i64 r7.per, .int .i64 r7.inc] 41)))
                    try (replace I5 := Lib.hid (I5.out.alloc' (.cells #[.slice A7 n7 c7, .int .i64 r7.per, .int .i64 r7.inc] 41)))
                    try (replace I6 := Lib.hid (I6.out.alloc' (.cells #[.slice A7 n7 c7, .int .i64 r7.per, .int .i64 r7.inc] 41)))
                    try (replace I7 := Lib.hid (I7.out.alloc' (.cells #[.slice A7 n7 c7, .int .i64 r7.per, .int .i64 r7.inc] 41)))
                    have B7 := Lib.hid (Blk.new wa7 41 #[.slice A7 n7 c7, .int .i64 r7.per, .int .i64 r7.inc])
                    have I7 := Lib.hid (hI.alloc' (.cells #[.slice A7 n7 c7, .int .i64 r7.per, .int .i64 r7.inc] 41))
                    have hz7 := BI.out.size
                    replace BI := Lib.hid (bthen BI.out (balloc _ (.cells #[.slice A7 n7 c7, .int .i64 r7.per, .int .i64 r7.inc] 41)))
                    clear hS hI hA hb
                    go_upto_region 20 with fail
                    clear x0 x1 x2 hlx
                    generalize hwe : wa7.alloc (.cells #[.slice A7 n7 c7, .int .i64 r7.per, .int .i64 r7.inc] 41) = wc7 at *
                    clear hwe
                    generalize wa7.heap.size = Z7 at *
                    obtain ⟨x0, x1, x2, hlx⟩ := (LX.out.below BI.out).cells
                    go_wp2_with fail
                    refine (refLater_any X.A X.n X.c X.f.per X.f.inc t X.f.vals _ (by exact (LX.out.below BI.out).inn.ints) (by omega) hfx2).mono ?_
                    rintro e wa8 ⟨r8, er8, A8, n8, c8, hS, hc8, rfl, hI, hA, hb⟩
                    have hn8 : n8 ≤ 400 := by have h1 := LaterS.lenS hS; have h2 : r8.vals.length = n8 := hI.1; omega
                    -- the variables stay behind a call
                    try (replace B5 := Lib.hid (B5.out.below hb B5.out.lt))
                    try (replace B6 := Lib.hid (B6.out.below hb B6.out.lt))
                    try (replace B7 := Lib.hid (B7.out.below hb B7.out.lt))
                    try (replace B8 := Lib.hid (B8.out.below hb B8.out.lt))
                    try (replace I5 := Lib.hid (I5.out.ext hb))
                    try (replace I6 := Lib.hid (I6.out.ext hb))
                    try (replace I7 := Lib.hid (I7.out.ext hb))
                    try (replace I8 := Lib.hid (I8.out.ext hb))
                    replace BI := Lib.hid (bthen BI.out hb)
                    try (have hl58 := B5.out.lt)
                    try (have hl68 := B6.out.lt)
                    try (have hl78 := B7.out.lt)
                    -- .. and behind a new variable with the curve number 8, the world wa8
                    try (replace B5 := Lib.hid (B5.out.alloc (.cells #[.slice A8 n8 c8, .int .i64 r8.per, .int .i64 r8.inc] 41)))
                    try (replace B6 := Lib.hid (B6.out.alloc (.cells #[.slice A8 n8 c8, .int .i64 r8.per, .int .i64 r8.inc] 41)))
                    try (replace B7 := Lib.hid (B7.out.alloc (.cells #[.slice A8 n8 c8, .int .i64 r8.per, .int .i64 r8.inc] 41)))
                    try (replace I5 := Lib.hid (I5.out.alloc' (.cells #[.slice A8 n8 c8, .int .i64 r8.per, .int .i64 r8.inc] 41)))
                    try (replace I6 := Lib.hid (I6.out.alloc' (.cells #[.slice A8 n8 c8, .int .i64 r8.per, .int .i64 r8.inc] 41)))
                    try (replace I7 := Lib.hid (I7.out.alloc' (.cells #[.slice A8 n8 c8, .int .i64 r8.per, .int .i64 r8.inc] 41)))
                    have B8 := Lib.hid (Blk.new wa8 41 #[.slice A8 n8 c8, .int .i64 r8.per, .int .i64 r8.inc])
                    have I8 := Lib.hid (hI.alloc' (.cells #[.slice A8 n8 c8, .int .i64 r8.per, .int .i64 r8.inc] 41))
                    have hz8 := BI.out.size
                    replace BI := Lib.hid (bthen BI.out (balloc _ (.cells #[.slice A8 n8 c8, .int .i64 r8.per, .int .i64 r8.inc] 41)))
                    have HEQ8 := Lib.hid (LaterS.unique HS7.out hS)
                    clear hS hI hA hb hc8 HS7
                    go_upto_region 21 with fail
                    clear x0 x1 x2 hlx
                    generalize hwe : wa8.alloc (.cells #[.slice A8 n8 c8, .int .i64 r8.per, .int .i64 r8.inc] 41) = wc8 at *
                    clear hwe
                    generalize wa8.heap.size = Z8 at *
                    obtain ⟨e1, e2⟩ := HEQ6.out
                    subst e1 e2
                    obtain ⟨e1, e2⟩ := HEQ8.out
                    subst e1 e2
                    have g5 : (er5 != er5) = false := by simp
                    have g7 : (er7 != er7) = false := by simp
                    clear HEQ6 HEQ8
                    obtain ⟨⟨k0, k1, k2⟩, ⟨k3, k4, k5⟩, hlk5⟩ := B5.out.c3
                    obtain ⟨⟨l0, l1, l2⟩, ⟨l3, l4, l5⟩, hlk6⟩ := B6.out.c3
                    obtain ⟨⟨m0, m1, m2⟩, ⟨m3, m4, m5⟩, hlk7⟩ := B7.out.c3
                    obtain ⟨⟨o0, o1, o2⟩, ⟨o3, o4, o5⟩, hlk8⟩ := B8.out.c3
                    go_wp2_with fail
                    -- the curves 5 and 6 are the same: {2}
                    refine (refSame_any A5 A6 n5 n6 c5 c6 r5.per r5.per r5.inc r5.inc r5.vals r5.vals _ (by exact I5.out) (by exact I6.out) (by omega) (by omega)).mono ?_
                    rw [(Cv.same_iff _ _).2 rfl]
                    rintro e ws5 ⟨rfl, hb⟩
                    -- the variables stay behind a call
                    try (replace B5 := Lib.hid (B5.out.below hb B5.out.lt))
                    try (replace B6 := Lib.hid (B6.out.below hb B6.out.lt))
                    try (replace B7 := Lib.hid (B7.out.below hb B7.out.lt))
                    try (replace B8 := Lib.hid (B8.out.below hb B8.out.lt))
                    try (replace I5 := Lib.hid (I5.out.ext hb))
                    try (replace I6 := Lib.hid (I6.out.ext hb))
                    try (replace I7 := Lib.hid (I7.out.ext hb))
                    try (replace I8 := Lib.hid (I8.out.ext hb))
                    replace BI := Lib.hid (bthen BI.out hb)
                    clear hb
                    clear k0 k1 k2 k3 k4 k5 hlk5 l0 l1 l2 l3 l4 l5 hlk6
                    clear m0 m1 m2 m3 m4 m5 hlk7 o0 o1 o2 o3 o4 o5 hlk8
                    obtain ⟨⟨k0, k1, k2⟩, ⟨k3, k4, k5⟩, hlk5⟩ := B5.out.c3
                    obtain ⟨⟨l0, l1, l2⟩, ⟨l3, l4, l5⟩, hlk6⟩ := B6.out.c3
                    obtain ⟨⟨m0, m1, m2⟩, ⟨m3, m4, m5⟩, hlk7⟩ := B7.out.c3
                    obtain ⟨⟨o0, o1, o2⟩, ⟨o3, o4, o5⟩, hlk8⟩ := B8.out.c3
                    go_wp2_with fail
                    -- the curves 7 and 8 are the same: {2}
                    refine (refSame_any A7 A8 n7 n8 c7 c8 r7.per r7.per r7.inc r7.inc r7.vals r7.vals _ (by exact I7.out) (by exact I8.out) (by omega) (by omega)).mono ?_
                    rw [(Cv.same_iff _ _).2 rfl]
                    rintro e ws7 ⟨rfl, hb⟩
                    -- the variables stay behind a call
                    try (replace B5 := Lib.hid (B5.out.below hb B5.out.lt))
                    try (replace B6 := Lib.hid (B6.out.below hb B6.out.lt))
                    try (replace B7 := Lib.hid (B7.out.below hb B7.out.lt))
                    try (replace B8 := Lib.hid (B8.out.below hb B8.out.lt))
                    try (replace I5 := Lib.hid (I5.out.ext hb))
                    try (replace I6 := Lib.hid (I6.out.ext hb))
                    try (replace I7 := Lib.hid (I7.out.ext hb))
                    try (replace I8 := Lib.hid (I8.out.ext hb))
                    replace BI := Lib.hid (bthen BI.out hb)
                    clear hb
                    clear k0 k1 k2 k3 k4 k5 hlk5 l0 l1 l2 l3 l4 l5 hlk6
                    clear m0 m1 m2 m3 m4 m5 hlk7 o0 o1 o2 o3 o4 o5 hlk8
                    clear g5 g7 I5 I6 I7 I8 hn5 hn6 hn7 hn8
                    obtain ⟨x0, x1, x2, hlx⟩ := (LX.out.below BI.out).cells
                    go_wp2_with fail
                    refine (paheadF_any X.A X.n X.c X.f.per X.f.inc t X.f.vals _ (by exact (LX.out.below BI.out).inn.ints) (by omega)).mono ?_
                    have hz9 := B8.out.lt
                    rintro e wa5 ⟨r5, er5, hS, A5, n5, c5, rfl, hI, hA, hb⟩
                    have HS5 := Lib.hid hS
                    have hn5 : n5 ≤ 400 := by have h1 := AheadFS.lenS hS; have h2 : r5.vals.length = n5 := hI.1; omega
                    have O5 := Lib.hid (show ∀ b off s, A5 = some ⟨b, off, s⟩ → Z8 < b from fun b off s e => by have := hA b off s e; omega)
                    -- the variables stay behind a call
                    try (replace B5 := Lib.hid (B5.out.below hb B5.out.lt))
                    try (replace B6 := Lib.hid (B6.out.below hb B6.out.lt))
                    try (replace B7 := Lib.hid (B7.out.below hb B7.out.lt))
                    try (replace B8 := Lib.hid (B8.out.below hb B8.out.lt))
                    try (replace I5 := Lib.hid (I5.out.ext hb))
                    try (replace I6 := Lib.hid (I6.out.ext hb))
                    try (replace I7 := Lib.hid (I7.out.ext hb))
                    try (replace I8 := Lib.hid (I8.out.ext hb))
                    replace BI := Lib.hid (bthen BI.out hb)
                    have I5 := Lib.hid hI
                    clear hS hI hA hb hz9
                    clear x0 x1 x2 hlx
                    obtain ⟨⟨k0, k1, k2⟩, ⟨k3, k4, k5⟩, hlk⟩ := B5.out.c3
                    go_upto_region 24 with fail
                    clear k0 k1 k2 k3 k4 k5 hlk
                    -- the curve 5 is stored to the variable 5
                    have st := Sto.three Z5 wa5 (.slice A5 n5 c5) (.int .i64 r5.per) (.int .i64 r5.inc)
                    try (replace I5 := Lib.hid (I5.out.sto0 st (fun hn b off s e => by have := O5.out b off s e; omega)))
                    try (replace I6 := Lib.hid (I6.out.sto0 st (fun hn b off s e => by have := O6.out b off s e; omega)))
                    try (replace I7 := Lib.hid (I7.out.sto0 st (fun hn b off s e => by have := O7.out b off s e; omega)))
                    try (replace I8 := Lib.hid (I8.out.sto0 st (fun hn b off s e => by have := O8.out b off s e; omega)))
                    try (replace B5 := Lib.hid (B5.out.sto st (by omega)))
                    try (replace B6 := Lib.hid (B6.out.sto st (by omega)))
                    try (replace B7 := Lib.hid (B7.out.sto st (by omega)))
                    try (replace B8 := Lib.hid (B8.out.sto st (by omega)))
                    replace B5 := Lib.hid (B5.out.store3 (.slice A5 n5 c5) (.int .i64 r5.per) (.int .i64 r5.inc))
                    replace BI := Lib.hid (b3ss BI.out (g := Z5) hz5 (.slice A5 n5 c5) (.int .i64 r5.per) (.int .i64 r5.inc))
                    clear st
                    generalize hwe : ((wa5.setCell ⟨Z5, 0, none⟩ (.slice A5 n5 c5)).setCell ⟨Z5, 1, none⟩ (.int .i64 r5.per)).setCell ⟨Z5, 2, none⟩ (.int .i64 r5.inc) = wd5 at *
                    clear hwe
                    obtain ⟨x0, x1, x2, hlx⟩ := (LX.out.below BI.out).cells
                    go_wp2_with fail
                    refine (refAhead_any X.A X.n X.c X.f.per X.f.inc t X.f.vals _ (by exact (LX.out.below BI.out).inn.ints) (by omega) hfx2).mono ?_
                    have hz9 := B8.out.lt
                    rintro e wa6 ⟨r6, er6, A6, n6, c6, hS, hc6, rfl, hI, hA, hb⟩
                    have hn6 : n6 ≤ 400 := by have h1 := AheadFS.lenS hS; have h2 : r6.vals.length = n6 := hI.1; omega
                    have O6 := Lib.hid (show ∀ b off s, A6 = some ⟨b, off, s⟩ → Z8 < b from fun b off s e => by have := hA b off s e; omega)
                    -- the variables stay behind a call
                    try (replace B5 := Lib.hid (B5.out.below hb B5.out.lt))
                    try (replace B6 := Lib.hid (B6.out.below hb B6.out.lt))
                    try (replace B7 := Lib.hid (B7.out.below hb B7.out.lt))
                    try (replace B8 := Lib.hid (B8.out.below hb B8.out.lt))
                    try (replace I5 := Lib.hid (I5.out.ext hb))
                    try (replace I6 := Lib.hid (I6.out.ext hb))
                    try (replace I7 := Lib.hid (I7.out.ext hb))
                    try (replace I8 := Lib.hid (I8.out.ext hb))
                    replace BI := Lib.hid (bthen BI.out hb)
                    have I6 := Lib.hid hI
                    have HEQ6 := Lib.hid (AheadFS.unique HS5.out hS)
                    clear hS hI hA hb hz9 hc6 HS5
                    clear x0 x1 x2 hlx
                    obtain ⟨⟨k0, k1, k2⟩, ⟨k3, k4, k5⟩, hlk⟩ := B6.out.c3
                    go_upto_region 25 with fail
                    clear k0 k1 k2 k3 k4 k5 hlk
                    -- the curve 6 is stored to the variable 6
                    have st := Sto.three Z6 wa6 (.slice A6 n6 c6) (.int .i64 r6.per) (.int .i64 r6.inc)
                    try (replace I5 := Lib.hid (I5.out.sto0 st (fun hn b off s e => by have := O5.out b off s e; omega)))
                    try (replace I6 := Lib.hid (I6.out.sto0 st (fun hn b off s e => by have := O6.out b off s e; omega)))
                    try (replace I7 := Lib.hid (I7.out.sto0 st (fun hn b off s e => by have := O7.out b off s e; omega)))
                    try (replace I8 := Lib.hid (I8.out.sto0 st (fun hn b off s e => by have := O8.out b off s e; omega)))
                    try (replace B5 := Lib.hid (B5.out.sto st (by omega)))
                    try (replace B6 := Lib.hid (B6.out.sto st (by omega)))
                    try (replace B7 := Lib.hid (B7.out.sto st (by omega)))
                    try (replace B8 := Lib.hid (B8.out.sto st (by omega)))
                    replace B6 := Lib.hid (B6.out.store3 (.slice A6 n6 c6) (.int .i64 r6.per) (.int .i64 r6.inc))
                    replace BI := Lib.hid (b3ss BI.out (g := Z6) hz6 (.slice A6 n6 c6) (.int .i64 r6.per) (.int .i64 r6.inc))
                    clear st
                    generalize hwe : ((wa6.setCell ⟨Z6, 0, none⟩ (.slice A6 n6 c6)).setCell ⟨Z6, 1, none⟩ (.int .i64 r6.per)).setCell ⟨Z6, 2, none⟩ (.int .i64 r6.inc) = wd6 at *
                    clear hwe
                    obtain ⟨x0, x1, x2, hlx⟩ := (LX.out.below BI.out).cells
                    go_wp2_with fail
                    refine (plower_any X.A X.n X.c X.f.per X.f.inc t X.f.vals _ (by exact (LX.out.below BI.out).inn.ints) (by omega)).mono ?_
                    have hz9 := B8.out.lt
                    rintro e wa7 ⟨r7, er7, hS, A7, n7, c7, rfl, hI, hA, hb⟩
                    have HS7 := Lib.hid hS
                    have hn7 : n7 ≤ 400 := by have h1 := LowerS.lenS hS; have h2 : r7.vals.length = n7 := hI.1; omega
                    have O7 := Lib.hid (show ∀ b off s, A7 = some ⟨b, off, s⟩ → Z8 < b from fun b off s e => by have := hA b off s e; omega)
                    -- the variables stay behind a call
                    try (replace B5 := Lib.hid (B5.out.below hb B5.out.lt))
                    try (replace B6 := Lib.hid (B6.out.below hb B6.out.lt))
                    try (replace B7 := Lib.hid (B7.out.below hb B7.out.lt))
                    try (replace B8 := Lib.hid (B8.out.below hb B8.out.lt))
                    try (replace I5 := Lib.hid (I5.out.ext hb))
                    try (replace I6 := Lib.hid (I6.out.ext hb))
                    try (replace I7 := Lib.hid (I7.out.ext hb))
                    try (replace I8 := Lib.hid (I8.out.ext hb))
                    replace BI := Lib.hid (bthen BI.out hb)
                    have I7 := Lib.hid hI
                    clear hS hI hA hb hz9
                    clear x0 x1 x2 hlx
                    obtain ⟨⟨k0, k1, k2⟩, ⟨k3, k4, k5⟩, hlk⟩ := B7.out.c3
                    go_upto_region 26 with fail
                    clear k0 k1 k2 k3 k4 k5 hlk
                    -- the curve 7 is stored to the variable 7
                    have st := Sto.three Z7 wa7 (.slice A7 n7 c7) (.int .i64 r7.per) (.int .i64 r7.inc)
                    try (replace I5 := Lib.hid (I5.out.sto0 st (fun hn b off s e => by have := O5.out b off s e; omega)))
                    try (replace I6 := Lib.hid (I6.out.sto0 st (fun hn b off s e => by have := O6.out b off s e; omega)))
                    try (replace I7 := Lib.hid (I7.out.sto0 st (fun hn b off s e => by have := O7.out b off s e; omega)))
                    try (replace I8 := Lib.hid (I8.out.sto0 st (fun hn b off s e => by have := O8.out b off s e; omega)))
                    try (replace B5 := Lib.hid (B5.out.sto st (by omega)))
                    try (replace B6 := Lib.hid (B6.out.sto st (by omega)))
                    try (replace B7 := Lib.hid (B7.out.sto st (by omega)))
                    try (replace B8 := Lib.hid (B8.out.sto st (by omega)))
                    replace B7 := Lib.hid (B7.out.store3 (.slice A7 n7 c7) (.int .i64 r7.per) (.int .i64 r7.inc))
                    replace BI := Lib.hid (b3ss BI.out (g := Z7) hz7 (.slice A7 n7 c7) (.int .i64 r7.per) (.int .i64 r7.inc))
                    clear st
                    generalize hwe : ((wa7.setCell ⟨Z7, 0, none⟩ (.slice A7 n7 c7)).setCell ⟨Z7, 1, none⟩ (.int .i64 r7.per)).setCell ⟨Z7, 2, none⟩ (.int .i64 r7.inc) = wd7 at *
                    clear hwe
                    obtain ⟨x0, x1, x2, hlx⟩ := (LX.out.below BI.out).cells
                    go_wp2_with fail
                    refine (refLower_any X.A X.n X.c X.f.per X.f.inc t X.f.vals _ (by exact (LX.out.below BI.out).inn.ints) (by omega) hfx2).mono ?_
                    have hz9 := B8.out.lt
                    rintro e wa8 ⟨r8, er8, A8, n8, c8, hS, hc8, rfl, hI, hA, hb⟩
                    have hn8 : n8 ≤ 400 := by have h1 := LowerS.lenS hS; have h2 : r8.vals.length = n8 := hI.1; omega
                    have O8 := Lib.hid (show ∀ b off s, A8 = some ⟨b, off, s⟩ → Z8 < b from fun b off s e => by have := hA b off s e; omega)
                    -- the variables stay behind a call
                    try (replace B5 := Lib.hid (B5.out.below hb B5.out.lt))
                    try (replace B6 := Lib.hid (B6.out.below hb B6.out.lt))
                    try (replace B7 := Lib.hid (B7.out.below hb B7.out.lt))
                    try (replace B8 := Lib.hid (B8.out.below hb B8.out.lt))
                    try (replace I5 := Lib.hid (I5.out.ext hb))
                    try (replace I6 := Lib.hid (I6.out.ext hb))
                    try (replace I7 := Lib.hid (I7.out.ext hb))
                    try (replace I8 := Lib.hid (I8.out.ext hb))
                    replace BI := Lib.hid (bthen BI.out hb)
                    have I8 := Lib.hid hI
                    have HEQ8 := Lib.hid (LowerS.unique HS7.out hS)
                    clear hS hI hA hb hz9 hc8 HS7
                    clear x0 x1 x2 hlx
                    obtain ⟨⟨k0, k1, k2⟩, ⟨k3, k4, k5⟩, hlk⟩ := B8.out.c3
                    go_upto_region 27 with fail
                    clear k0 k1 k2 k3 k4 k5 hlk
                    -- the curve 8 is stored to the variable 8
                    have st := Sto.three Z8 wa8 (.slice A8 n8 c8) (.int .i64 r8.per) (.int .i64 r8.inc)
                    try (replace I5 := Lib.hid (I5.out.sto0 st (fun hn b off s e => by have := O5.out b off s e; omega)))
                    try (replace I6 := Lib.hid (I6.out.sto0 st (fun hn b off s e => by have := O6.out b off s e; omega)))
                    try (replace I7 := Lib.hid (I7.out.sto0 st (fun hn b off s e => by have := O7.out b off s e; omega)))
                    try (replace I8 := Lib.hid (I8.out.sto0 st (fun hn b off s e => by have := O8.out b off s e; omega)))
                    try (replace B5 := Lib.hid (B5.out.sto st (by omega)))
                    try (replace B6 := Lib.hid (B6.out.sto st (by omega)))
                    try (replace B7 := Lib.hid (B7.out.sto st (by omega)))
                    try (replace B8 := Lib.hid (B8.out.sto st (by omega)))
                    replace B8 := Lib.hid (B8.out.store3 (.slice A8 n8 c8) (.int .i64 r8.per) (.int .i64 r8.inc))
                    replace BI := Lib.hid (b3ss BI.out (g := Z8) hz8 (.slice A8 n8 c8) (.int .i64 r8.per) (.int .i64 r8.inc))
                    clear st
                    generalize hwe : ((wa8.setCell ⟨Z8, 0, none⟩ (.slice A8 n8 c8)).setCell ⟨Z8, 1, none⟩ (.int .i64 r8.per)).setCell ⟨Z8, 2, none⟩ (.int .i64 r8.inc) = wd8 at *
                    clear hwe
                    obtain ⟨e1, e2⟩ := HEQ6.out
                    subst e1 e2
                    obtain ⟨e1, e2⟩ := HEQ8.out
                    subst e1 e2
                    have g5 : (er5 != er5) = false := by simp
                    have g7 : (er7 != er7) = false := by simp
                    clear HEQ6 HEQ8
                    obtain ⟨⟨k0, k1, k2⟩, ⟨k3, k4, k5⟩, hlk5⟩ := B5.out.c3
                    obtain ⟨⟨l0, l1, l2⟩, ⟨l3, l4, l5⟩, hlk6⟩ := B6.out.c3
                    obtain ⟨⟨m0, m1, m2⟩, ⟨m3, m4, m5⟩, hlk7⟩ := B7.out.c3
                    obtain ⟨⟨o0, o1, o2⟩, ⟨o3, o4, o5⟩, hlk8⟩ := B8.out.c3
                    go_wp2_with fail
                    -- the curves 5 and 6 are the same: {2}
                    refine (refSame_any A5 A6 n5 n6 c5 c6 r5.per r5.per r5.inc r5.inc r5.vals r5.vals _ (by exact I5.out) (by exact I6.out) (by omega) (by omega)).mono ?_
                    rw [(Cv.same_iff _ _).2 rfl]
                    rintro e ws5 ⟨rfl, hb⟩
                    -- the variables stay behind a call
                    try (replace B5 := Lib.hid (B5.out.below hb B5.out.lt))
                    try (replace B6 := Lib.hid (B6.out.below hb B6.out.lt))
                    try (replace B7 := Lib.hid (B7.out.below hb B7.out.lt))
                    try (replace B8 := Lib.hid (B8.out.below hb B8.out.lt))
                    try (replace I5 := Lib.hid (I5.out.ext hb))
                    try (replace I6 := Lib.hid (I6.out.ext hb))
                    try (replace I7 := Lib.hid (I7.out.ext hb))
                    try (replace I8 := Lib.hid (I8.out.ext hb))
                    replace BI := Lib.hid (bthen BI.out hb)
                    clear hb
                    clear k0 k1 k2 k3 k4 k5 hlk5 l0 l1 l2 l3 l4 l5 hlk6
                    clear m0 m1 m2 m3 m4 m5 hlk7 o0 o1 o2 o3 o4 o5 hlk8
                    obtain ⟨⟨k0, k1, k2⟩, ⟨k3, k4, k5⟩, hlk5⟩ := B5.out.c3
                    obtain ⟨⟨l0, l1, l2⟩, ⟨l3, l4, l5⟩, hlk6⟩ := B6.out.c3
                    obtain ⟨⟨m0, m1, m2⟩, ⟨m3, m4, m5⟩, hlk7⟩ := B7.out.c3
                    obtain ⟨⟨o0, o1, o2⟩, ⟨o3, o4, o5⟩, hlk8⟩ := B8.out.c3
                    go_wp2_with fail
                    -- the curves 7 and 8 are the same: {2}
                    refine (refSame_any A7 A8 n7 n8 c7 c8 r7.per r7.per r7.inc r7.inc r7.vals r7.vals _ (by exact I7.out) (by exact I8.out) (by omega) (by omega)).mono ?_
                    rw [(Cv.same_iff _ _).2 rfl]
                    rintro e ws7 ⟨rfl, hb⟩
                    -- the variables stay behind a call
                    try (replace B5 := Lib.hid (B5.out.below hb B5.out.lt))
                    try (replace B6 := Lib.hid (B6.out.below hb B6.out.lt))
                    try (replace B7 := Lib.hid (B7.out.below hb B7.out.lt))
                    try (replace B8 := Lib.hid (B8.out.below hb B8.out.lt))
                    try (replace I5 := Lib.hid (I5.out.ext hb))
                    try (replace I6 := Lib.hid (I6.out.ext hb))
                    try (replace I7 := Lib.hid (I7.out.ext hb))
                    try (replace I8 := Lib.hid (I8.out.ext hb))
                    replace BI := Lib.hid (bthen BI.out hb)
                    clear hb
                    clear k0 k1 k2 k3 k4 k5 hlk5 l0 l1 l2 l3 l4 l5 hlk6
                    clear m0 m1 m2 m3 m4 m5 hlk7 o0 o1 o2 o3 o4 o5 hlk8
                    clear g5 g7 I5 I6 I7 I8 hn5 hn6 hn7 hn8
                    clear O5 O6 O7 O8
                    obtain ⟨x0, x1, x2, hlx⟩ := (LX.out.below BI.out).cells
                    go_wp2_with fail
                    refine (praise_any X.A X.n X.c X.f.per X.f.inc t X.f.vals _ (by exact (LX.out.below BI.out).inn.ints) (by omega)).mono ?_
                    have hz9 := B8.out.lt
                    rintro e wa5 ⟨r5, er5, hS, A5, n5, c5, rfl, hI, hA, hb⟩
                    have HS5 := Lib.hid hS
                    have hn5 : n5 ≤ 400 := by have h1 := RaiseS.lenS hS; have h2 : r5.vals.length = n5 := hI.1; omega
                    have O5 := Lib.hid (show ∀ b off s, A5 = some ⟨b, off, s⟩ → Z8 < b from fun b off s e => by have := hA b off s e; omega)
                    -- the variables stay behind a call
                    try (replace B5 := Lib.hid (B5.out.below hb B5.out.lt))
                    try (replace B6 := Lib.hid (B6.out.below hb B6.out.lt))
                    try (replace B7 := Lib.hid (B7.out.below hb B7.out.lt))
                    try (replace B8 := Lib.hid (B8.out.below hb B8.out.lt))
                    try (replace I5 := Lib.hid (I5.out.ext hb))
                    try (replace I6 := Lib.hid (I6.out.ext hb))
                    try (replace I7 := Lib.hid (I7.out.ext hb))
                    try (replace I8 := Lib.hid (I8.out.ext hb))
                    replace BI := Lib.hid (bthen BI.out hb)
                    have I5 := Lib.hid hI
                    clear hS hI hA hb hz9
                    clear x0 x1 x2 hlx
                    obtain ⟨⟨k0, k1, k2⟩, ⟨k3, k4, k5⟩, hlk⟩ := B5.out.c3
                    go_upto_region 30 with fail
                    clear k0 k1 k2 k3 k4 k5 hlk
                    -- the curve 5 is stored to the variable 5
                    have st := Sto.three Z5 wa5 (.slice A5 n5 c5) (.int .i64 r5.per) (.int .i64 r5.inc)
                    try (replace I5 := Lib.hid (I5.out.sto0 st (fun hn b off s e => by have := O5.out b off s e; omega)))
                    try (replace I6 := Lib.hid (I6.out.sto0 st (fun hn b off s e => by have := O6.out b off s e; omega)))
                    try (replace I7 := Lib.hid (I7.out.sto0 st (fun hn b off s e => by have := O7.out b off s e; omega)))
                    try (replace I8 := Lib.hid (I8.out.sto0 st (fun hn b off s e => by have := O8.out b off s e; omega)))
                    try (replace B5 := Lib.hid (B5.out.sto st (by omega)))
                    try (replace B6 := Lib.hid (B6.out.sto st (by omega)))
                    try (replace B7 := Lib.hid (B7.out.sto st (by omega)))
                    try (replace B8 := Lib.hid (B8.out.sto st (by omega)))
                    replace B5 := Lib.hid (B5.out.store3 (.slice A5 n5 c5) (.int .i64 r5.per) (.int .i64 r5.inc))
                    replace BI := Lib.hid (b3ss BI.out (g := Z5) hz5 (.slice A5 n5 c5) (.int .i64 r5.per) (.int .i64 r5.inc))
                    clear st
                    generalize hwe : ((wa5.setCell ⟨Z5, 0, none⟩ (.slice A5 n5 c5)).setCell ⟨Z5, 1, none⟩ (.int .i64 r5.per)).setCell ⟨Z5, 2, none⟩ (.int .i64 r5.inc) = wd5 at *
                    clear hwe
                    obtain ⟨x0, x1, x2, hlx⟩ := (LX.out.below BI.out).cells
                    go_wp2_with fail
                    refine (refRaise_any X.A X.n X.c X.f.per X.f.inc t X.f.vals _ (by exact (LX.out.below BI.out).inn.ints) (by omega) hfx2).mono ?_
                    have hz9 := B8.out.lt
                    rintro e wa6 ⟨r6, er6, A6, n6, c6, hS, hc6, rfl, hI, hA, hb⟩
                    have hn6 : n6 ≤ 400 := by have h1 := RaiseS.lenS hS; have h2 : r6.vals.length = n6 := hI.1; omega
                    have O6 := Lib.hid (show ∀ b off s, A6 = some ⟨b, off, s⟩ → Z8 < b from fun b off s e => by have := hA b off s e; omega)
                    -- the variables stay behind a call
                    try (replace B5 := Lib.hid (B5.out.below hb B5.out.lt))
                    try (replace B6 := Lib.hid (B6.out.below hb B6.out.lt))
                    try (replace B7 := Lib.hid (B7.out.below hb B7.out.lt))
                    try (replace B8 := Lib.hid (B8.out.below hb B8.out.lt))
                    try (replace I5 := Lib.hid (I5.out.ext hb))
                    try (replace I6 := Lib.hid (I6.out.ext hb))
                    try (replace I7 := Lib.hid (I7.out.ext hb))
                    try (replace I8 := Lib.hid (I8.out.ext hb))
                    replace BI := Lib.hid (bthen BI.out hb)
                    have I6 := Lib.hid hI
                    have HEQ6 := Lib.hid (RaiseS.unique HS5.out hS)
                    clear hS hI hA hb hz9 hc6 HS5
                    clear x0 x1 x2 hlx
                    obtain ⟨⟨k0, k1, k2⟩, ⟨k3, k4, k5⟩, hlk⟩ := B6.out.c3
                    go_upto_region 31 with fail
                    clear k0 k1 k2 k3 k4 k5 hlk
                    -- the curve 6 is stored to the variable 6
                    have st := Sto.three Z6 wa6 (.slice A6 n6 c6) (.int .i64 r6.per) (.int .i64 r6.inc)
                    try (replace I5 := Lib.hid (I5.out.sto0 st (fun hn b off s e => by have := O5.out b off s e; omega)))
                    try (replace I6 := Lib.hid (I6.out.sto0 st (fun hn b off s e => by have := O6.out b off s e; omega)))
                    try (replace I7 := Lib.hid (I7.out.sto0 st (fun hn b off s e => by have := O7.out b off s e; omega)))
                    try (replace I8 := Lib.hid (I8.out.sto0 st (fun hn b off s e => by have := O8.out b off s e; omega)))
                    try (replace B5 := Lib.hid (B5.out.sto st (by omega)))
                    try (replace B6 := Lib.hid (B6.out.sto st (by omega)))
                    try (replace B7 := Lib.hid (B7.out.sto st (by omega)))
                    try (replace B8 := Lib.hid (B8.out.sto st (by omega)))
                    replace B6 := Lib.hid (B6.out.store3 (.slice A6 n6 c6) (.int .i64 r6.per) (.int .i64 r6.inc))
                    replace BI := Lib.hid (b3ss BI.out (g := Z6) hz6 (.slice A6 n6 c6) (.int .i64 r6.per) (.int .i64 r6.inc))
                    clear st
                    generalize hwe : ((wa6.setCell ⟨Z6, 0, none⟩ (.slice A6 n6 c6)).setCell ⟨Z6, 1, none⟩ (.int .i64 r6.per)).setCell ⟨Z6, 2, none⟩ (.int .i64 r6.inc) = wd6 at *
                    clear hwe
                    obtain ⟨e1, e2⟩ := HEQ6.out
                    subst e1 e2
                    have g5 : (er5 != er5) = false := by simp
                    clear HEQ6
                    obtain ⟨⟨k0, k1, k2⟩, ⟨k3, k4, k5⟩, hlk5⟩ := B5.out.c3
                    obtain ⟨⟨l0, l1, l2⟩, ⟨l3, l4, l5⟩, hlk6⟩ := B6.out.c3
                    go_wp2_with fail
                    -- the curves 5 and 6 are the same: {2}
                    refine (refSame_any A5 A6 n5 n6 c5 c6 r5.per r5.per r5.inc r5.inc r5.vals r5.vals _ (by exact I5.out) (by exact I6.out) (by omega) (by omega)).mono ?_
                    rw [(Cv.same_iff _ _).2 rfl]
                    rintro e ws5 ⟨rfl, hb⟩
                    -- the variables stay behind a call
                    try (replace B5 := Lib.hid (B5.out.below hb B5.out.lt))
                    try (replace B6 := Lib.hid (B6.out.below hb B6.out.lt))
                    try (replace B7 := Lib.hid (B7.out.below hb B7.out.lt))
                    try (replace B8 := Lib.hid (B8.out.below hb B8.out.lt))
                    try (replace I5 := Lib.hid (I5.out.ext hb))
                    try (replace I6 := Lib.hid (I6.out.ext hb))
                    try (replace I7 := Lib.hid (I7.out.ext hb))
                    try (replace I8 := Lib.hid (I8.out.ext hb))
                    replace BI := Lib.hid (bthen BI.out hb)
                    clear hb
                    clear k0 k1 k2 k3 k4 k5 hlk5 l0 l1 l2 l3 l4 l5 hlk6
                    clear g5 I5 I6 hn5 hn6
                    go_wp2_with fail
                    go_roundg (gk - 1)
                    case measure => omega
                    case rel => exact ⟨j + 1, by omega, by go_num, E.out.below BI.out, ROW.out.below BI.out, LX.out.below BI.out, TB.out.ext BI.out⟩
                  · have hj3 : j = 3 := by omega
                    subst hj3
                    clear hj hjg
                    go_wp2_with fail
                    go_roundg (go - 1)
                    case measure => omega
                    case rel => exact ⟨k + 1, by omega, by go_num, E.out, ROW.out⟩
              · have hk3 : k = 3 := by omega
                subst hk3
                clear hk hkg ROW HYL HYF
                go_upto_region 35 with fail
                go_cut [199, 200, 201] (fun s199 s200 s201 wx => ∃ bl : Nat, s199 = .slice (some ⟨bl, 0, none⟩) 4 4 ∧ s200 = .int .i64 4 ∧ s201 = .int .i64 0 ∧ EnvL w.heap.size w wx [(W.heap.size, ⟨A1, n1, c1, ⟨L1, p1, i1⟩⟩), (w2.heap.size, ⟨A, n, c, f⟩)] ∧ Lists wx bl)
                case first =>
                  have E := Lib.hid E.out.drew
                  obtain ⟨f0, f1, f2, hlf⟩ := (E.out.get 1 rfl).cells
                  refine wp_region_held_drew (S := fun w' => w'.cell? ⟨w2.heap.size, 0, none⟩ = some (.slice A n c) ∧ w'.cell? ⟨w2.heap.size, 1, none⟩ = some (.int .i64 f.per) ∧ w'.cell? ⟨w2.heap.size, 2, none⟩ = some (.int .i64 f.inc)) (by kernel_rfl) ⟨f0, f1, f2⟩ (fun hHeld => ?_)
                  generalize hwd : wr.drew = wd at hHeld E f0 f1 f2 hlf ⊢
                  clear hwd
                  have LSW := Lib.hid (show LstOk w (.slice AL nL cL) from ⟨AL, nL, cL, xs, rfl, HXL.out, by omega, ROWL.out, FITL.out⟩)
                  refine wpAnyH_take (i := 0) (oi := _) (v := ?_) (by simp only [List.getElem?_toArray, List.getElem?_cons_zero]; rfl) (by kernel_rfl) (by kernel_rfl) (by kernel_rfl) (by exact fun _ _ _ h => h) (Or.inl ⟨by rfl, ?_⟩) (by assumption) ?_
                  rotate_left 1
                  · (intro w hSw; (try dsimp only at hSw); go_simp; try with_reducible rfl)
                  all_goals try simp only [Act.put]
                  all_goals try simp only [List.setIfInBounds_toArray]
                  all_goals try simp only [List.set_cons_succ]
                  all_goals try simp only [List.set_cons_zero]
                  refine wpAnyH_take (i := 1) (oi := _) (v := ?_) (by simp only [List.getElem?_toArray, List.getElem?_cons_succ, List.getElem?_cons_zero]; rfl) (by kernel_rfl) (by kernel_rfl) (by kernel_rfl) (by exact fun _ _ _ h => h) (Or.inl ⟨by rfl, ?_⟩) (by assumption) ?_
                  rotate_left 1
                  · (intro w hSw; (try dsimp only at hSw); go_simp; try with_reducible rfl)
                  all_goals try simp only [Act.put]
                  all_goals try simp only [List.setIfInBounds_toArray]
                  all_goals try simp only [List.set_cons_succ]
                  all_goals try simp only [List.set_cons_zero]
                  refine wpAnyH_take (i := 2) (oi := _) (v := ?_) (by simp only [List.getElem?_toArray, List.getElem?_cons_succ, List.getElem?_cons_zero]; rfl) (by kernel_rfl) (by kernel_rfl) (by kernel_rfl) (by exact fun _ _ _ h => h) (Or.inl ⟨by rfl, ?_⟩) (by assumption) ?_
                  rotate_left 1
                  · (intro w hSw; (try dsimp only at hSw); go_simp; try with_reducible rfl)
                  all_goals try simp only [Act.put]
                  all_goals try simp only [List.setIfInBounds_toArray]
                  all_goals try simp only [List.set_cons_succ]
                  all_goals try simp only [List.set_cons_zero]
                  refine wpAnyH_take (i := 4) (oi := _) (v := ?_) (by simp only [List.getElem?_toArray, List.getElem?_cons_succ, List.getElem?_cons_zero]; rfl) (by kernel_rfl) (by kernel_rfl) (by kernel_rfl) (by exact fun _ _ _ h => h) (Or.inl ⟨by rfl, ?_⟩) (by assumption) ?_
                  rotate_left 1
                  · (intro w hSw; (try dsimp only at hSw); go_simp; try with_reducible rfl)
                  all_goals try simp only [Act.put]
                  all_goals try simp only [List.setIfInBounds_toArray]
                  all_goals try simp only [List.set_cons_succ]
                  all_goals try simp only [List.set_cons_zero]
                  refine wpAnyH_take (i := 7) (oi := _) (v := ?_) (by simp only [List.getElem?_toArray, List.getElem?_cons_succ, List.getElem?_cons_zero]; rfl) (by kernel_rfl) (by kernel_rfl) (by kernel_rfl) (by exact fun _ _ _ h => h) (Or.inl ⟨by rfl, ?_⟩) (by assumption) ?_
                  rotate_left 1
                  · (intro w hSw; (try dsimp only at hSw); go_simp; try with_reducible rfl)
                  all_goals try simp only [Act.put]
                  all_goals try simp only [List.setIfInBounds_toArray]
                  all_goals try simp only [List.set_cons_succ]
                  all_goals try simp only [List.set_cons_zero]
                  refine wpAnyH_take (i := 11) (oi := _) (v := ?_) (by simp only [List.getElem?_toArray, List.getElem?_cons_succ, List.getElem?_cons_zero]; rfl) (by kernel_rfl) (by kernel_rfl) (by kernel_rfl) (by exact fun _ _ _ h => h) (Or.inl ⟨by rfl, ?_⟩) (by assumption) ?_
                  rotate_left 1
                  · (intro w hSw; (try dsimp only at hSw); go_simp; try with_reducible rfl)
                  all_goals try simp only [Act.put]
                  all_goals try simp only [List.setIfInBounds_toArray]
                  all_goals try simp only [List.set_cons_succ]
                  all_goals try simp only [List.set_cons_zero]
                  refine wpAnyH_ready (rs := [3, 8]) (by kernel_rfl) (by simp) ?_
                  refine (AllReadyH.cons (by simp only [List.getElem?_toArray, List.getElem?_cons_succ, List.getElem?_cons_zero]; rfl) (fun K hK => ?_) (AllReadyH.cons (by simp only [List.getElem?_toArray, List.getElem?_cons_succ, List.getElem?_cons_zero]; rfl) (fun K hK => ?_) AllReadyH.nil))
                  · -- a curve is drawn: wd wa the worlds, g the curve, B m d
                    rw [if_pos (by rfl)]
                    go_simp
                    refine (srcCurve2_any w.heap.size 4 wd (by exact E.out.s) (by omega) (by omega)).mono ?_
                    rintro e wa ⟨g, B, m, d, hD, hcf, rfl, hI, hA, hS, hk⟩
                    have hps := E.out.s.lt
                    have E := Lib.hid (E.out.kept hS hk)
                    try (have Vg := Lib.hid (Vg.out.kept hk))
                    try (have RF := Lib.hid (RF.out.kept hk))
                    have Vg := Lib.hid (show (CR.mk B m d g).In w.heap.size wa from CR.In.new hI hA hps)
                    have FITg := Lib.hid (show (CR.mk B m d g).FitS from ⟨by have h1 := hD.len; have h2 : g.vals.length = m := hI.1; show m ≤ 1000; omega, hcf⟩)
                    clear hD hcf hI hA hS hk hps hHeld
                    clear f0 f1 f2 hlf
                    obtain ⟨f0, f1, f2, hlf⟩ := (E.out.get 1 rfl).cells
                    refine hK.out _ _ (by exact ⟨f0, f1, f2⟩) (fun hHeld => ?_)
                    clear hK K
                    try simp only [Act.put]
                    try simp only [List.setIfInBounds_toArray]
                    try simp only [List.set_cons_succ]
                    try simp only [List.set_cons_zero]
                    refine wpAnyH_ready (rs := [5, 8]) (by kernel_rfl) (by simp) ?_
                    refine (AllReadyH.cons (by simp only [List.getElem?_toArray, List.getElem?_cons_succ, List.getElem?_cons_zero]; rfl) (fun K hK => ?_) (AllReadyH.cons (by simp only [List.getElem?_toArray, List.getElem?_cons_succ, List.getElem?_cons_zero]; rfl) (fun K hK => ?_) AllReadyH.nil))
                    · -- a curve is drawn: wa wb the worlds, h the curve, D l q
                      rw [if_pos (by rfl)]
                      go_simp
                      refine (srcCurve2_any w.heap.size 4 wa (by exact E.out.s) (by omega) (by omega)).mono ?_
                      rintro e wb ⟨h, D, l, q, hD, hcf, rfl, hI, hA, hS, hk⟩
                      have hps := E.out.s.lt
                      have E := Lib.hid (E.out.kept hS hk)
                      try (have Vg := Lib.hid (Vg.out.kept hk))
                      try (have RF := Lib.hid (RF.out.kept hk))
                      have Vh := Lib.hid (show (CR.mk D l q h).In w.heap.size wb from CR.In.new hI hA hps)
                      have FITh := Lib.hid (show (CR.mk D l q h).FitS from ⟨by have h1 := hD.len; have h2 : h.vals.length = l := hI.1; show l ≤ 1000; omega, hcf⟩)
                      clear hD hcf hI hA hS hk hps hHeld
                      clear f0 f1 f2 hlf
                      obtain ⟨f0, f1, f2, hlf⟩ := (E.out.get 1 rfl).cells
                      refine hK.out _ _ (by exact ⟨f0, f1, f2⟩) (fun hHeld => ?_)
                      clear hK K
                      try simp only [Act.put]
                      try simp only [List.setIfInBounds_toArray]
                      try simp only [List.set_cons_succ]
                      try simp only [List.set_cons_zero]
                      refine wpAnyH_ready (rs := [6, 8]) (by kernel_rfl) (by simp) ?_
                      refine (AllReadyH.cons (by simp only [List.getElem?_toArray, List.getElem?_cons_succ, List.getElem?_cons_zero]; rfl) (fun K hK => ?_) (AllReadyH.cons (by simp only [List.getElem?_toArray, List.getElem?_cons_succ, List.getElem?_cons_zero]; rfl) (fun K hK => ?_) AllReadyH.nil))
                      · rw [if_pos (by rfl)]
                        go_simp
                        have RG := Lib.hid (show Row w.heap.size (wb.alloc (.cells #[.slice A n c, .int .i64 f.per, .int .i64 f.inc, .slice B m d, .int .i64 g.per, .int .i64 g.inc, .slice D l q, .int .i64 h.per, .int .i64 h.inc] 41)) wb.heap.size [⟨A, n, c, f⟩, ⟨B, m, d, g⟩, ⟨D, l, q, h⟩] from ⟨Blk.new _ _ _, (by
                          intro x hx
                          simp only [List.mem_cons, List.not_mem_nil, or_false] at hx
                          rcases hx with rfl | rfl | rfl
                          · exact (E.out.get 1 rfl).inn.alloc _
                          · exact Vg.out.alloc _
                          · exact Vh.out.alloc _), Nat.ne_of_gt E.out.s.lt⟩)
                        have E := Lib.hid (E.out.alloc (.cells #[.slice A n c, .int .i64 f.per, .int .i64 f.inc, .slice B m d, .int .i64 g.per, .int .i64 g.inc, .slice D l q, .int .i64 h.per, .int .i64 h.inc] 41))
                        try (have RF := Lib.hid (RF.out.alloc (.cells #[.slice A n c, .int .i64 f.per, .int .i64 f.inc, .slice B m d, .int .i64 g.per, .int .i64 g.inc, .slice D l q, .int .i64 h.per, .int .i64 h.inc] 41)))
                        clear hHeld
                        clear f0 f1 f2 hlf
                        obtain ⟨bG, hbG⟩ : ∃ bG, bG = wb.heap.size := ⟨_, rfl⟩
                        rw [← hbG] at RG
                        try rw [← hbG]
                        obtain ⟨wc, hw1⟩ : ∃ w1, w1 = wb.alloc (.cells #[.slice A n c, .int .i64 f.per, .int .i64 f.inc, .slice B m d, .int .i64 g.per, .int .i64 g.inc, .slice D l q, .int .i64 h.per, .int .i64 h.inc] 41) := ⟨_, rfl⟩
                        rw [← hw1] at RG E
                        try rw [← hw1] at RF
                        try rw [← hw1]
                        clear hbG hw1
                        obtain ⟨f0, f1, f2, hlf⟩ := (E.out.get 1 rfl).cells
                        refine hK.out _ _ (by exact ⟨f0, f1, f2⟩) (fun hHeld => ?_)
                        clear hK K
                        try simp only [Act.put]
                        try simp only [List.setIfInBounds_toArray]
                        try simp only [List.set_cons_succ]
                        try simp only [List.set_cons_zero]
                        refine wpAnyH_ready (rs := [8]) (by kernel_rfl) (by simp) ?_
                        refine (AllReadyH.cons (by simp only [List.getElem?_toArray, List.getElem?_cons_succ, List.getElem?_cons_zero]; rfl) (fun K hK => ?_) AllReadyH.nil)
                        rw [if_pos (by rfl)]
                        go_simp
                        have RF := Lib.hid (show Row w.heap.size (wc.alloc (.cells #[.slice A n c, .int .i64 f.per, .int .i64 f.inc] 41)) wc.heap.size [⟨A, n, c, f⟩] from ⟨Blk.new _ _ _, (by intro x hx; simp only [List.mem_singleton] at hx; subst hx; exact (E.out.get 1 rfl).inn.alloc _), Nat.ne_of_gt E.out.s.lt⟩)
                        have E := Lib.hid (E.out.alloc (.cells #[.slice A n c, .int .i64 f.per, .int .i64 f.inc] 41))
                        try (have Vg := Lib.hid (Vg.out.alloc (.cells #[.slice A n c, .int .i64 f.per, .int .i64 f.inc] 41)))
                        try (have Vh := Lib.hid (Vh.out.alloc (.cells #[.slice A n c, .int .i64 f.per, .int .i64 f.inc] 41)))
                        try (have RG := Lib.hid (RG.out.alloc (.cells #[.slice A n c, .int .i64 f.per, .int .i64 f.inc] 41)))
                        clear hHeld
                        clear f0 f1 f2 hlf
                        obtain ⟨bF, hbF⟩ : ∃ bF, bF = wc.heap.size := ⟨_, rfl⟩
                        rw [← hbF] at RF
                        try rw [← hbF]
                        obtain ⟨we, hw1⟩ : ∃ w1, w1 = wc.alloc (.cells #[.slice A n c, .int .i64 f.per, .int .i64 f.inc] 41) := ⟨_, rfl⟩
                        rw [← hw1] at RF E
                        try rw [← hw1] at Vg
                        try rw [← hw1] at Vh
                        try rw [← hw1] at RG
                        try rw [← hw1]
                        clear hbF hw1
                        obtain ⟨f0, f1, f2, hlf⟩ := (E.out.get 1 rfl).cells
                        refine hK.out _ _ (by exact ⟨f0, f1, f2⟩) (fun hHeld => ?_)
                        clear hK K
                        try simp only [Act.put]
                        try simp only [List.setIfInBounds_toArray]
                        try simp only [List.set_cons_succ]
                        try simp only [List.set_cons_zero]
                        refine wpAnyH_ready (rs := [9]) (by kernel_rfl) (by simp) ?_
                        refine (AllReadyH.cons (by simp only [List.getElem?_toArray, List.getElem?_cons_succ, List.getElem?_cons_zero]; rfl) (fun K hK => ?_) AllReadyH.nil)
                        rw [if_pos (by rfl)]
                        go_simp
                        have LSF := Lib.hid (show Lists (we.alloc (.cells #[.slice AL nL cL, .slice (some ⟨bG, 0, none⟩) 3 3, .slice (some ⟨bF, 0, none⟩) 1 1, .slice none 0 0] 67)) we.heap.size from ⟨[.slice AL nL cL, .slice (some ⟨bG, 0, none⟩) 3 3, .slice (some ⟨bF, 0, none⟩) 1 1, .slice none 0 0], rfl, Blk.new _ _ _, (by
                          intro v hv
                          simp only [List.mem_cons, List.not_mem_nil, or_false] at hv
                          have bz := balloc we (.cells #[.slice AL nL cL, .slice (some ⟨bG, 0, none⟩) 3 3, .slice (some ⟨bF, 0, none⟩) 1 1, .slice none 0 0] 67)
                          rcases hv with rfl | rfl | rfl | rfl
                          · exact (LSW.out.below E.out.fin).below bz
                          · exact (LstOk.row (n := 3) RG.out rfl (by omega) (by
                              intro x hx
                              simp only [List.mem_cons, List.not_mem_nil, or_false] at hx
                              rcases hx with rfl | rfl | rfl
                              · exact FITF.out
                              · exact FITg.out
                              · exact FITh.out)).below bz
                          · exact (LstOk.row (n := 1) RF.out rfl (by omega) (by intro x hx; simp only [List.mem_singleton] at hx; subst hx; exact FITF.out)).below bz
                          · exact LstOk.nil_ _)⟩)
                        have E := Lib.hid (E.out.alloc (.cells #[.slice AL nL cL, .slice (some ⟨bG, 0, none⟩) 3 3, .slice (some ⟨bF, 0, none⟩) 1 1, .slice none 0 0] 67))
                        clear hHeld
                        clear f0 f1 f2 hlf
                        obtain ⟨f0, f1, f2, hlf⟩ := (E.out.get 1 rfl).cells
                        refine hK.out _ _ (by exact ⟨f0, f1, f2⟩) (fun hHeld => ?_)
                        clear hK K
                        try simp only [Act.put]
                        try simp only [List.setIfInBounds_toArray]
                        try simp only [List.set_cons_succ]
                        try simp only [List.set_cons_zero]
                        refine wpAnyH_take (i := 10) (oi := _) (v := ?_) (by simp only [List.getElem?_toArray, List.getElem?_cons_succ, List.getElem?_cons_zero]; rfl) (by kernel_rfl) (by kernel_rfl) (by kernel_rfl) (by exact fun _ _ _ h => h) (Or.inl ⟨by rfl, ?_⟩) (by assumption) ?_
                        rotate_left 1
                        · (intro w hSw; (try dsimp only at hSw); go_simp; try with_reducible rfl)
                        all_goals try simp only [Act.put]
                        all_goals try simp only [List.setIfInBounds_toArray]
                        all_goals try simp only [List.set_cons_succ]
                        all_goals try simp only [List.set_cons_zero]
                        refine wpAnyH_done (by kernel_rfl) ?_ _
                        go_wp2_with fail
                        go_meet
                        exact ⟨_, rfl, rfl, rfl, E.out, LSF.out⟩
                      · rw [if_pos (by rfl)]
                        go_simp
                        have RF := Lib.hid (show Row w.heap.size (wb.alloc (.cells #[.slice A n c, .int .i64 f.per, .int .i64 f.inc] 41)) wb.heap.size [⟨A, n, c, f⟩] from ⟨Blk.new _ _ _, (by intro x hx; simp only [List.mem_singleton] at hx; subst hx; exact (E.out.get 1 rfl).inn.alloc _), Nat.ne_of_gt E.out.s.lt⟩)
                        have E := Lib.hid (E.out.alloc (.cells #[.slice A n c, .int .i64 f.per, .int .i64 f.inc] 41))
                        try (have Vg := Lib.hid (Vg.out.alloc (.cells #[.slice A n c, .int .i64 f.per, .int .i64 f.inc] 41)))
                        try (have Vh := Lib.hid (Vh.out.alloc (.cells #[.slice A n c, .int .i64 f.per, .int .i64 f.inc] 41)))
                        try (have RG := Lib.hid (RG.out.alloc (.cells #[.slice A n c, .int .i64 f.per, .int .i64 f.inc] 41)))
                        clear hHeld
                        clear f0 f1 f2 hlf
                        obtain ⟨bF, hbF⟩ : ∃ bF, bF = wb.heap.size := ⟨_, rfl⟩
                        rw [← hbF] at RF
                        try rw [← hbF]
                        obtain ⟨wc, hw1⟩ : ∃ w1, w1 = wb.alloc (.cells #[.slice A n c, .int .i64 f.per, .int .i64 f.inc] 41) := ⟨_, rfl⟩
                        rw [← hw1] at RF E
                        try rw [← hw1] at Vg
                        try rw [← hw1] at Vh
                        try rw [← hw1] at RG
                        try rw [← hw1]
                        clear hbF hw1
                        obtain ⟨f0, f1, f2, hlf⟩ := (E.out.get 1 rfl).cells
                        refine hK.out _ _ (by exact ⟨f0, f1, f2⟩) (fun hHeld => ?_)
                        clear hK K
                        try simp only [Act.put]
                        try simp only [List.setIfInBounds_toArray]
                        try simp only [List.set_cons_succ]
                        try simp only [List.set_cons_zero]
                        refine wpAnyH_ready (rs := [6]) (by kernel_rfl) (by simp) ?_
                        refine (AllReadyH.cons (by simp only [List.getElem?_toArray, List.getElem?_cons_succ, List.getElem?_cons_zero]; rfl) (fun K hK => ?_) AllReadyH.nil)
                        rw [if_pos (by rfl)]
                        go_simp
                        have RG := Lib.hid (show Row w.heap.size (wc.alloc (.cells #[.slice A n c, .int .i64 f.per, .int .i64 f.inc, .slice B m d, .int .i64 g.per, .int .i64 g.inc, .slice D l q, .int .i64 h.per, .int .i64 h.inc] 41)) wc.heap.size [⟨A, n, c, f⟩, ⟨B, m, d, g⟩, ⟨D, l, q, h⟩] from ⟨Blk.new _ _ _, (by
                          intro x hx
                          simp only [List.mem_cons, List.not_mem_nil, or_false] at hx
                          rcases hx with rfl | rfl | rfl
                          · exact (E.out.get 1 rfl).inn.alloc _
                          · exact Vg.out.alloc _
                          · exact Vh.out.alloc _), Nat.ne_of_gt E.out.s.lt⟩)
                        have E := Lib.hid (E.out.alloc (.cells #[.slice A n c, .int .i64 f.per, .int .i64 f.inc, .slice B m d, .int .i64 g.per, .int .i64 g.inc, .slice D l q, .int .i64 h.per, .int .i64 h.inc] 41))
                        try (have RF := Lib.hid (RF.out.alloc (.cells #[.slice A n c, .int .i64 f.per, .int .i64 f.inc, .slice B m d, .int .i64 g.per, .int .i64 g.inc, .slice D l q, .int .i64 h.per, .int .i64 h.inc] 41)))
                        clear hHeld
                        clear f0 f1 f2 hlf
                        obtain ⟨bG, hbG⟩ : ∃ bG, bG = wc.heap.size := ⟨_, rfl⟩
                        rw [← hbG] at RG
                        try rw [← hbG]
                        obtain ⟨we, hw1⟩ : ∃ w1, w1 = wc.alloc (.cells #[.slice A n c, .int .i64 f.per, .int .i64 f.inc, .slice B m d, .int .i64 g.per, .int .i64 g.inc, .slice D l q, .int .i64 h.per, .int .i64 h.inc] 41) := ⟨_, rfl⟩
                        rw [← hw1] at RG E
                        try rw [← hw1] at RF
                        try rw [← hw1]
                        clear hbG hw1
                        obtain ⟨f0, f1, f2, hlf⟩ := (E.out.get 1 rfl).cells
                        refine hK.out _ _ (by exact ⟨f0, f1, f2⟩) (fun hHeld => ?_)
                        clear hK K
                        try simp only [Act.put]
                        try simp only [List.setIfInBounds_toArray]
                        try simp only [List.set_cons_succ]
                        try simp only [List.set_cons_zero]
                        refine wpAnyH_ready (rs := [9]) (by kernel_rfl) (by simp) ?_
                        refine (AllReadyH.cons (by simp only [List.getElem?_toArray, List.getElem?_cons_succ, List.getElem?_cons_zero]; rfl) (fun K hK => ?_) AllReadyH.nil)
                        rw [if_pos (by rfl)]
                        go_simp
                        have LSF := Lib.hid (show Lists (we.alloc (.cells #[.slice AL nL cL, .slice (some ⟨bG, 0, none⟩) 3 3, .slice (some ⟨bF, 0, none⟩) 1 1, .slice none 0 0] 67)) we.heap.size from ⟨[.slice AL nL cL, .slice (some ⟨bG, 0, none⟩) 3 3, .slice (some ⟨bF, 0, none⟩) 1 1, .slice none 0 0], rfl, Blk.new _ _ _, (by
                          intro v hv
                          simp only [List.mem_cons, List.not_mem_nil, or_false] at hv
                          have bz := balloc we (.cells #[.slice AL nL cL, .slice (some ⟨bG, 0, none⟩) 3 3, .slice (some ⟨bF, 0, none⟩) 1 1, .slice none 0 0] 67)
                          rcases hv with rfl | rfl | rfl | rfl
                          · exact (LSW.out.below E.out.fin).below bz
                          · exact (LstOk.row (n := 3) RG.out rfl (by omega) (by
                              intro x hx
                              simp only [List.mem_cons, List.not_mem_nil, or_false] at hx
                              rcases hx with rfl | rfl | rfl
                              · exact FITF.out
                              · exact FITg.out
                              · exact FITh.out)).below bz
                          · exact (LstOk.row (n := 1) RF.out rfl (by omega) (by intro x hx; simp only [List.mem_singleton] at hx; subst hx; exact FITF.out)).below bz
                          · exact LstOk.nil_ _)⟩)
                        have E := Lib.hid (E.out.alloc (.cells #[.slice AL nL cL, .slice (some ⟨bG, 0, none⟩) 3 3, .slice (some ⟨bF, 0, none⟩) 1 1, .slice none 0 0] 67))
                        clear hHeld
                        clear f0 f1 f2 hlf
                        obtain ⟨f0, f1, f2, hlf⟩ := (E.out.get 1 rfl).cells
                        refine hK.out _ _ (by exact ⟨f0, f1, f2⟩) (fun hHeld => ?_)
                        clear hK K
                        try simp only [Act.put]
                        try simp only [List.setIfInBounds_toArray]
                        try simp only [List.set_cons_succ]
                        try simp only [List.set_cons_zero]
                        refine wpAnyH_take (i := 10) (oi := _) (v := ?_) (by simp only [List.getElem?_toArray, List.getElem?_cons_succ, List.getElem?_cons_zero]; rfl) (by kernel_rfl) (by kernel_rfl) (by kernel_rfl) (by exact fun _ _ _ h => h) (Or.inl ⟨by rfl, ?_⟩) (by assumption) ?_
                        rotate_left 1
                        · (intro w hSw; (try dsimp only at hSw); go_simp; try with_reducible rfl)
                        all_goals try simp only [Act.put]
                        all_goals try simp only [List.setIfInBounds_toArray]
                        all_goals try simp only [List.set_cons_succ]
                        all_goals try simp only [List.set_cons_zero]
                        refine wpAnyH_done (by kernel_rfl) ?_ _
                        go_wp2_with fail
                        go_meet
                        exact ⟨_, rfl, rfl, rfl, E.out, LSF.out⟩
                    · rw [if_pos (by rfl)]
                      go_simp
                      have RF := Lib.hid (show Row w.heap.size (wa.alloc (.cells #[.slice A n c, .int .i64 f.per, .int .i64 f.inc] 41)) wa.heap.size [⟨A, n, c, f⟩] from ⟨Blk.new _ _ _, (by intro x hx; simp only [List.mem_singleton] at hx; subst hx; exact (E.out.get 1 rfl).inn.alloc _), Nat.ne_of_gt E.out.s.lt⟩)
                      have E := Lib.hid (E.out.alloc (.cells #[.slice A n c, .int .i64 f.per, .int .i64 f.inc] 41))
                      try (have Vg := Lib.hid (Vg.out.alloc (.cells #[.slice A n c, .int .i64 f.per, .int .i64 f.inc] 41)))
                      try (have Vh := Lib.hid (Vh.out.alloc (.cells #[.slice A n c, .int .i64 f.per, .int .i64 f.inc] 41)))
                      try (have RG := Lib.hid (RG.out.alloc (.cells #[.slice A n c, .int .i64 f.per, .int .i64 f.inc] 41)))
                      clear hHeld
                      clear f0 f1 f2 hlf
                      obtain ⟨bF, hbF⟩ : ∃ bF, bF = wa.heap.size := ⟨_, rfl⟩
                      rw [← hbF] at RF
                      try rw [← hbF]
                      obtain ⟨wb, hw1⟩ : ∃ w1, w1 = wa.alloc (.cells #[.slice A n c, .int .i64 f.per, .int .i64 f.inc] 41) := ⟨_, rfl⟩
                      rw [← hw1] at RF E
                      try rw [← hw1] at Vg
                      try rw [← hw1] at Vh
                      try rw [← hw1] at RG
                      try rw [← hw1]
                      clear hbF hw1
                      obtain ⟨f0, f1, f2, hlf⟩ := (E.out.get 1 rfl).cells
                      refine hK.out _ _ (by exact ⟨f0, f1, f2⟩) (fun hHeld => ?_)
                      clear hK K
                      try simp only [Act.put]
                      try simp only [List.setIfInBounds_toArray]
                      try simp only [List.set_cons_succ]
                      try simp only [List.set_cons_zero]
                      refine wpAnyH_ready (rs := [5]) (by kernel_rfl) (by simp) ?_
                      refine (AllReadyH.cons (by simp only [List.getElem?_toArray, List.getElem?_cons_succ, List.getElem?_cons_zero]; rfl) (fun K hK => ?_) AllReadyH.nil)
                      -- a curve is drawn: wb wc the worlds, h the curve, D l q
                      rw [if_pos (by rfl)]
                      go_simp
                      refine (srcCurve2_any w.heap.size 4 wb (by exact E.out.s) (by omega) (by omega)).mono ?_
                      rintro e wc ⟨h, D, l, q, hD, hcf, rfl, hI, hA, hS, hk⟩
                      have hps := E.out.s.lt
                      have E := Lib.hid (E.out.kept hS hk)
                      try (have Vg := Lib.hid (Vg.out.kept hk))
                      try (have RF := Lib.hid (RF.out.kept hk))
                      have Vh := Lib.hid (show (CR.mk D l q h).In w.heap.size wc from CR.In.new hI hA hps)
                      have FITh := Lib.hid (show (CR.mk D l q h).FitS from ⟨by have h1 := hD.len; have h2 : h.vals.length = l := hI.1; show l ≤ 1000; omega, hcf⟩)
                      clear hD hcf hI hA hS hk hps hHeld
                      clear f0 f1 f2 hlf
                      obtain ⟨f0, f1, f2, hlf⟩ := (E.out.get 1 rfl).cells
                      refine hK.out _ _ (by exact ⟨f0, f1, f2⟩) (fun hHeld => ?_)
                      clear hK K
                      try simp only [Act.put]
                      try simp only [List.setIfInBounds_toArray]
                      try simp only [List.set_cons_succ]
                      try simp only [List.set_cons_zero]
                      refine wpAnyH_ready (rs := [6]) (by kernel_rfl) (by simp) ?_
                      refine (AllReadyH.cons (by simp only [List.getElem?_toArray, List.getElem?_cons_succ, List.getElem?_cons_zero]; rfl) (fun K hK => ?_) AllReadyH.nil)
                      rw [if_pos (by rfl)]
                      go_simp
                      have RG := Lib.hid (show Row w.heap.size (wc.alloc (.cells #[.slice A n c, .int .i64 f.per, .int .i64 f.inc, .slice B m d, .int .i64 g.per, .int .i64 g.inc, .slice D l q, .int .i64 h.per, .int .i64 h.inc] 41)) wc.heap.size [⟨A, n, c, f⟩, ⟨B, m, d, g⟩, ⟨D, l, q, h⟩] from ⟨Blk.new _ _ _, (by
                        intro x hx
                        simp only [List.mem_cons, List.not_mem_nil, or_false] at hx
                        rcases hx with rfl | rfl | rfl
                        · exact (E.out.get 1 rfl).inn.alloc _
                        · exact Vg.out.alloc _
                        · exact Vh.out.alloc _), Nat.ne_of_gt E.out.s.lt⟩)
                      have E := Lib.hid (E.out.alloc (.cells #[.slice A n c, .int .i64 f.per, .int .i64 f.inc, .slice B m d, .int .i64 g.per, .int .i64 g.inc, .slice D l q, .int .i64 h.per, .int .i64 h.inc] 41))
                      try (have RF := Lib.hid (RF.out.alloc (.cells #[.slice A n c, .int .i64 f.per, .int .i64 f.inc, .slice B m d, .int .i64 g.per, .int .i64 g.inc, .slice D l q, .int .i64 h.per, .int .i64 h.inc] 41)))
                      clear hHeld
                      clear f0 f1 f2 hlf
                      obtain ⟨bG, hbG⟩ : ∃ bG, bG = wc.heap.size := ⟨_, rfl⟩
                      rw [← hbG] at RG
                      try rw [← hbG]
                      obtain ⟨we, hw1⟩ : ∃ w1, w1 = wc.alloc (.cells #[.slice A n c, .int .i64 f.per, .int .i64 f.inc, .slice B m d, .int .i64 g.per, .int .i64 g.inc, .slice D l q, .int .i64 h.per, .int .i64 h.inc] 41) := ⟨_, rfl⟩
                      rw [← hw1] at RG E
                      try rw [← hw1] at RF
                      try rw [← hw1]
                      clear hbG hw1
                      obtain ⟨f0, f1, f2, hlf⟩ := (E.out.get 1 rfl).cells
                      refine hK.out _ _ (by exact ⟨f0, f1, f2⟩) (fun hHeld => ?_)
                      clear hK K
                      try simp only [Act.put]
                      try simp only [List.setIfInBounds_toArray]
                      try simp only [List.set_cons_succ]
                      try simp only [List.set_cons_zero]
                      refine wpAnyH_ready (rs := [9]) (by kernel_rfl) (by simp) ?_
                      refine (AllReadyH.cons (by simp only [List.getElem?_toArray, List.getElem?_cons_succ, List.getElem?_cons_zero]; rfl) (fun K hK => ?_) AllReadyH.nil)
                      rw [if_pos (by rfl)]
                      go_simp
                      have LSF := Lib.hid (show Lists (we.alloc (.cells #[.slice AL nL cL, .slice (some ⟨bG, 0, none⟩) 3 3, .slice (some ⟨bF, 0, none⟩) 1 1, .slice none 0 0] 67)) we.heap.size from ⟨[.slice AL nL cL, .slice (some ⟨bG, 0, none⟩) 3 3, .slice (some ⟨bF, 0, none⟩) 1 1, .slice none 0 0], rfl, Blk.new _ _ _, (by
                        intro v hv
                        simp only [List.mem_cons, List.not_mem_nil, or_false] at hv
                        have bz := balloc we (.cells #[.slice AL nL cL, .slice (some ⟨bG, 0, none⟩) 3 3, .slice (some ⟨bF, 0, none⟩) 1 1, .slice none 0 0] 67)
                        rcases hv with rfl | rfl | rfl | rfl
                        · exact (LSW.out.below E.out.fin).below bz
                        · exact (LstOk.row (n := 3) RG.out rfl (by omega) (by
                            intro x hx
                            simp only [List.mem_cons, List.not_mem_nil, or_false] at hx
                            rcases hx with rfl | rfl | rfl
                            · exact FITF.out
                            · exact FITg.out
                            · exact FITh.out)).below bz
                        · exact (LstOk.row (n := 1) RF.out rfl (by omega) (by intro x hx; simp only [List.mem_singleton] at hx; subst hx; exact FITF.out)).below bz
                        · exact LstOk.nil_ _)⟩)
                      have E := Lib.hid (E.out.alloc (.cells #[.slice AL nL cL, .slice (some ⟨bG, 0, none⟩) 3 3, .slice (some ⟨bF, 0, none⟩) 1 1, .slice none 0 0] 67))
                      clear hHeld
                      clear f0 f1 f2 hlf
                      obtain ⟨f0, f1, f2, hlf⟩ := (E.out.get 1 rfl).cells
                      refine hK.out _ _ (by exact ⟨f0, f1, f2⟩) (fun hHeld => ?_)
                      clear hK K
                      try simp only [Act.put]
                      try simp only [List.setIfInBounds_toArray]
                      try simp only [List.set_cons_succ]
                      try simp only [List.set_cons_zero]
                      refine wpAnyH_take (i := 10) (oi := _) (v := ?_) (by simp only [List.getElem?_toArray, List.getElem?_cons_succ, List.getElem?_cons_zero]; rfl) (by kernel_rfl) (by kernel_rfl) (by kernel_rfl) (by exact fun _ _ _ h => h) (Or.inl ⟨by rfl, ?_⟩) (by assumption) ?_
                      rotate_left 1
                      · (intro w hSw; (try dsimp only at hSw); go_simp; try with_reducible rfl)
                      all_goals try simp only [Act.put]
                      all_goals try simp only [List.setIfInBounds_toArray]
                      all_goals try simp only [List.set_cons_succ]
                      all_goals try simp only [List.set_cons_zero]
                      refine wpAnyH_done (by kernel_rfl) ?_ _
                      go_wp2_with fail
                      go_meet
                      exact ⟨_, rfl, rfl, rfl, E.out, LSF.out⟩
                  · rw [if_pos (by rfl)]
                    go_simp
                    have RF := Lib.hid (show Row w.heap.size (wd.alloc (.cells #[.slice A n c, .int .i64 f.per, .int .i64 f.inc] 41)) wd.heap.size [⟨A, n, c, f⟩] from ⟨Blk.new _ _ _, (by intro x hx; simp only [List.mem_singleton] at hx; subst hx; exact (E.out.get 1 rfl).inn.alloc _), Nat.ne_of_gt E.out.s.lt⟩)
                    have E := Lib.hid (E.out.alloc (.cells #[.slice A n c, .int .i64 f.per, .int .i64 f.inc] 41))
                    try (have Vg := Lib.hid (Vg.out.alloc (.cells #[.slice A n c, .int .i64 f.per, .int .i64 f.inc] 41)))
                    try (have Vh := Lib.hid (Vh.out.alloc (.cells #[.slice A n c, .int .i64 f.per, .int .i64 f.inc] 41)))
                    try (have RG := Lib.hid (RG.out.alloc (.cells #[.slice A n c, .int .i64 f.per, .int .i64 f.inc] 41)))
                    clear hHeld
                    clear f0 f1 f2 hlf
                    obtain ⟨bF, hbF⟩ : ∃ bF, bF = wd.heap.size := ⟨_, rfl⟩
                    rw [← hbF] at RF
                    try rw [← hbF]
                    obtain ⟨wa, hw1⟩ : ∃ w1, w1 = wd.alloc (.cells #[.slice A n c, .int .i64 f.per, .int .i64 f.inc] 41) := ⟨_, rfl⟩
                    rw [← hw1] at RF E
                    try rw [← hw1] at Vg
                    try rw [← hw1] at Vh
                    try rw [← hw1] at RG
                    try rw [← hw1]
                    clear hbF hw1
                    obtain ⟨f0, f1, f2, hlf⟩ := (E.out.get 1 rfl).cells
                    refine hK.out _ _ (by exact ⟨f0, f1, f2⟩) (fun hHeld => ?_)
                    clear hK K
                    try simp only [Act.put]
                    try simp only [List.setIfInBounds_toArray]
                    try simp only [List.set_cons_succ]
                    try simp only [List.set_cons_zero]
                    refine wpAnyH_ready (rs := [3]) (by kernel_rfl) (by simp) ?_
                    refine (AllReadyH.cons (by simp only [List.getElem?_toArray, List.getElem?_cons_succ, List.getElem?_cons_zero]; rfl) (fun K hK => ?_) AllReadyH.nil)
                    -- a curve is drawn: wa wb the worlds, g the curve, B m d
                    rw [if_pos (by rfl)]
                    go_simp
                    refine (srcCurve2_any w.heap.size 4 wa (by exact E.out.s) (by omega) (by omega)).mono ?_
                    rintro e wb ⟨g, B, m, d, hD, hcf, rfl, hI, hA, hS, hk⟩
                    have hps := E.out.s.lt
                    have E := Lib.hid (E.out.kept hS hk)
                    try (have Vg := Lib.hid (Vg.out.kept hk))
                    try (have RF := Lib.hid (RF.out.kept hk))
                    have Vg := Lib.hid (show (CR.mk B m d g).In w.heap.size wb from CR.In.new hI hA hps)
                    have FITg := Lib.hid (show (CR.mk B m d g).FitS from ⟨by have h1 := hD.len; have h2 : g.vals.length = m := hI.1; show m ≤ 1000; omega, hcf⟩)
                    clear hD hcf hI hA hS hk hps hHeld
                    clear f0 f1 f2 hlf
                    obtain ⟨f0, f1, f2, hlf⟩ := (E.out.get 1 rfl).cells
                    refine hK.out _ _ (by exact ⟨f0, f1, f2⟩) (fun hHeld => ?_)
                    clear hK K
                    try simp only [Act.put]
                    try simp only [List.setIfInBounds_toArray]
                    try simp only [List.set_cons_succ]
                    try simp only [List.set_cons_zero]
                    refine wpAnyH_ready (rs := [5]) (by kernel_rfl) (by simp) ?_
                    refine (AllReadyH.cons (by simp only [List.getElem?_toArray, List.getElem?_cons_succ, List.getElem?_cons_zero]; rfl) (fun K hK => ?_) AllReadyH.nil)
                    -- a curve is drawn: wb wc the worlds, h the curve, D l q
                    rw [if_pos (by rfl)]
                    go_simp
                    refine (srcCurve2_any w.heap.size 4 wb (by exact E.out.s) (by omega) (by omega)).mono ?_
                    rintro e wc ⟨h, D, l, q, hD, hcf, rfl, hI, hA, hS, hk⟩
                    have hps := E.out.s.lt
                    have E := Lib.hid (E.out.kept hS hk)
                    try (have Vg := Lib.hid (Vg.out.kept hk))
                    try (have RF := Lib.hid (RF.out.kept hk))
                    have Vh := Lib.hid (show (CR.mk D l q h).In w.heap.size wc from CR.In.new hI hA hps)
                    have FITh := Lib.hid (show (CR.mk D l q h).FitS from ⟨by have h1 := hD.len; have h2 : h.vals.length = l := hI.1; show l ≤ 1000; omega, hcf⟩)
                    clear hD hcf hI hA hS hk hps hHeld
                    clear f0 f1 f2 hlf
                    obtain ⟨f0, f1, f2, hlf⟩ := (E.out.get 1 rfl).cells
                    refine hK.out _ _ (by exact ⟨f0, f1, f2⟩) (fun hHeld => ?_)
                    clear hK K
                    try simp only [Act.put]
                    try simp only [List.setIfInBounds_toArray]
                    try simp only [List.set_cons_succ]
                    try simp only [List.set_cons_zero]
                    refine wpAnyH_ready (rs := [6]) (by kernel_rfl) (by simp) ?_
                    refine (AllReadyH.cons (by simp only [List.getElem?_toArray, List.getElem?_cons_succ, List.getElem?_cons_zero]; rfl) (fun K hK => ?_) AllReadyH.nil)
                    rw [if_pos (by rfl)]
                    go_simp
                    have RG := Lib.hid (show Row w.heap.size (wc.alloc (.cells #[.slice A n c, .int .i64 f.per, .int .i64 f.inc, .slice B m d, .int .i64 g.per, .int .i64 g.inc, .slice D l q, .int .i64 h.per, .int .i64 h.inc] 41)) wc.heap.size [⟨A, n, c, f⟩, ⟨B, m, d, g⟩, ⟨D, l, q, h⟩] from ⟨Blk.new _ _ _, (by
                      intro x hx
                      simp only [List.mem_cons, List.not_mem_nil, or_false] at hx
                      rcases hx with rfl | rfl | rfl
                      · exact (E.out.get 1 rfl).inn.alloc _
                      · exact Vg.out.alloc _
                      · exact Vh.out.alloc _), Nat.ne_of_gt E.out.s.lt⟩)
                    have E := Lib.hid (E.out.alloc (.cells #[.slice A n c, .int .i64 f.per, .int .i64 f.inc, .slice B m d, .int .i64 g.per, .int .i64 g.inc, .slice D l q, .int .i64 h.per, .int .i64 h.inc] 41))
                    try (have RF := Lib.hid (RF.out.alloc (.cells #[.slice A n c, .int .i64 f.per, .int .i64 f.inc, .slice B m d, .int .i64 g.per, .int .i64 g.inc, .slice D l q, .int .i64 h.per, .int .i64 h.inc] 41)))
                    clear hHeld
                    clear f0 f1 f2 hlf
                    obtain ⟨bG, hbG⟩ : ∃ bG, bG = wc.heap.size := ⟨_, rfl⟩
                    rw [← hbG] at RG
                    try rw [← hbG]
                    obtain ⟨we, hw1⟩ : ∃ w1, w1 = wc.alloc (.cells #[.slice A n c, .int .i64 f.per, .int .i64 f.inc, .slice B m d, .int .i64 g.per, .int .i64 g.inc, .slice D l q, .int .i64 h.per, .int .i64 h.inc] 41) := ⟨_, rfl⟩
                    rw [← hw1] at RG E
                    try rw [← hw1] at RF
                    try rw [← hw1]
                    clear hbG hw1
                    obtain ⟨f0, f1, f2, hlf⟩ := (E.out.get 1 rfl).cells
                    refine hK.out _ _ (by exact ⟨f0, f1, f2⟩) (fun hHeld => ?_)
                    clear hK K
                    try simp only [Act.put]
                    try simp only [List.setIfInBounds_toArray]
                    try simp only [List.set_cons_succ]
                    try simp only [List.set_cons_zero]
                    refine wpAnyH_ready (rs := [9]) (by kernel_rfl) (by simp) ?_
                    refine (AllReadyH.cons (by simp only [List.getElem?_toArray, List.getElem?_cons_succ, List.getElem?_cons_zero]; rfl) (fun K hK => ?_) AllReadyH.nil)
                    rw [if_pos (by rfl)]
                    go_simp
                    have LSF := Lib.hid (show Lists (we.alloc (.cells #[.slice AL nL cL, .slice (some ⟨bG, 0, none⟩) 3 3, .slice (some ⟨bF, 0, none⟩) 1 1, .slice none 0 0] 67)) we.heap.size from ⟨[.slice AL nL cL, .slice (some ⟨bG, 0, none⟩) 3 3, .slice (some ⟨bF, 0, none⟩) 1 1, .slice none 0 0], rfl, Blk.new _ _ _, (by
                      intro v hv
                      simp only [List.mem_cons, List.not_mem_nil, or_false] at hv
                      have bz := balloc we (.cells #[.slice AL nL cL, .slice (some ⟨bG, 0, none⟩) 3 3, .slice (some ⟨bF, 0, none⟩) 1 1, .slice none 0 0] 67)
                      rcases hv with rfl | rfl | rfl | rfl
                      · exact (LSW.out.below E.out.fin).below bz
                      · exact (LstOk.row (n := 3) RG.out rfl (by omega) (by
                          intro x hx
                          simp only [List.mem_cons, List.not_mem_nil, or_false] at hx
                          rcases hx with rfl | rfl | rfl
                          · exact FITF.out
                          · exact FITg.out
                          · exact FITh.out)).below bz
                      · exact (LstOk.row (n := 1) RF.out rfl (by omega) (by intro x hx; simp only [List.mem_singleton] at hx; subst hx; exact FITF.out)).below bz
                      · exact LstOk.nil_ _)⟩)
                    have E := Lib.hid (E.out.alloc (.cells #[.slice AL nL cL, .slice (some ⟨bG, 0, none⟩) 3 3, .slice (some ⟨bF, 0, none⟩) 1 1, .slice none 0 0] 67))
                    clear hHeld
                    clear f0 f1 f2 hlf
                    obtain ⟨f0, f1, f2, hlf⟩ := (E.out.get 1 rfl).cells
                    refine hK.out _ _ (by exact ⟨f0, f1, f2⟩) (fun hHeld => ?_)
                    clear hK K
                    try simp only [Act.put]
                    try simp only [List.setIfInBounds_toArray]
                    try simp only [List.set_cons_succ]
                    try simp only [List.set_cons_zero]
                    refine wpAnyH_take (i := 10) (oi := _) (v := ?_) (by simp only [List.getElem?_toArray, List.getElem?_cons_succ, List.getElem?_cons_zero]; rfl) (by kernel_rfl) (by kernel_rfl) (by kernel_rfl) (by exact fun _ _ _ h => h) (Or.inl ⟨by rfl, ?_⟩) (by assumption) ?_
                    rotate_left 1
                    · (intro w hSw; (try dsimp only at hSw); go_simp; try with_reducible rfl)
                    all_goals try simp only [Act.put]
                    all_goals try simp only [List.setIfInBounds_toArray]
                    all_goals try simp only [List.set_cons_succ]
                    all_goals try simp only [List.set_cons_zero]
                    refine wpAnyH_done (by kernel_rfl) ?_ _
                    go_wp2_with fail
                    go_meet
                    exact ⟨_, rfl, rfl, rfl, E.out, LSF.out⟩
                case rest =>
                  clear E
                  obtain ⟨bl, rfl, rfl, rfl, hE, hLS⟩ := hcut
                  have E := Lib.hid hE; have LS := Lib.hid hLS
                  clear hE hLS
                  go_wp2_with fail
                  go_loopg [201] 4 (fun gg s201 wx => ∃ k : Nat, k + gg = 4 ∧ s201 = .int .i64 k ∧ EnvL w.heap.size w wx [(W.heap.size, ⟨A1, n1, c1, ⟨L1, p1, i1⟩⟩), (w2.heap.size, ⟨A, n, c, f⟩)] ∧ Lists wx bl)
                  case atStart => exact ⟨0, rfl, rfl, E.out, LS.out⟩
                  case round =>
                    clear E LS
                    as_aux_lemma =>
                    obtain ⟨k, hkg, rfl, hE, hLS⟩ := hrel
                    have E := Lib.hid hE; have LS := Lib.hid hLS
                    clear hE hLS
                    by_cases hk : k < 4
                    · have hki : (k : Int) < 4 := by omega
                      obtain ⟨vv, hcv, bz, nz, cz, zs, rfl, hzl, hzn, hzr, hzf⟩ := LS.out.get hk
                      obtain ⟨vs, _, hvb, _⟩ := LS.out
                      have hbl := hvb.lt
                      clear hvb
                      have ZR := Lib.hid hzr; have ZF := Lib.hid hzf
                      clear hzr hzf
                      go_upto_region 38 with fail
                      clear hcv hbl
                      obtain ⟨wi, hwi⟩ : ∃ wi : World, wi = wr := ⟨_, rfl⟩
                      subst hwi
                      have BI := Lib.hid (Below.refl wi.heap.size wi)
                      go_wp2_with fail
                      refine (total_anyO bz nz cz zs _ hzl hzn (by exact fun h => by obtain ⟨g, o, hg, hr⟩ := ZR.out h; exact ⟨g, o, hg, hr.below BI.out⟩) (fun x hx => by have := (ZF.out x hx).1; omega)).mono ?_
                      rintro e wa5 ⟨r5, er5, hS, A5, n5, c5, rfl, hI, hA, hb⟩
                      have HS5 := Lib.hid hS
                      have hn5 : n5 ≤ 400 := by have h1 := TotR.lenS (by decide) hS; have h2 : r5.vals.length = n5 := hI.1; omega
                      -- the variables stay behind a call
                      try (replace B5 := Lib.hid (B5.out.below hb B5.out.lt))
                      try (replace B6 := Lib.hid (B6.out.below hb B6.out.lt))
                      try (replace B7 := Lib.hid (B7.out.below hb B7.out.lt))
                      try (replace B8 := Lib.hid (B8.out.below hb B8.out.lt))
                      try (replace I5 := Lib.hid (I5.out.ext hb))
                      try (replace I6 := Lib.hid (I6.out.ext hb))
                      try (replace I7 := Lib.hid (I7.out.ext hb))
                      try (replace I8 := Lib.hid (I8.out.ext hb))
                      replace BI := Lib.hid (bthen BI.out hb)
                      -- .. and behind a new variable with the curve number 5, the world wa5
                      try (replace B5 := Lib.hid (B5.out.alloc (.cells #[.slice A5 n5 c5, .int .i64 r5.per, .int .i64 r5.inc] 41)))
                      try (replace B6 := Lib.hid (B6.out.alloc (.cells #[.slice A5 n5 c5, .int .i64 r5.per, .int .i64 r5.inc] 41)))
                      try (replace B7 := Lib.hid (B7.out.alloc (.cells #[.slice A5 n5 c5, .int .i64 r5.per, .int .i64 r5.inc] 41)))
                      try (replace I5 := Lib.hid (I5.out.alloc' (.cells #[.slice A5 n5 c5, .int .i64 r5.per, .int .i64 r5.inc] 41)))
                      try (replace I6 := Lib.hid (I6.out.alloc' (.cells #[.slice A5 n5 c5, .int .i64 r5.per, .int .i64 r5.inc] 41)))
                      try (replace I7 := Lib.hid (I7.out.alloc' (.cells #[.slice A5 n5 c5, .int .i64 r5.per, .int .i64 r5.inc] 41)))
                      have B5 := Lib.hid (Blk.new wa5 41 #[.slice A5 n5 c5, .int .i64 r5.per, .int .i64 r5.inc])
                      have I5 := Lib.hid (hI.alloc' (.cells #[.slice A5 n5 c5, .int .i64 r5.per, .int .i64 r5.inc] 41))
                      have hz5 := BI.out.size
                      replace BI := Lib.hid (bthen BI.out (balloc _ (.cells #[.slice A5 n5 c5, .int .i64 r5.per, .int .i64 r5.inc] 41)))
                      clear hS hI hA hb
                      go_upto_region 39 with fail
                      generalize hwe : wa5.alloc (.cells #[.slice A5 n5 c5, .int .i64 r5.per, .int .i64 r5.inc] 41) = wc5 at *
                      clear hwe
                      generalize wa5.heap.size = Z5 at *
                      go_wp2_with fail
                      refine (refTotal_any bz nz cz zs _ hzl hzn (by exact fun h => by obtain ⟨g, o, hg, hr⟩ := ZR.out h; exact ⟨g, o, hg, hr.below BI.out⟩) (fun x hx => ⟨by have := (ZF.out x hx).1; omega, (ZF.out x hx).2⟩)).mono ?_
                      rintro e wa6 ⟨r6, er6, A6, n6, c6, hS, hc6, rfl, hI, hA, hb⟩
                      have hn6 : n6 ≤ 400 := by have h1 := TotR.lenS (by decide) hS; have h2 : r6.vals.length = n6 := hI.1; omega
                      -- the variables stay behind a call
                      try (replace B5 := Lib.hid (B5.out.below hb B5.out.lt))
                      try (replace B6 := Lib.hid (B6.out.below hb B6.out.lt))
                      try (replace B7 := Lib.hid (B7.out.below hb B7.out.lt))
                      try (replace B8 := Lib.hid (B8.out.below hb B8.out.lt))
                      try (replace I5 := Lib.hid (I5.out.ext hb))
                      try (replace I6 := Lib.hid (I6.out.ext hb))
                      try (replace I7 := Lib.hid (I7.out.ext hb))
                      try (replace I8 := Lib.hid (I8.out.ext hb))
                      replace BI := Lib.hid (bthen BI.out hb)
                      -- .. and behind a new variable with the curve number 6, the world wa6
                      try (replace B5 := Lib.hid (B5.out.alloc (.cells #[.slice A6 n6 c6, .int .i64 r6.per, .int .i64 r6.inc] 41)))
                      try (replace B6 := Lib.hid (B6.out.alloc (.cells #[.slice A6 n6 c6, .int .i64 r6.per, .int .i64 r6.inc] 41)))
                      try (replace B7 := Lib.hid (B7.out.alloc (.cells #[.slice A6 n6 c6, .int .i64 r6.per, .int .i64 r6.inc] 41)))
                      try (replace I5 := Lib.hid (I5.out.alloc' (.cells #[.slice A6 n6 c6, .int .i64 r6.per, .int .i64 r6.inc] 41)))
                      try (replace I6 := Lib.hid (I6.out.alloc' (.cells #[.slice A6 n6 c6, .int .i64 r6.per, .int .i64 r6.inc] 41)))
                      try (replace I7 := Lib.hid (I7.out.alloc' (.cells #[.slice A6 n6 c6, .int .i64 r6.per, .int .i64 r6.inc] 41)))
                      have B6 := Lib.hid (Blk.new wa6 41 #[.slice A6 n6 c6, .int .i64 r6.per, .int .i64 r6.inc])
                      have I6 := Lib.hid (hI.alloc' (.cells #[.slice A6 n6 c6, .int .i64 r6.per, .int .i64 r6.inc] 41))
                      have hz6 := BI.out.size
                      replace BI := Lib.hid (bthen BI.out (balloc _ (.cells #[.slice A6 n6 c6, .int .i64 r6.per, .int .i64 r6.inc] 41)))
                      have HEQ6 := Lib.hid (TotR.uniqueS HS5.out hS)
                      clear hS hI hA hb hc6 HS5
                      go_upto_region 40 with fail
                      generalize hwe : wa6.alloc (.cells #[.slice A6 n6 c6, .int .i64 r6.per, .int .i64 r6.inc] 41) = wc6 at *
                      clear hwe
                      generalize wa6.heap.size = Z6 at *
                      obtain ⟨e1, e2⟩ := HEQ6.out
                      subst e1 e2
                      have g5 : (er5 != er5) = false := by simp
                      clear HEQ6
                      obtain ⟨⟨k0, k1, k2⟩, ⟨k3, k4, k5⟩, hlk5⟩ := B5.out.c3
                      obtain ⟨⟨l0, l1, l2⟩, ⟨l3, l4, l5⟩, hlk6⟩ := B6.out.c3
                      go_wp2_with fail
                      -- the curves 5 and 6 are the same: {2}
                      refine (refSame_any A5 A6 n5 n6 c5 c6 r5.per r5.per r5.inc r5.inc r5.vals r5.vals _ (by exact I5.out) (by exact I6.out) (by omega) (by omega)).mono ?_
                      rw [(Cv.same_iff _ _).2 rfl]
                      rintro e ws5 ⟨rfl, hb⟩
                      -- the variables stay behind a call
                      try (replace B5 := Lib.hid (B5.out.below hb B5.out.lt))
                      try (replace B6 := Lib.hid (B6.out.below hb B6.out.lt))
                      try (replace B7 := Lib.hid (B7.out.below hb B7.out.lt))
                      try (replace B8 := Lib.hid (B8.out.below hb B8.out.lt))
                      try (replace I5 := Lib.hid (I5.out.ext hb))
                      try (replace I6 := Lib.hid (I6.out.ext hb))
                      try (replace I7 := Lib.hid (I7.out.ext hb))
                      try (replace I8 := Lib.hid (I8.out.ext hb))
                      replace BI := Lib.hid (bthen BI.out hb)
                      clear hb
                      clear k0 k1 k2 k3 k4 k5 hlk5 l0 l1 l2 l3 l4 l5 hlk6
                      clear g5 I5 I6 hn5 hn6
                      go_wp2_with fail
                      go_roundg (gk - 1)
                      case measure => omega
                      case rel => exact ⟨k + 1, by omega, by go_num, E.out.below BI.out, LS.out.below BI.out⟩
                    · have hk4 : k = 4 := by omega
                      subst hk4
                      clear hk hkg
                      go_wp2_with fail
                      refine (awake5_any _).mono ?_
                      rintro q wq ⟨rfl, hbq⟩
                      have bw := bthen BWW.out (E.out.below hbq).fin
                      go_wp2_with fail
                      go_ret
                      exact ⟨rfl, bw⟩
  · rw [decide_eq_false h1]
    go_wp2_with fail
    refine (awake5_any _).mono ?_
    rintro q wq ⟨rfl, hbq⟩
    have bw := bthen BW.out hbq
    go_wp2_with fail
    go_ret
    exact ⟨rfl, bw⟩
end Go.Proofs.Ytmieikfmbnaoaaa
