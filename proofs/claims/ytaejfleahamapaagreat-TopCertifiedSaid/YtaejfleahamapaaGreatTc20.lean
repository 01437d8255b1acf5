/- (*netcalculuskeep.Src).Zero: what it draws. -/
import Derived.Deep.LoopGhost
import Derived.Deep.DeepCutAuto
import Derived.Test.YtaejfleahamapaaGreatTc19
import Derived.Test.YtaejfleahamapaaGreatTc12
import Derived.Test.YtaejfleahamapaaGreatTc17
import Derived.Test.YtaejfleahamapaaGreatTc16
import Derived.Test.YtaejfleahamapaaGreatTc11
import Derived.Test.YtaejfleahamapaaGreatTc5
namespace Go.Proofs.YtaejfleahamapaaGreat
open Go.RowKit
set_option linter.unusedVariables false

structure RowC (w : World) (b : Nat) (xs : List CR) : Prop where
  lt : b < w.heap.size
  cell : ∀ (k j : Nat) (x : CR), xs[k]? = some x → j < 3 → w.cell? ⟨b, k * 3 + j, none⟩ = x.cells[j]?
  inn : ∀ x ∈ xs, Ints w w.heap.size x.A x.n x.f.vals
section
variable {p b : Nat} {w w' : World} {xs : List CR}
theorem RowC.below (h : RowC w b xs) (hb : Below w.heap.size w w') : RowC w' b xs :=
  ⟨Nat.lt_of_lt_of_le h.lt hb.size, fun k j x hx hj => ((bcell hb).1 b _ h.lt).trans (h.cell k j x hx hj), fun x hx => (h.inn x hx).ext hb⟩
theorem RowC.get (h : RowC w b xs) {k : Nat} (hk : k < xs.length) : ∃ x, xs[k]? = some x ∧ Ints w w.heap.size x.A x.n x.f.vals ∧ w.cell? ⟨b, k * 3, none⟩ = some (.slice x.A x.n x.c) ∧ w.cell? ⟨b, k * 3 + 1, none⟩ = some (.int .i64 x.f.per) ∧ w.cell? ⟨b, k * 3 + 2, none⟩ = some (.int .i64 x.f.inc) := by
  have hx : xs[k]? = some xs[k] := List.getElem?_eq_getElem hk
  exact ⟨xs[k], hx, h.inn _ (List.getElem_mem hk), h.cell k 0 _ hx (by omega), h.cell k 1 _ hx (by omega), h.cell k 2 _ hx (by omega)⟩
structure RowO (w : World) (b o : Nat) (xs : List CR) : Prop where
  lt : b < w.heap.size
  cell : ∀ (k j : Nat) (x : CR), xs[k]? = some x → j < 3 → w.cell? ⟨b, o + k * 3 + j, none⟩ = x.cells[j]?
  inn : ∀ x ∈ xs, Ints w w.heap.size x.A x.n x.f.vals
theorem RowO.below {o : Nat} (h : RowO w b o xs) (hb : Below w.heap.size w w') : RowO w' b o xs :=
  ⟨Nat.lt_of_lt_of_le h.lt hb.size, fun k j x hx hj => ((bcell hb).1 b _ h.lt).trans (h.cell k j x hx hj), fun x hx => (h.inn x hx).ext hb⟩
theorem RowO.get {o : Nat} (h : RowO w b o xs) {k : Nat} (hk : k < xs.length) : ∃ x, xs[k]? = some x ∧ Ints w w.heap.size x.A x.n x.f.vals ∧ w.cell? ⟨b, o + k * 3, none⟩ = some (.slice x.A x.n x.c) ∧ w.cell? ⟨b, o + k * 3 + 1, none⟩ = some (.int .i64 x.f.per) ∧ w.cell? ⟨b, o + k * 3 + 2, none⟩ = some (.int .i64 x.f.inc) := by
  have hx : xs[k]? = some xs[k] := List.getElem?_eq_getElem hk
  exact ⟨xs[k], hx, h.inn _ (List.getElem_mem hk), h.cell k 0 _ hx (by omega), h.cell k 1 _ hx (by omega), h.cell k 2 _ hx (by omega)⟩
end
def TotR : Cv → List Cv → Cv → Int → Prop
  | s, [], r, er => r = s ∧ er = 0
  | s, f :: fs, r, er => ∃ t e, SumS s f t e ∧ ((e = 0 ∧ TotR t fs r er) ∨ (e ≠ 0 ∧ r = Cv.none ∧ er = e))
set_option maxHeartbeats 4000000 in
set_option maxRecDepth 100000 in
theorem total_anyO (b : Option Addr) (n c : Nat) (xs : List CR) (w : World) (hl : xs.length = n) (hn : n ≤ 1000) (hrow : 0 < n → ∃ g o, b = some ⟨g, o, none⟩ ∧ RowO w g o xs) (hlen : ∀ x ∈ xs, x.n ≤ 1000000) :
    Calls Tryz.prog 109 #[.slice b n c] w (RetS (TotR cvZ (xs.map CR.f)) w) := by
  have HROW := Lib.hid hrow; have HLEN := Lib.hid hlen; have HL := Lib.hid hl
  clear hrow hlen hl
  have RB := Lib.hid (Blk.new w 26 #[.slice none 0 0, .int .i64 0, .int .i64 0])
  have BW := Lib.hid (balloc w (.cells #[.slice none 0 0, .int .i64 0, .int .i64 0] 26))
  go_enter Tryz.func109, Tryz.ntmps109
  go_wp2_with fail
  refine (flat0_any _).mono ?_
  rintro e w1 ⟨A, m, d, rfl, hI, hA, hb⟩
  have hs0 := (RB.out.below hb RB.out.lt).lt
  have ZB := Lib.hid (Blk.new w1 26 #[.slice A m d, .int .i64 cvZ.per, .int .i64 cvZ.inc])
  have IZ := Lib.hid (hI.alloc' (.cells #[.slice A m d, .int .i64 cvZ.per, .int .i64 cvZ.inc] 26))
  have hm1 : m ≤ 1 := by have h2 : cvZ.vals.length = m := hI.1; rw [← h2]; exact Nat.le_refl _
  have OZ := Lib.hid (show 0 < m → ∀ b off s, A = some ⟨b, off, s⟩ → b ≠ w1.heap.size from fun hm b off s e => by
    obtain ⟨b', off', e', hb', _⟩ := hI.2 hm
    rw [e] at e'; cases e'; omega)
  have LZ := Lib.hid (show ∀ b off s, A = some ⟨b, off, s⟩ → w.heap.size + 1 ≤ b from fun b off s e => by have := hA b off s e; simp at this; omega)
  replace RB := Lib.hid ((RB.out.below hb RB.out.lt).alloc (.cells #[.slice A m d, .int .i64 cvZ.per, .int .i64 cvZ.inc] 26))
  replace BW := Lib.hid (bthen (bthen BW.out hb) (balloc _ (.cells #[.slice A m d, .int .i64 cvZ.per, .int .i64 cvZ.inc] 26)))
  clear hI hA hb
  go_upto_region 2 with fail
  generalize hwe : w1.alloc (.cells #[.slice A m d, .int .i64 cvZ.per, .int .i64 cvZ.inc] 26) = we at *
  clear hwe
  generalize w1.heap.size = Z at *
  go_wp2_with fail
  go_loopg [5, 7, 14] n (fun gg s5 s7 s14 wx => ∃ (k : Nat) (s : Cv) (A : Option Addr) (m d : Nat), k + gg = n ∧ s14 = .int .i64 k ∧ s5 = .int .i64 0 ∧ m ≤ 1000 ∧ Blk wx Z 26 #[.slice A m d, .int .i64 s.per, .int .i64 s.inc] ∧ Ints wx wx.heap.size A m s.vals ∧
    (0 < m → ∀ b off s, A = some ⟨b, off, s⟩ → b ≠ Z) ∧ (∀ b off s, A = some ⟨b, off, s⟩ → w.heap.size + 1 ≤ b) ∧ (∀ r er, TotR s ((xs.drop k).map CR.f) r er → TotR cvZ (xs.map CR.f) r er) ∧ Blk wx w.heap.size 26 #[.slice none 0 0, .int .i64 0, .int .i64 0] ∧ Below w.heap.size w wx)
  case atStart => exact ⟨0, cvZ, A, m, d, by omega, rfl, rfl, by omega, ZB.out, IZ.out, OZ.out, LZ.out, fun r er h => by rw [List.drop_zero] at h; exact h, RB.out, BW.out⟩
  case round =>
    clear ZB IZ OZ LZ RB BW hm1
    obtain ⟨k, s, A, m, d, hkg, rfl, rfl, hm, hZB, hIZ, hOZ, hLZ, hT, hRB, hBW⟩ := hrel
    have ZB := Lib.hid hZB; have IZ := Lib.hid hIZ; have OZ := Lib.hid hOZ; have LZ := Lib.hid hLZ; have HT := Lib.hid hT; have RB := Lib.hid hRB; have BW := Lib.hid hBW
    clear hZB hIZ hOZ hLZ hT hRB hBW
    by_cases hk : k < n
    · have hki : (k : Int) < n := by omega
      obtain ⟨g, o, hg, hrow⟩ := HROW.out (by omega)
      subst hg
      obtain ⟨x, hx, hix, x0, x1, x2⟩ := (hrow.below BW.out).get (k := k) (by rw [HL.out]; exact hk)
      have hxn := HLEN.out x (List.mem_of_getElem? hx)
      have hgl := (hrow.below BW.out).lt
      have HX := Lib.hid hx; have IX := Lib.hid hix
      clear hx hix hrow
      obtain ⟨⟨q0, q1, q2⟩, ⟨k0, k1, k2⟩, hlq⟩ := ZB.out.c3
      have XB := Lib.hid (Blk.new wr 26 #[.slice x.A x.n x.c, .int .i64 x.f.per, .int .i64 x.f.inc])
      go_upto_region 5 with fail
      clear q0 q1 q2 k0 k1 k2 hlq
      clear x0 x1 x2 hgl
      replace ZB := Lib.hid (ZB.out.alloc (.cells #[.slice x.A x.n x.c, .int .i64 x.f.per, .int .i64 x.f.inc] 26))
      replace IZ := Lib.hid (IZ.out.alloc' (.cells #[.slice x.A x.n x.c, .int .i64 x.f.per, .int .i64 x.f.inc] 26))
      replace IX := Lib.hid (IX.out.alloc' (.cells #[.slice x.A x.n x.c, .int .i64 x.f.per, .int .i64 x.f.inc] 26))
      replace RB := Lib.hid (RB.out.alloc (.cells #[.slice x.A x.n x.c, .int .i64 x.f.per, .int .i64 x.f.inc] 26))
      replace BW := Lib.hid (bthen BW.out (balloc _ (.cells #[.slice x.A x.n x.c, .int .i64 x.f.per, .int .i64 x.f.inc] 26)))
      generalize hwe : wr.alloc (.cells #[.slice x.A x.n x.c, .int .i64 x.f.per, .int .i64 x.f.inc] 26) = wf at *
      clear hwe
      generalize wr.heap.size = X at *
      obtain ⟨⟨q0, q1, q2⟩, ⟨k0, k1, k2⟩, hlq⟩ := ZB.out.c3
      obtain ⟨⟨x0, x1, x2⟩, _, hlx⟩ := XB.out.c3
      go_wp2_with fail
      refine (psum_any A x.A m x.n d x.c s.per s.inc x.f.per x.f.inc s.vals x.f.vals _ (by exact IZ.out) (by exact IX.out) (by omega) (by omega)).mono ?_
      rintro e w2 ⟨r, er, hS, A2, m2, d2, rfl, hI, hA, hb⟩
      have hzl := ZB.out.lt
      have hm2 : m2 ≤ 400 := by
        have h2 : r.vals.length = m2 := hI.1
        rcases hS with ⟨_, rfl, _⟩ | ⟨_, _, a', b', _, _, ⟨_, rfl, _⟩ | ⟨_, g', hg', ⟨hl', rfl, _⟩ | ⟨_, rfl, _⟩⟩⟩
        · rw [← h2]; decide
        · rw [← h2]; decide
        · rw [← h2]; exact hl'.1
        · rw [← h2]; decide
      have HS := Lib.hid hS
      have OZ2 := Lib.hid (show ∀ b off s, A2 = some ⟨b, off, s⟩ → b ≠ Z from fun b off s e => by have := hA b off s e; omega)
      have LZ2 := Lib.hid (show ∀ b off s, A2 = some ⟨b, off, s⟩ → w.heap.size + 1 ≤ b from fun b off s e => by have := hA b off s e; omega)
      replace ZB := Lib.hid (ZB.out.below hb ZB.out.lt)
      replace RB := Lib.hid (RB.out.below hb RB.out.lt)
      replace BW := Lib.hid (bthen BW.out hb)
      have I2 := Lib.hid hI
      have hxd : xs.drop k = x :: xs.drop (k + 1) := by
        have h1 : k < xs.length := by rw [HL.out]; exact hk
        rw [List.drop_eq_getElem_cons h1]
        have h2 := HX.out
        rw [List.getElem?_eq_getElem h1] at h2
        injection h2 with h2
        rw [h2]
      have HT2 := Lib.hid (show ∀ q eq, ((er = 0 ∧ TotR r ((xs.drop (k + 1)).map CR.f) q eq) ∨ (er ≠ 0 ∧ q = Cv.none ∧ eq = er)) → TotR cvZ (xs.map CR.f) q eq from fun q eq h => HT.out q eq (by
        rw [hxd, List.map_cons]
        exact ⟨r, er, HS.out, h⟩))
      clear hS hI hA hb q0 q1 q2 k0 k1 k2 hlq x0 x1 x2 hlx XB IZ IX OZ LZ HT hxd
      have hWZ : w.heap.size < Z := by omega
      obtain ⟨⟨q0, q1, q2⟩, ⟨k0, k1, k2⟩, hlq⟩ := ZB.out.c3
      go_upto_region 6 with fail
      clear q0 q1 q2 k0 k1 k2 hlq
      have st := Sto.three Z w2 (.slice A2 m2 d2) (.int .i64 r.per) (.int .i64 r.inc)
      replace I2 := Lib.hid (I2.out.sto st OZ2.out)
      replace ZB := Lib.hid (ZB.out.store3 (.slice A2 m2 d2) (.int .i64 r.per) (.int .i64 r.inc))
      replace RB := Lib.hid (RB.out.sto st (by omega))
      replace BW := Lib.hid (bsto BW.out st (by omega))
      clear st
      generalize hwe : ((w2.setCell ⟨Z, 0, none⟩ (.slice A2 m2 d2)).setCell ⟨Z, 1, none⟩ (.int .i64 r.per)).setCell ⟨Z, 2, none⟩ (.int .i64 r.inc) = w3 at *
      clear hwe
      by_cases he : er = 0
      · subst he
        have HT3 := Lib.hid (fun q eq h => HT2.out q eq (.inl ⟨rfl, h⟩))
        clear HT2
        go_wp2_with fail
        go_roundg (gk - 1)
        case measure => omega
        case rel => exact ⟨k + 1, r, A2, m2, d2, by omega, by go_num, rfl, by omega, ZB.out, I2.out, fun _ => OZ2.out, LZ2.out, HT3.out, RB.out, BW.out⟩
      · have g1 : (er != 0) = true := by simpa using he
        have FN := Lib.hid (HT2.out Cv.none er (.inr ⟨he, rfl, rfl⟩))
        clear he HT2
        obtain ⟨⟨r0, r1, r2⟩, ⟨y0, y1, y2⟩, hlr⟩ := RB.out.c3
        go_wp2_with fail
        have rb := RB.out.store3 (.slice none 0 0) (.int .i64 0) (.int .i64 0)
        refine bodyPost_ret (v := .tuple #[.agg #[(.slice none 0 0), .int .i64 0, .int .i64 0], .int .i64 er]) (by simp [results, Tryz.results109, go_sem, rb.cell]) rfl ?_
        exact retS_none FN.out (bst3 BW.out (by omega) _ _ _)
    · have hkn : k = n := by omega
      subst hkn
      have FN := Lib.hid (HT.out s 0 (by rw [List.drop_eq_nil_of_le (by rw [HL.out]; exact Nat.le_refl _)]; exact ⟨rfl, rfl⟩))
      clear hk hkg HT
      obtain ⟨⟨q0, q1, q2⟩, ⟨k0, k1, k2⟩, hlq⟩ := ZB.out.c3
      obtain ⟨⟨r0, r1, r2⟩, ⟨y0, y1, y2⟩, hlr⟩ := RB.out.c3
      go_wp2_with fail
      have rb := RB.out.store3 (.slice A m d) (.int .i64 s.per) (.int .i64 s.inc)
      refine bodyPost_ret (v := .tuple #[.agg #[.slice A m d, .int .i64 s.per, .int .i64 s.inc], .int .i64 0]) (by simp [results, Tryz.results109, go_sem, rb.cell]) rfl ?_
      exact retS_store FN.out LZ.out (Nat.le_refl _) (by omega) IZ.out BW.out
end Go.Proofs.YtaejfleahamapaaGreat

namespace Go.Proofs.YtaejfleahamapaaGreat
set_option linter.unusedVariables false

theorem fin_of {h : Nat → Int} {g : Cv} (hg : NF h g) (ho : g.Ok) (hne : ∀ t, t ≤ 400 → h t ≠ inf) : g.Fin := by
  have h1 := ho.n1; have h2 := ho.n2
  refine ⟨ho, ?_⟩
  rw [← Cv.at_lt (by omega), hg.at]
  exact hne _ (by omega)
theorem sumS_fin {f g r : Cv} (hf : f.Fin) (hg : g.Fin) (h : SumS f g r 0) : r.Fin ∧ ∀ t, r.at t = f.at t + g.at t := by
  have hv : ∀ t, sumV f g t = f.at t + g.at t := fun t => by
    unfold sumV
    rw [if_neg (fun h => h.elim (hf.not_infAt t) (hg.not_infAt t))]
  rcases h with ⟨_, _, h⟩ | ⟨hfo, hgo, a, b, ha, hb, ⟨_, _, h⟩ | ⟨_, h⟩⟩
  · omega
  · omega
  · have h' : MadeS (sumV a b) r 0 := h
    rw [sumV_nf hf.1 hg.1 ha hb] at h'
    rcases h'.get (sumV_up hf.1 hg.1) with ⟨_, h1, h2⟩ | ⟨h1, _⟩
    · exact ⟨fin_of h2 h1 (fun t ht => by rw [hv]; exact hf.add_ne hg (by omega)), fun t => by rw [h2.at, hv]⟩
    · omega
def sumAt (fs : List Cv) (t : Nat) : Int := (fs.map fun f => f.at t).sum
theorem tot_fin : ∀ {fs : List Cv} {s r : Cv}, s.Fin → (∀ f ∈ fs, f.Fin) → TotR s fs r 0 → r.Fin ∧ ∀ t, r.at t = s.at t + sumAt fs t
  | [], s, r, hs, _, h => by
    obtain ⟨rfl, _⟩ := h
    exact ⟨hs, fun t => by simp [sumAt]⟩
  | f :: fs, s, r, hs, hf, ⟨t, e, h1, h2⟩ => by
    rcases h2 with ⟨rfl, h2⟩ | ⟨h2, _, h3⟩
    · obtain ⟨a1, a2⟩ := sumS_fin hs (hf f (List.mem_cons_self ..)) h1
      obtain ⟨b1, b2⟩ := tot_fin a1 (fun g hg => hf g (List.mem_cons_of_mem _ hg)) h2
      refine ⟨b1, fun u => ?_⟩
      rw [b2, a2]
      simp [sumAt]
      omega
    · exact absurd h3.symm h2
theorem cvZ_fin : cvZ.Fin := ⟨nf_lim_ok zero_nf ⟨Int.le_refl _, fun _ => Int.le_refl _⟩ cvZ_lim, by decide⟩
theorem cvZ_at (t : Nat) : cvZ.at t = 0 := by
  have := zero_nf.at t
  exact this
theorem raiseS_fin {f r : Cv} {d : Int} (hf : f.Fin) (h0 : 0 ≤ d) (h1 : d ≤ 1073741824) (h : RaiseS f d r 0) : r.Fin ∧ r.at 0 = 0 ∧ ∀ t, 0 < t → r.at t = f.at t + d := by
  have hm := RaiseS.made hf.1 h0 h1 h
  rcases hm.get (raise_up hf.1 h0 h1) with ⟨_, h1', h2⟩ | ⟨h3, _⟩
  · refine ⟨fin_of h2 h1' (fun t ht => ?_), by rw [h2.at, raiseV_zero], fun t ht => by rw [h2.at, raiseV_fin ht (hf.not_infAt t)]⟩
    rcases Nat.eq_zero_or_pos t with e | e
    · subst e; rw [raiseV_zero]; decide
    · rw [raiseV_fin e (hf.not_infAt t)]
      have := hf.at_bd t
      have h5 : (t : Int) * 1073741824 ≤ 400 * 1073741824 := Int.mul_le_mul_of_nonneg_right (by omega) (by omega)
      intro e2
      have : inf = 4611686018427387904 := rfl
      omega
  · omega
def lineCv (c : Int) : Cv := ⟨[0], 1, c⟩
theorem line_fin {c : Int} (h0 : 0 ≤ c) (h1 : c ≤ 1073741824) : (lineCv c).Fin := by
  have hl : (lineCv c).vals.length = 1 := rfl
  have hp : (lineCv c).per = 1 := rfl
  have h00 : nth (lineCv c).vals 0 = 0 := rfl
  refine ⟨⟨by omega, by omega, by omega, by omega, by omega, h0, h1, fun k hk => ?_, by omega, fun k hk => by omega, fun h => ?_, fun _ => ?_⟩, ?_⟩
  · obtain rfl : k = 0 := by omega
    rw [h00]; decide
  · rw [hl, h00] at h; exact absurd h (by decide)
  · rw [hl, hp]
    show nth (lineCv c).vals 0 ≤ nth (lineCv c).vals 0 + c
    omega
  · rw [hl, h00]; decide
end Go.Proofs.YtaejfleahamapaaGreat

namespace Go.Proofs.YtaejfleahamapaaGreat
open Go.RowKit
set_option linter.unusedVariables false
set_option linter.unusedSimpArgs false
theorem serve_any (c : Int) (w : World) (h1 : 1 ≤ c) (h2 : c ≤ 4000) : Calls Tryz.prog 26 #[.int .i64 c] w (RetC (lineCv c) 0 w) := by
  have RB := Lib.hid (Blk.new w 26 #[.slice none 0 0, .int .i64 0, .int .i64 0])
  have BW := Lib.hid (balloc w (.cells #[.slice none 0 0, .int .i64 0, .int .i64 0] 26))
  have e : lineC c = (lineCv c, 0) := by unfold lineC; rw [if_neg (by omega), if_neg (by omega)]; rfl
  go_enter Tryz.func26, Tryz.ntmps26
  go_upto_region 1 with fail
  generalize hwe : w.alloc (.cells #[.slice none 0 0, .int .i64 0, .int .i64 0] 26) = w1 at *
  clear hwe
  have d1 : decide (c < 1) = false := by simp; omega
  have d2 : decide ((4000 : Int) < c) = false := by simp; omega
  go_wp2_with fail
  refine (line_any c _).mono ?_
  rw [e]
  rintro e w2 ⟨A, n, d, rfl, hI, hA, hb⟩
  have hrw := RB.out.lt
  replace RB := Lib.hid (RB.out.below hb RB.out.lt); replace BW := Lib.hid (bthen BW.out hb)
  have HI := Lib.hid hI; have HA := Lib.hid hA
  clear hI hA hb
  obtain ⟨⟨r0, r1, r2⟩, ⟨y0, y1, y2⟩, hlr⟩ := RB.out.c3
  go_wp2_with fail
  have rb := RB.out.store3 (.slice A n d) (.int .i64 (lineCv c).per) (.int .i64 (lineCv c).inc)
  refine bodyPost_ret (v := .tuple #[.agg #[.slice A n d, .int .i64 (lineCv c).per, .int .i64 (lineCv c).inc], .int .i64 0]) (by simp [results, Tryz.results26, go_sem, rb.cell]) rfl ?_
  exact ⟨A, n, d, rfl, HI.out.sto (Sto.three w.heap.size w2 _ _ _) (fun b off s e => by have := HA.out b off s e; omega), (fun b off s e => by have := HA.out b off s e; omega), bst3 BW.out (Nat.le_refl _) _ _ _⟩
def blkV (zs : List SZ) (cl : Nat) : Int := (zs.drop (cl + 1)).foldl (fun m x => max m (x.hi - 1)) 0
def PrS (cap : Int) (cl : Nat) (fs : List Cv) (zs : List SZ) (r : Cv) (er : Int) : Prop :=
  ∃ o e, TotR cvZ (fs.take cl) o e ∧ ((e ≠ 0 ∧ r = Cv.none ∧ er = e) ∨ (e = 0 ∧ ∃ o2 e2, RaiseS o (blkV zs cl) o2 e2 ∧ ((e2 ≠ 0 ∧ r = Cv.none ∧ er = e2) ∨ (e2 = 0 ∧ RestS (lineCv cap) o2 r er))))
theorem foldl_max_bd : ∀ (l : List SZ) (m : Int), (∀ x ∈ l, x.hi ≤ 1500) → 0 ≤ m → m ≤ 1500 → 0 ≤ l.foldl (fun m x => max m (x.hi - 1)) m ∧ l.foldl (fun m x => max m (x.hi - 1)) m ≤ 1500
  | [], m, _, h1, h2 => ⟨h1, h2⟩
  | x :: l, m, h, h1, h2 => foldl_max_bd l _ (fun y hy => h y (List.mem_cons_of_mem _ hy)) (by show 0 ≤ max m (x.hi - 1); omega) (by have := h x (List.mem_cons_self ..); show max m (x.hi - 1) ≤ 1500; omega)
theorem RowO.take {w : World} {b o : Nat} {xs : List CR} (h : RowO w b o xs) (m : Nat) : RowO w b o (xs.take m) :=
  ⟨h.lt, fun k j x hx hj => by
    rw [List.getElem?_take] at hx
    split at hx
    · exact h.cell k j x hx hj
    · exact absurd hx (by simp), fun x hx => h.inn x (List.mem_of_mem_take hx)⟩
theorem sum_len {f g r : Cv} {er : Int} (h : SumS f g r er) : r.vals.length ≤ 400 := by
  rcases h with ⟨_, rfl, _⟩ | ⟨_, _, a, b, _, _, ⟨_, rfl, _⟩ | ⟨_, g, _, ⟨hl, rfl, _⟩ | ⟨_, rfl, _⟩⟩⟩
  · decide
  · decide
  · exact hl.1
  · decide
theorem cvZ_len : cvZ.vals.length ≤ 400 := by decide
theorem tot_len : ∀ {fs : List Cv} {s r : Cv} {er : Int}, s.vals.length ≤ 400 → TotR s fs r er → r.vals.length ≤ 400
  | [], _, _, _, hs, h => by rw [h.1]; exact hs
  | _ :: _, _, _, _, _, ⟨t, e, h1, h2⟩ => by
    rcases h2 with ⟨_, h2⟩ | ⟨_, rfl, _⟩
    · exact tot_len (sum_len h1) h2
    · decide
theorem raise_len {f r : Cv} {d er : Int} (h : RaiseS f d r er) : r.vals.length ≤ 400 := by
  rcases h with ⟨_, rfl, _⟩ | ⟨_, _, rfl, _⟩ | ⟨_, _, _, a, _, ⟨_, hl, _⟩ | ⟨_, rfl, _⟩⟩
  · decide
  · decide
  · exact hl.1
  · decide
structure PrE (w wx : World) (g o : Nat) (xs : List CR) (A : Option Addr) (n c : Nat) (zs : List SZ) : Prop where
  row : RowO wx g o xs
  sz : LsZ wx A n c zs
  rb : Blk wx w.heap.size 26 #[.slice none 0 0, .int .i64 0, .int .i64 0]
  bw : Below w.heap.size w wx
theorem PrE.below {w wx wy : World} {g o n c : Nat} {xs : List CR} {A : Option Addr} {zs : List SZ} (h : PrE w wx g o xs A n c zs) (hb : Below wx.heap.size wx wy) : PrE w wy g o xs A n c zs := ⟨h.row.below hb, h.sz.below hb, h.rb.below hb h.rb.lt, bthen h.bw hb⟩
set_option maxHeartbeats 4000000 in
set_option maxRecDepth 100000 in
theorem prCurve_any (cap : Int) (cl g o n c q s d : Nat) (xs : List CR) (zs : List SZ) (w : World) (hc1 : 1 ≤ cap) (hc2 : cap ≤ 4000) (hcl : cl < n) (hn : n ≤ 6) (hnc : n ≤ c) (hnd : n ≤ d) (hx : xs.length = n) (hrow : RowO w g o xs) (hfin : ∀ x ∈ xs, x.f.Fin) (hlen : ∀ x ∈ xs, x.n ≤ 1000)
    (hz : zs.length = n) (hrz : RowZ w q s zs) (hg : ∀ x ∈ zs, x.Good) :
    Calls Tryz.prog 178 #[.int .i64 cap, .int .i64 cl, .slice (some ⟨g, o, none⟩) n c, .slice (some ⟨q, s, none⟩) n d] w (RetS (PrS cap cl (xs.map CR.f) zs) w) := by
  have E := Lib.hid (show PrE w (w.alloc (.cells #[.slice none 0 0, .int .i64 0, .int .i64 0] 26)) g o xs (some ⟨q, s, none⟩) n d zs from ⟨hrow.below (balloc _ _), ⟨hz, hnd, by omega, fun _ => ⟨q, s, rfl, hrz.below (balloc _ _)⟩⟩, Blk.new _ _ _, balloc _ _⟩)
  have HG := Lib.hid hg; have HX := Lib.hid hx; have HFI := Lib.hid hfin; have HLE := Lib.hid hlen; have HZ := Lib.hid hz
  clear hrow hrz hg hx hfin hlen hz
  go_enter Tryz.func178, Tryz.ntmps178
  go_upto_region 1 with fail
  generalize hwe : w.alloc (.cells #[.slice none 0 0, .int .i64 0, .int .i64 0] 26) = w1 at *
  clear hwe
  go_wp2_with fail
  refine (pcheck_any cap cl (some ⟨q, s, none⟩) n d zs _ E.out.sz HG.out hc1 hc2 (by omega) hn (by omega) (by omega)).mono ?_
  rintro e w2 ⟨rfl, hb⟩
  replace E := Lib.hid (E.out.below hb)
  clear hb
  have d0 : ((n : Int) != (n : Int)) = false := by simp
  go_wp2_with fail
  go_loopg [35] n (fun gg s35 wx => ∃ k : Nat, k + gg = n ∧ s35 = .int .i64 k ∧ PrE w wx g o xs (some ⟨q, s, none⟩) n d zs)
  case atStart => exact ⟨0, by omega, rfl, E.out⟩
  case round =>
    clear E
    obtain ⟨k, hkg, rfl, hE⟩ := hrel
    have E := Lib.hid hE
    clear hE
    by_cases hk : k < n
    case pos =>
      have hki : (k : Int) < n := by omega
      obtain ⟨x, hx, hI, x0, x1, x2⟩ := E.out.row.get (k := k) (by rw [HX.out]; exact hk)
      have hgl := E.out.row.lt
      have hmem := List.mem_of_getElem? hx
      have hok := (HFI.out x hmem).1
      have hxn := HLE.out x hmem
      have HI := Lib.hid (hI.alloc' (.cells #[.slice x.A x.n x.c, .int .i64 x.f.per, .int .i64 x.f.inc] 26))
      have BX := Lib.hid (Blk.new wr 26 #[.slice x.A x.n x.c, .int .i64 x.f.per, .int .i64 x.f.inc])
      replace E := Lib.hid (E.out.below (balloc wr (.cells #[.slice x.A x.n x.c, .int .i64 x.f.per, .int .i64 x.f.inc] 26)))
      have OKB := Lib.hid (Cv.okB_true hok)
      clear hI hmem hok hx
      go_upto_region 9 with fail
      clear x0 x1 x2 hgl
      generalize hwe : wr.alloc (.cells #[.slice x.A x.n x.c, .int .i64 x.f.per, .int .i64 x.f.inc] 26) = we at *
      clear hwe
      generalize wr.heap.size = Zx at *
      obtain ⟨⟨x0, x1, x2⟩, _, hlx⟩ := BX.out.c3
      go_wp2_with fail
      refine (valid_any x.A x.n x.c x.f.per x.f.inc x.f.vals _ (by exact HI.out) (by omega)).mono ?_
      rw [OKB.out]
      rintro e wf ⟨rfl, hb⟩
      replace E := Lib.hid (E.out.below hb)
      clear hb x0 x1 x2 hlx HI BX
      go_wp2_with fail
      go_roundg (gk - 1)
      case measure => omega
      case rel => exact ⟨k + 1, by omega, by go_num, E.out⟩
    case neg =>
      have hki : ¬ (k : Int) < n := by omega
      clear hk hkg
      obtain ⟨m, hm⟩ : ∃ m : Nat, m = n - (cl + 1) := ⟨_, rfl⟩
      have e1 : IntKind.i64.wrap ((cl : Int) + 1) = ((cl + 1 : Nat) : Int) := by rw [IntWalk.i64_in _ (by omega)]; omega
      go_upto_region 13 with fail
      go_cut [47, 48, 49] (fun s47 s48 s49 wx => ∃ (A' : Option Addr) (d' : Nat), s47 = .slice A' m d' ∧ (0 < m → A' = some ⟨q, s + (cl + 1) * 2, none⟩) ∧ s48 = .int .i64 m ∧ s49 = .int .i64 0 ∧ wx = wr)
      case first =>
        have HM := Lib.hid hm
        clear hm
        go_wp2_with fail
        · subst h
          go_meet
          exact ⟨_, _, by rw [HM.out], fun hm0 => by (have := HM.out; omega), by rw [HM.out], rfl, rfl⟩
        · go_meet
          exact ⟨_, _, by rw [HM.out], fun _ => rfl, by rw [HM.out], rfl, rfl⟩
      case rest =>
        obtain ⟨A', d', rfl, hA', rfl, rfl, rfl⟩ := hcut
        have HA' := Lib.hid hA'
        have HM := Lib.hid hm
        have hm6 : m ≤ 6 := by omega
        have HDR := Lib.hid (show (zs.drop (cl + 1)).length = m by rw [List.length_drop, HZ.out, HM.out])
        clear hA' hm e1
        go_wp2_with fail
        go_loopg [13, 49] m (fun gg s13 s49 wx => ∃ k : Nat, k + gg = m ∧ s49 = .int .i64 k ∧ s13 = .int .i64 (((zs.drop (cl + 1)).take k).foldl (fun m x => max m (x.hi - 1)) 0) ∧ PrE w wx g o xs (some ⟨q, s, none⟩) n d zs)
        case atStart => exact ⟨0, by omega, rfl, rfl, E.out⟩
        case round =>
          clear E
          obtain ⟨k, hkg, rfl, rfl, hE⟩ := hrel
          have E := Lib.hid hE
          clear hE
          by_cases hk : k < m
          case pos =>
            have hki : (k : Int) < m := by omega
            obtain ⟨q', s', e9, hrz⟩ := E.out.sz.2.2.2 (by omega)
            cases e9
            obtain ⟨x, hx, x0, x1⟩ := (hrz.drop (cl + 1)).get (k := k) (by rw [HDR.out]; exact hk)
            have hql := hrz.lt
            obtain ⟨g1, g2, g3⟩ := HG.out x (List.mem_of_mem_drop (List.mem_of_getElem? hx))
            obtain ⟨v, hv⟩ : ∃ v, v = ((zs.drop (cl + 1)).take k).foldl (fun m x => max m (x.hi - 1)) 0 := ⟨_, rfl⟩
            obtain ⟨v2, hv2⟩ : ∃ v, v = ((zs.drop (cl + 1)).take (k + 1)).foldl (fun m x => max m (x.hi - 1)) 0 := ⟨_, rfl⟩
            have ev : v2 = max v (x.hi - 1) := by
              rw [hv2, hv, List.take_add_one, hx]
              simp
            rw [← hv]
            have e2 : IntKind.i64.wrap (x.hi - 1) = x.hi - 1 := IntWalk.i64_in _ (by omega)
            have e3 : (if v < x.hi - 1 then x.hi - 1 else v) = v2 := by rw [ev]; split <;> omega
            have HV2 := Lib.hid hv2
            have hA2 := HA'.out (by omega)
            subst hA2
            clear hrz hx hv hv2 ev
            have BX := Lib.hid (Blk.new wr 67 #[.int .i64 x.lo, .int .i64 x.hi])
            replace E := Lib.hid (E.out.below (balloc wr (.cells #[.int .i64 x.lo, .int .i64 x.hi] 67)))
            go_upto_region 16 with fail
            clear x0 x1 hql
            generalize hwe : wr.alloc (.cells #[.int .i64 x.lo, .int .i64 x.hi] 67) = we at *
            clear hwe
            generalize wr.heap.size = Zx at *
            have x1 := BX.out.cell 1
            simp at x1
            have hlx := BX.out.lt
            go_wp2_with fail
            go_roundg (gk - 1)
            case measure => omega
            case rel => exact ⟨k + 1, by omega, by go_num, by rw [HV2.out], E.out⟩
          case neg =>
            have hki : ¬ (k : Int) < m := by omega
            have hkm : k = m := by omega
            obtain ⟨v, hv⟩ : ∃ v, v = ((zs.drop (cl + 1)).take k).foldl (fun m x => max m (x.hi - 1)) 0 := ⟨_, rfl⟩
            have HV := Lib.hid (show v = blkV zs cl by rw [hv, hkm, List.take_of_length_le (by rw [HDR.out]; exact Nat.le_refl _)]; rfl)
            have hvb := foldl_max_bd (zs.drop (cl + 1)) 0 (fun x hx => (HG.out x (List.mem_of_mem_drop hx)).2.2) (by omega) (by omega)
            have hv1 : 0 ≤ v := by rw [HV.out]; exact hvb.1
            have hv2 : v ≤ 1500 := by rw [HV.out]; exact hvb.2
            rw [← hv]
            clear hv hvb hk hkg hkm
            go_wp2_with fail
            refine (total_anyO (some ⟨g, o, none⟩) cl c (xs.take cl) wr (by rw [List.length_take, HX.out]; omega) (by omega) (fun _ => ⟨g, o, rfl, E.out.row.take cl⟩) (fun x hx => by have := HLE.out x (List.mem_of_mem_take hx); omega)).mono ?_
            rintro e wa ⟨f1, er1, hS1, A1, m1, d1, rfl, hI1, hA1, hb⟩
            rw [List.map_take] at hS1
            have T1 := Lib.hid hS1
            have hm1 : m1 ≤ 400 := by have h1 := tot_len cvZ_len hS1; have h2 : f1.vals.length = m1 := hI1.1; omega
            have I1 := Lib.hid (hI1.alloc' (.cells #[.slice A1 m1 d1, .int .i64 f1.per, .int .i64 f1.inc] 26))
            have HA1 := Lib.hid hA1
            have BO := Lib.hid (Blk.new wa 26 #[.slice A1 m1 d1, .int .i64 f1.per, .int .i64 f1.inc])
            have hwa := (E.out.rb.below hb E.out.rb.lt).lt
            replace E := Lib.hid ((E.out.below hb).below (balloc wa (.cells #[.slice A1 m1 d1, .int .i64 f1.per, .int .i64 f1.inc] 26)))
            clear hS1 hI1 hA1 hb
            go_upto_region 19 with fail
            generalize hwe : wa.alloc (.cells #[.slice A1 m1 d1, .int .i64 f1.per, .int .i64 f1.inc] 26) = wb at *
            clear hwe
            generalize wa.heap.size = Zo at *
            by_cases he1 : er1 = 0
            case neg =>
              have c1 : (er1 == 0) = false := by simpa using he1
              have c2 : (er1 != 0) = true := by simpa using he1
              have F := Lib.hid (show PrS cap cl (xs.map CR.f) zs Cv.none er1 from ⟨f1, er1, T1.out, .inl ⟨he1, rfl, rfl⟩⟩)
              clear he1
              have RB := Lib.hid E.out.rb; have BW := Lib.hid E.out.bw
              obtain ⟨⟨r0, r1, r2⟩, ⟨y0, y1, y2⟩, hlr⟩ := RB.out.c3
              go_wp2_with fail
              have rb := RB.out.store3 (.slice none 0 0) (.int .i64 0) (.int .i64 0)
              exact bodyPost_ret (v := .tuple #[.agg #[.slice none 0 0, .int .i64 0, .int .i64 0], .int .i64 er1]) (by simp [results, Tryz.results178, go_sem, rb.cell]) rfl (retS_none F.out (bst3 BW.out (Nat.le_refl _) _ _ _))
            case pos =>
            subst he1
            have FO := Lib.hid (tot_fin cvZ_fin (fun f hf => by
              obtain ⟨x, hx, rfl⟩ := List.mem_map.1 (List.mem_of_mem_take hf)
              exact HFI.out x hx) T1.out).1
            obtain ⟨⟨o0, o1, o2⟩, ⟨p0, p1, p2⟩, hlo⟩ := BO.out.c3
            go_wp2_with fail
            refine (praise_any A1 m1 d1 f1.per f1.inc v f1.vals wb (by exact I1.out) (by omega)).mono ?_
            rintro e wf ⟨f2, er2, hS2, A2, m2, d2, rfl, hI2, hA2, hb⟩
            have T2 := Lib.hid hS2
            have hm2 : m2 ≤ 400 := by have h1 := raise_len hS2; have h2 : f2.vals.length = m2 := hI2.1; omega
            replace BO := Lib.hid (BO.out.below hb BO.out.lt)
            have hzf := BO.out.lt
            have hA2z := Lib.hid (show ∀ b off s, A2 = some ⟨b, off, s⟩ → b ≠ Zo from fun b off s e => by have := hA2 b off s e; omega)
            have I2 := Lib.hid (hI2.sto (Sto.three Zo wf (.slice A2 m2 d2) (.int .i64 f2.per) (.int .i64 f2.inc)) hA2z.out)
            replace E := Lib.hid (E.out.below hb)
            have B2 := Lib.hid (BO.out.store3 (.slice A2 m2 d2) (.int .i64 f2.per) (.int .i64 f2.inc))
            have ER := Lib.hid (E.out.rb.sto (Sto.three Zo wf (.slice A2 m2 d2) (.int .i64 f2.per) (.int .i64 f2.inc)) (by omega))
            have EB := Lib.hid (bst3 E.out.bw (show w.heap.size ≤ Zo by omega) (.slice A2 m2 d2) (.int .i64 f2.per) (.int .i64 f2.inc))
            clear hS2 hI2 hA2 hb o0 o1 o2 p0 p1 p2 hlo I1 E
            obtain ⟨⟨o0, o1, o2⟩, ⟨p0, p1, p2⟩, hlo⟩ := BO.out.c3
            go_upto_region 21 with fail
            clear BO o0 o1 o2 p0 p1 p2 hlo
            generalize hws : ((wf.setCell ⟨Zo, 0, none⟩ (.slice A2 m2 d2)).setCell ⟨Zo, 1, none⟩ (.int .i64 f2.per)).setCell ⟨Zo, 2, none⟩ (.int .i64 f2.inc) = ws at *
            clear hws
            by_cases he2 : er2 = 0
            case neg =>
              have c2 : (er2 != 0) = true := by simpa using he2
              have F := Lib.hid (show PrS cap cl (xs.map CR.f) zs Cv.none er2 from ⟨f1, 0, T1.out, .inr ⟨rfl, f2, er2, by rw [← HV.out]; exact T2.out, .inl ⟨he2, rfl, rfl⟩⟩⟩)
              clear he2
              obtain ⟨⟨r0, r1, r2⟩, ⟨y0, y1, y2⟩, hlr⟩ := ER.out.c3
              go_wp2_with fail
              have rb := ER.out.store3 (.slice none 0 0) (.int .i64 0) (.int .i64 0)
              exact bodyPost_ret (v := .tuple #[.agg #[.slice none 0 0, .int .i64 0, .int .i64 0], .int .i64 er2]) (by simp [results, Tryz.results178, go_sem, rb.cell]) rfl (retS_none F.out (bst3 EB.out (Nat.le_refl _) _ _ _))
            case pos =>
            subst he2
            have FR := Lib.hid (raiseS_fin FO.out hv1 (by omega) T2.out).1
            go_wp2_with fail
            refine (serve_any cap ws hc1 hc2).mono ?_
            rintro e wg ⟨A3, m3, d3, rfl, hI3, hA3, hb⟩
            have hm3 : m3 ≤ 1 := by have h1 : (lineCv cap).vals.length = m3 := hI3.1; rw [← h1]; exact Nat.le_refl 1
            have I3 := Lib.hid (hI3.alloc' (.cells #[.slice A3 m3 d3, .int .i64 (lineCv cap).per, .int .i64 (lineCv cap).inc] 26))
            have B3 := Lib.hid (Blk.new wg 26 #[.slice A3 m3 d3, .int .i64 (lineCv cap).per, .int .i64 (lineCv cap).inc])
            have hwg := (ER.out.below hb ER.out.lt).lt
            replace I2 := Lib.hid ((I2.out.ext hb).alloc' (.cells #[.slice A3 m3 d3, .int .i64 (lineCv cap).per, .int .i64 (lineCv cap).inc] 26))
            replace B2 := Lib.hid ((B2.out.below hb B2.out.lt).alloc (.cells #[.slice A3 m3 d3, .int .i64 (lineCv cap).per, .int .i64 (lineCv cap).inc] 26))
            replace ER := Lib.hid ((ER.out.below hb ER.out.lt).alloc (.cells #[.slice A3 m3 d3, .int .i64 (lineCv cap).per, .int .i64 (lineCv cap).inc] 26))
            replace EB := Lib.hid (bthen (bthen EB.out hb) (balloc wg (.cells #[.slice A3 m3 d3, .int .i64 (lineCv cap).per, .int .i64 (lineCv cap).inc] 26)))
            clear hI3 hA3 hb
            go_upto_region 24 with fail
            generalize hwe : wg.alloc (.cells #[.slice A3 m3 d3, .int .i64 (lineCv cap).per, .int .i64 (lineCv cap).inc] 26) = wi at *
            clear hwe
            generalize wg.heap.size = Zl at *
            obtain ⟨⟨o0, o1, o2⟩, -, hlo⟩ := B2.out.c3
            obtain ⟨⟨l0, l1, l2⟩, -, hll⟩ := B3.out.c3
            go_wp2_with fail
            refine (rest_any A3 A2 m3 m2 d3 d2 (lineCv cap).per (lineCv cap).inc f2.per f2.inc (lineCv cap).vals f2.vals wi (by exact I3.out) (by exact I2.out) (by omega) (by omega) (line_fin (c := cap) (by omega) (by omega)) FR.out).mono ?_
            rintro e wj ⟨f, er, hS, A5, m5, d5, rfl, hI5, hA5, hb⟩
            have F := Lib.hid (show PrS cap cl (xs.map CR.f) zs f er from ⟨f1, 0, T1.out, .inr ⟨rfl, f2, 0, by rw [← HV.out]; exact T2.out, .inr ⟨rfl, hS⟩⟩⟩)
            have hwi : w.heap.size < wi.heap.size := ER.out.lt
            replace ER := Lib.hid (ER.out.below hb ER.out.lt); replace EB := Lib.hid (bthen EB.out hb)
            have HI5 := Lib.hid hI5; have HA5 := Lib.hid hA5
            clear hS hI5 hA5 hb I2 B2 I3 B3 o0 o1 o2 hlo l0 l1 l2 hll
            obtain ⟨⟨r0, r1, r2⟩, ⟨y0, y1, y2⟩, hlr⟩ := ER.out.c3
            go_wp2_with fail
            have rb := ER.out.store3 (.slice A5 m5 d5) (.int .i64 f.per) (.int .i64 f.inc)
            exact bodyPost_ret (v := .tuple #[.agg #[.slice A5 m5 d5, .int .i64 f.per, .int .i64 f.inc], .int .i64 er]) (by simp [results, Tryz.results178, go_sem, rb.cell]) rfl (retS_store F.out HA5.out (Nat.le_refl _) (by omega) HI5.out EB.out)
end Go.Proofs.YtaejfleahamapaaGreat

namespace Go.Proofs.YtaejfleahamapaaGreat
open Go.RowKit
set_option linter.unusedVariables false

theorem draw_less {most : Nat} {zs ys : List Int} {p i : Int} (h : DrawC most ⟨zs, p, i⟩) (hf : nth zs (zs.length - 1) ≠ inf) (hl : ys.length = zs.length) (hy : ∀ j, j < zs.length → nth ys j = nth zs j - nth zs 0) : DrawC most ⟨ys, p, i⟩ ∧ Cv.Fin ⟨ys, p, i⟩ := by
  have ok := h.ok
  have hF : Cv.Fin ⟨zs, p, i⟩ := ⟨ok, hf⟩
  have hn1 : 1 ≤ zs.length := ok.n1
  have hpn : p ≤ zs.length := ok.pn
  have hp1 : 1 ≤ p := ok.p1
  have h0 : ∀ j, j < zs.length → 0 ≤ nth zs 0 ∧ nth zs 0 ≤ nth zs j ∧ nth zs j ≤ 400 := fun j hj => by
    have a := ok.le 0 j (Nat.zero_le _) hj
    have b := (ok.nn 0).1
    have c := (h.small j hj).elim (fun e => absurd e (hF.ne j hj).1) id
    exact ⟨b, a, c⟩
  have hbd : ∀ j, j < ys.length → 0 ≤ nth ys j ∧ nth ys j ≤ 400 := fun j hj => by
    have a := h0 j (by omega)
    rw [hy j (by omega)]
    omega
  have hlast : nth ys (ys.length - 1) ≠ inf := by
    have := hbd (ys.length - 1) (by omega)
    unfold inf; omega
  have hok : Cv.Ok ⟨ys, p, i⟩ := by
    refine ⟨by show 1 ≤ ys.length; omega, by show ys.length ≤ 400; rw [hl]; exact ok.n2, hp1, ok.p2, by show p ≤ (ys.length : Nat); omega, ok.i1, ok.i2, fun k hk => (okv_iff _).2 (.inr (by have := hbd k hk; show nth ys k ≤ _; omega)), (hbd 0 (by omega)).1, ?_, fun e => absurd e hlast, fun _ => ?_⟩
    · intro k hk
      have hk' : k + 1 < ys.length := hk
      show nth ys k ≤ nth ys (k + 1)
      rw [hy k (by omega), hy (k + 1) (by omega)]
      have := ok.mono k (by show k + 1 < zs.length; omega)
      have this' : nth zs k ≤ nth zs (k + 1) := this
      omega
    · show nth ys (ys.length - 1) ≤ nth ys (ys.length - p.toNat) + i
      rw [hl, hy _ (by omega), hy _ (by omega)]
      have := ok.wrap hf
      have this' : nth zs (zs.length - 1) ≤ nth zs (zs.length - p.toNat) + i := this
      omega
  have hat : ∀ t, Cv.at ⟨ys, p, i⟩ t = Cv.at ⟨zs, p, i⟩ t - nth zs 0 := fun t => by
    have hF2 : Cv.Fin ⟨ys, p, i⟩ := ⟨hok, hlast⟩
    refine Cv.FinL.unique (f := ⟨ys, p, i⟩) (h := fun t => Cv.at ⟨zs, p, i⟩ t - nth zs 0) hF2.toL (fun t ht => ?_) (fun t ht => ?_) t
    · have ht' : t < ys.length := ht
      show nth ys t = Cv.at ⟨zs, p, i⟩ t - nth zs 0
      rw [hy t (by omega), Cv.at_lt (f := ⟨zs, p, i⟩) (by show t < zs.length; omega)]
    · show Cv.at ⟨zs, p, i⟩ (t + p.toNat) - nth zs 0 = Cv.at ⟨zs, p, i⟩ t - nth zs 0 + i
      have ht' : ys.length - p.toNat ≤ t := ht
      have := hF.toL.step t (by show zs.length - p.toNat ≤ t; omega)
      have this' : Cv.at ⟨zs, p, i⟩ (t + p.toNat) = Cv.at ⟨zs, p, i⟩ t + i := this
      omega
  obtain ⟨s4, q4, b4, h41, h42, h43⟩ := h.p4
  exact ⟨⟨hok, by show ys.length ≤ _; rw [hl]; exact h.len, h.per, h.inc, fun k hk => .inr (hbd k hk).2, h.slope, ⟨s4, q4, b4, h41, h42, fun t ht => by rw [hat, hat, h43 t ht]; omega⟩⟩, hok, hlast⟩

theorem draw_zero {most : Nat} {x y : Int} (hm : 1 ≤ most) (hx0 : 0 ≤ x) (hx1 : x ≤ 4) (hy0 : 0 ≤ y) (hy1 : y ≤ 1) : DrawC most ⟨[0, 4, 4 + x], 1 + y, 8⟩ ∧ Cv.Fin ⟨[0, 4, 4 + x], 1 + y, 8⟩ := by
  have n0 : nth [0, 4, 4 + x] 0 = 0 := rfl
  have n1 : nth [0, 4, 4 + x] 1 = 4 := rfl
  have n2 : nth [0, 4, 4 + x] 2 = 4 + x := rfl
  have hk3 : ∀ k, k < 3 → 0 ≤ nth [0, 4, 4 + x] k ∧ nth [0, 4, 4 + x] k ≤ 8 := fun k hk => by
    have : k = 0 ∨ k = 1 ∨ k = 2 := by omega
    rcases this with rfl | rfl | rfl <;> omega
  have hlast : nth [0, 4, 4 + x] ([0, 4, 4 + x].length - 1) ≠ inf := by
    show nth [0, 4, 4 + x] 2 ≠ inf
    rw [n2]; unfold inf; omega
  have hok : Cv.Ok ⟨[0, 4, 4 + x], 1 + y, 8⟩ := by
    refine ⟨by show 1 ≤ 3; omega, by show 3 ≤ 400; omega, by show 1 ≤ 1 + y; omega, by show 1 + y ≤ 120; omega, by show 1 + y ≤ (3 : Nat); omega, by show (0 : Int) ≤ 8; omega, by show (8 : Int) ≤ _; omega, ?_, by show 0 ≤ nth [0, 4, 4 + x] 0; omega, ?_, fun e => absurd e hlast, fun _ => ?_⟩
    · intro k hk
      have hk' : k < 3 := hk
      exact (okv_iff _).2 (.inr (by have := hk3 k hk'; show nth [0, 4, 4 + x] k ≤ _; omega))
    · intro k hk
      have hk' : k + 1 < 3 := hk
      show nth [0, 4, 4 + x] k ≤ nth [0, 4, 4 + x] (k + 1)
      have : k = 0 ∨ k = 1 := by omega
      rcases this with rfl | rfl
      · show nth [0, 4, 4 + x] 0 ≤ nth [0, 4, 4 + x] 1
        omega
      · show nth [0, 4, 4 + x] 1 ≤ nth [0, 4, 4 + x] 2
        omega
    · show nth [0, 4, 4 + x] 2 ≤ nth [0, 4, 4 + x] (3 - (1 + y).toNat) + 8
      have := (hk3 (3 - (1 + y).toNat) (by omega)).1
      have hy : y = 0 ∨ y = 1 := by omega
      rcases hy with rfl | rfl
      · rw [show 3 - ((1 : Int) + 0).toNat = 2 from rfl]; omega
      · rw [show 3 - ((1 : Int) + 1).toNat = 1 from rfl]; omega
  exact ⟨⟨hok, by show 3 ≤ most + 8; omega, by show 1 + y ≤ 8; omega, by show (8 : Int) ≤ 1000; omega, fun k hk => .inr (by have := hk3 k hk; show nth [0, 4, 4 + x] k ≤ 400; omega), by show (8 : Int) ≤ 9 * (1 + y); omega, ⟨_, (1 + y).toNat, 8, by omega, by omega, (show Cv.Fin ⟨[0, 4, 4 + x], 1 + y, 8⟩ from ⟨hok, hlast⟩).toL.step⟩⟩, hok, hlast⟩

set_option maxHeartbeats 4000000 in
set_option maxRecDepth 100000 in
theorem srcZero3_any (p : Nat) (most : Int) (w : World) (hS : SrcAt w p) (hm1 : 1 ≤ most) (hm2 : most ≤ 12) :
    Calls Tryz.prog 8 #[.pointer (some ⟨p, 0, none⟩), .int .i64 most] w (RetD2 (fun f => (DrawC most.toNat f ∧ f.Fin) ∧ nth f.vals 0 = 0) p w) := by
  have hpl := hS.lt
  go_enter Tryz.func8, Tryz.ntmps8
  go_wp2_with fail
  refine (srcCurve2_any p most _ (hS.alloc _) hm1 hm2).mono ?_
  rintro e w1 ⟨f, A, n, c, hD, hnc0, rfl, hI, hA, hS1, hk⟩
  as_aux_lemma =>
  have rb := (Blk.new w 26 #[.slice none 0 0, .int .i64 0, .int .i64 0]).kept (by omega) hk
  have RB := Lib.hid (rb.alloc (.cells #[.slice A n c, .int .i64 f.per, .int .i64 f.inc] 26))
  have FB := Lib.hid (Blk.new w1 26 #[.slice A n c, .int .i64 f.per, .int .i64 f.inc])
  have SS := Lib.hid (hS1.alloc (.cells #[.slice A n c, .int .i64 f.per, .int .i64 f.inc] 26))
  have KK := Lib.hid (kall (kstep (kall (Kept.refl w.heap.size p w) _) hk) (.cells #[.slice A n c, .int .i64 f.per, .int .i64 f.inc] 26))
  have IA := Lib.hid (hI.alloc' (.cells #[.slice A n c, .int .i64 f.per, .int .i64 f.inc] 26))
  have hF1 : w.heap.size + 1 ≤ w1.heap.size := by have := hk.size; simpa using this
  have HA := Lib.hid (show ∀ b off s, A = some ⟨b, off, s⟩ → w.heap.size + 1 ≤ b ∧ b ≠ w1.heap.size from fun b off s e => by
    have h1 := hA b off s e
    have h0 : 0 < n := by have h2 := hD.ok.n1; rw [hI.1] at h2; exact h2
    obtain ⟨b', off', e', hb, _⟩ := hI.2 h0
    rw [e] at e'; cases e'
    simp at h1
    omega)
  have HD := Lib.hid hD
  have HNC := Lib.hid hnc0
  clear rb hk hS1 hI hA hD hS hnc0
  have f0 := FB.out.cell 0; have f1 := FB.out.cell 1; have f2 := FB.out.cell 2
  simp at f0 f1 f2
  have hlf := FB.out.lt
  go_wp2_with fail
  clear f0 f1 f2 hlf
  go_loopg [] 1 (fun gg wx => ∃ (f : Cv) (A : Option Addr) (n c : Nat), Blk wx w1.heap.size 26 #[.slice A n c, .int .i64 f.per, .int .i64 f.inc] ∧ Ints wx wx.heap.size A n f.vals ∧
    (∀ b off s, A = some ⟨b, off, s⟩ → w.heap.size + 1 ≤ b ∧ b ≠ w1.heap.size) ∧ DrawC most.toNat f ∧ (gg = 0 → f.Fin) ∧ gg ≤ 1 ∧ n ≤ c ∧ Blk wx w.heap.size 26 #[.slice none 0 0, .int .i64 0, .int .i64 0] ∧ SrcAt wx p ∧ Kept w.heap.size p w wx)
  case atStart => exact ⟨f, A, n, c, FB.out, IA.out, HA.out, HD.out, (fun h => by omega), Nat.le_refl _, HNC.out, RB.out, SS.out, KK.out⟩
  case round =>
    as_aux_lemma =>
    clear FB IA HA HD RB SS KK HNC
    obtain ⟨f, A, n, c, fb, ia, ha, hd, hgf, hg1, hnc, rb, ss, kk⟩ := hrel
    have HNC := Lib.hid hnc
    clear hnc
    have FB := Lib.hid fb; have IA := Lib.hid ia; have HA := Lib.hid ha; have HD := Lib.hid hd; have HGF := Lib.hid hgf; have RB := Lib.hid rb; have SS := Lib.hid ss; have KK := Lib.hid kk
    clear fb ia ha hd hgf rb ss kk
    have f0 := FB.out.cell 0; have f1 := FB.out.cell 1; have f2 := FB.out.cell 2; have v0 := FB.out.frozen 0; have v1 := FB.out.frozen 1; have v2 := FB.out.frozen 2
    simp at f0 f1 f2
    have hlf := FB.out.lt
    have hnl : f.vals.length = n := IA.out.1
    have hn1 : 1 ≤ n := by rw [← hnl]; exact HD.out.ok.n1
    have hn2 : n ≤ 20 := by rw [← hnl]; have := HD.out.len; omega
    obtain ⟨b, off, hAe, hbl, hcell⟩ := IA.out.2 (by omega)
    subst hAe
    obtain ⟨m, rfl⟩ : ∃ m, n = m + 1 := ⟨n - 1, by omega⟩
    have hlast := hcell m (by omega)
    have hfirst := hcell 0 (by omega)
    rw [Nat.add_zero] at hfirst
    have HCELL := Lib.hid hcell; have HNL := Lib.hid hnl
    clear hcell hnl
    obtain ⟨x, hx⟩ : ∃ x, x = nth f.vals m := ⟨_, rfl⟩
    rw [← hx] at hlast
    by_cases hxi : x = 4611686018427387904
    · have b1 : (x == 4611686018427387904) = true := by simpa using hxi
      have hg : gk = 1 := by
        rcases Nat.lt_or_ge 0 gk with h | h
        · omega
        · exfalso
          have h1 := (HGF.out (by omega)).2
          rw [HNL.out, Nat.add_sub_cancel, ← hx] at h1
          exact h1 hxi
      have hpw := SS.out.lt
      have hlf0 := FB.out.lt
      clear hx hxi hfirst
      go_wp2_with fail
      refine (n_any p 5 _ SS.out (by omega) (by omega)).mono ?_
      rintro e w2 ⟨z, hz0, hz1, rfl, hS2, hk2⟩
      have FB := Lib.hid (FB.out.kept (by omega) hk2); have RB := Lib.hid (RB.out.kept (by omega) hk2); have KK := Lib.hid (kstep KK.out hk2)
      have IL := Lib.hid (ints_lit w2 [0, 4, 4 + z])
      have SS := Lib.hid (hS2.alloc (.cells ([0, 4, 4 + z].map (Value.int .i64)).toArray 3))
      have sz2 := hk2.size
      clear f0 f1 f2 v0 v1 v2 hlf hS2 hk2 hlast
      go_wp2_with fail
      refine (n_any p 2 _ SS.out (by omega) (by omega)).mono ?_
      rintro e w3 ⟨y, hy0, hy1, rfl, hS3, hk3⟩
      have FB := Lib.hid ((FB.out.alloc _).kept (by omega) hk3); have RB := Lib.hid ((RB.out.alloc _).kept (by omega) hk3); have KK := Lib.hid (kstep (kall KK.out _) hk3)
      have IL := Lib.hid (IL.out.kept (fun b off s e => by cases e; omega) hk3)
      have hne : ∀ b off s, (some ⟨w2.heap.size, 0, none⟩ : Option Addr) = some ⟨b, off, s⟩ → b ≠ w1.heap.size := fun b off s e => by cases e; omega
      have hDZ := draw_zero (most := most.toNat) (x := z) (y := y) (by omega) hz0 (by omega) hy0 (by omega)
      have f0 := FB.out.cell 0; have f1 := FB.out.cell 1; have f2 := FB.out.cell 2; have v0 := FB.out.frozen 0; have v1 := FB.out.frozen 1; have v2 := FB.out.frozen 2
      simp at f0 f1 f2
      have hlf := FB.out.lt
      go_wp2_with fail
      go_roundg 0
      case measure => omega
      case rel => exact ⟨⟨[0, 4, 4 + z], 1 + y, 8⟩, some ⟨w2.heap.size, 0, none⟩, 3, 3, FB.out.store3 _ _ _, by
        have i3 := ((IL.out.setCell (p := ⟨w1.heap.size, 0, none⟩) hne (.slice (some ⟨w2.heap.size, 0, none⟩) 3 3)).setCell (p := ⟨w1.heap.size, 1, none⟩) hne (.int .i64 (1 + y))).setCell (p := ⟨w1.heap.size, 2, none⟩) hne (.int .i64 8)
        simpa using i3, (fun b off s e => by cases e; omega), hDZ.1, (fun _ => hDZ.2), by omega, Nat.le_refl _, ((RB.out.far (by show w.heap.size ≠ w1.heap.size; omega) _).far (by show w.heap.size ≠ w1.heap.size; omega) _).far (by show w.heap.size ≠ w1.heap.size; omega) _, hS3.far3 (by omega), KK.out.set3 (by omega)⟩
    · have b1 : (x == 4611686018427387904) = false := by simpa using hxi
      have hfin : f.Fin := ⟨HD.out.ok, by rw [HNL.out, Nat.add_sub_cancel, ← hx]; exact hxi⟩
      obtain ⟨v, hv⟩ : ∃ v, v = nth f.vals 0 := ⟨_, rfl⟩
      rw [← hv] at hfirst
      have HFIN := Lib.hid hfin; have HV := Lib.hid hv
      have r0 := RB.out.cell 0; have r1 := RB.out.cell 1; have r2 := RB.out.cell 2; have u0 := RB.out.frozen 0; have u1 := RB.out.frozen 1; have u2 := RB.out.frozen 2
      simp at r0 r1 r2
      have hlr := RB.out.lt
      clear hx hxi hfin hv
      by_cases hv0 : 0 < v
      · have d0 : decide (0 < v) = true := by simpa using hv0
        have hlf0 := FB.out.lt
        clear hv0 r0 r1 r2 u0 u1 u2
        go_wp2_with (at_builtin; refine wpList_app rfl _ _ 22 rfl Tryz.underlying22 wr.heap.size (.slice (some ⟨wr.heap.size, 0, none⟩) 0 0) 0 [] rfl (Own.empty_ wr (Nat.le_refl _)) _ (some ⟨b, off, none⟩) (m + 1) c f.vals rfl (IA.out.alloc' _) (by omega) (by simp) ?_; intro v1 w4 own1 grow1 at1; simp only [Nat.zero_add, List.nil_append] at own1; have hb4 : Below wr.heap.size wr w4 := (balloc _ _).grown grow1 (by simp) (by simp [Value.ownBlock]); obtain ⟨g, c4, rfl, hg, hc4, hrow⟩ := own1.row (by omega); have FB := Lib.hid (FB.out.below hb4 FB.out.lt); have RB := Lib.hid (RB.out.below hb4 RB.out.lt); have SS := Lib.hid (SS.out.ext hb4); have KK := Lib.hid (kbel KK.out hb4); have ROW := Lib.hid hrow; have hgl := hrow.lt; clear own1 grow1 at1 hrow hb4 f0 f1 f2 v0 v1 v2 hlf hlast hfirst; have f0 := FB.out.cell 0; have f1 := FB.out.cell 1; have f2 := FB.out.cell 2; have z0 := FB.out.frozen 0; simp at f0 f1 f2; have hlf := FB.out.lt)
        have hgF : w1.heap.size ≠ g := by omega
        have FB := Lib.hid (FB.out.set_ 0 (.slice (some ⟨g, 0, none⟩) (m + 1) c4))
        have RB := Lib.hid (RB.out.far (p := ⟨w1.heap.size, 0, none⟩) (by show w.heap.size ≠ w1.heap.size; omega) (.slice (some ⟨g, 0, none⟩) (m + 1) c4))
        have SS := Lib.hid (SS.out.far (a := ⟨w1.heap.size, 0, none⟩) (by show p < w1.heap.size; omega) (.slice (some ⟨g, 0, none⟩) (m + 1) c4))
        have KK := Lib.hid (KK.out.setCell (a := ⟨w1.heap.size, 0, none⟩) (.inr (by show w.heap.size ≤ w1.heap.size; omega)) (.slice (some ⟨g, 0, none⟩) (m + 1) c4))
        have ROW := Lib.hid (ROW.out.far (p := ⟨w1.heap.size, 0, none⟩) (by show g ≠ w1.heap.size; omega) (.slice (some ⟨g, 0, none⟩) (m + 1) c4))
        clear f0 f1 f2 z0 hlf
        go_loopg [45] (m + 1) (fun gg s45 wx => ∃ (k : Nat) (ys : List Int), k + gg = m + 1 ∧ s45 = .int .i64 k ∧ RowI wx g ys ∧ Hid (ys.length = m + 1 ∧ ∀ j, j < m + 1 → nth ys j = if j < k then nth f.vals j - v else nth f.vals j) ∧
          Blk wx w1.heap.size 26 #[.slice (some ⟨g, 0, none⟩) (m + 1) c4, .int .i64 f.per, .int .i64 f.inc] ∧ Blk wx w.heap.size 26 #[.slice none 0 0, .int .i64 0, .int .i64 0] ∧ SrcAt wx p ∧ Kept w.heap.size p w wx)
        case atStart => exact ⟨0, f.vals, by omega, rfl, ROW.out, ⟨HNL.out, fun j hj => by rw [if_neg (by omega)]⟩, FB.out, RB.out, SS.out, KK.out⟩
        case round =>
          as_aux_lemma =>
          clear ROW FB RB SS KK IA HA HCELL
          obtain ⟨k, ys, hkg, rfl, row, hys, fb, rb, ss, kk⟩ := hrel
          have ROW := Lib.hid row; have FB := Lib.hid fb; have RB := Lib.hid rb; have SS := Lib.hid ss; have KK := Lib.hid kk; have HYS := Lib.hid hys
          clear row fb rb ss kk hys
          have f0 := FB.out.cell 0; have f1 := FB.out.cell 1; have f2 := FB.out.cell 2
          simp at f0 f1 f2
          have hlf := FB.out.lt
          by_cases hk : k < m + 1
          · have hki : (k : Int) < (m : Int) + 1 := by omega
            have hck := ROW.out.cell k (by have := HYS.out.out.1; omega)
            have hzk := ROW.out.frozen k
            obtain ⟨y, hy⟩ : ∃ y, y = nth ys k := ⟨_, rfl⟩
            have hyf : y = nth f.vals k := by rw [hy, HYS.out.out.2 k hk, if_neg (by omega)]
            have hyb := HD.out.ok.nn k
            have hvb := HD.out.ok.nn 0
            rw [← hyf] at hyb
            rw [← HV.out] at hvb
            rw [← hy] at hck
            have HY := Lib.hid hyf
            have hgl2 := ROW.out.lt
            clear hy hyf
            go_wp2_with fail
            go_roundg (gk - 1)
            case measure => omega
            case rel => exact ⟨k + 1, ys.set k (y - v), by omega, by go_num, ROW.out.set_ k (by have := HYS.out.out.1; omega) _, ⟨by rw [List.length_set]; exact HYS.out.out.1, fun j hj => by
              rw [nth_set _ _ _ _ (by have := HYS.out.out.1; omega)]
              by_cases e : j = k
              · rw [if_pos e, if_pos (by omega), HY.out, e]
              · rw [if_neg e, HYS.out.out.2 j hj]
                by_cases e2 : j < k
                · rw [if_pos e2, if_pos (by omega)]
                · rw [if_neg e2, if_neg (by omega)]⟩, FB.out.far (by show w1.heap.size ≠ g; omega) _, RB.out.far (by show w.heap.size ≠ g; omega) _, SS.out.far (by show p < g; omega) _, KK.out.setCell (.inr (by show w.heap.size ≤ g; omega)) _⟩
          · have hkm : k = m + 1 := by omega
            clear hk hkg
            subst hkm
            have hdl := draw_less (most := most.toNat) (zs := f.vals) (ys := ys) (p := f.per) (i := f.inc) HD.out HFIN.out.2 (by rw [HYS.out.out.1, HNL.out]) (fun j hj => by rw [HNL.out] at hj; rw [HYS.out.out.2 j hj, if_pos hj, HV.out])
            have hyl := HYS.out.out.1
            have IY := Lib.hid ROW.out.ints
            rw [hyl] at IY
            have r0 := RB.out.cell 0; have r1 := RB.out.cell 1; have r2 := RB.out.cell 2; have u0 := RB.out.frozen 0; have u1 := RB.out.frozen 1; have u2 := RB.out.frozen 2
            simp at r0 r1 r2
            have hlr := RB.out.lt
            have hne2 : ∀ b' off' s, (some ⟨g, 0, none⟩ : Option Addr) = some ⟨b', off', s⟩ → b' ≠ w.heap.size := fun b' off' s e => by cases e; omega
            have HDL := Lib.hid (show (DrawC most.toNat ⟨ys, f.per, f.inc⟩ ∧ Cv.Fin ⟨ys, f.per, f.inc⟩) ∧ nth ys 0 = 0 from ⟨hdl, by rw [HYS.out.out.2 0 (by omega), if_pos (by omega), HV.out]; omega⟩)
            clear hdl
            go_wp2_with fail
            have rb := RB.out.store3 (.slice (some ⟨g, 0, none⟩) (m + 1) c4) (.int .i64 f.per) (.int .i64 f.inc)
            refine bodyPost_ret (v := .agg #[.slice (some ⟨g, 0, none⟩) (m + 1) c4, .int .i64 f.per, .int .i64 f.inc]) (by simp [results, Tryz.results8, go_sem, rb.cell]) rfl
              ⟨⟨ys, f.per, f.inc⟩, _, m + 1, c4, HDL.out, hc4, rfl, ?_, (fun b' off' s e => by cases e; omega), SS.out.far3 hpl, KK.out.set3 (Nat.le_refl _)⟩
            have i3 := ((IY.out.setCell (p := ⟨w.heap.size, 0, none⟩) hne2 (.slice (some ⟨g, 0, none⟩) (m + 1) c4)).setCell (p := ⟨w.heap.size, 1, none⟩) hne2 (.int .i64 f.per)).setCell (p := ⟨w.heap.size, 2, none⟩) hne2 (.int .i64 f.inc)
            simpa using i3
      · have d0 : decide (0 < v) = false := by simpa using hv0
        have HV0 := Lib.hid (show nth f.vals 0 = 0 from by have := (HD.out.ok.nn 0).1; rw [← HV.out] at this ⊢; omega)
        have hne2 : ∀ b' off' s, (some ⟨b, off, none⟩ : Option Addr) = some ⟨b', off', s⟩ → b' ≠ w.heap.size := fun b' off' s e => by have := HA.out b' off' s e; omega
        clear hv0
        go_wp2_with fail
        have rb := RB.out.store3 (.slice (some ⟨b, off, none⟩) (m + 1) c) (.int .i64 f.per) (.int .i64 f.inc)
        refine bodyPost_ret (v := .agg #[.slice (some ⟨b, off, none⟩) (m + 1) c, .int .i64 f.per, .int .i64 f.inc]) (by simp [results, Tryz.results8, go_sem, rb.cell]) rfl
          ⟨f, _, m + 1, c, ⟨⟨HD.out, HFIN.out⟩, HV0.out⟩, HNC.out, rfl, ?_, (fun b' off' s e => by have := HA.out b' off' s e; omega), SS.out.far3 hpl, KK.out.set3 (Nat.le_refl _)⟩
        have i3 := ((IA.out.setCell (p := ⟨w.heap.size, 0, none⟩) hne2 (.slice (some ⟨b, off, none⟩) (m + 1) c)).setCell (p := ⟨w.heap.size, 1, none⟩) hne2 (.int .i64 f.per)).setCell (p := ⟨w.heap.size, 2, none⟩) hne2 (.int .i64 f.inc)
        simpa using i3
theorem srcZero2_any (p : Nat) (most : Int) (w : World) (hS : SrcAt w p) (hm1 : 1 ≤ most) (hm2 : most ≤ 12) :
    Calls Tryz.prog 8 #[.pointer (some ⟨p, 0, none⟩), .int .i64 most] w (RetD2 (fun f => DrawC most.toNat f ∧ f.Fin) p w) :=
  (srcZero3_any p most w hS hm1 hm2).mono fun _ _ h => by
    obtain ⟨f, A, n, c, hf, h⟩ := h
    exact ⟨f, A, n, c, hf.1, h⟩
end Go.Proofs.YtaejfleahamapaaGreat

