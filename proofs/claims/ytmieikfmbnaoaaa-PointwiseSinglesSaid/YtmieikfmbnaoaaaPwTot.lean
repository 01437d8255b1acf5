/- pointwise.Total: what it returns. -/
import Derived.Test.YtmieikfmbnaoaaaPwSum
import Derived.Test.YtmieikfmbnaoaaaPwEx
import Derived.Test.YtmieikfmbnaoaaaEnvL
import Derived.Deep.LoopGhost
namespace Go.Proofs.Ytmieikfmbnaoaaa
open Go.RowKit
set_option linter.unusedVariables false

/-- the first cells of block b are a list of curves -/
structure RowC (w : World) (b : Nat) (xs : List CR) : Prop where
  lt : b < w.heap.size
  cell : ∀ (k j : Nat) (x : CR), xs[k]? = some x → j < 3 → w.cell? ⟨b, k * 3 + j, none⟩ = x.cells[j]?
  inn : ∀ x ∈ xs, Ints w w.heap.size x.A x.n x.f.vals
section
variable {p b : Nat} {w w' : World} {xs : List CR}
theorem Row.toC (h : Row p w b xs) : RowC w b xs := ⟨h.lt, fun k j x hx hj => by
  have := h.blk.cell (k * 3 + j)
  rw [List.getElem?_toArray, flat_get xs k j _ hx hj] at this
  exact this, fun x hx => (h.inn x hx).ints⟩
theorem RowC.below (h : RowC w b xs) (hb : Below w.heap.size w w') : RowC w' b xs :=
  ⟨Nat.lt_of_lt_of_le h.lt hb.size, fun k j x hx hj => ((bcell hb).1 b _ h.lt).trans (h.cell k j x hx hj), fun x hx => (h.inn x hx).ext hb⟩
theorem RowC.get (h : RowC w b xs) {k : Nat} (hk : k < xs.length) : ∃ x, xs[k]? = some x ∧ Ints w w.heap.size x.A x.n x.f.vals ∧ w.cell? ⟨b, k * 3, none⟩ = some (.slice x.A x.n x.c) ∧ w.cell? ⟨b, k * 3 + 1, none⟩ = some (.int .i64 x.f.per) ∧ w.cell? ⟨b, k * 3 + 2, none⟩ = some (.int .i64 x.f.inc) := by
  have hx : xs[k]? = some xs[k] := List.getElem?_eq_getElem hk
  exact ⟨xs[k], hx, h.inn _ (List.getElem_mem hk), h.cell k 0 _ hx (by omega), h.cell k 1 _ hx (by omega), h.cell k 2 _ hx (by omega)⟩
/-- the same from the place o of its block on -/
structure RowO (w : World) (b o : Nat) (xs : List CR) : Prop where
  lt : b < w.heap.size
  cell : ∀ (k j : Nat) (x : CR), xs[k]? = some x → j < 3 → w.cell? ⟨b, o + k * 3 + j, none⟩ = x.cells[j]?
  inn : ∀ x ∈ xs, Ints w w.heap.size x.A x.n x.f.vals
theorem RowC.toO (h : RowC w b xs) : RowO w b 0 xs := ⟨h.lt, fun k j x hx hj => by rw [Nat.zero_add]; exact h.cell k j x hx hj, h.inn⟩
theorem RowO.below {o : Nat} (h : RowO w b o xs) (hb : Below w.heap.size w w') : RowO w' b o xs :=
  ⟨Nat.lt_of_lt_of_le h.lt hb.size, fun k j x hx hj => ((bcell hb).1 b _ h.lt).trans (h.cell k j x hx hj), fun x hx => (h.inn x hx).ext hb⟩
theorem RowO.get {o : Nat} (h : RowO w b o xs) {k : Nat} (hk : k < xs.length) : ∃ x, xs[k]? = some x ∧ Ints w w.heap.size x.A x.n x.f.vals ∧ w.cell? ⟨b, o + k * 3, none⟩ = some (.slice x.A x.n x.c) ∧ w.cell? ⟨b, o + k * 3 + 1, none⟩ = some (.int .i64 x.f.per) ∧ w.cell? ⟨b, o + k * 3 + 2, none⟩ = some (.int .i64 x.f.inc) := by
  have hx : xs[k]? = some xs[k] := List.getElem?_eq_getElem hk
  exact ⟨xs[k], hx, h.inn _ (List.getElem_mem hk), h.cell k 0 _ hx (by omega), h.cell k 1 _ hx (by omega), h.cell k 2 _ hx (by omega)⟩
end
/-- the sums from s on -/
def TotR : Cv → List Cv → Cv → Int → Prop
  | s, [], r, er => r = s ∧ er = 0
  | s, f :: fs, r, er => ∃ t e, SumS s f t e ∧ ((e = 0 ∧ TotR t fs r er) ∨ (e ≠ 0 ∧ r = Cv.none ∧ er = e))
def cvZ : Cv := ⟨[0], 1, 0⟩
theorem cvZ_lim : Lim cvZ := by
  refine ⟨by decide, fun k hk => ?_, by decide, by decide⟩
  have hk' : k < 1 := hk
  rw [show k = 0 by omega]; decide
theorem flat1_any (D : Nat) (t : Nat) (w : World) (hD : Blk w D 3 #[.int .i64 0]) (ht : t ≤ 1000) :
    Calls Try.prog 135 (#[.int .i64 t] ++ #[.pointer (some ⟨D, 0, none⟩)]) w fun e w' => e = .returned (.int .i64 0) ∧ Below w.heap.size w w' := by
  have q0 := hD.cell 0
  simp at q0
  show Calls _ _ #[.int .i64 t, .pointer (some ⟨D, 0, none⟩)] _ _
  go_enter Try.func135, Try.ntmps135
  go_wp2_with fail
  all_goals
    go_ret
    first
      | exact ⟨rfl, Below.refl _ _⟩
      | exact ⟨ret_int (by simp [IntKind.wrap]), Below.refl _ _⟩
set_option maxHeartbeats 1000000 in
theorem flat0_any (w : World) : Calls Try.prog 84 #[.int .i64 0] w (RetC cvZ 0 w) := by
  have DB := Lib.hid ((Blk.new w 3 #[.int .i64 0]).alloc (.cells #[.slice none 0 0, .int .i64 0, .int .i64 0] 41))
  have rb := Blk.new (w.alloc (.cells #[.int .i64 0] 3)) 41 #[.slice none 0 0, .int .i64 0, .int .i64 0]
  rw [World.size_alloc] at rb
  have RB := Lib.hid rb
  have BW := Lib.hid (bthen (balloc w (.cells #[.int .i64 0] 3)) (balloc _ (.cells #[.slice none 0 0, .int .i64 0, .int .i64 0] 41)))
  clear rb
  go_enter Try.func84, Try.ntmps84
  go_wp2_with fail
  refine (build_any 135 #[.pointer (some ⟨w.heap.size, 0, none⟩)] 1 1 0 (fun _ => 0) _ (by omega) (by omega) (by omega) (by omega) (by omega) (by omega) (fun k hk => by omega) (by exact fun t w1 ht hb => flat1_any w.heap.size t w1 (DB.out.below hb DB.out.lt) (by omega)) (fun x w => by kernel_rfl)).mono ?_
  rintro e w5 ⟨r, er, hS, A5, n5, c5, rfl, hI5, hA5, hbq⟩
  have hm := (build_made (h := fun _ => 0) (s := 1) (p := 1) (i := 0) (by omega) (fun t u _ _ h => h) (fun _ t ht => by show (0 : Int) = 0 + 0; omega) hS).toL
  obtain ⟨rfl, rfl⟩ := hm.is zero_nf cvZ_lim
  have hs0 := RB.out.lt
  replace RB := Lib.hid (RB.out.below hbq RB.out.lt)
  replace BW := Lib.hid (bthen BW.out hbq)
  have HI5 := Lib.hid hI5; have HA5 := Lib.hid hA5
  clear hS hI5 hA5 hbq hm
  obtain ⟨⟨r0, r1, r2⟩, ⟨y0, y1, y2⟩, hlr⟩ := RB.out.c3
  go_wp2_with fail
  have rb := RB.out.store3 (.slice A5 n5 c5) (.int .i64 1) (.int .i64 0)
  refine bodyPost_ret (v := .tuple #[.agg #[.slice A5 n5 c5, .int .i64 1, .int .i64 0], .int .i64 0]) (by simp [results, Try.results84, go_sem, rb.cell]) rfl ?_
  exact retC_store3' (f := cvZ) HA5.out (by omega) hs0 HI5.out BW.out

set_option maxHeartbeats 4000000 in
set_option maxRecDepth 100000 in
/-- the loop of Total: a list of n curves -/
theorem total_anyO (b : Option Addr) (n c : Nat) (xs : List CR) (w : World) (hl : xs.length = n) (hn : n ≤ 1000) (hrow : 0 < n → ∃ g o, b = some ⟨g, o, none⟩ ∧ RowO w g o xs) (hlen : ∀ x ∈ xs, x.n ≤ 1000000) :
    Calls Try.prog 60 #[.slice b n c] w (RetS (TotR cvZ (xs.map CR.f)) w) := by
  have HROW := Lib.hid hrow; have HLEN := Lib.hid hlen; have HL := Lib.hid hl
  clear hrow hlen hl
  have RB := Lib.hid (Blk.new w 41 #[.slice none 0 0, .int .i64 0, .int .i64 0])
  have BW := Lib.hid (balloc w (.cells #[.slice none 0 0, .int .i64 0, .int .i64 0] 41))
  go_enter Try.func60, Try.ntmps60
  go_wp2_with fail
  refine (flat0_any _).mono ?_
  rintro e w1 ⟨A, m, d, rfl, hI, hA, hb⟩
  have hs0 := (RB.out.below hb RB.out.lt).lt
  have ZB := Lib.hid (Blk.new w1 41 #[.slice A m d, .int .i64 cvZ.per, .int .i64 cvZ.inc])
  have IZ := Lib.hid (hI.alloc' (.cells #[.slice A m d, .int .i64 cvZ.per, .int .i64 cvZ.inc] 41))
  have hm1 : m ≤ 1 := by have h2 : cvZ.vals.length = m := hI.1; rw [← h2]; exact Nat.le_refl _
  have OZ := Lib.hid (show 0 < m → ∀ b off s, A = some ⟨b, off, s⟩ → b ≠ w1.heap.size from fun hm b off s e => by
    obtain ⟨b', off', e', hb', _⟩ := hI.2 hm
    rw [e] at e'; cases e'; omega)
  have LZ := Lib.hid (show ∀ b off s, A = some ⟨b, off, s⟩ → w.heap.size + 1 ≤ b from fun b off s e => by have := hA b off s e; simp at this; omega)
  replace RB := Lib.hid ((RB.out.below hb RB.out.lt).alloc (.cells #[.slice A m d, .int .i64 cvZ.per, .int .i64 cvZ.inc] 41))
  replace BW := Lib.hid (bthen (bthen BW.out hb) (balloc _ (.cells #[.slice A m d, .int .i64 cvZ.per, .int .i64 cvZ.inc] 41)))
  clear hI hA hb
  go_upto_region 2 with fail
  generalize hwe : w1.alloc (.cells #[.slice A m d, .int .i64 cvZ.per, .int .i64 cvZ.inc] 41) = we at *
  clear hwe
  generalize w1.heap.size = Z at *
  go_wp2_with fail
  go_loopg [5, 7, 14] n (fun gg s5 s7 s14 wx => ∃ (k : Nat) (s : Cv) (A : Option Addr) (m d : Nat), k + gg = n ∧ s14 = .int .i64 k ∧ s5 = .int .i64 0 ∧ m ≤ 1000 ∧ Blk wx Z 41 #[.slice A m d, .int .i64 s.per, .int .i64 s.inc] ∧ Ints wx wx.heap.size A m s.vals ∧
    (0 < m → ∀ b off s, A = some ⟨b, off, s⟩ → b ≠ Z) ∧ (∀ b off s, A = some ⟨b, off, s⟩ → w.heap.size + 1 ≤ b) ∧ (∀ r er, TotR s ((xs.drop k).map CR.f) r er → TotR cvZ (xs.map CR.f) r er) ∧ Blk wx w.heap.size 41 #[.slice none 0 0, .int .i64 0, .int .i64 0] ∧ Below w.heap.size w wx)
  case atStart => exact ⟨0, cvZ, A, m, d, by omega, rfl, rfl, by omega, ZB.out, IZ.out, OZ.out, LZ.out, fun r er h => by rw [List.drop_zero] at h; exact h, RB.out, BW.out⟩
  case round =>
    clear ZB IZ OZ LZ RB BW hm1
    obtain ⟨k, s, A, m, d, hkg, rfl, rfl, hm, hZB, hIZ, hOZ, hLZ, hT, hRB, hBW⟩ := hrel
    have ZB := Lib.hid hZB; have IZ := Lib.hid hIZ; have OZ := Lib.hid hOZ; have LZ := Lib.hid hLZ; have HT := Lib.hid hT; have RB := Lib.hid hRB; have BW := Lib.hid hBW
    clear hZB hIZ hOZ hLZ hT hRB hBW
    by_cases hk : k < n
    · have hki : (k : Int) < n := by omega
      obtain ⟨g, o, hg, hrow⟩ := HROW.out (by omega)
      subst hg
      obtain ⟨x, hx, hix, x0, x1, x2⟩ := (hrow.below BW.out).get (k := k) (by rw [HL.out]; exact hk)
      have hxn := HLEN.out x (List.mem_of_getElem? hx)
      have hgl := (hrow.below BW.out).lt
      have HX := Lib.hid hx; have IX := Lib.hid hix
      clear hx hix hrow
      obtain ⟨⟨q0, q1, q2⟩, ⟨k0, k1, k2⟩, hlq⟩ := ZB.out.c3
      have XB := Lib.hid (Blk.new wr 41 #[.slice x.A x.n x.c, .int .i64 x.f.per, .int .i64 x.f.inc])
      go_upto_region 5 with fail
      clear q0 q1 q2 k0 k1 k2 hlq
      clear x0 x1 x2 hgl
      replace ZB := Lib.hid (ZB.out.alloc (.cells #[.slice x.A x.n x.c, .int .i64 x.f.per, .int .i64 x.f.inc] 41))
      replace IZ := Lib.hid (IZ.out.alloc' (.cells #[.slice x.A x.n x.c, .int .i64 x.f.per, .int .i64 x.f.inc] 41))
      replace IX := Lib.hid (IX.out.alloc' (.cells #[.slice x.A x.n x.c, .int .i64 x.f.per, .int .i64 x.f.inc] 41))
      replace RB := Lib.hid (RB.out.alloc (.cells #[.slice x.A x.n x.c, .int .i64 x.f.per, .int .i64 x.f.inc] 41))
      replace BW := Lib.hid (bthen BW.out (balloc _ (.cells #[.slice x.A x.n x.c, .int .i64 x.f.per, .int .i64 x.f.inc] 41)))
      generalize hwe : wr.alloc (.cells #[.slice x.A x.n x.c, .int .i64 x.f.per, .int .i64 x.f.inc] 41) = wf at *
      clear hwe
      generalize wr.heap.size = X at *
      obtain ⟨⟨q0, q1, q2⟩, ⟨k0, k1, k2⟩, hlq⟩ := ZB.out.c3
      obtain ⟨⟨x0, x1, x2⟩, _, hlx⟩ := XB.out.c3
      go_wp2_with fail
      refine (psum_any A x.A m x.n d x.c s.per s.inc x.f.per x.f.inc s.vals x.f.vals _ (by exact IZ.out) (by exact IX.out) (by omega) (by omega)).mono ?_
      rintro e w2 ⟨r, er, hS, A2, m2, d2, rfl, hI, hA, hb⟩
      have hzl := ZB.out.lt
      have hm2 : m2 ≤ 400 := by
        have h2 : r.vals.length = m2 := hI.1
        rcases hS with ⟨_, rfl, _⟩ | ⟨_, _, a', b', _, _, ⟨_, rfl, _⟩ | ⟨_, g', hg', ⟨hl', rfl, _⟩ | ⟨_, rfl, _⟩⟩⟩
        · rw [← h2]; decide
        · rw [← h2]; decide
        · rw [← h2]; exact hl'.1
        · rw [← h2]; decide
      have HS := Lib.hid hS
      have OZ2 := Lib.hid (show ∀ b off s, A2 = some ⟨b, off, s⟩ → b ≠ Z from fun b off s e => by have := hA b off s e; omega)
      have LZ2 := Lib.hid (show ∀ b off s, A2 = some ⟨b, off, s⟩ → w.heap.size + 1 ≤ b from fun b off s e => by have := hA b off s e; omega)
      replace ZB := Lib.hid (ZB.out.below hb ZB.out.lt)
      replace RB := Lib.hid (RB.out.below hb RB.out.lt)
      replace BW := Lib.hid (bthen BW.out hb)
      have I2 := Lib.hid hI
      have hxd : xs.drop k = x :: xs.drop (k + 1) := by
        have h1 : k < xs.length := by rw [HL.out]; exact hk
        rw [List.drop_eq_getElem_cons h1]
        have h2 := HX.out
        rw [List.getElem?_eq_getElem h1] at h2
        injection h2 with h2
        rw [h2]
      have HT2 := Lib.hid (show ∀ q eq, ((er = 0 ∧ TotR r ((xs.drop (k + 1)).map CR.f) q eq) ∨ (er ≠ 0 ∧ q = Cv.none ∧ eq = er)) → TotR cvZ (xs.map CR.f) q eq from fun q eq h => HT.out q eq (by
        rw [hxd, List.map_cons]
        exact ⟨r, er, HS.out, h⟩))
      clear hS hI hA hb q0 q1 q2 k0 k1 k2 hlq x0 x1 x2 hlx XB IZ IX OZ LZ HT hxd
      have hWZ : w.heap.size < Z := by omega
      obtain ⟨⟨q0, q1, q2⟩, ⟨k0, k1, k2⟩, hlq⟩ := ZB.out.c3
      go_upto_region 6 with fail
      clear q0 q1 q2 k0 k1 k2 hlq
      have st := Sto.three Z w2 (.slice A2 m2 d2) (.int .i64 r.per) (.int .i64 r.inc)
      replace I2 := Lib.hid (I2.out.sto st OZ2.out)
      replace ZB := Lib.hid (ZB.out.store3 (.slice A2 m2 d2) (.int .i64 r.per) (.int .i64 r.inc))
      replace RB := Lib.hid (RB.out.sto st (by omega))
      replace BW := Lib.hid (bsto BW.out st (by omega))
      clear st
      generalize hwe : ((w2.setCell ⟨Z, 0, none⟩ (.slice A2 m2 d2)).setCell ⟨Z, 1, none⟩ (.int .i64 r.per)).setCell ⟨Z, 2, none⟩ (.int .i64 r.inc) = w3 at *
      clear hwe
      by_cases he : er = 0
      · subst he
        have HT3 := Lib.hid (fun q eq h => HT2.out q eq (.inl ⟨rfl, h⟩))
        clear HT2
        go_wp2_with fail
        go_roundg (gk - 1)
        case measure => omega
        case rel => exact ⟨k + 1, r, A2, m2, d2, by omega, by go_num, rfl, by omega, ZB.out, I2.out, fun _ => OZ2.out, LZ2.out, HT3.out, RB.out, BW.out⟩
      · have g1 : (er != 0) = true := by simpa using he
        have FN := Lib.hid (HT2.out Cv.none er (.inr ⟨he, rfl, rfl⟩))
        clear he HT2
        obtain ⟨⟨r0, r1, r2⟩, ⟨y0, y1, y2⟩, hlr⟩ := RB.out.c3
        go_wp2_with fail
        have rb := RB.out.store3 (.slice none 0 0) (.int .i64 0) (.int .i64 0)
        refine bodyPost_ret (v := .tuple #[.agg #[(.slice none 0 0), .int .i64 0, .int .i64 0], .int .i64 er]) (by simp [results, Try.results60, go_sem, rb.cell]) rfl ?_
        exact retS_none FN.out (bst3 BW.out (by omega) _ _ _)
    · have hkn : k = n := by omega
      subst hkn
      have FN := Lib.hid (HT.out s 0 (by rw [List.drop_eq_nil_of_le (by rw [HL.out]; exact Nat.le_refl _)]; exact ⟨rfl, rfl⟩))
      clear hk hkg HT
      obtain ⟨⟨q0, q1, q2⟩, ⟨k0, k1, k2⟩, hlq⟩ := ZB.out.c3
      obtain ⟨⟨r0, r1, r2⟩, ⟨y0, y1, y2⟩, hlr⟩ := RB.out.c3
      go_wp2_with fail
      have rb := RB.out.store3 (.slice A m d) (.int .i64 s.per) (.int .i64 s.inc)
      refine bodyPost_ret (v := .tuple #[.agg #[.slice A m d, .int .i64 s.per, .int .i64 s.inc], .int .i64 0]) (by simp [results, Try.results60, go_sem, rb.cell]) rfl ?_
      exact retS_store FN.out LZ.out (Nat.le_refl _) (by omega) IZ.out BW.out
theorem total_any (b : Option Addr) (n c : Nat) (xs : List CR) (w : World) (hl : xs.length = n) (hn : n ≤ 1000) (hrow : 0 < n → ∃ g, b = some ⟨g, 0, none⟩ ∧ RowC w g xs) (hlen : ∀ x ∈ xs, x.n ≤ 1000000) :
    Calls Try.prog 60 #[.slice b n c] w (RetS (TotR cvZ (xs.map CR.f)) w) :=
  total_anyO b n c xs w hl hn (fun h => by obtain ⟨g, hg, hr⟩ := hrow h; exact ⟨g, 0, hg, hr.toO⟩) hlen
end Go.Proofs.Ytmieikfmbnaoaaa
