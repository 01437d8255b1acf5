/- service.Best and the fold over curves: what they return. -/
import Derived.Test.YthdibkmjoiipgaaPwChooseX
import Derived.Test.YthdibkmjoiipgaaEnvL
import Derived.Test.YthdibkmjoiipgaaPace
import Derived.Test.YthdibkmjoiipgaaBk
import Derived.Deep.LoopGhost
namespace Go.Proofs.Ythdibkmjoiipgaa
open Go.RowKit
set_option linter.unusedVariables false

/-- from the place o of block b on lie curves -/
structure RowM (w : World) (b o : Nat) (xs : List CR) : Prop where
  lt : b < w.heap.size
  cell : ∀ (k j : Nat) (x : CR), xs[k]? = some x → j < 3 → w.cell? ⟨b, o + k * 3 + j, none⟩ = x.cells[j]?
  inn : ∀ x ∈ xs, Ints w w.heap.size x.A x.n x.f.vals
section
variable {b o : Nat} {w w' : World} {xs : List CR}
theorem RowM.below (h : RowM w b o xs) (hb : Below w.heap.size w w') : RowM w' b o xs :=
  ⟨Nat.lt_of_lt_of_le h.lt hb.size, fun k j x hx hj => ((bcell hb).1 b _ h.lt).trans (h.cell k j x hx hj), fun x hx => (h.inn x hx).ext hb⟩
theorem RowM.get (h : RowM w b o xs) {k : Nat} (hk : k < xs.length) : ∃ x, xs[k]? = some x ∧ Ints w w.heap.size x.A x.n x.f.vals ∧ w.cell? ⟨b, o + k * 3, none⟩ = some (.slice x.A x.n x.c) ∧ w.cell? ⟨b, o + k * 3 + 1, none⟩ = some (.int .i64 x.f.per) ∧ w.cell? ⟨b, o + k * 3 + 2, none⟩ = some (.int .i64 x.f.inc) := by
  have hx : xs[k]? = some xs[k] := List.getElem?_eq_getElem hk
  exact ⟨xs[k], hx, h.inn _ (List.getElem_mem hk), h.cell k 0 _ hx (by omega), h.cell k 1 _ hx (by omega), h.cell k 2 _ hx (by omega)⟩
theorem RowM.tail {x : CR} (h : RowM w b o (x :: xs)) : RowM w b (o + 3) xs :=
  ⟨h.lt, fun k j y hy hj => by
    have := h.cell (k + 1) j y (by simpa using hy) hj
    rwa [show o + (k + 1) * 3 + j = o + 3 + k * 3 + j by omega] at this, fun y hy => h.inn y (List.mem_cons_of_mem _ hy)⟩
end
/-- Minimum or Maximum over a list, from s on -/
def FoldX (l : Bool) : Cv → List Cv → Cv → Int → Prop
  | s, [], r, er => r = s ∧ er = 0
  | s, f :: fs, r, er => ∃ t e, ExtS l s f t e ∧ ((e = 0 ∧ FoldX l t fs r er) ∨ (e ≠ 0 ∧ r = Cv.none ∧ er = e))
theorem FoldX.unique {l : Bool} : ∀ {fs : List Cv} {s r r' : Cv} {e e' : Int}, FoldX l s fs r e → FoldX l s fs r' e' → r = r' ∧ e = e'
  | [], _, _, _, _, _, h, k => ⟨h.1.trans k.1.symm, h.2.trans k.2.symm⟩
  | f :: fs, s, r, r', e, e', ⟨t, x, h1, h2⟩, ⟨t', x', k1, k2⟩ => by
    obtain ⟨rfl, rfl⟩ := h1.unique k1
    rcases h2 with ⟨h0, h2⟩ | ⟨h0, rfl, rfl⟩ <;> rcases k2 with ⟨k0, k2⟩ | ⟨k0, rfl, rfl⟩
    · exact FoldX.unique h2 k2
    · exact absurd h0 k0
    · exact absurd k0 h0
    · exact ⟨rfl, rfl⟩
/-- a curve and an error are returned; the list lies from block L on -/
def RetSL (L : Nat) (S : Cv → Int → Prop) (w : World) (e : Ending) (w' : World) : Prop :=
  ∃ (f : Cv) (er : Int), S f er ∧ ∃ (A : Option Addr) (n c : Nat), e = .returned (.tuple #[.agg #[.slice A n c, .int .i64 f.per, .int .i64 f.inc], .int .i64 er]) ∧ Ints w' w'.heap.size A n f.vals ∧ (∀ b off s, A = some ⟨b, off, s⟩ → L ≤ b) ∧ Below w.heap.size w w'
theorem ext_len {l : Bool} {f g r : Cv} {er : Int} (h : ExtS l f g r er) : r.vals.length ≤ 400 := by
  rcases h with ⟨_, rfl, _⟩ | ⟨_, _, a', b', _, _, ⟨_, rfl, _⟩ | ⟨_, ⟨_, hl', _⟩ | ⟨_, rfl, _⟩⟩⟩
  · decide
  · decide
  · exact hl'.1
  · decide
set_option maxHeartbeats 4000000 in
set_option maxRecDepth 100000 in
theorem foldMax_any (L b c n : Nat) (hd : CR) (xs : List CR) (w : World) (hl : xs.length + 1 = n) (hn : n ≤ 1000) (hnc : n ≤ c) (hrow : RowM w b 0 (hd :: xs)) (hlen : ∀ x ∈ hd :: xs, x.n ≤ 1000000) (hlo : ∀ b off s, hd.A = some ⟨b, off, s⟩ → L ≤ b ∧ b < w.heap.size) (hL : L ≤ w.heap.size) :
    Calls Try.prog 118 #[.slice (some ⟨b, 0, none⟩) n c, .func (.func 119) #[] #[]] w (RetSL L (FoldX false hd.f (xs.map CR.f)) w) := by
  have hi0 := hrow.inn hd (List.mem_cons_self ..)
  have hx0 := hlen hd (List.mem_cons_self ..)
  have ROW := Lib.hid hrow
  have RT := Lib.hid (show RowM w b 3 xs from hrow.tail)
  have HLEN := Lib.hid (fun x hx => hlen x (List.mem_cons_of_mem _ hx)); have HL := Lib.hid (show xs.length = n - 1 by omega)
  have hn1 : 1 ≤ n := by omega
  have I0 := Lib.hid (hi0.alloc' (.cells #[.slice none 0 0, .int .i64 0, .int .i64 0] 46))
  have HLO := Lib.hid hlo
  clear hrow hlen hl hi0 hlo
  have RB := Lib.hid (Blk.new w 46 #[.slice none 0 0, .int .i64 0, .int .i64 0])
  have BW := Lib.hid (balloc w (.cells #[.slice none 0 0, .int .i64 0, .int .i64 0] 46))
  go_enter Try.func118, Try.ntmps118
  obtain ⟨y, hy, _, x0', x1', x2'⟩ := (ROW.out.below BW.out).get (k := 0) (by simp)
  simp only [List.getElem?_cons_zero, Option.some.injEq] at hy
  subst hy
  have hlb := (ROW.out.below BW.out).lt
  have hn1i : (1 : Int) ≤ n := by omega
  have hn0i : (0 : Int) < n := by omega
  have hnci : (n : Int) ≤ c := by omega
  go_upto_region 2 with fail
  have ZB := Lib.hid (show Blk ((w.alloc (.cells #[.slice none 0 0, .int .i64 0, .int .i64 0] 46)).alloc (.cells #[.slice hd.A hd.n hd.c, .int .i64 hd.f.per, .int .i64 hd.f.inc] 46)) (w.heap.size + 1) 46 #[.slice hd.A hd.n hd.c, .int .i64 hd.f.per, .int .i64 hd.f.inc] from by
    have h := Blk.new (w.alloc (.cells #[.slice none 0 0, .int .i64 0, .int .i64 0] 46)) 46 #[.slice hd.A hd.n hd.c, .int .i64 hd.f.per, .int .i64 hd.f.inc]
    rwa [World.size_alloc] at h)
  have IZ := Lib.hid (I0.out.alloc' (.cells #[.slice hd.A hd.n hd.c, .int .i64 hd.f.per, .int .i64 hd.f.inc] 46))
  have OZ := Lib.hid (show ∀ b off s, hd.A = some ⟨b, off, s⟩ → L ≤ b ∧ b ≠ w.heap.size + 1 ∧ b ≠ w.heap.size from fun b off s e => by
    have := HLO.out b off s e; omega)
  replace RB := Lib.hid (RB.out.alloc (.cells #[.slice hd.A hd.n hd.c, .int .i64 hd.f.per, .int .i64 hd.f.inc] 46)); replace BW := Lib.hid (bthen BW.out (balloc _ (.cells #[.slice hd.A hd.n hd.c, .int .i64 hd.f.per, .int .i64 hd.f.inc] 46)))
  generalize hwe : (w.alloc (.cells #[.slice none 0 0, .int .i64 0, .int .i64 0] 46)).alloc (.cells #[.slice hd.A hd.n hd.c, .int .i64 hd.f.per, .int .i64 hd.f.inc] 46) = we at *
  clear hwe x0' x1' x2' hlb I0
  obtain ⟨Z, hZ⟩ : ∃ Z, Z = w.heap.size + 1 := ⟨_, rfl⟩
  rw [← hZ] at ZB OZ ⊢
  have hzw : w.heap.size < Z := by omega
  clear hZ
  go_cut [0, 16, 17, 18] (fun s0 s16 s17 s18 wx => ∃ A', s16 = .slice A' (n - 1) (c - 1) ∧ Hid (1 < n → A' = some ⟨b, 3, none⟩) ∧ s17 = .int .i64 ((n - 1 : Nat) : Int) ∧ s18 = .int .i64 0 ∧ wx = we)
  case first =>
    go_wp2_with fail
    · have hc1 : c = 1 := by first | assumption | omega
      go_meet
      exact ⟨_, by rw [hc1], Lib.hid (fun h => by omega), rfl, rfl, rfl⟩
    · go_meet
      exact ⟨_, rfl, Lib.hid (fun _ => rfl), rfl, rfl, rfl⟩
  case rest =>
  obtain ⟨A', rfl, HA', rfl, rfl, rfl⟩ := hcut
  go_wp2_with fail
  go_loopg [5, 18] (n - 1) (fun gg s5 s18 wx => ∃ (k : Nat) (s : Cv) (A : Option Addr) (m d : Nat), k + gg = n - 1 ∧ s18 = .int .i64 k ∧ s5 = .int .i64 0 ∧ m ≤ 1000000 ∧ Blk wx Z 46 #[.slice A m d, .int .i64 s.per, .int .i64 s.inc] ∧ Ints wx wx.heap.size A m s.vals ∧
    (∀ b off s, A = some ⟨b, off, s⟩ → L ≤ b ∧ b ≠ Z ∧ b ≠ w.heap.size) ∧ (∀ r er, FoldX false s ((xs.drop k).map CR.f) r er → FoldX false hd.f (xs.map CR.f) r er) ∧ Blk wx w.heap.size 46 #[.slice none 0 0, .int .i64 0, .int .i64 0] ∧ Below w.heap.size w wx)
  case atStart => exact ⟨0, hd.f, hd.A, hd.n, hd.c, by omega, rfl, rfl, hx0, ZB.out, IZ.out, OZ.out, fun r er h => by rw [List.drop_zero] at h; exact h, RB.out, BW.out⟩
  case round =>
    clear ZB IZ OZ RB BW hx0 ROW HLO
    obtain ⟨k, s, A, m, d, hkg, rfl, rfl, hm, hZB, hIZ, hOZ, hT, hRB, hBW⟩ := hrel
    have ZB := Lib.hid hZB; have IZ := Lib.hid hIZ; have OZ := Lib.hid hOZ; have HT := Lib.hid hT; have RB := Lib.hid hRB; have BW := Lib.hid hBW
    clear hZB hIZ hOZ hT hRB hBW
    by_cases hk : k < n - 1
    · have hki : (k : Int) < (n - 1 : Nat) := by omega
      have ha' := HA'.out (by omega)
      subst ha'
      obtain ⟨x, hx, hix, x0, x1, x2⟩ := (RT.out.below BW.out).get (k := k) (by rw [HL.out]; exact hk)
      have hxn := HLEN.out x (List.mem_of_getElem? hx)
      have hgl := (RT.out.below BW.out).lt
      have HX := Lib.hid hx; have IX := Lib.hid (hix.alloc' (.cells #[.slice x.A x.n x.c, .int .i64 x.f.per, .int .i64 x.f.inc] 46))
      clear hx hix
      have XB := Lib.hid (Blk.new wr 46 #[.slice x.A x.n x.c, .int .i64 x.f.per, .int .i64 x.f.inc])
      have hzl := ZB.out.lt
      replace ZB := Lib.hid (ZB.out.alloc (.cells #[.slice x.A x.n x.c, .int .i64 x.f.per, .int .i64 x.f.inc] 46)); replace IZ := Lib.hid (IZ.out.alloc' (.cells #[.slice x.A x.n x.c, .int .i64 x.f.per, .int .i64 x.f.inc] 46)); replace RB := Lib.hid (RB.out.alloc (.cells #[.slice x.A x.n x.c, .int .i64 x.f.per, .int .i64 x.f.inc] 46)); replace BW := Lib.hid (bthen BW.out (balloc _ (.cells #[.slice x.A x.n x.c, .int .i64 x.f.per, .int .i64 x.f.inc] 46)))
      go_upto_region 5 with fail
      clear x0 x1 x2 hgl
      generalize hwe : wr.alloc (.cells #[.slice x.A x.n x.c, .int .i64 x.f.per, .int .i64 x.f.inc] 46) = we at *
      clear hwe
      generalize wr.heap.size = X at *
      obtain ⟨⟨q0, q1, q2⟩, ⟨k0, k1, k2⟩, hlq⟩ := ZB.out.c3
      obtain ⟨⟨x0, x1, x2⟩, ⟨y0, y1, y2⟩, hlx⟩ := XB.out.c3
      go_wp2_with fail
      refine (pmax_any A x.A m x.n d x.c s.per s.inc x.f.per x.f.inc s.vals x.f.vals _ (by exact IZ.out) (by exact IX.out) (by omega) (by omega)).mono ?_
      rintro e w5 ⟨r, er, hS, A2, m2, d2, rfl, hI2, hA2, hb⟩
      have hdr : (xs.drop k).map CR.f = x.f :: (xs.drop (k + 1)).map CR.f := by
        rw [List.drop_eq_getElem_cons (show k < xs.length by rw [HL.out]; exact hk)]
        have := HX.out
        rw [List.getElem?_eq_getElem (show k < xs.length by rw [HL.out]; exact hk)] at this
        injection this with this
        rw [List.map_cons, this]
      have HTN := Lib.hid (show ∀ r' er', ((er = 0 ∧ FoldX false r ((xs.drop (k + 1)).map CR.f) r' er') ∨ (er ≠ 0 ∧ r' = Cv.none ∧ er' = er)) → FoldX false hd.f (xs.map CR.f) r' er' from fun r' er' h => HT.out r' er' (by rw [hdr]; exact ⟨r, er, hS, h⟩))
      have hm2 : m2 ≤ 400 := by have h1 := ext_len hS; have h2 : r.vals.length = m2 := hI2.1; omega
      have hwz : we.heap.size ≤ w5.heap.size := hb.size
      have hwb := BW.out.size
      have OZ2 := Lib.hid (show ∀ b off s, A2 = some ⟨b, off, s⟩ → L ≤ b ∧ b ≠ Z ∧ b ≠ w.heap.size from fun b off s e => by
        have := hA2 b off s e; omega)
      clear hdr hS HT OZ hA2
      replace ZB := Lib.hid ((ZB.out.below hb ZB.out.lt).alloc (.cells #[.slice A2 m2 d2, .int .i64 r.per, .int .i64 r.inc] 46)); replace RB := Lib.hid ((RB.out.below hb RB.out.lt).alloc (.cells #[.slice A2 m2 d2, .int .i64 r.per, .int .i64 r.inc] 46)); replace BW := Lib.hid (bthen (bthen BW.out hb) (balloc _ (.cells #[.slice A2 m2 d2, .int .i64 r.per, .int .i64 r.inc] 46)))
      have NB := Lib.hid (Blk.new w5 46 #[.slice A2 m2 d2, .int .i64 r.per, .int .i64 r.inc])
      have IN := Lib.hid (hI2.alloc' (.cells #[.slice A2 m2 d2, .int .i64 r.per, .int .i64 r.inc] 46))
      have hzn : Z < w5.heap.size := by omega
      clear hI2 hb XB IZ IX q0 q1 q2 k0 k1 k2 hlq x0 x1 x2 y0 y1 y2 hlx
      go_upto_region 6 with fail
      generalize hwe : w5.alloc (.cells #[.slice A2 m2 d2, .int .i64 r.per, .int .i64 r.inc] 46) = w6 at *
      clear hwe
      generalize w5.heap.size = N at *
      by_cases he : er = 0
      · have d1 : (er != 0) = false := by simpa using he
        obtain ⟨⟨q0, q1, q2⟩, ⟨k0, k1, k2⟩, hlq⟩ := ZB.out.c3
        obtain ⟨⟨x0, x1, x2⟩, ⟨y0, y1, y2⟩, hlx⟩ := NB.out.c3
        have HTE := Lib.hid (show ∀ r' er', FoldX false r ((xs.drop (k + 1)).map CR.f) r' er' → FoldX false hd.f (xs.map CR.f) r' er' from fun r' er' h => HTN.out r' er' (.inl ⟨he, h⟩))
        clear he HTN
        have Z2 := Lib.hid (ZB.out.store3 (.slice A2 m2 d2) (.int .i64 r.per) (.int .i64 r.inc))
        have I2 := Lib.hid (IN.out.sto (Sto.three Z w6 (.slice A2 m2 d2) (.int .i64 r.per) (.int .i64 r.inc)) (fun b off s e => (OZ2.out b off s e).2.1))
        have R2 := Lib.hid (RB.out.sto (Sto.three Z w6 (.slice A2 m2 d2) (.int .i64 r.per) (.int .i64 r.inc)) (by omega))
        have B2 := Lib.hid (bst3 BW.out (show w.heap.size ≤ Z by omega) (.slice A2 m2 d2) (.int .i64 r.per) (.int .i64 r.inc))
        go_wp2_with fail
        go_roundg (gk - 1)
        case measure => omega
        case rel => exact ⟨k + 1, r, A2, m2, d2, by omega, by go_num, rfl, by omega, Z2.out, I2.out, OZ2.out, HTE.out, R2.out, B2.out⟩
      · have d1 : (er != 0) = true := by simpa using he
        have FN := Lib.hid (HTN.out Cv.none er (.inr ⟨he, rfl, rfl⟩))
        have hne : w.heap.size < w6.heap.size := RB.out.lt
        replace RB := Lib.hid (RB.out.alloc (.cells #[.slice none 0 0, .int .i64 0, .int .i64 0] 46)); replace BW := Lib.hid (bthen BW.out (balloc _ (.cells #[.slice none 0 0, .int .i64 0, .int .i64 0] 46)))
        clear he HTN ZB NB IN OZ2
        have VB := Lib.hid (Blk.new w6 46 #[.slice none 0 0, .int .i64 0, .int .i64 0])
        go_upto_region 8 with fail
        generalize hwe : w6.alloc (.cells #[.slice none 0 0, .int .i64 0, .int .i64 0] 46) = w7 at *
        clear hwe
        generalize w6.heap.size = V at *
        obtain ⟨⟨v0, v1, v2⟩, ⟨g0, g1, g2⟩, hlv⟩ := VB.out.c3
        obtain ⟨⟨r0, r1, r2⟩, ⟨y0, y1, y2⟩, hlr⟩ := RB.out.c3
        go_wp2_with fail
        have rb := RB.out.store3 (.slice none 0 0) (.int .i64 0) (.int .i64 0)
        refine bodyPost_ret (v := .tuple #[.agg #[(.slice none 0 0), .int .i64 0, .int .i64 0], .int .i64 er]) (by simp [results, Try.results118, go_sem, rb.cell]) rfl ?_
        exact ⟨Cv.none, er, FN.out, none, 0, 0, rfl, Ints.none_, (fun b off s e => by cases e), bst3 BW.out (by omega) _ _ _⟩
    · have hkn : k = n - 1 := by omega
      have hki : ¬ (k : Int) < (n - 1 : Nat) := by omega
      have FN := Lib.hid (HT.out s 0 (by rw [List.drop_eq_nil_of_le (by rw [HL.out]; omega)]; exact ⟨rfl, rfl⟩))
      clear hk hkn HT
      obtain ⟨⟨q0, q1, q2⟩, ⟨k0, k1, k2⟩, hlq⟩ := ZB.out.c3
      obtain ⟨⟨r0, r1, r2⟩, ⟨y0, y1, y2⟩, hlr⟩ := RB.out.c3
      go_wp2_with fail
      have rb := RB.out.store3 (.slice A m d) (.int .i64 s.per) (.int .i64 s.inc)
      refine bodyPost_ret (v := .tuple #[.agg #[(.slice A m d), .int .i64 s.per, .int .i64 s.inc], .int .i64 0]) (by simp [results, Try.results118, go_sem, rb.cell]) rfl ?_
      exact ⟨s, 0, FN.out, A, m, d, rfl, IZ.out.sto (Sto.three w.heap.size wr _ _ _) (fun b off s e => (OZ.out b off s e).2.2), (fun b off s e => (OZ.out b off s e).1), bst3 BW.out (by omega) _ _ _⟩
/-- the curves of paces -/
def AllP (ps : List PN) (ys : List Cv) : Prop := ys.length = ps.length ∧ ∀ (k : Nat) (x : PN) (f : Cv), ps[k]? = some x → ys[k]? = some f → PcS x.R x.r x.L x.l f 0
/-- what Best returns -/
def BestS (ps : List PN) (r : Cv) (er : Int) : Prop :=
  (ps.length = 0 ∧ r = Cv.none ∧ er = 2) ∨ (20 < ps.length ∧ r = Cv.none ∧ er = 3) ∨ (0 < ps.length ∧ ps.length ≤ 20 ∧ (∃ x ∈ ps, ¬ x.Good) ∧ r = Cv.none ∧ er = 2) ∨
  (0 < ps.length ∧ ps.length ≤ 20 ∧ (∀ x ∈ ps, x.Good) ∧ ((∃ x ∈ ps, ∃ f, PcS x.R x.r x.L x.l f er ∧ er ≠ 0 ∧ r = Cv.none) ∨ ∃ f fs, AllP ps (f :: fs) ∧ FoldX false f fs r er))
theorem pcS_len {R r L l : Int} {f : Cv} {er : Int} (h : PcS R r L l f er) : f.vals.length ≤ 400 := by
  rcases h with ⟨_, rfl, _⟩ | ⟨_, _, _, _, rfl, _⟩ | ⟨_, _, _, g, _, ⟨hl, rfl, _⟩ | ⟨_, rfl, _⟩⟩
  · decide
  · decide
  · exact hl.1
  · decide
theorem pcS_pos {R r L l : Int} {f : Cv} (h : PcS R r L l f 0) : 1 ≤ f.vals.length := by
  rcases h with ⟨_, _, h⟩ | ⟨_, _, _, _, _, h⟩ | ⟨_, _, _, g, hg, ⟨hl, rfl, _⟩ | ⟨_, _, h⟩⟩
  · cases h
  · cases h
  · rcases hg with hg | hg
    · have := hg.p1; have := hg.pn; omega
    · exact hg.n1
  · cases h
theorem info_curve : (Try.prog.info? 46).map (fun i => (i.zero, i.size, i.bytes)) = some (some (.agg #[.slice none 0 0, .int .i64 0, .int .i64 0]), 3, 40) := by kernel_rfl
theorem blk_made {w : World} {base g n : Nat} {t : TypeId} {xs : List Value} (h : w.ownsRow base t 3 (.slice (some ⟨g, 0, none⟩) n n) n xs) : ∃ cs, Blk w g t cs ∧ cs.size = n * 3 := by
  rcases h.2 with ⟨e, _⟩ | ⟨g', cap, cur, e, hb, hh, hnc, hcm, hcs, hcur⟩
  · cases e
  · injection e with e1 e2 e3
    injection e1 with e1
    injection e1 with e1
    subst e1 e3
    exact ⟨cur, hh, hcs⟩
/-- block G has room for n curves, of which the first are those of ys -/
structure MkR (w0 w : World) (G n : Nat) (ys : List CR) : Prop where
  blk : ∃ cs, Blk w G 46 cs ∧ cs.size = n * 3 ∧ ∀ (j : Nat) (y : CR), ys[j]? = some y → ∀ i, i < 3 → cs[j * 3 + i]? = y.cells[i]?
  inn : ∀ y ∈ ys, Ints w w.heap.size y.A y.n y.f.vals ∧ (∀ b off s, y.A = some ⟨b, off, s⟩ → G < b) ∧ (1 ≤ y.n ∧ y.n ≤ 1000000)
  hG : w0.heap.size < G
section
variable {w0 w w' : World} {G n : Nat} {ys : List CR}
theorem MkR.lt (h : MkR w0 w G n ys) : G < w.heap.size := by obtain ⟨cs, h1, _⟩ := h.blk; exact h1.lt
theorem MkR.below (h : MkR w0 w G n ys) (hb : Below w.heap.size w w') : MkR w0 w' G n ys := by
  obtain ⟨cs, h1, h2⟩ := h.blk
  exact ⟨⟨cs, h1.below hb h1.lt, h2⟩, fun y hy => ⟨(h.inn y hy).1.ext hb, (h.inn y hy).2⟩, h.hG⟩
theorem MkR.slot (h : MkR w0 w G n ys) {k : Nat} (hk : k < n) : (∃ v, w.cell? ⟨G, k * 3, none⟩ = some v) ∧ (∃ v, w.cell? ⟨G, k * 3 + 1, none⟩ = some v) ∧ (∃ v, w.cell? ⟨G, k * 3 + 2, none⟩ = some v) ∧
    w.frozen? ⟨G, k * 3, none⟩ = false ∧ w.frozen? ⟨G, k * 3 + 1, none⟩ = false ∧ w.frozen? ⟨G, k * 3 + 2, none⟩ = false := by
  obtain ⟨cs, h1, h2, _⟩ := h.blk
  have hc : ∀ i, i < cs.size → ∃ v, w.cell? ⟨G, i, none⟩ = some v := fun i hi => ⟨cs[i], by rw [h1.cell]; exact Array.getElem?_eq_getElem hi⟩
  exact ⟨hc _ (by omega), hc _ (by omega), hc _ (by omega), h1.frozen _, h1.frozen _, h1.frozen _⟩
theorem MkR.store (h : MkR w0 w G n ys) {k : Nat} {y : CR} (hl : ys.length = k) (hk : k < n) (hI : Ints w w.heap.size y.A y.n y.f.vals) (hA : ∀ b off s, y.A = some ⟨b, off, s⟩ → G < b) (hn : 1 ≤ y.n ∧ y.n ≤ 1000000) :
    MkR w0 (((w.setCell ⟨G, k * 3, none⟩ (.slice y.A y.n y.c)).setCell ⟨G, k * 3 + 1, none⟩ (.int .i64 y.f.per)).setCell ⟨G, k * 3 + 2, none⟩ (.int .i64 y.f.inc)) G n (ys ++ [y]) := by
  obtain ⟨cs, h1, h2, h3⟩ := h.blk
  refine ⟨⟨_, ((h1.set_ _ _).set_ _ _).set_ _ _, by simpa using h2, fun j z hz i hi => ?_⟩, fun z hz => ?_, h.hG⟩
  · simp only [Array.getElem?_setIfInBounds, Array.size_setIfInBounds]
    rcases Nat.lt_or_ge j k with hj | hj
    · rw [List.getElem?_append_left (by omega)] at hz
      rw [if_neg (by omega), if_neg (by omega), if_neg (by omega)]
      exact h3 j z hz i hi
    · rw [List.getElem?_append_right (by omega)] at hz
      have hjk : j = k := by
        rcases Nat.lt_or_ge k j with h4 | h4
        · rw [List.getElem?_eq_none (by simp; omega)] at hz; cases hz
        · omega
      subst hjk
      rw [hl, Nat.sub_self] at hz
      simp only [List.getElem?_cons_zero, Option.some.injEq] at hz
      subst hz
      have : i = 0 ∨ i = 1 ∨ i = 2 := by omega
      rcases this with rfl | rfl | rfl
      · rw [if_neg (by omega), if_neg (by omega), if_pos (by omega), if_pos (by omega)]; rfl
      · rw [if_neg (by omega), if_pos rfl, if_pos (by omega)]; rfl
      · rw [if_pos rfl, if_pos (by omega)]; rfl
  · have hs : ∀ (u : CR), Ints w w.heap.size u.A u.n u.f.vals → (∀ b off s, u.A = some ⟨b, off, s⟩ → G < b) → Ints (((w.setCell ⟨G, k * 3, none⟩ (.slice y.A y.n y.c)).setCell ⟨G, k * 3 + 1, none⟩ (.int .i64 y.f.per)).setCell ⟨G, k * 3 + 2, none⟩ (.int .i64 y.f.inc)) (((w.setCell ⟨G, k * 3, none⟩ (.slice y.A y.n y.c)).setCell ⟨G, k * 3 + 1, none⟩ (.int .i64 y.f.per)).setCell ⟨G, k * 3 + 2, none⟩ (.int .i64 y.f.inc)).heap.size u.A u.n u.f.vals := fun u hu hb => by
      simpa using ((hu.setCell (p := ⟨G, k * 3, none⟩) (fun b off s e => by have := hb b off s e; simp; omega) (.slice y.A y.n y.c)).setCell (p := ⟨G, k * 3 + 1, none⟩) (fun b off s e => by have := hb b off s e; simp; omega) (.int .i64 y.f.per)).setCell (p := ⟨G, k * 3 + 2, none⟩) (fun b off s e => by have := hb b off s e; simp; omega) (.int .i64 y.f.inc)
    rcases List.mem_append.1 hz with hz | hz
    · obtain ⟨g1, g2, g3⟩ := h.inn z hz
      exact ⟨hs z g1 g2, g2, g3⟩
    · simp only [List.mem_singleton] at hz
      subst hz
      exact ⟨hs z hI hA, hA, hn⟩
theorem MkR.row (h : MkR w0 w G n ys) : RowM w G 0 ys := by
  obtain ⟨cs, h1, h2, h3⟩ := h.blk
  exact ⟨h1.lt, fun k j y hy hj => by rw [h1.cell, Nat.zero_add]; exact h3 k y hy j hj, fun y hy => (h.inn y hy).1⟩
end
theorem bset3 {B : Nat} {w0 w : World} (h : Below B w0 w) {g : Nat} (hg : B ≤ g) (i j k : Nat) (x y z : Value) : Below B w0 (((w.setCell ⟨g, i, none⟩ x).setCell ⟨g, j, none⟩ y).setCell ⟨g, k, none⟩ z) := ((h.setCell (by simpa using hg) x).setCell (by simpa using hg) y).setCell (by simpa using hg) z
set_option maxHeartbeats 4000000 in
set_option maxRecDepth 100000 in
theorem best_any (A : Option Addr) (n c : Nat) (ps : List PN) (w : World) (hl : ps.length = n) (hn9 : (n : Int) ≤ 9223372036854775807) (hrow : 0 < n → ∃ g o, A = some ⟨g, o, none⟩ ∧ RowQ w g o ps) :
    Calls Try.prog 58 #[.slice A n c] w (RetS (BestS ps) w) := by
  have RB := Lib.hid (Blk.new w 46 #[.slice none 0 0, .int .i64 0, .int .i64 0])
  have BW := Lib.hid (balloc w (.cells #[.slice none 0 0, .int .i64 0, .int .i64 0] 46))
  have HL := Lib.hid hl; have HROW := Lib.hid hrow
  clear hl hrow
  go_enter Try.func58, Try.ntmps58
  go_upto_region 1 with fail
  generalize hwe : w.alloc (.cells #[.slice none 0 0, .int .i64 0, .int .i64 0] 46) = w1 at *
  clear hwe
  by_cases h0 : n = 0
  · subst h0
    have FN := Lib.hid (show BestS ps Cv.none 2 from .inl ⟨HL.out, rfl, rfl⟩)
    -- the error 2 is returned, FN.out says so
    obtain ⟨⟨r0, r1, r2⟩, ⟨y0, y1, y2⟩, hlr⟩ := RB.out.c3
    go_wp2_with fail
    have rb := RB.out.store3 (.slice none 0 0) (.int .i64 0) (.int .i64 0)
    refine bodyPost_ret (v := .tuple #[.agg #[(.slice none 0 0), .int .i64 0, .int .i64 0], .int .i64 2]) (by simp [results, Try.results58, go_sem, rb.cell]) rfl ?_
    exact retS_none FN.out (bst3 BW.out (Nat.le_refl _) _ _ _)
  · have d0 : ((n : Int) == 0) = false := by simp; omega
    by_cases h20 : 20 < n
    · have d1 : decide ((20 : Int) < (n : Int)) = true := by simp; omega
      have d1' : decide (20 < n) = true := by simp; omega
      have FN := Lib.hid (show BestS ps Cv.none 3 from .inr (.inl ⟨by rw [HL.out]; exact h20, rfl, rfl⟩))
      clear h20
      -- the error 3 is returned, FN.out says so
      obtain ⟨⟨r0, r1, r2⟩, ⟨y0, y1, y2⟩, hlr⟩ := RB.out.c3
      go_wp2_with fail
      have rb := RB.out.store3 (.slice none 0 0) (.int .i64 0) (.int .i64 0)
      refine bodyPost_ret (v := .tuple #[.agg #[(.slice none 0 0), .int .i64 0, .int .i64 0], .int .i64 3]) (by simp [results, Try.results58, go_sem, rb.cell]) rfl ?_
      exact retS_none FN.out (bst3 BW.out (Nat.le_refl _) _ _ _)
    · have d1 : decide ((20 : Int) < (n : Int)) = false := by simp; omega
      have d1' : decide (20 < n) = false := by simp; omega
      obtain ⟨g, o, hg, hrow⟩ := HROW.out (by omega)
      subst hg
      have ROW := Lib.hid hrow
      clear hrow HROW
      have hn1 : 1 ≤ n := by omega
      have hn20 : n ≤ 20 := by omega
      clear h0 h20
      go_wp2_with fail
      clear d0 d1 d1'
      go_loopg [21] n (fun gg s21 wx => ∃ k : Nat, k + gg = n ∧ s21 = .int .i64 k ∧ (∀ (j : Nat) (x : PN), j < k → ps[j]? = some x → x.Good) ∧ Blk wx w.heap.size 46 #[.slice none 0 0, .int .i64 0, .int .i64 0] ∧ Below w.heap.size w wx)
      case atStart => exact ⟨0, by omega, rfl, fun j x hj => by omega, RB.out, BW.out⟩
      case round =>
        clear RB BW
        obtain ⟨k, hkg, rfl, hG, hRB, hBW⟩ := hrel
        have RB := Lib.hid hRB; have BW := Lib.hid hBW; have HG := Lib.hid hG
        clear hRB hBW hG
        by_cases hk : k < n
        · have hki : (k : Int) < n := by omega
          obtain ⟨x, hx, x0, x1, x2, x3⟩ := (ROW.out.below BW.out).get (k := k) (by rw [HL.out]; exact hk)
          have hgl := (ROW.out.below BW.out).lt
          have HX := Lib.hid hx
          clear hx
          have XB := Lib.hid (Blk.new wr 25 #[.int .i64 x.R, .int .i64 x.r, .int .i64 x.L, .int .i64 x.l])
          replace RB := Lib.hid (RB.out.alloc (.cells #[.int .i64 x.R, .int .i64 x.r, .int .i64 x.L, .int .i64 x.l] 25)); replace BW := Lib.hid (bthen BW.out (balloc wr (.cells #[.int .i64 x.R, .int .i64 x.r, .int .i64 x.L, .int .i64 x.l] 25)))
          go_upto_region 8 with fail
          clear x0 x1 x2 x3 hgl
          generalize hwe : wr.alloc (.cells #[.int .i64 x.R, .int .i64 x.r, .int .i64 x.L, .int .i64 x.l] 25) = we at *
          clear hwe
          generalize wr.heap.size = X at *
          obtain ⟨x0, x1, x2, x3⟩ : _ ∧ _ ∧ _ ∧ _ := ⟨XB.out.cell 0, XB.out.cell 1, XB.out.cell 2, XB.out.cell 3⟩
          simp at x0 x1 x2 x3
          have hlx := XB.out.lt
          go_wp2_with fail
          refine (svalid_any x.R x.r x.L x.l _).mono ?_
          by_cases hgd : x.Good
          · rw [bokB_t hgd]
            rintro e w2 ⟨rfl, hb⟩
            replace RB := Lib.hid (RB.out.below hb RB.out.lt); replace BW := Lib.hid (bthen BW.out hb)
            have G2 := Lib.hid (show ∀ (j : Nat) (y : PN), j < k + 1 → ps[j]? = some y → y.Good from fun j y hj hy => by
              rcases Nat.lt_or_ge j k with h1 | h1
              · exact HG.out j y h1 hy
              · obtain rfl : j = k := by omega
                rw [HX.out] at hy
                injection hy with hy
                subst hy
                exact hgd)
            clear hb hgd x0 x1 x2 x3 hlx XB
            go_wp2_with fail
            go_roundg (gk - 1)
            case measure => omega
            case rel => exact ⟨k + 1, by omega, by go_num, G2.out, RB.out, BW.out⟩
          · rw [bokB_f hgd]
            rintro e w2 ⟨rfl, hb⟩
            replace RB := Lib.hid (RB.out.below hb RB.out.lt); replace BW := Lib.hid (bthen BW.out hb)
            have FN := Lib.hid (show BestS ps Cv.none 2 from .inr (.inr (.inl ⟨by rw [HL.out]; exact hn1, by rw [HL.out]; exact hn20, ⟨x, List.mem_of_getElem? HX.out, hgd⟩, rfl, rfl⟩)))
            clear hb hgd x0 x1 x2 x3 hlx XB
            -- the error 2 is returned, FN.out says so
            obtain ⟨⟨r0, r1, r2⟩, ⟨y0, y1, y2⟩, hlr⟩ := RB.out.c3
            go_wp2_with fail
            have rb := RB.out.store3 (.slice none 0 0) (.int .i64 0) (.int .i64 0)
            refine bodyPost_ret (v := .tuple #[.agg #[(.slice none 0 0), .int .i64 0, .int .i64 0], .int .i64 2]) (by simp [results, Try.results58, go_sem, rb.cell]) rfl ?_
            exact retS_none FN.out (bst3 BW.out (Nat.le_refl _) _ _ _)
        · have hkn : k = n := by omega
          have GD := Lib.hid (show ∀ x ∈ ps, x.Good from fun x hx => by
            obtain ⟨j, hj, he⟩ := List.getElem_of_mem hx
            exact HG.out j x (by rw [hkn, ← HL.out]; exact hj) (by rw [List.getElem?_eq_getElem hj, he]))
          have hki : ¬ (k : Int) < n := by omega
          clear HG hkn hk
          obtain ⟨i0, hi0, hz0, hy1, hy2⟩ := info_parts info_curve
          go_upto_region 12 with (at_make; refine wpList_make_full _ rfl _ _ 60 rfl wr.heap.size 46 i0 _ 3 Try.underlying60 hi0 hz0 hy1 .i64 .i64 _ _ n rfl rfl rfl rfl (by rw [hy2]; omega) (by unfold maxLen; omega) (by simp) ?_; intro w5 own1 grow1)
          have hb5 : Below wr.heap.size wr w5 := (Below.refl _ _).grown grow1 (by simp) (by simp)
          have hGr : w.heap.size < wr.heap.size := RB.out.lt
          have MK := Lib.hid (show MkR w w5 wr.heap.size n [] from ⟨by
            obtain ⟨cs, h1, h2⟩ := blk_made own1
            exact ⟨cs, h1, h2, fun j y hy => by simp at hy⟩, (fun y hy => by cases hy), hGr⟩)
          replace RB := Lib.hid (RB.out.below hb5 RB.out.lt); replace BW := Lib.hid (bthen BW.out hb5)
          clear hi0 hz0 hy1 hy2 own1 grow1 hb5 hki hkg
          generalize wr.heap.size = G at *
          go_wp2_with fail
          obtain ⟨go, hgo⟩ : ∃ go : Nat, go = gk := ⟨_, rfl⟩
          go_loopg [35] n (fun gg s35 wx => ∃ (k : Nat) (ys : List CR), k + gg = n ∧ s35 = .int .i64 k ∧ ys.length = k ∧ (∀ (j : Nat) (x : PN) (y : CR), ps[j]? = some x → ys[j]? = some y → PcS x.R x.r x.L x.l y.f 0) ∧ MkR w wx G n ys ∧ Blk wx w.heap.size 46 #[.slice none 0 0, .int .i64 0, .int .i64 0] ∧ Below w.heap.size w wx)
          case atStart => exact ⟨0, [], by omega, rfl, rfl, (fun j x y _ hy => by simp at hy), MK.out, RB.out, BW.out⟩
          case round =>
            clear MK RB BW
            obtain ⟨k, ys, hkg, rfl, hyl, hpy, hMK, hRB, hBW⟩ := hrel
            have MK := Lib.hid hMK; have RB := Lib.hid hRB; have BW := Lib.hid hBW; have HPY := Lib.hid hpy; have HYL := Lib.hid hyl
            clear hMK hRB hBW hpy hyl
            by_cases hk : k < n
            · have hki : (k : Int) < n := by omega
              obtain ⟨x, hx, x0, x1, x2, x3⟩ := (ROW.out.below BW.out).get (k := k) (by rw [HL.out]; exact hk)
              have hgl := (ROW.out.below BW.out).lt
              have HX := Lib.hid hx
              clear hx
              have XB := Lib.hid (Blk.new wr 25 #[.int .i64 x.R, .int .i64 x.r, .int .i64 x.L, .int .i64 x.l])
              replace RB := Lib.hid (RB.out.alloc (.cells #[.int .i64 x.R, .int .i64 x.r, .int .i64 x.L, .int .i64 x.l] 25)); replace BW := Lib.hid (bthen BW.out (balloc wr (.cells #[.int .i64 x.R, .int .i64 x.r, .int .i64 x.L, .int .i64 x.l] 25))); replace MK := Lib.hid (MK.out.below (balloc wr (.cells #[.int .i64 x.R, .int .i64 x.r, .int .i64 x.L, .int .i64 x.l] 25)))
              go_upto_region 15 with fail
              clear x0 x1 x2 x3 hgl
              generalize hwe : wr.alloc (.cells #[.int .i64 x.R, .int .i64 x.r, .int .i64 x.L, .int .i64 x.l] 25) = we at *
              clear hwe
              generalize wr.heap.size = X at *
              obtain ⟨x0, x1, x2, x3⟩ : _ ∧ _ ∧ _ ∧ _ := ⟨XB.out.cell 0, XB.out.cell 1, XB.out.cell 2, XB.out.cell 3⟩
              simp at x0 x1 x2 x3
              have hlx := XB.out.lt
              go_wp2_with fail
              refine (paceK_any x.R x.r x.L x.l _).mono ?_
              rintro e w5 ⟨f, er, hS, A2, m2, d2, hmd, rfl, hI2, hA2, hb⟩
              have hm2 : m2 ≤ 400 := by have h1 := pcS_len hS; have h2 : f.vals.length = m2 := hI2.1; omega
              have hGw := MK.out.lt
              have hAG := Lib.hid (show ∀ b off s, A2 = some ⟨b, off, s⟩ → G < b from fun b off s e => by have := hA2 b off s e; omega)
              replace MK := Lib.hid ((MK.out.below hb).below (balloc _ (.cells #[.slice A2 m2 d2, .int .i64 f.per, .int .i64 f.inc] 46))); replace RB := Lib.hid ((RB.out.below hb RB.out.lt).alloc (.cells #[.slice A2 m2 d2, .int .i64 f.per, .int .i64 f.inc] 46)); replace BW := Lib.hid (bthen (bthen BW.out hb) (balloc _ (.cells #[.slice A2 m2 d2, .int .i64 f.per, .int .i64 f.inc] 46)))
              have NB := Lib.hid (Blk.new w5 46 #[.slice A2 m2 d2, .int .i64 f.per, .int .i64 f.inc])
              have IN := Lib.hid (hI2.alloc' (.cells #[.slice A2 m2 d2, .int .i64 f.per, .int .i64 f.inc] 46))
              have HS := Lib.hid hS
              have hlen2 := hI2.1
              have hGN : G < w5.heap.size := Nat.lt_of_lt_of_le hGw hb.size
              clear hI2 hb XB x0 x1 x2 x3 hlx hS hA2
              go_upto_region 16 with fail
              generalize hwe : w5.alloc (.cells #[.slice A2 m2 d2, .int .i64 f.per, .int .i64 f.inc] 46) = w6 at *
              clear hwe
              generalize w5.heap.size = N at *
              by_cases he : er = 0
              · subst he
                obtain ⟨⟨q0, q1, q2⟩, ⟨k0, k1, k2⟩, hlq⟩ := NB.out.c3
                obtain ⟨⟨v0, c0⟩, ⟨v1, c1⟩, ⟨v2, c2⟩, z0, z1, z2⟩ := MK.out.slot (k := k) hk
                have hGl := MK.out.lt
                have hp1 := pcS_pos HS.out
                have M2 := Lib.hid (MK.out.store (k := k) (y := ⟨A2, m2, d2, f⟩) HYL.out hk IN.out hAG.out (by dsimp only; omega))
                have R2 := Lib.hid (RB.out.sto ((((Sto.refl G w6).set (k * 3) (.slice A2 m2 d2)).set (k * 3 + 1) (.int .i64 f.per)).set (k * 3 + 2) (.int .i64 f.inc)) (by omega))
                have B2 := Lib.hid (bset3 BW.out (show w.heap.size ≤ G by omega) (k * 3) (k * 3 + 1) (k * 3 + 2) (.slice A2 m2 d2) (.int .i64 f.per) (.int .i64 f.inc))
                have HP2 := Lib.hid (show ∀ (j : Nat) (x : PN) (y : CR), ps[j]? = some x → (ys ++ [⟨A2, m2, d2, f⟩])[j]? = some y → PcS x.R x.r x.L x.l y.f 0 from fun j z y hz hy => by
                  rcases Nat.lt_or_ge j k with h1 | h1
                  · rw [List.getElem?_append_left (by rw [HYL.out]; exact h1)] at hy
                    exact HPY.out j z y hz hy
                  · rw [List.getElem?_append_right (by rw [HYL.out]; exact h1), HYL.out] at hy
                    have h2 : j = k := by
                      rcases Nat.lt_or_ge k j with h3 | h3
                      · rw [List.getElem?_eq_none (by simp; omega)] at hy; cases hy
                      · omega
                    subst h2
                    rw [Nat.sub_self] at hy
                    simp only [List.getElem?_cons_zero, Option.some.injEq] at hy
                    subst hy
                    rw [HX.out] at hz
                    injection hz with hz
                    subst hz
                    exact HS.out)
                clear MK RB BW HPY NB IN hAG HS
                go_wp2_with fail
                go_roundg (gk - 1)
                case measure => omega
                case rel => exact ⟨k + 1, ys ++ [⟨A2, m2, d2, f⟩], by omega, by go_num, by rw [List.length_append, HYL.out]; rfl, HP2.out, M2.out, R2.out, B2.out⟩
              · have d1 : (er != 0) = true := by simpa using he
                have FN := Lib.hid (show BestS ps Cv.none er from .inr (.inr (.inr ⟨by rw [HL.out]; exact hn1, by rw [HL.out]; exact hn20, GD.out, .inl ⟨x, List.mem_of_getElem? HX.out, f, HS.out, he, rfl⟩⟩)))
                clear he MK NB IN hAG HS
                -- the error er is returned, FN.out says so
                obtain ⟨⟨r0, r1, r2⟩, ⟨y0, y1, y2⟩, hlr⟩ := RB.out.c3
                go_wp2_with fail
                have rb := RB.out.store3 (.slice none 0 0) (.int .i64 0) (.int .i64 0)
                refine bodyPost_ret (v := .tuple #[.agg #[(.slice none 0 0), .int .i64 0, .int .i64 0], .int .i64 er]) (by simp [results, Try.results58, go_sem, rb.cell]) rfl ?_
                exact retS_none FN.out (bst3 BW.out (Nat.le_refl _) _ _ _)
            · have hkn : k = n := by omega
              have hki : ¬ (k : Int) < n := by omega
              subst hkn
              obtain ⟨y0, yt, rfl⟩ : ∃ y0 yt, ys = y0 :: yt := by
                cases ys with
                | nil => have := HYL.out; simp at this; omega
                | cons y0 yt => exact ⟨y0, yt, rfl⟩
              have hyl : yt.length + 1 = k := by have := HYL.out; simpa using this
              have AP := Lib.hid (show AllP ps (y0.f :: yt.map CR.f) from ⟨by rw [HL.out]; simp; omega, fun j x f hx hf => by
                rw [show y0.f :: yt.map CR.f = (y0 :: yt).map CR.f from rfl, List.getElem?_map] at hf
                cases hy : (y0 :: yt)[j]? with
                | none => rw [hy] at hf; cases hf
                | some y =>
                  rw [hy] at hf
                  injection hf with hf
                  subst hf
                  exact HPY.out j x y hx hy⟩)
              have ROWM := Lib.hid MK.out.row
              have LENS := Lib.hid (show ∀ y ∈ y0 :: yt, y.n ≤ 1000000 from fun y hy => (MK.out.inn y hy).2.2.2)
              have hy0 := MK.out.inn y0 (List.mem_cons_self ..)
              have LO := Lib.hid (show ∀ b off s, y0.A = some ⟨b, off, s⟩ → G + 1 ≤ b ∧ b < wr.heap.size from fun b off s e => by
                obtain ⟨b', off', e', hb', _⟩ := hy0.1.2 (by have := hy0.2.2.1; omega)
                have h2 := hy0.2.1 b off s e
                rw [e] at e'; cases e'
                exact ⟨h2, hb'⟩)
              have hGl := MK.out.lt
              clear hy0 HPY HYL hk
              go_wp2_with fail
              refine (foldMax_any (G + 1) G k k y0 yt wr hyl (by omega) (Nat.le_refl _) ROWM.out LENS.out LO.out (by omega)).mono ?_
              rintro e w5 ⟨f, er, hF, A5, n5, c5, rfl, hI5, hA5, hb⟩
              replace RB := Lib.hid (RB.out.below hb RB.out.lt); replace BW := Lib.hid (bthen BW.out hb)
              have FN := Lib.hid (show BestS ps f er from .inr (.inr (.inr ⟨by rw [HL.out]; exact hn1, by rw [HL.out]; exact hn20, GD.out, .inr ⟨_, _, AP.out, hF⟩⟩)))
              have HI5 := Lib.hid hI5; have HA5 := Lib.hid hA5
              clear hF hI5 hA5 hb MK ROWM LENS LO AP
              obtain ⟨⟨r0, r1, r2⟩, ⟨y0, y1, y2⟩, hlr⟩ := RB.out.c3
              go_wp2_with fail
              have rb := RB.out.store3 (.slice A5 n5 c5) (.int .i64 f.per) (.int .i64 f.inc)
              refine bodyPost_ret (v := .tuple #[.agg #[(.slice A5 n5 c5), .int .i64 f.per, .int .i64 f.inc], .int .i64 er]) (by simp [results, Try.results58, go_sem, rb.cell]) rfl ?_
              exact retS_store FN.out HA5.out (Nat.le_refl _) (by omega) HI5.out BW.out
end Go.Proofs.Ythdibkmjoiipgaa
