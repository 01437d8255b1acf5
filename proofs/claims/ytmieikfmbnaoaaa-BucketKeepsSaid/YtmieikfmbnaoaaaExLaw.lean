/- The statement BucketExcess: the walk. -/
import Derived.Test.YtmieikfmbnaoaaaAwake11
import Derived.Test.YtmieikfmbnaoaaaSrcFr
import Derived.Test.YtmieikfmbnaoaaaEnvL
import Derived.Test.YtmieikfmbnaoaaaRowI
import Derived.Deep.LoopGhost
import Derived.Deep.RegionHeld3
import Derived.Deep.DeepCutAuto
namespace Go.Proofs.Ytmieikfmbnaoaaa
open Go.RowKit
set_option linter.unusedVariables false

/-- a list of numbers that lies in the world, apart from block p -/
structure Li (p : Nat) (w : World) (A : Option Addr) (n : Nat) (zs : List Int) : Prop where
  ints : Ints w w.heap.size A n zs
  ap : 0 < n → ∀ b off s, A = some ⟨b, off, s⟩ → b ≠ p
section
variable {p n : Nat} {w w' : World} {A : Option Addr} {zs : List Int}
theorem Li.below (h : Li p w A n zs) (hb : Below w.heap.size w w') : Li p w' A n zs := ⟨h.ints.ext hb, h.ap⟩
theorem Li.alloc (h : Li p w A n zs) (o : Obj) : Li p (w.alloc o) A n zs := h.below (balloc w o)
theorem Li.drew (h : Li p w A n zs) : Li p w.drew A n zs := ⟨h.ints, h.ap⟩
theorem Li.kept (h : Li p w A n zs) (hk : Kept w.heap.size p w w') : Li p w' A n zs := ⟨h.ints.kept0 h.ap hk, h.ap⟩
theorem Li.row {g : Nat} (h : RowI w g zs) (hn : zs.length = n) (hg : g ≠ p) : Li p w (some ⟨g, 0, none⟩) n zs := ⟨by rw [← hn]; exact h.ints, fun _ b off s e => by cases e; exact hg⟩
end
/-- the law's environment: the reader in block w.heap.size, the bucket in block W.heap.size, the sizes -/
structure XB (W w wx : World) (B b R r : Int) (A : Option Addr) (n : Nat) (zs : List Int) : Prop where
  e : EnvL w.heap.size w wx []
  bx : Blk wx W.heap.size 25 #[.int .i64 B, .int .i64 b, .int .i64 R, .int .i64 r]
  lo : Ints wx W.heap.size A n zs
  hw : W.heap.size < w.heap.size
section
variable {W w wx wy : World} {B b R r : Int} {A : Option Addr} {n : Nat} {zs : List Int}
theorem XB.sz (h : XB W w wx B b R r A n zs) : w.heap.size < wx.heap.size := h.e.s.lt
theorem XB.below (h : XB W w wx B b R r A n zs) (hb : Below wx.heap.size wx wy) : XB W w wy B b R r A n zs :=
  ⟨h.e.below hb, h.bx.below hb h.bx.lt, h.lo.below (hb.mono (by have := h.hw; have := h.sz; omega)), h.hw⟩
theorem XB.alloc (h : XB W w wx B b R r A n zs) (o : Obj) : XB W w (wx.alloc o) B b R r A n zs := h.below (balloc wx o)
theorem XB.drew (h : XB W w wx B b R r A n zs) : XB W w wx.drew B b R r A n zs := ⟨h.e.drew, h.bx, h.lo, h.hw⟩
theorem XB.kept (h : XB W w wx B b R r A n zs) (hS : SrcAt wy w.heap.size) (hk : Kept wx.heap.size w.heap.size wx wy) : XB W w wy B b R r A n zs :=
  ⟨h.e.kept hS hk, h.bx.kept (Nat.ne_of_lt h.hw) hk, h.lo.keep (fun q hq => World.cell?_of_block (hk.block q.block (by have := h.hw; have := h.sz; omega) (by have := h.hw; omega))), h.hw⟩
theorem XB.cells (h : XB W w wx B b R r A n zs) : wx.cell? ⟨W.heap.size, 0, none⟩ = some (.int .i64 B) ∧ wx.cell? ⟨W.heap.size, 1, none⟩ = some (.int .i64 b) ∧ wx.cell? ⟨W.heap.size, 2, none⟩ = some (.int .i64 R) ∧ wx.cell? ⟨W.heap.size, 3, none⟩ = some (.int .i64 r) ∧ W.heap.size < wx.heap.size := by
  have q0 := h.bx.cell 0; have q1 := h.bx.cell 1; have q2 := h.bx.cell 2; have q3 := h.bx.cell 3
  simp at q0 q1 q2 q3
  exact ⟨q0, q1, q2, q3, h.bx.lt⟩
theorem XB.li (h : XB W w wx B b R r A n zs) : Li w.heap.size wx A n zs := ⟨h.lo.more (by have := h.hw; have := h.sz; omega), fun hn b off s e => by
  obtain ⟨b', off', e', hb, _⟩ := h.lo.2 hn
  rw [e] at e'; cases e'; have := h.hw; omega⟩
theorem XB.set (h : XB W w wx B b R r A n zs) {g : Nat} (hg : w.heap.size < g) (i : Nat) (u : Value) : XB W w (wx.setCell ⟨g, i, none⟩ u) B b R r A n zs :=
  ⟨⟨h.e.s.far (by show w.heap.size < g; omega) u, h.e.k.setCell (.inr (by show w.heap.size ≤ g; omega)) u, fun x hx => by cases hx⟩, h.bx.far (by show W.heap.size ≠ g; have := h.hw; omega) u,
    h.lo.keep (fun q hq => World.cell?_setCell_other _ _ _ _ (fun e => by subst e; have := h.hw; simp at hq; omega)), h.hw⟩
end
/-- a bucket as data -/
structure Bk where
  B : Int
  b : Int
  R : Int
  r : Int
def Bk.cells (x : Bk) : List Value := [.int .i64 x.B, .int .i64 x.b, .int .i64 x.R, .int .i64 x.r]
theorem flat4_get (xs : List Bk) (k j : Nat) (q : Bk) (hx : xs[k]? = some q) (hj : j < 4) : (xs.flatMap Bk.cells)[k * 4 + j]? = q.cells[j]? := by
  induction xs generalizing k with
  | nil => simp at hx
  | cons y ys ih =>
    rw [List.flatMap_cons]
    have hl : y.cells.length = 4 := rfl
    rcases k with _ | k
    · simp at hx
      subst hx
      rw [Nat.zero_mul, Nat.zero_add, List.getElem?_append_left (by omega)]
    · rw [List.getElem?_append_right (by omega), hl, show (k + 1) * 4 + j - 4 = k * 4 + j by omega]
      exact ih k (by simpa using hx)
/-- block b is a list of buckets -/
def RowK (w : World) (b : Nat) (xs : List Bk) : Prop := Blk w b 25 (xs.flatMap Bk.cells).toArray
theorem RowK.get {w : World} {b : Nat} {xs : List Bk} (h : RowK w b xs) {k : Nat} (hk : k < xs.length) : ∃ x : Bk, w.cell? ⟨b, k * 4, none⟩ = some (.int .i64 x.B) ∧ w.cell? ⟨b, k * 4 + 1, none⟩ = some (.int .i64 x.b) ∧ w.cell? ⟨b, k * 4 + 2, none⟩ = some (.int .i64 x.R) ∧ w.cell? ⟨b, k * 4 + 3, none⟩ = some (.int .i64 x.r) ∧ b < w.heap.size := by
  have hx : xs[k]? = some xs[k] := List.getElem?_eq_getElem hk
  have hc : ∀ j, j < 4 → w.cell? ⟨b, k * 4 + j, none⟩ = (xs[k]).cells[j]? := fun j hj => by
    have := Blk.cell h (k * 4 + j)
    rw [List.getElem?_toArray, flat4_get xs k j _ hx hj] at this
    exact this
  exact ⟨xs[k], hc 0 (by omega), hc 1 (by omega), hc 2 (by omega), hc 3 (by omega), Blk.lt h⟩
/-- block b is a list of four lists of numbers -/
def LiV (p : Nat) (w : World) (v : Value) : Prop := ∃ A n c zs, v = .slice A n c ∧ Li p w A n zs ∧ n ≤ 1000
theorem LiV.below {p : Nat} {w w' : World} {v : Value} (h : LiV p w v) (hb : Below w.heap.size w w') : LiV p w' v := by
  obtain ⟨A, n, c, zs, h1, h2, h3⟩ := h
  exact ⟨A, n, c, zs, h1, h2.below hb, h3⟩
def Li4 (p : Nat) (w : World) (b : Nat) : Prop := ∃ vs : List Value, vs.length = 4 ∧ Blk w b 26 vs.toArray ∧ ∀ v ∈ vs, LiV p w v
theorem Li4.below {p : Nat} {w w' : World} {b : Nat} (h : Li4 p w b) (hb : Below w.heap.size w w') : Li4 p w' b := by
  obtain ⟨vs, h1, h2, h3⟩ := h
  exact ⟨vs, h1, h2.below hb h2.lt, fun v hv => (h3 v hv).below hb⟩
theorem Li4.get {p : Nat} {w : World} {b k : Nat} (h : Li4 p w b) (hk : k < 4) : ∃ v, w.cell? ⟨b, k, none⟩ = some v ∧ LiV p w v ∧ b < w.heap.size := by
  obtain ⟨vs, h1, h2, h3⟩ := h
  have h4 : k < vs.length := by omega
  refine ⟨vs[k], ?_, h3 _ (List.getElem_mem h4), h2.lt⟩
  have := h2.cell k
  rw [List.getElem?_toArray, List.getElem?_eq_getElem h4] at this
  exact this
theorem own_zeros {w : World} {g n : Nat} (h : w.ownsRow g 3 1 (.slice (some ⟨g, 0, none⟩) n n) n (madeCells (Value.int .i64 0).cells (n * 1)).toList) : RowI w g (List.replicate n 0) := by
  have e : (madeCells (Value.int .i64 0).cells (n * 1)).toList = (List.replicate n 0).map (Value.int .i64) := by simp [madeCells, Value.cells, Nat.mod_one, List.eq_replicate_iff]
  rw [e] at h
  exact Own.row0 (xs := List.replicate n 0) h

set_option maxHeartbeats 8000000 in
set_option maxRecDepth 100000 in
theorem excLaw_any (B1 b1 R1 r1 : Int) (A1 : Option Addr) (n1 c1 : Nat) (L1 : List Int) (A0 : Option Addr) (n0 c0 : Nat) (L : List Int) (W : World)
    (hI1 : Ints W W.heap.size A1 n1 L1) (hc1 : n1 ≤ c1) (hn1 : (n1 : Int) ≤ 9223372036854775807) (hL0 : Ints W W.heap.size A0 n0 L) (hc0 : n0 ≤ c0) (hn0 : (n0 : Int) ≤ 9223372036854775807) :
    Calls Try.prog 3 #[.agg #[.int .i64 B1, .int .i64 b1, .int .i64 R1, .int .i64 r1], .slice A1 n1 c1, .slice A0 n0 c0] W fun e w' => e = .returned (.bool true) ∧ Below W.heap.size W w' := by
  obtain ⟨i0, hi0, hz0, hz1, hz2⟩ := info_parts info_int
  have HZ := Lib.hid (And.intro hi0 (And.intro hz0 (And.intro hz1 hz2)))
  obtain ⟨w, hw⟩ : ∃ w, w = W.alloc (.cells #[.int .i64 B1, .int .i64 b1, .int .i64 R1, .int .i64 r1] 25) := ⟨_, rfl⟩
  have BX := Lib.hid (show Blk w W.heap.size 25 #[.int .i64 B1, .int .i64 b1, .int .i64 R1, .int .i64 r1] from by rw [hw]; exact Blk.new _ _ _)
  have I1 := Lib.hid (show Ints w W.heap.size A1 n1 L1 from by rw [hw]; exact hI1.alloc (Nat.le_refl _) _)
  have hL := (show Ints w w.heap.size A0 n0 L from by rw [hw]; exact hL0.alloc' _)
  have BW := Lib.hid (show Below W.heap.size W w from by rw [hw]; exact balloc _ _)
  have hWw : W.heap.size < w.heap.size := by rw [hw, World.size_alloc]; omega
  clear hI1 hL0 hi0 hz0 hz1 hz2
  go_enter Try.func3, Try.ntmps3
  go_upto_region 1 with fail
  rw [← hw]
  clear hw
  by_cases h1 : 500 < n1
  · have d1 : decide ((500 : Int) < n1) = true := by simp; omega
    have d1' : decide (500 < n1) = true := by simp; omega
    go_wp2_with fail
    refine (awake11_any _).mono ?_
    rintro q wq ⟨rfl, hbq⟩
    have bw := bthen BW.out hbq
    go_wp2_with fail
    go_ret
    exact ⟨rfl, bw⟩
  · have d1 : decide ((500 : Int) < n1) = false := by simp; omega
    have d1' : decide (500 < n1) = false := by simp; omega
    have hn5 : n1 ≤ 500 := by omega
    go_wp2_with fail
    clear d1 d1' h1
    refine (new_any A0 n0 c0 L w hL hc0 hn0).mono ?_
    rintro e w1 ⟨rfl, hS1, hb1⟩
    have E := Lib.hid (show XB W w w1 B1 b1 R1 r1 A1 n1 L1 from ⟨EnvL.start hS1 hb1, BX.out.below hb1 BX.out.lt, I1.out.below (hb1.mono (Nat.le_of_lt hWw)), hWw⟩)
    clear hL hS1 hb1 I1 BX
    go_wp2_with fail
    refine (n_any w.heap.size 30 w1 (by exact E.out.e.s) (by omega) (by omega)).mono ?_
    rintro e w2 ⟨z, hz0, hz1, rfl, hS, hk⟩
    have E := Lib.hid (E.out.kept hS hk)
    obtain ⟨k, rfl⟩ := Int.eq_ofNat_of_zero_le hz0
    clear hz0 hS hk
    have hk30 : k < 30 := by omega
    obtain ⟨hi0, hz0, hy1, hy2⟩ := HZ.out
    go_wp2_with (at_make; refine wpList_make_full _ rfl _ _ 26 rfl w2.heap.size 3 i0 _ 1 Try.underlying26 hi0 hz0 hy1 .i64 .i64 _ _ k rfl rfl rfl rfl (by rw [hy2]; omega) (by unfold maxLen; omega) (by simp) ?_; intro w3 own1 grow1)
    have hb3 : Below w2.heap.size w2 w3 := (Below.refl _ _).grown grow1 (by simp) (by simp)
    have SM := Lib.hid (own_zeros own1)
    have hgp := E.out.sz
    have E := Lib.hid (E.out.below hb3)
    clear hi0 hz0 hy1 hy2 own1 grow1 hb3 hz1
    generalize w2.heap.size = g at *
    go_loopg [9, 30] k (fun gg s9 s30 wx => ∃ (i : Nat) (zs : List Int), i + gg = k ∧ s30 = .int .i64 i ∧ Hid (zs.length = k) ∧ RowI wx g zs ∧ XB W w wx B1 b1 R1 r1 A1 n1 L1)
    case atStart => exact ⟨0, List.replicate k 0, by omega, rfl, Lib.hid (by simp), SM.out, E.out⟩
    case round =>
      clear SM E
      obtain ⟨i, zs, hig, rfl, HLZ, hR, hE⟩ := hrel
      have SM := Lib.hid hR; have E := Lib.hid hE
      clear hR hE
      by_cases hi : i < k
      · have hii : (i : Int) < k := by omega
        have hps := E.out.sz
        have il := ints_litC wr [0, 0, 1, 7, 40, 1500]
        simp only [List.map_cons, List.map_nil] at il
        have IL := Lib.hid il
        have E := Lib.hid (E.out.alloc (.cells #[.int .i64 0, .int .i64 0, .int .i64 1, .int .i64 7, .int .i64 40, .int .i64 1500] 3))
        have SM := Lib.hid (SM.out.alloc (.cells #[.int .i64 0, .int .i64 0, .int .i64 1, .int .i64 7, .int .i64 40, .int .i64 1500] 3))
        clear il
        go_wp2_with fail
        refine (pick_any w.heap.size (some ⟨wr.heap.size, 0, none⟩) 6 6 [0, 0, 1, 7, 40, 1500] _ (by exact E.out.e.s) (by exact IL.out) (fun b off s e => by cases e; omega) (by omega) (by omega)).mono ?_
        rintro e w5 ⟨⟨jj, hjj, rfl⟩, hS, hk⟩
        have E := Lib.hid (E.out.kept hS hk)
        have SM := Lib.hid (SM.out.kept (by omega) hk)
        generalize nth [0, 0, 1, 7, 40, 1500] jj = v
        clear hS hk IL hjj hps
        have q0 := SM.out.cell i (by have := HLZ.out; omega)
        have z0 := SM.out.frozen i
        have hlt := SM.out.lt
        go_wp2_with fail
        go_roundg (gk - 1)
        case measure => omega
        case rel => exact ⟨i + 1, zs.set i v, by omega, by go_num, Lib.hid (by rw [List.length_set]; exact HLZ.out), SM.out.set_ i (by have := HLZ.out; omega) v, E.out.set (by omega) i _⟩
      · have hin : i = k := by omega
        subst hin
        clear hi hig
        obtain ⟨k, hkk⟩ : ∃ k : Nat, k = i := ⟨_, rfl⟩
        subst hkk
        have hsr := E.out.sz
        have hgr := SM.out.lt
        have hgi := Lib.hid (show Ints wr wr.heap.size (some ⟨g, 0, none⟩) k zs from by have := SM.out.ints; rw [HLZ.out] at this; exact this)
        go_upto_region 11 with (at_builtin; refine wpList_app rfl _ _ 26 rfl Try.underlying26 wr.heap.size (.slice (some ⟨wr.heap.size, 0, none⟩) 0 0) 0 [] rfl (Own.empty_ wr (Nat.le_refl _)) _ (some ⟨g, 0, none⟩) k k zs rfl (hgi.out.alloc (Nat.le_refl _) _) (by omega) (by simp) ?_; intro v4 w4 own1 grow1 at1)
        simp only [Nat.zero_add, List.nil_append] at own1
        have hb4 : Below wr.heap.size wr w4 := (balloc _ _).grown grow1 (by simp) (by simp [Value.ownBlock])
        obtain ⟨A9, c9, rfl, hc9, hI9, hf9⟩ := own1.ints
        have OW := Lib.hid own1; have I9 := Lib.hid hI9; have F9 := Lib.hid hf9
        have E := Lib.hid (E.out.below hb4); have SM := Lib.hid (SM.out.below hb4 hgr)
        clear own1 grow1 at1 hb4 hI9 hf9 hgi
        go_upto_if 45 with fail
        go_cut [] (fun wx => ∃ zs2 : List Int, Li w.heap.size wx A9 k zs2 ∧ Li w.heap.size wx (some ⟨g, 0, none⟩) k zs ∧ XB W w wx B1 b1 R1 r1 A1 n1 L1)
        case first =>
          by_cases hk0 : k = 0
          · have d0 : decide ((0 : Int) < k) = false := by simp; omega
            have d0' : decide (0 < k) = false := by simp; omega
            go_wp2_with fail
            go_meet
            exact ⟨zs, ⟨I9.out, fun _ b off s e => by have := F9.out b off s e; omega⟩, Li.row SM.out HLZ.out (by omega), E.out⟩
          · have d0 : decide ((0 : Int) < k) = true := by simp; omega
            have d0' : decide (0 < k) = true := by simp; omega
            obtain ⟨g2, c2, e2, hg2, hc2, hrow⟩ := OW.out.row (by omega)
            injection e2 with e3 e4 e5
            subst e3 e5
            have RW := Lib.hid hrow
            have HZL := Lib.hid OW.out.len
            clear hrow I9 F9 OW
            go_wp2_with fail
            refine (n_any w.heap.size k _ (by exact E.out.e.s) (by omega) (by omega)).mono ?_
            rintro e w5 ⟨z, hz0, hz1, rfl, hS, hk⟩
            have E := Lib.hid (E.out.kept hS hk); have SM := Lib.hid (SM.out.kept (by omega) hk); have RW := Lib.hid (RW.out.kept (by omega) hk)
            obtain ⟨j, rfl⟩ := Int.eq_ofNat_of_zero_le hz0
            clear hz0 hS hk
            have hps := E.out.sz
            have il := ints_litC w5 [-1, 1501, 0]
            simp only [List.map_cons, List.map_nil] at il
            have IL := Lib.hid il
            have E := Lib.hid (E.out.alloc (.cells #[.int .i64 (-1), .int .i64 1501, .int .i64 0] 3)); have SM := Lib.hid (SM.out.alloc (.cells #[.int .i64 (-1), .int .i64 1501, .int .i64 0] 3)); have RW := Lib.hid (RW.out.alloc (.cells #[.int .i64 (-1), .int .i64 1501, .int .i64 0] 3))
            clear il
            go_wp2_with fail
            refine (pick_any w.heap.size (some ⟨w5.heap.size, 0, none⟩) 3 3 [-1, 1501, 0] _ (by exact E.out.e.s) (by exact IL.out) (fun b off s e => by cases e; omega) (by omega) (by omega)).mono ?_
            rintro e w6 ⟨⟨jj, hjj, rfl⟩, hS, hk⟩
            have E := Lib.hid (E.out.kept hS hk); have SM := Lib.hid (SM.out.kept (by omega) hk); have RW := Lib.hid (RW.out.kept (by omega) hk)
            generalize nth [-1, 1501, 0] jj = v
            clear hS hk IL hjj hps
            have hjk : j < k := by omega
            have q0 := RW.out.cell j (by rw [HZL.out]; exact hjk)
            have z0 := RW.out.frozen j
            have hlt := RW.out.lt
            go_wp2_with fail
            go_meet
            exact ⟨zs.set j v, Li.row (RW.out.set_ j (by rw [HZL.out]; exact hjk) v) (by rw [List.length_set]; exact HZL.out) (by omega), Li.row (SM.out.far (by show g ≠ g2; omega) _) HLZ.out (by omega), E.out.set (by omega) j _⟩
        case rest =>
          clear E SM I9 OW F9
          obtain ⟨zs2, h2, h3, hE⟩ := hcut
          have E := Lib.hid hE; have J1 := Lib.hid h2; have J2 := Lib.hid h3
          clear h2 h3 hE hc9 hsr hgr HLZ
          go_upto_region 13 with fail
          go_cut [66, 67, 68] (fun s66 s67 s68 wx => ∃ (b3 : Nat) (qs : List Bk), s66 = .slice (some ⟨b3, 0, none⟩) 3 3 ∧ s67 = .int .i64 3 ∧ s68 = .int .i64 0 ∧ qs.length = 3 ∧ b3 ≠ w.heap.size ∧ RowK wx b3 qs ∧ Li w.heap.size wx A9 k zs2 ∧ Li w.heap.size wx (some ⟨g, 0, none⟩) k zs ∧ XB W w wx B1 b1 R1 r1 A1 n1 L1)
          case first =>
            obtain ⟨f0, f1, f2, f3, hlf⟩ := E.out.cells
            go_region_held3 (fun w' => w'.cell? ⟨W.heap.size, 0, none⟩ = some (.int .i64 B1) ∧ w'.cell? ⟨W.heap.size, 1, none⟩ = some (.int .i64 b1) ∧ w'.cell? ⟨W.heap.size, 2, none⟩ = some (.int .i64 R1) ∧ w'.cell? ⟨W.heap.size, 3, none⟩ = some (.int .i64 r1)) (first | go_keep)
              (first
                | (go_at_call 19
                   have TOK := HT1
                   refine (ratio11_any w.heap.size _ (by exact E.out.e.s)).mono ?_
                   rintro e w6 ⟨x2, y2, _, rfl, hS, hk⟩
                   have E := Lib.hid (E.out.kept hS hk); have J1 := Lib.hid (J1.out.kept hk); have J2 := Lib.hid (J2.out.kept hk)
                   clear hS hk
                   clear f0 f1 f2 f3 hlf
                   obtain ⟨f0, f1, f2, f3, hlf⟩ := E.out.cells
                   dsimp only)
                | (go_at_call 19
                   refine (ratio11_any w.heap.size _ (by exact E.out.drew.e.s)).mono ?_
                   rintro e w5 ⟨x1, y1, _, rfl, hS, hk⟩
                   have hk := kofdrew hk
                   have HT1 := Lib.hid (show True from trivial)
                   have E := Lib.hid (E.out.kept hS hk); have J1 := Lib.hid (J1.out.kept hk); have J2 := Lib.hid (J2.out.kept hk)
                   clear hS hk
                   clear f0 f1 f2 f3 hlf
                   obtain ⟨f0, f1, f2, f3, hlf⟩ := E.out.cells
                   dsimp only)
                | (go_at_call 20
                   have TOK := HT3
                   refine (srcFr_any w.heap.size 9 3 _ (by exact E.out.e.s) (by omega) (by omega) (by omega) (by omega)).mono ?_
                   rintro e w8 ⟨x4, y4, _, rfl, hS, hk⟩
                   have E := Lib.hid (E.out.kept hS hk); have J1 := Lib.hid (J1.out.kept hk); have J2 := Lib.hid (J2.out.kept hk)
                   clear hS hk
                   clear f0 f1 f2 f3 hlf
                   obtain ⟨f0, f1, f2, f3, hlf⟩ := E.out.cells
                   dsimp only)
                | (go_at_call 20
                   refine (srcFr_any w.heap.size 9 3 _ (by exact E.out.e.s) (by omega) (by omega) (by omega) (by omega)).mono ?_
                   rintro e w7 ⟨x3, y3, _, rfl, hS, hk⟩
                   have HT3 := Lib.hid (show True from trivial)
                   have E := Lib.hid (E.out.kept hS hk); have J1 := Lib.hid (J1.out.kept hk); have J2 := Lib.hid (J2.out.kept hk)
                   clear hS hk
                   clear f0 f1 f2 f3 hlf
                   obtain ⟨f0, f1, f2, f3, hlf⟩ := E.out.cells
                   dsimp only))
            all_goals
              have hsz := E.out.sz
              go_wp2_with fail
              go_meet
              exact ⟨w8.heap.size, [⟨B1, b1, R1, r1⟩, ⟨x1, y1, x2, y2⟩, ⟨x3, y3, x4, y4⟩], rfl, rfl, rfl, rfl, by omega, Blk.new _ _ _, J1.out.alloc _, J2.out.alloc _, E.out.alloc _⟩
          case rest =>
            clear E J1 J2
            obtain ⟨b3, qs, rfl, rfl, rfl, hql, hb3, hRK, h2, h3, hE⟩ := hcut
            have E := Lib.hid hE; have J1 := Lib.hid h2; have J2 := Lib.hid h3; have RK := Lib.hid hRK; have HQL := Lib.hid hql
            clear h2 h3 hE hRK hql
            go_wp2_with fail
            go_loopg [68] 3 (fun gg s68 wx => ∃ kk : Nat, kk + gg = 3 ∧ s68 = .int .i64 kk ∧ RowK wx b3 qs ∧ Li w.heap.size wx A9 k zs2 ∧ Li w.heap.size wx (some ⟨g, 0, none⟩) k zs ∧ XB W w wx B1 b1 R1 r1 A1 n1 L1)
            case atStart => exact ⟨0, rfl, rfl, RK.out, J1.out, J2.out, E.out⟩
            case round =>
              clear E J1 J2 RK
              obtain ⟨kk, hkg, rfl, hRK, h2, h3, hE⟩ := hrel
              have E := Lib.hid hE; have J1 := Lib.hid h2; have J2 := Lib.hid h3; have RK := Lib.hid hRK
              clear h2 h3 hE hRK
              by_cases hk3 : kk < 3
              · have hki : (kk : Int) < 3 := by omega
                obtain ⟨X, k0, k1, k2, k3, hlw⟩ := RK.out.get (k := kk) (by rw [HQL.out]; exact hk3)
                have hps := E.out.sz
                have XK := Lib.hid (Blk.new wr 25 #[.int .i64 X.B, .int .i64 X.b, .int .i64 X.R, .int .i64 X.r])
                have E := Lib.hid (E.out.alloc (.cells #[.int .i64 X.B, .int .i64 X.b, .int .i64 X.R, .int .i64 X.r] 25)); have J1 := Lib.hid (J1.out.alloc (.cells #[.int .i64 X.B, .int .i64 X.b, .int .i64 X.R, .int .i64 X.r] 25)); have J2 := Lib.hid (J2.out.alloc (.cells #[.int .i64 X.B, .int .i64 X.b, .int .i64 X.R, .int .i64 X.r] 25)); have RK := Lib.hid (Blk.alloc RK.out (.cells #[.int .i64 X.B, .int .i64 X.b, .int .i64 X.R, .int .i64 X.r] 25))
                go_upto_region 16 with fail
                clear k0 k1 k2 k3 hlw
                have hzx : w.heap.size < wr.heap.size := hps
                generalize hwe : wr.alloc (.cells #[.int .i64 X.B, .int .i64 X.b, .int .i64 X.R, .int .i64 X.r] 25) = wo at E J1 J2 RK XK ⊢
                clear hwe hps
                generalize wr.heap.size = ZX at XK hzx ⊢
                obtain ⟨go, hgo⟩ : ∃ go : Nat, go = gk := ⟨_, rfl⟩
                subst hgo
                go_wp2_with fail
                refine (n_any w.heap.size 2 _ (by exact E.out.e.s) (by omega) (by omega)).mono ?_
                rintro e w5 ⟨z, hz0, hz1, rfl, hS, hk⟩
                have E := Lib.hid (E.out.kept hS hk); have J1 := Lib.hid (J1.out.kept hk); have J2 := Lib.hid (J2.out.kept hk); have RK := Lib.hid (Blk.kept RK.out hb3 hk); have XK := Lib.hid (XK.out.kept (by omega) hk)
                clear hS hk
                obtain ⟨M, hM⟩ : ∃ M : Nat, 381 + z = (M : Int) := ⟨(381 + z).toNat, by omega⟩
                have hMb : M ≤ 400 := by omega
                have hps := E.out.sz
                obtain ⟨hi0, hz0', hy1, hy2⟩ := HZ.out
                go_wp2_with (at_make; refine wpList_make_full _ rfl _ _ 26 rfl w5.heap.size 3 i0 _ 1 Try.underlying26 hi0 hz0' hy1 .i64 .i64 _ _ M rfl rfl rfl rfl (by rw [hy2]; omega) (by unfold maxLen; omega) (by simp) ?_; intro w6 own1 grow1; have hb6 : Below w5.heap.size w5 w6 := (Below.refl _ _).grown grow1 (by simp) (by simp); have J3 := Lib.hid (Li.row (p := w.heap.size) (own_zeros own1) (List.length_replicate ..) (by omega)); have E := Lib.hid (E.out.below hb6); have J1 := Lib.hid (J1.out.below hb6); have J2 := Lib.hid (J2.out.below hb6); have RK := Lib.hid (Blk.below RK.out hb6 (Blk.lt RK.out)); have XK := Lib.hid (XK.out.below hb6 XK.out.lt); clear hi0 hz0' hy1 hy2 own1 grow1 hb6 hM hz0 hz1)
                have L4 := Lib.hid (show Li4 w.heap.size (w6.alloc (.cells #[.slice A1 n1 c1, .slice (some ⟨g, 0, none⟩) k k, .slice A9 k c9, .slice (some ⟨w5.heap.size, 0, none⟩) M M] 26)) w6.heap.size from ⟨[.slice A1 n1 c1, .slice (some ⟨g, 0, none⟩) k k, .slice A9 k c9, .slice (some ⟨w5.heap.size, 0, none⟩) M M], rfl, Blk.new _ _ _, (by
                  intro v hv
                  simp only [List.mem_cons, List.not_mem_nil, or_false] at hv
                  rcases hv with rfl | rfl | rfl | rfl
                  · exact ⟨_, _, _, _, rfl, E.out.li.alloc _, by omega⟩
                  · exact ⟨_, _, _, _, rfl, J2.out.alloc _, by omega⟩
                  · exact ⟨_, _, _, _, rfl, J1.out.alloc _, by omega⟩
                  · exact ⟨_, _, _, _, rfl, J3.out.alloc _, by omega⟩)⟩)
                have E := Lib.hid (E.out.alloc (.cells #[.slice A1 n1 c1, .slice (some ⟨g, 0, none⟩) k k, .slice A9 k c9, .slice (some ⟨w5.heap.size, 0, none⟩) M M] 26)); have J1 := Lib.hid (J1.out.alloc (.cells #[.slice A1 n1 c1, .slice (some ⟨g, 0, none⟩) k k, .slice A9 k c9, .slice (some ⟨w5.heap.size, 0, none⟩) M M] 26)); have J2 := Lib.hid (J2.out.alloc (.cells #[.slice A1 n1 c1, .slice (some ⟨g, 0, none⟩) k k, .slice A9 k c9, .slice (some ⟨w5.heap.size, 0, none⟩) M M] 26)); have RK := Lib.hid (Blk.alloc RK.out (.cells #[.slice A1 n1 c1, .slice (some ⟨g, 0, none⟩) k k, .slice A9 k c9, .slice (some ⟨w5.heap.size, 0, none⟩) M M] 26)); have XK := Lib.hid (XK.out.alloc (.cells #[.slice A1 n1 c1, .slice (some ⟨g, 0, none⟩) k k, .slice A9 k c9, .slice (some ⟨w5.heap.size, 0, none⟩) M M] 26))
                clear J3
                go_wp2_with fail
                generalize hwe : w6.alloc (.cells #[.slice A1 n1 c1, .slice (some ⟨g, 0, none⟩) k k, .slice A9 k c9, .slice (some ⟨w5.heap.size, 0, none⟩) M M] 26) = wi at E J1 J2 RK XK L4 ⊢
                clear hwe
                generalize w6.heap.size = b4 at L4 ⊢
                go_loopg [81] 4 (fun gg s81 wx => ∃ j : Nat, j + gg = 4 ∧ s81 = .int .i64 j ∧ Below wi.heap.size wi wx)
                case atStart => exact ⟨0, rfl, rfl, Below.refl _ _⟩
                case round =>
                  obtain ⟨j, hjg, rfl, hB⟩ := hrel
                  have BI := Lib.hid hB
                  clear hB
                  by_cases hj : j < 4
                  · have hji : (j : Int) < 4 := by omega
                    obtain ⟨vv, hcv, ⟨Ay, ny, cy, zy, rfl, hLy, hny⟩, hbl⟩ := (L4.out.below BI.out).get hj
                    have LY := Lib.hid hLy
                    go_upto_region 19 with fail
                    clear hcv hbl hLy
                    obtain ⟨x0, x1, x2, x3'⟩ : _ ∧ _ ∧ _ ∧ _ := ⟨(XK.out.below BI.out XK.out.lt).cell 0, (XK.out.below BI.out XK.out.lt).cell 1, (XK.out.below BI.out XK.out.lt).cell 2, (XK.out.below BI.out XK.out.lt).cell 3⟩
                    simp at x0 x1 x2 x3'
                    have hlx := (XK.out.below BI.out XK.out.lt).lt
                    go_wp2_with fail
                    refine (excess_any X.B X.b X.R X.r Ay ny cy zy _ (by exact LY.out.ints) (by omega)).mono ?_
                    rintro e wa ⟨x3, y3, r3, hS, rfl, hb⟩
                    have HS := Lib.hid hS
                    clear x0 x1 x2 x3' hlx
                    replace BI := Lib.hid (bthen (bthen BI.out hb) (balloc _ (.cells #[.int .i64 x3, .int .i64 y3] 23))); replace LY := Lib.hid ((LY.out.below hb).alloc (.cells #[.int .i64 x3, .int .i64 y3] 23))
                    have D1 := Lib.hid (Blk.new wa 23 #[.int .i64 x3, .int .i64 y3])
                    clear hS hb
                    go_upto_region 20 with fail
                    generalize hwe : wa.alloc (.cells #[.int .i64 x3, .int .i64 y3] 23) = wc at *
                    clear hwe
                    generalize wa.heap.size = Z1 at *
                    obtain ⟨x0, x1, x2, x3'⟩ : _ ∧ _ ∧ _ ∧ _ := ⟨(XK.out.below BI.out XK.out.lt).cell 0, (XK.out.below BI.out XK.out.lt).cell 1, (XK.out.below BI.out XK.out.lt).cell 2, (XK.out.below BI.out XK.out.lt).cell 3⟩
                    simp at x0 x1 x2 x3'
                    have hlx := (XK.out.below BI.out XK.out.lt).lt
                    go_wp2_with fail
                    refine (refExcess_any X.B X.b X.R X.r Ay ny cy zy _ (by exact LY.out.ints) (by omega)).mono ?_
                    rintro e wb ⟨x4, y4, r4, hS, rfl, hb⟩
                    obtain ⟨e1, e2, e3⟩ := ExcS.unique HS.out hS
                    subst e1 e2 e3
                    clear x0 x1 x2 x3' hlx
                    replace D1 := Lib.hid ((D1.out.below hb D1.out.lt).alloc (.cells #[.int .i64 x3, .int .i64 y3] 23)); replace BI := Lib.hid (bthen (bthen BI.out hb) (balloc _ (.cells #[.int .i64 x3, .int .i64 y3] 23)))
                    have D2 := Lib.hid (Blk.new wb 23 #[.int .i64 x3, .int .i64 y3])
                    clear hS hb HS LY
                    go_upto_region 21 with fail
                    generalize hwe : wb.alloc (.cells #[.int .i64 x3, .int .i64 y3] 23) = wd at *
                    clear hwe
                    generalize wb.heap.size = Z2 at *
                    obtain ⟨y0, y1⟩ : _ ∧ _ := ⟨D1.out.cell 0, D1.out.cell 1⟩
                    obtain ⟨z0, z1⟩ : _ ∧ _ := ⟨D2.out.cell 0, D2.out.cell 1⟩
                    simp at y0 y1 z0 z1
                    have hy := D1.out.lt; have hz := D2.out.lt
                    have g1 : (r3 != r3) = false := by simp
                    go_wp2_with fail
                    go_roundg (gk - 1)
                    case measure => omega
                    case rel => exact ⟨j + 1, by omega, by go_num, BI.out⟩
                  · have hj4 : j = 4 := by omega
                    subst hj4
                    clear hj hjg
                    go_wp2_with fail
                    go_roundg (go - 1)
                    case measure => omega
                    case rel => exact ⟨kk + 1, by omega, by go_num, Blk.below RK.out BI.out (Blk.lt RK.out), J1.out.below BI.out, J2.out.below BI.out, E.out.below BI.out⟩
              · have hk3' : kk = 3 := by omega
                subst hk3'
                clear hk3 hkg
                go_wp2_with fail
                refine (awake11_any _).mono ?_
                rintro q wq ⟨rfl, hbq⟩
                have bw := bthen BW.out (E.out.below hbq).e.fin
                go_wp2_with fail
                go_ret
                exact ⟨rfl, bw⟩
end Go.Proofs.Ytmieikfmbnaoaaa
