/- netcalculuslaw08.short: whether the lists are short. -/
import Derived.Test.YthgfmaijoigckaaEnvL
import Derived.Test.YthgfmaijoigckaaRefValid
import Derived.Test.YthgfmaijoigckaaPwBoth
import Derived.Test.YthgfmaijoigckaaDcChk
import Derived.Test.YthgfmaijoigckaaRefSame
import Derived.Deep.LoopGhost
namespace Go.Proofs.Ythgfmaijoigckaa
open Go.RowKit
set_option linter.unusedVariables false

theorem refValid_big (A : Option Addr) (n c : Nat) (p i : Int) (w : World) (hn : 400 < n) (hn2 : (n : Int) ≤ 9223372036854775807) :
    Calls Try.prog 67 #[.agg #[.slice A n c, .int .i64 p, .int .i64 i]] w fun e w' => e = .returned (.bool false) ∧ Below w.heap.size w w' := by
  have d1 : decide ((n : Int) < 1) = false := by simp; omega
  have d2 : decide (400 < (n : Int)) = true := by simp; omega
  have bw := balloc w (.cells #[.slice A n c, .int .i64 p, .int .i64 i] 44)
  go_enter Try.func67, Try.ntmps67
  go_wp2
  go_ret
  exact ⟨rfl, bw⟩
theorem bthen' {w w1 w2 : World} (h : Below w.heap.size w w1) (k : Below w1.heap.size w1 w2) : Below w.heap.size w w2 := bthen h k
/-- what short returns -/
def RetSh (xs : List CR) (w : World) (e : Ending) (w' : World) : Prop := ∃ z, e = .returned (.bool z) ∧ (z = true → ∀ x ∈ xs, x.n ≤ 800) ∧ Below w.heap.size w w'
set_option maxHeartbeats 2000000 in
set_option maxRecDepth 100000 in
theorem short_any (b cap N : Nat) (xs : List CR) (w : World) (hN : xs.length = N) (hN2 : N ≤ 100) (hR : Row w.heap.size w b xs) (h9 : ∀ x ∈ xs, (x.n : Int) ≤ 9223372036854775807) :
    Calls Try.prog 22 #[.slice (some ⟨b, 0, none⟩) N cap] w (RetSh xs w) := by
  have ROW := Lib.hid hR; have H9 := Lib.hid h9; have HN := Lib.hid hN
  have BW := Lib.hid (Below.refl w.heap.size w)
  clear hR h9 hN
  go_enter Try.func22, Try.ntmps22
  go_wp2_with fail
  go_loopg [4, 7] N (fun gg s4 s7 wx => ∃ k : Nat, k + gg = N ∧ s7 = .int .i64 k ∧ (∀ j y, j < k → xs[j]? = some y → y.n ≤ 800) ∧ Row w.heap.size wx b xs ∧ Below w.heap.size w wx)
  case atStart => exact ⟨0, by omega, rfl, (fun j y hj => by omega), ROW.out, BW.out⟩
  case round =>
    clear ROW BW
    obtain ⟨k, hkg, rfl, hg, hR, hB⟩ := hrel
    have ROW := Lib.hid hR; have BW := Lib.hid hB; have HG := Lib.hid hg
    clear hR hB hg
    by_cases hk : k < N
    · have hki : (k : Int) < N := by omega
      have hkx : k < xs.length := by rw [HN.out]; exact hk
      obtain ⟨x, hx⟩ : ∃ x, x = xs[k] := ⟨_, rfl⟩
      have HXK := Lib.hid (show xs[k]? = some x from by rw [hx]; exact List.getElem?_eq_getElem hkx)
      have hxm : x ∈ xs := by rw [hx]; exact List.getElem_mem hkx
      have hx9 := H9.out x hxm
      have hcell : ∀ j, j < 3 → wr.cell? ⟨b, k * 3 + j, none⟩ = x.cells[j]? := fun j hj => by
        have := ROW.out.blk.cell (k * 3 + j)
        rw [List.getElem?_toArray, flat_get xs k j x HXK.out hj] at this
        exact this
      have c0 := hcell 0 (by omega); have c1 := hcell 1 (by omega); have c2 := hcell 2 (by omega)
      simp [CR.cells] at c0 c1 c2
      have hlb := ROW.out.lt
      have XI := Lib.hid (ROW.out.inn x hxm)
      clear hcell hx hxm hkx
      go_upto_region 4 with fail
      clear c0 c1 c2 hlb
      have LX := Lib.hid (Blk.new wr 44 #[.slice x.A x.n x.c, .int .i64 x.f.per, .int .i64 x.f.inc])
      have IX := Lib.hid (XI.out.ints.alloc' (.cells #[.slice x.A x.n x.c, .int .i64 x.f.per, .int .i64 x.f.inc] 44))
      have ROW := Lib.hid (ROW.out.alloc (.cells #[.slice x.A x.n x.c, .int .i64 x.f.per, .int .i64 x.f.inc] 44))
      have BW := Lib.hid (bthen' BW.out (balloc wr (.cells #[.slice x.A x.n x.c, .int .i64 x.f.per, .int .i64 x.f.inc] 44)))
      generalize hwe : wr.alloc (.cells #[.slice x.A x.n x.c, .int .i64 x.f.per, .int .i64 x.f.inc] 44) = wo at *
      clear hwe XI
      generalize wr.heap.size = G at *
      obtain ⟨⟨k0, k1, k2⟩, _, hlx⟩ := LX.out.c3
      by_cases h60 : 60 < x.n
      · have dg : decide ((60 : Int) < (x.n : Int)) = true := by simp; omega
        have dg' : decide (60 < x.n) = true := by simp; omega
        clear h60
        by_cases hbig : 400 < x.n
        · go_wp2_with fail
          refine (refValid_big x.A x.n x.c x.f.per x.f.inc _ hbig hx9).mono ?_
          rintro e w2 ⟨rfl, hb⟩
          have ROW := Lib.hid (ROW.out.below hb); have LX := Lib.hid (LX.out.below hb LX.out.lt); have BW := Lib.hid (bthen' BW.out hb)
          clear hb IX
          clear k0 k1 k2 hlx
          obtain ⟨⟨k0, k1, k2⟩, _, hlx⟩ := LX.out.c3
          go_wp2_with fail
          refine (small_any x.A x.n x.c x.f.per x.f.inc _ hx9).mono ?_
          rintro e w3 ⟨rfl, hb⟩
          have ROW := Lib.hid (ROW.out.below hb); have LX := Lib.hid (LX.out.below hb LX.out.lt); have BW := Lib.hid (bthen' BW.out hb)
          clear hb
          clear k0 k1 k2 hlx
          obtain ⟨⟨k0, k1, k2⟩, _, hlx⟩ := LX.out.c3
          by_cases h8 : (x.n : Int) ≤ 800
          · rw [decide_eq_true h8]
            have G2 := Lib.hid (show ∀ j y, j < k + 1 → xs[j]? = some y → y.n ≤ 800 from fun j y hj hy => by
              rcases Nat.lt_or_ge j k with h1 | h1
              · exact HG.out j y h1 hy
              · obtain rfl : j = k := by omega
                rw [HXK.out] at hy
                injection hy with hy
                subst hy
                omega)
            go_wp2_with fail
            go_roundg (gk - 1)
            case measure => omega
            case rel => exact ⟨k + 1, by omega, by go_num, G2.out, ROW.out, BW.out⟩
          · rw [decide_eq_false h8]
            have bw := BW.out
            go_wp2_with fail
            go_ret
            exact ⟨_, rfl, (fun h => by cases h), bw⟩
        · obtain ⟨v, hv⟩ : ∃ v, v = Cv.okB ⟨x.f.vals, x.f.per, x.f.inc⟩ := ⟨_, rfl⟩
          have HV := Lib.hid hv
          clear hv
          go_wp2_with fail
          refine (refValid_any x.A x.n x.c x.f.per x.f.inc x.f.vals _ (by exact IX.out) (by omega)).mono ?_
          rw [← HV.out]
          rintro e w2 ⟨rfl, hb⟩
          have ROW := Lib.hid (ROW.out.below hb); have LX := Lib.hid (LX.out.below hb LX.out.lt); have BW := Lib.hid (bthen' BW.out hb)
          clear hb IX
          clear k0 k1 k2 hlx
          obtain ⟨⟨k0, k1, k2⟩, _, hlx⟩ := LX.out.c3
          cases v
          case true =>
            have bw := BW.out
            go_wp2_with fail
            go_ret
            exact ⟨_, rfl, (fun h => by cases h), bw⟩
          case false =>
            go_wp2_with fail
            refine (small_any x.A x.n x.c x.f.per x.f.inc _ hx9).mono ?_
            rintro e w3 ⟨rfl, hb⟩
            have ROW := Lib.hid (ROW.out.below hb); have LX := Lib.hid (LX.out.below hb LX.out.lt); have BW := Lib.hid (bthen' BW.out hb)
            clear hb
            clear k0 k1 k2 hlx
            obtain ⟨⟨k0, k1, k2⟩, _, hlx⟩ := LX.out.c3
            by_cases h8 : (x.n : Int) ≤ 800
            · rw [decide_eq_true h8]
              have G2 := Lib.hid (show ∀ j y, j < k + 1 → xs[j]? = some y → y.n ≤ 800 from fun j y hj hy => by
                rcases Nat.lt_or_ge j k with h1 | h1
                · exact HG.out j y h1 hy
                · obtain rfl : j = k := by omega
                  rw [HXK.out] at hy
                  injection hy with hy
                  subst hy
                  omega)
              go_wp2_with fail
              go_roundg (gk - 1)
              case measure => omega
              case rel => exact ⟨k + 1, by omega, by go_num, G2.out, ROW.out, BW.out⟩
            · rw [decide_eq_false h8]
              have bw := BW.out
              go_wp2_with fail
              go_ret
              exact ⟨_, rfl, (fun h => by cases h), bw⟩
      · have dg : decide ((60 : Int) < (x.n : Int)) = false := by simp; omega
        have dg' : decide (60 < x.n) = false := by simp; omega
        clear h60
        go_wp2_with fail
        refine (small_any x.A x.n x.c x.f.per x.f.inc _ hx9).mono ?_
        rintro e w3 ⟨rfl, hb⟩
        have ROW := Lib.hid (ROW.out.below hb); have LX := Lib.hid (LX.out.below hb LX.out.lt); have BW := Lib.hid (bthen' BW.out hb)
        clear hb
        clear k0 k1 k2 hlx
        obtain ⟨⟨k0, k1, k2⟩, _, hlx⟩ := LX.out.c3
        by_cases h8 : (x.n : Int) ≤ 800
        · rw [decide_eq_true h8]
          have G2 := Lib.hid (show ∀ j y, j < k + 1 → xs[j]? = some y → y.n ≤ 800 from fun j y hj hy => by
            rcases Nat.lt_or_ge j k with h1 | h1
            · exact HG.out j y h1 hy
            · obtain rfl : j = k := by omega
              rw [HXK.out] at hy
              injection hy with hy
              subst hy
              omega)
          go_wp2_with fail
          go_roundg (gk - 1)
          case measure => omega
          case rel => exact ⟨k + 1, by omega, by go_num, G2.out, ROW.out, BW.out⟩
        · rw [decide_eq_false h8]
          have bw := BW.out
          go_wp2_with fail
          go_ret
          exact ⟨_, rfl, (fun h => by cases h), bw⟩
    · have hkN : k = N := by omega
      have ALL := Lib.hid (show ∀ x ∈ xs, x.n ≤ 800 from fun x hx => by
        obtain ⟨j, hj, he⟩ := List.getElem_of_mem hx
        exact HG.out j x (by rw [hkN, ← HN.out]; exact hj) (by rw [List.getElem?_eq_getElem hj, he]))
      have hki : ¬ (k : Int) < N := by omega
      have bw := BW.out
      clear hk hkN
      go_wp2_with fail
      go_ret
      exact ⟨_, rfl, fun _ => ALL.out, bw⟩
end Go.Proofs.Ythgfmaijoigckaa
namespace Go.Proofs.Ythgfmaijoigckaa
open Go.RowKit
set_option linter.unusedVariables false

/-- a curve that may be handed on -/
def CR.FitD (x : CR) : Prop := x.n ≤ 1000 ∧ x.n ≤ x.c
theorem EnvL.addD {p F : Nat} {w0 w : World} {vs : List (Nat × CR)} {X : CR} (h : EnvL p w0 w vs) (hx : Lc p w F X) : EnvL p w0 w (vs ++ [(F, X)]) := ⟨h.s, h.k, fun x hx' => by
  rcases List.mem_append.1 hx' with hx' | hx'
  · exact h.v x hx'
  · simp only [List.mem_singleton] at hx'
    subst hx'
    exact hx⟩
theorem b3sD {B : Nat} {w0 w : World} (h : Below B w0 w) {g : Nat} (hg : B ≤ g) (x y z : Value) : Below B w0 (((w.setCell ⟨g, 0, none⟩ x).setCell ⟨g, 1, none⟩ y).setCell ⟨g, 2, none⟩ z) := ((h.setCell (by simpa using hg) x).setCell (by simpa using hg) y).setCell (by simpa using hg) z
theorem Blk.far3D {w : World} {b g : Nat} {t : TypeId} {cs : Array Value} (h : Blk w b t cs) (hne : b ≠ g) (x y z : Value) : Blk (((w.setCell ⟨g, 0, none⟩ x).setCell ⟨g, 1, none⟩ y).setCell ⟨g, 2, none⟩ z) b t cs :=
  h.sto ((((Sto.refl g w).set 0 x).set 1 y).set 2 z) hne
/-- the block F is a variable that holds two curves -/
structure LcP (p : Nat) (w : World) (F : Nat) (x y : CR) : Prop where
  blk : Blk w F 48 #[.slice x.A x.n x.c, .int .i64 x.f.per, .int .i64 x.f.inc, .slice y.A y.n y.c, .int .i64 y.f.per, .int .i64 y.f.inc]
  ix : x.In p w
  iy : y.In p w
section
variable {p F : Nat} {w w' : World} {x y : CR}
theorem LcP.below (h : LcP p w F x y) (hb : Below w.heap.size w w') : LcP p w' F x y := ⟨h.blk.below hb h.blk.lt, h.ix.below hb, h.iy.below hb⟩
theorem LcP.kept (h : LcP p w F x y) (hne : F ≠ p) (hk : Kept w.heap.size p w w') : LcP p w' F x y := ⟨h.blk.kept hne hk, h.ix.kept hk, h.iy.kept hk⟩
theorem LcP.alloc (h : LcP p w F x y) (o : Obj) : LcP p (w.alloc o) F x y := h.below (balloc w o)
theorem LcP.cells (h : LcP p w F x y) : w.cell? ⟨F, 0, none⟩ = some (.slice x.A x.n x.c) ∧ w.cell? ⟨F, 1, none⟩ = some (.int .i64 x.f.per) ∧ w.cell? ⟨F, 2, none⟩ = some (.int .i64 x.f.inc) ∧
    w.cell? ⟨F, 3, none⟩ = some (.slice y.A y.n y.c) ∧ w.cell? ⟨F, 4, none⟩ = some (.int .i64 y.f.per) ∧ w.cell? ⟨F, 5, none⟩ = some (.int .i64 y.f.inc) ∧ F < w.heap.size := by
  have q0 := h.blk.cell 0; have q1 := h.blk.cell 1; have q2 := h.blk.cell 2; have q3 := h.blk.cell 3; have q4 := h.blk.cell 4; have q5 := h.blk.cell 5
  simp at q0 q1 q2 q3 q4 q5
  exact ⟨q0, q1, q2, q3, q4, q5, h.blk.lt⟩
theorem LcP.new (hx : x.In p w) (hy : y.In p w) : LcP p (w.alloc (.cells #[.slice x.A x.n x.c, .int .i64 x.f.per, .int .i64 x.f.inc, .slice y.A y.n y.c, .int .i64 y.f.per, .int .i64 y.f.inc] 48)) w.heap.size x y :=
  ⟨Blk.new _ _ _, hx.alloc _, hy.alloc _⟩
end
def CR.two (q : CR × CR) : List Value := q.1.cells ++ q.2.cells
theorem flat6_get (xs : List (CR × CR)) (k j : Nat) (q : CR × CR) (hx : xs[k]? = some q) (hj : j < 6) : (xs.flatMap CR.two)[k * 6 + j]? = (CR.two q)[j]? := by
  induction xs generalizing k with
  | nil => simp at hx
  | cons y ys ih =>
    rw [List.flatMap_cons]
    have hl : (CR.two y).length = 6 := rfl
    rcases k with _ | k
    · simp at hx
      subst hx
      rw [Nat.zero_mul, Nat.zero_add, List.getElem?_append_left (by omega)]
    · rw [List.getElem?_append_right (by omega), hl, show (k + 1) * 6 + j - 6 = k * 6 + j by omega]
      exact ih k (by simpa using hx)
/-- block b is a list of pairs of curves -/
structure RowP (p : Nat) (w : World) (b : Nat) (xs : List (CR × CR)) : Prop where
  blk : Blk w b 48 (xs.flatMap CR.two).toArray
  inn : ∀ q ∈ xs, q.1.In p w ∧ q.2.In p w
  ne : b ≠ p
section
variable {p b : Nat} {w w' : World} {xs : List (CR × CR)}
theorem RowP.lt (h : RowP p w b xs) : b < w.heap.size := h.blk.lt
theorem RowP.below (h : RowP p w b xs) (hb : Below w.heap.size w w') : RowP p w' b xs := ⟨h.blk.below hb h.lt, fun x hx => ⟨(h.inn x hx).1.below hb, (h.inn x hx).2.below hb⟩, h.ne⟩
theorem RowP.kept (h : RowP p w b xs) (hk : Kept w.heap.size p w w') : RowP p w' b xs := ⟨h.blk.kept h.ne hk, fun x hx => ⟨(h.inn x hx).1.kept hk, (h.inn x hx).2.kept hk⟩, h.ne⟩
theorem RowP.alloc (h : RowP p w b xs) (o : Obj) : RowP p (w.alloc o) b xs := h.below (balloc w o)
theorem RowP.get (h : RowP p w b xs) {k : Nat} (hk : k < xs.length) : ∃ x y, (x, y) ∈ xs ∧ x.In p w ∧ y.In p w ∧
    w.cell? ⟨b, k * 6, none⟩ = some (.slice x.A x.n x.c) ∧ w.cell? ⟨b, k * 6 + 1, none⟩ = some (.int .i64 x.f.per) ∧ w.cell? ⟨b, k * 6 + 2, none⟩ = some (.int .i64 x.f.inc) ∧
    w.cell? ⟨b, k * 6 + 3, none⟩ = some (.slice y.A y.n y.c) ∧ w.cell? ⟨b, k * 6 + 4, none⟩ = some (.int .i64 y.f.per) ∧ w.cell? ⟨b, k * 6 + 5, none⟩ = some (.int .i64 y.f.inc) := by
  have hx : xs[k]? = some xs[k] := List.getElem?_eq_getElem hk
  have hm := List.getElem_mem hk
  have hc : ∀ j, j < 6 → w.cell? ⟨b, k * 6 + j, none⟩ = (CR.two xs[k])[j]? := fun j hj => by
    have := h.blk.cell (k * 6 + j)
    rw [List.getElem?_toArray, flat6_get xs k j _ hx hj] at this
    exact this
  exact ⟨xs[k].1, xs[k].2, hm, (h.inn _ hm).1, (h.inn _ hm).2, hc 0 (by omega), hc 1 (by omega), hc 2 (by omega), hc 3 (by omega), hc 4 (by omega), hc 5 (by omega)⟩
end
end Go.Proofs.Ythgfmaijoigckaa
