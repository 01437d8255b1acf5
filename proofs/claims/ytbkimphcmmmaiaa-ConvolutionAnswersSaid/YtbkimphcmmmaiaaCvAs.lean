/- The statement ConvolutionAnswers: the walk (begun). -/
import Derived.Test.YtbkimphcmmmaiaaRef7Q
import Derived.Test.YtbkimphcmmmaiaaAll7Q
import Derived.Test.YtbkimphcmmmaiaaShort7
import Derived.Test.YtbkimphcmmmaiaaBent
import Derived.Test.YtbkimphcmmmaiaaZero
import Derived.Test.YtbkimphcmmmaiaaSteps
import Derived.Deep.LoopGhost
import Derived.Deep.RegionHeld3
import Derived.Deep.DeepCutAuto
namespace Go.Proofs.Ytbkimphcmmmaiaa
open Go.RowKit
set_option linter.unusedVariables false

/-- a curve's slice is short and has room for its length -/
def CR.FitD (x : CR) : Prop := x.n ≤ 1000 ∧ x.n ≤ x.c
theorem EnvL.addD {p F : Nat} {w0 w : World} {vs : List (Nat × CR)} {X : CR} (h : EnvL p w0 w vs) (hx : Lc p w F X) : EnvL p w0 w (vs ++ [(F, X)]) := ⟨h.s, h.k, fun x hx' => by
  rcases List.mem_append.1 hx' with hx' | hx'
  · exact h.v x hx'
  · simp only [List.mem_singleton] at hx'
    subst hx'
    exact hx⟩
theorem b3sD {B : Nat} {w0 w : World} (h : Below B w0 w) {g : Nat} (hg : B ≤ g) (x y z : Value) : Below B w0 (((w.setCell ⟨g, 0, none⟩ x).setCell ⟨g, 1, none⟩ y).setCell ⟨g, 2, none⟩ z) := ((h.setCell (by simpa using hg) x).setCell (by simpa using hg) y).setCell (by simpa using hg) z
theorem Blk.far3D {w : World} {b g : Nat} {t : TypeId} {cs : Array Value} (h : Blk w b t cs) (hne : b ≠ g) (x y z : Value) : Blk (((w.setCell ⟨g, 0, none⟩ x).setCell ⟨g, 1, none⟩ y).setCell ⟨g, 2, none⟩ z) b t cs :=
  h.sto ((((Sto.refl g w).set 0 x).set 1 y).set 2 z) hne
/-- the block F is a variable that holds two curves -/
structure LcP (p : Nat) (w : World) (F : Nat) (x y : CR) : Prop where
  blk : Blk w F 54 #[.slice x.A x.n x.c, .int .i64 x.f.per, .int .i64 x.f.inc, .slice y.A y.n y.c, .int .i64 y.f.per, .int .i64 y.f.inc]
  ix : x.In p w
  iy : y.In p w
section
variable {p F : Nat} {w w' : World} {x y : CR}
theorem LcP.below (h : LcP p w F x y) (hb : Below w.heap.size w w') : LcP p w' F x y := ⟨h.blk.below hb h.blk.lt, h.ix.below hb, h.iy.below hb⟩
theorem LcP.kept (h : LcP p w F x y) (hne : F ≠ p) (hk : Kept w.heap.size p w w') : LcP p w' F x y := ⟨h.blk.kept hne hk, h.ix.kept hk, h.iy.kept hk⟩
theorem LcP.alloc (h : LcP p w F x y) (o : Obj) : LcP p (w.alloc o) F x y := h.below (balloc w o)
theorem LcP.cells (h : LcP p w F x y) : w.cell? ⟨F, 0, none⟩ = some (.slice x.A x.n x.c) ∧ w.cell? ⟨F, 1, none⟩ = some (.int .i64 x.f.per) ∧ w.cell? ⟨F, 2, none⟩ = some (.int .i64 x.f.inc) ∧
    w.cell? ⟨F, 3, none⟩ = some (.slice y.A y.n y.c) ∧ w.cell? ⟨F, 4, none⟩ = some (.int .i64 y.f.per) ∧ w.cell? ⟨F, 5, none⟩ = some (.int .i64 y.f.inc) ∧ F < w.heap.size := by
  have q0 := h.blk.cell 0; have q1 := h.blk.cell 1; have q2 := h.blk.cell 2; have q3 := h.blk.cell 3; have q4 := h.blk.cell 4; have q5 := h.blk.cell 5
  simp at q0 q1 q2 q3 q4 q5
  exact ⟨q0, q1, q2, q3, q4, q5, h.blk.lt⟩
theorem LcP.new (hx : x.In p w) (hy : y.In p w) : LcP p (w.alloc (.cells #[.slice x.A x.n x.c, .int .i64 x.f.per, .int .i64 x.f.inc, .slice y.A y.n y.c, .int .i64 y.f.per, .int .i64 y.f.inc] 54)) w.heap.size x y :=
  ⟨Blk.new _ _ _, hx.alloc _, hy.alloc _⟩
end
def CR.two (q : CR × CR) : List Value := q.1.cells ++ q.2.cells
theorem flat6_get (xs : List (CR × CR)) (k j : Nat) (q : CR × CR) (hx : xs[k]? = some q) (hj : j < 6) : (xs.flatMap CR.two)[k * 6 + j]? = (CR.two q)[j]? := by
  induction xs generalizing k with
  | nil => simp at hx
  | cons y ys ih =>
    rw [List.flatMap_cons]
    have hl : (CR.two y).length = 6 := rfl
    rcases k with _ | k
    · simp at hx
      subst hx
      rw [Nat.zero_mul, Nat.zero_add, List.getElem?_append_left (by omega)]
    · rw [List.getElem?_append_right (by omega), hl, show (k + 1) * 6 + j - 6 = k * 6 + j by omega]
      exact ih k (by simpa using hx)
/-- block b is a list of pairs of curves -/
structure RowP (p : Nat) (w : World) (b : Nat) (xs : List (CR × CR)) : Prop where
  blk : Blk w b 54 (xs.flatMap CR.two).toArray
  inn : ∀ q ∈ xs, q.1.In p w ∧ q.2.In p w
  ne : b ≠ p
section
variable {p b : Nat} {w w' : World} {xs : List (CR × CR)}
theorem RowP.lt (h : RowP p w b xs) : b < w.heap.size := h.blk.lt
theorem RowP.below (h : RowP p w b xs) (hb : Below w.heap.size w w') : RowP p w' b xs := ⟨h.blk.below hb h.lt, fun x hx => ⟨(h.inn x hx).1.below hb, (h.inn x hx).2.below hb⟩, h.ne⟩
theorem RowP.kept (h : RowP p w b xs) (hk : Kept w.heap.size p w w') : RowP p w' b xs := ⟨h.blk.kept h.ne hk, fun x hx => ⟨(h.inn x hx).1.kept hk, (h.inn x hx).2.kept hk⟩, h.ne⟩
theorem RowP.alloc (h : RowP p w b xs) (o : Obj) : RowP p (w.alloc o) b xs := h.below (balloc w o)
theorem RowP.get (h : RowP p w b xs) {k : Nat} (hk : k < xs.length) : ∃ x y, (x, y) ∈ xs ∧ x.In p w ∧ y.In p w ∧
    w.cell? ⟨b, k * 6, none⟩ = some (.slice x.A x.n x.c) ∧ w.cell? ⟨b, k * 6 + 1, none⟩ = some (.int .i64 x.f.per) ∧ w.cell? ⟨b, k * 6 + 2, none⟩ = some (.int .i64 x.f.inc) ∧
    w.cell? ⟨b, k * 6 + 3, none⟩ = some (.slice y.A y.n y.c) ∧ w.cell? ⟨b, k * 6 + 4, none⟩ = some (.int .i64 y.f.per) ∧ w.cell? ⟨b, k * 6 + 5, none⟩ = some (.int .i64 y.f.inc) := by
  have hx : xs[k]? = some xs[k] := List.getElem?_eq_getElem hk
  have hm := List.getElem_mem hk
  have hc : ∀ j, j < 6 → w.cell? ⟨b, k * 6 + j, none⟩ = (CR.two xs[k])[j]? := fun j hj => by
    have := h.blk.cell (k * 6 + j)
    rw [List.getElem?_toArray, flat6_get xs k j _ hx hj] at this
    exact this
  exact ⟨xs[k].1, xs[k].2, hm, (h.inn _ hm).1, (h.inn _ hm).2, hc 0 (by omega), hc 1 (by omega), hc 2 (by omega), hc 3 (by omega), hc 4 (by omega), hc 5 (by omega)⟩
end
theorem CvS.len {f g r : Cv} {er : Int} (H : CvS f g r er) : r.vals.length ≤ 400 := by
  rcases H with ⟨_, rfl, _⟩ | ⟨_, _, a, b, _, _, ⟨_, rfl, _⟩ | ⟨_, h, _, ⟨_, hl, _⟩ | ⟨_, rfl, _⟩⟩⟩
  · exact Nat.zero_le _
  · exact Nat.zero_le _
  · exact hl.1
  · exact Nat.zero_le _
theorem PvS.len {f g r : Cv} {fr : Int} {cs : List Int} {er : Int} (H : PvS f g r fr cs er) : cs.length ≤ 1100 := by
  obtain ⟨h1, h2⟩ := H
  rcases h2 with ⟨_, _, rfl⟩ | ⟨rfl, a, b, hna, hnb, _, h3⟩
  · exact Nat.zero_le _
  · obtain ⟨_, _, a', b', ka, kb, ao, bo, hc, ro, _⟩ := cvS_nf h1
    obtain rfl := hna.unique ka
    obtain rfl := hnb.unique kb
    rw [h3.1]
    have := cst_le ao; have := cst_le bo; have := cst_le ro
    unfold cvH
    show max (cst a + cst b) (cst r) + comm a.per.toNat b.per.toNat + comm a.per.toNat b.per.toNat ≤ 1100
    omega
theorem AllS.len {l : List Cv} : ∀ {acc r : Cv} {er : Int}, acc.vals.length ≤ 400 → AllS acc l r er → r.vals.length ≤ 400 := by
  induction l with
  | nil => rintro acc r er h ⟨rfl, _⟩; exact h
  | cons x l ih =>
    rintro acc r er h ⟨s, es, h1, ⟨_, rfl, _⟩ | ⟨_, h2⟩⟩
    · exact Nat.zero_le _
    · exact ih h1.len h2
theorem longer_fit {z k : Cv} {A : Option Addr} {n c : Nat} {y1 y2 : Int} {w : World} (hD : DrawC 5 z) (h1 : 0 ≤ y1) (h2 : y1 ≤ 2) (h3 : 1 ≤ y2) (h4 : y2 ≤ 3) (hL : LongerS ⟨z.vals, z.per, z.inc⟩ y1.toNat y2.toNat k) (hI : Ints w w.heap.size A n k.vals) (hc : n ≤ c) : (CR.mk A n c k).FitD := by
  have hl := hD.len; have hp := hD.per; have hp1 := hD.ok.p1
  refine ⟨?_, hc⟩
  show n ≤ 1000
  rw [← hI.1]
  rcases hL with ⟨_, rfl⟩ | ⟨_, _, _, e⟩
  · show z.vals.length ≤ 1000
    omega
  · rw [e, tab_length]
    show z.vals.length + (y1.toNat + (y2.toNat - 1) * z.per.toNat) ≤ 1000
    have : (y2.toNat - 1) * z.per.toNat ≤ 2 * 8 := Nat.mul_le_mul (by omega) (by omega)
    omega
theorem longer_in {p n c : Nat} {w w' : World} {x : CR} {A : Option Addr} {k : Cv} (hx : x.In p w) (hD : DrawC 5 x.f) (hp : p < w.heap.size) (hI : Ints w' w'.heap.size A n k.vals) (hA : A = x.A ∨ ∀ b off s, A = some ⟨b, off, s⟩ → w.heap.size ≤ b) : (CR.mk A n c k).In p w' :=
  ⟨hI, fun hn b off s e => by
    rcases hA with h | h
    · exact hx.ap (by have := hD.ok.n1; have := hx.ints.1; omega) b off s (by rw [← h]; exact e)
    · have := h b off s e; omega⟩
/-- block b lists three lists of curves: none, one, and three -/
structure LL (p : Nat) (w : World) (b b1 b3 : Nat) (x y z : CR) : Prop where
  blk : Blk w b 41 #[.slice none 0 0, .slice (some ⟨b1, 0, none⟩) 1 1, .slice (some ⟨b3, 0, none⟩) 3 3]
  r1 : Row p w b1 [x]
  r3 : Row p w b3 [x, y, z]
theorem LL.below {p b b1 b3 : Nat} {w w' : World} {x y z : CR} (h : LL p w b b1 b3 x y z) (hb : Below w.heap.size w w') : LL p w' b b1 b3 x y z := ⟨h.blk.below hb h.blk.lt, h.r1.below hb, h.r3.below hb⟩
theorem LL.get {p b b1 b3 : Nat} {w : World} {x y z : CR} (h : LL p w b b1 b3 x y z) {k : Nat} (hk : k < 3) : ∃ (A : Option Addr) (n cap : Nat) (xs : List CR), w.cell? ⟨b, k, none⟩ = some (.slice A n cap) ∧ xs.length = n ∧ n ≤ 100 ∧
    (0 < n → ∃ q, A = some ⟨q, 0, none⟩ ∧ Row w.heap.size w q xs) ∧ (∀ u ∈ xs, u = x ∨ u = y ∨ u = z) ∧ b < w.heap.size := by
  have c0 := h.blk.cell 0; have c1 := h.blk.cell 1; have c2 := h.blk.cell 2
  simp at c0 c1 c2
  rcases k with _ | _ | _ | k
  · exact ⟨none, 0, 0, [], c0, rfl, by omega, fun h => absurd h (by omega), (fun u hu => by cases hu), h.blk.lt⟩
  · refine ⟨_, 1, 1, [x], c1, rfl, by omega, fun _ => ⟨b1, rfl, h.r1.to (Nat.le_refl _)⟩, fun u hu => ?_, h.blk.lt⟩
    simp only [List.mem_singleton] at hu
    exact .inl hu
  · refine ⟨_, 3, 3, [x, y, z], c2, rfl, by omega, fun _ => ⟨b3, rfl, h.r3.to (Nat.le_refl _)⟩, fun u hu => ?_, h.blk.lt⟩
    simpa using hu
  · omega
set_option maxHeartbeats 8000000 in
set_option maxRecDepth 100000 in
theorem cvAs_any (A1 : Option Addr) (n1 c1 : Nat) (p1 i1 : Int) (L1 : List Int) (A2 : Option Addr) (n2 c2 : Nat) (p2 i2 : Int) (L2 : List Int) (A0 : Option Addr) (n0 c0 : Nat) (L : List Int) (W : World)
    (hI1 : Ints W W.heap.size A1 n1 L1) (hc1 : n1 ≤ c1) (hn1 : (n1 : Int) ≤ 9223372036854775807) (hI2 : Ints W W.heap.size A2 n2 L2) (hc2 : n2 ≤ c2) (hn2 : (n2 : Int) ≤ 9223372036854775807) (hL0 : Ints W W.heap.size A0 n0 L) (hc0 : n0 ≤ c0) (hn0 : (n0 : Int) ≤ 9223372036854775807) :
    Calls Try.prog 12 #[.agg #[.slice A1 n1 c1, .int .i64 p1, .int .i64 i1], .agg #[.slice A2 n2 c2, .int .i64 p2, .int .i64 i2], .slice A0 n0 c0] W fun e w' => e = .returned (.bool true) ∧ Below W.heap.size W w' := by
  have RI := Lib.hid ((hI1.alloc' (.cells #[.slice A1 n1 c1, .int .i64 p1, .int .i64 i1] 31)).alloc' (.cells #[.slice A2 n2 c2, .int .i64 p2, .int .i64 i2] 31))
  have OI := Lib.hid ((hI2.alloc' (.cells #[.slice A1 n1 c1, .int .i64 p1, .int .i64 i1] 31)).alloc' (.cells #[.slice A2 n2 c2, .int .i64 p2, .int .i64 i2] 31))
  have LI := Lib.hid ((hL0.alloc' (.cells #[.slice A1 n1 c1, .int .i64 p1, .int .i64 i1] 31)).alloc' (.cells #[.slice A2 n2 c2, .int .i64 p2, .int .i64 i2] 31))
  have RX := Lib.hid ((Blk.new W 31 #[.slice A1 n1 c1, .int .i64 p1, .int .i64 i1]).alloc (.cells #[.slice A2 n2 c2, .int .i64 p2, .int .i64 i2] 31))
  have OX := Lib.hid (show Blk ((W.alloc (.cells #[.slice A1 n1 c1, .int .i64 p1, .int .i64 i1] 31)).alloc (.cells #[.slice A2 n2 c2, .int .i64 p2, .int .i64 i2] 31)) (W.heap.size + 1) 31 #[.slice A2 n2 c2, .int .i64 p2, .int .i64 i2] from by
    have := Blk.new (W.alloc (.cells #[.slice A1 n1 c1, .int .i64 p1, .int .i64 i1] 31)) 31 #[.slice A2 n2 c2, .int .i64 p2, .int .i64 i2]
    simpa using this)
  have BW := Lib.hid (bthen (balloc W (.cells #[.slice A1 n1 c1, .int .i64 p1, .int .i64 i1] 31)) (balloc _ (.cells #[.slice A2 n2 c2, .int .i64 p2, .int .i64 i2] 31)))
  have HC1 := Lib.hid hc1; have HC2 := Lib.hid hc2
  clear hI1 hI2 hL0 hc1 hc2
  go_enter Try.func12, Try.ntmps12
  go_upto_region 1 with fail
  generalize hwe : (W.alloc (.cells #[.slice A1 n1 c1, .int .i64 p1, .int .i64 i1] 31)).alloc (.cells #[.slice A2 n2 c2, .int .i64 p2, .int .i64 i2] 31) = W2 at *
  clear hwe
  obtain ⟨s0, s1, s2⟩ : _ ∧ _ ∧ _ := ⟨RX.out.cell 0, RX.out.cell 1, RX.out.cell 2⟩
  obtain ⟨t0, t1, t2⟩ : _ ∧ _ ∧ _ := ⟨OX.out.cell 0, OX.out.cell 1, OX.out.cell 2⟩
  simp at s0 s1 s2 t0 t1 t2
  have hls := RX.out.lt; have hlt := OX.out.lt
  have RW := Lib.hid (show Row (W2.alloc (.cells #[.slice A1 n1 c1, .int .i64 p1, .int .i64 i1, .slice A2 n2 c2, .int .i64 p2, .int .i64 i2] 31)).heap.size (W2.alloc (.cells #[.slice A1 n1 c1, .int .i64 p1, .int .i64 i1, .slice A2 n2 c2, .int .i64 p2, .int .i64 i2] 31)) W2.heap.size [⟨A1, n1, c1, ⟨L1, p1, i1⟩⟩, ⟨A2, n2, c2, ⟨L2, p2, i2⟩⟩] from ⟨Blk.new _ _ _, (by
    intro x hx
    simp only [List.mem_cons, List.not_mem_nil, or_false] at hx
    rcases hx with rfl | rfl
    · exact CR.In.old (RI.out.alloc' _)
    · exact CR.In.old (OI.out.alloc' _)), by rw [World.size_alloc]; omega⟩)
  have hbq := balloc W2 (.cells #[.slice A1 n1 c1, .int .i64 p1, .int .i64 i1, .slice A2 n2 c2, .int .i64 p2, .int .i64 i2] 31)
  have RI := Lib.hid (RI.out.ext hbq); have OI := Lib.hid (OI.out.ext hbq); have LI := Lib.hid (LI.out.ext hbq)
  have RX := Lib.hid (RX.out.below hbq RX.out.lt); have OX := Lib.hid (OX.out.below hbq OX.out.lt); have BW := Lib.hid (bthen BW.out hbq)
  clear hbq
  go_wp2_with fail
  refine (short7_any W2.heap.size 2 2 _ _ rfl (by omega) RW.out (by
    intro x hx
    simp only [List.mem_cons, List.not_mem_nil, or_false] at hx
    rcases hx with rfl | rfl
    · exact hn1
    · exact hn2)).mono ?_
  rintro e w ⟨z, rfl, hz, hb⟩
  have RI := Lib.hid (RI.out.ext hb); have OI := Lib.hid (OI.out.ext hb); have LI := Lib.hid (LI.out.ext hb)
  have RX := Lib.hid (RX.out.below hb RX.out.lt); have OX := Lib.hid (OX.out.below hb OX.out.lt); have BW := Lib.hid (bthen BW.out hb)
  clear hb RW s0 s1 s2 t0 t1 t2 hls hlt
  cases z
  case false =>
    clear hz
    go_wp2_with fail
    refine (awake7_any _).mono ?_
    rintro q wq ⟨rfl, hbq⟩
    have bw := bthen BW.out hbq
    go_wp2_with fail
    go_ret
    exact ⟨rfl, bw⟩
  case true =>
      have h1 : n1 ≤ 800 := hz rfl _ (List.mem_cons_self ..)
      have h2 : n2 ≤ 800 := hz rfl _ (List.mem_cons_of_mem _ (List.mem_cons_self ..))
      clear hz
      have R0 := Lib.hid (show Lc w.heap.size w W.heap.size ⟨A1, n1, c1, ⟨L1, p1, i1⟩⟩ from ⟨RX.out, CR.In.old RI.out, Nat.ne_of_lt RX.out.lt⟩)
      have O0 := Lib.hid (show Lc w.heap.size w (W.heap.size + 1) ⟨A2, n2, c2, ⟨L2, p2, i2⟩⟩ from ⟨OX.out, CR.In.old OI.out, Nat.ne_of_lt OX.out.lt⟩)
      have hL := LI.out
      have FIT1 := Lib.hid (show (CR.mk A1 n1 c1 ⟨L1, p1, i1⟩).FitD from ⟨by show n1 ≤ 1000; omega, HC1.out⟩)
      have FIT2 := Lib.hid (show (CR.mk A2 n2 c2 ⟨L2, p2, i2⟩).FitD from ⟨by show n2 ≤ 1000; omega, HC2.out⟩)
      clear RI OI LI RX OX HC1 HC2 h1 h2 hn1 hn2
      go_wp2_with fail
      refine (new_any A0 n0 c0 L w hL hc0 hn0).mono ?_
      rintro e w1 ⟨rfl, hS1, hb1⟩
      have E := Lib.hid (show EnvL w.heap.size w w1 [(W.heap.size, ⟨A1, n1, c1, ⟨L1, p1, i1⟩⟩), (W.heap.size + 1, ⟨A2, n2, c2, ⟨L2, p2, i2⟩⟩)] from ((EnvL.start hS1 hb1).addD (R0.out.below hb1)).addD (O0.out.below hb1))
      clear hL hS1 hb1 R0 O0
      go_wp2_with fail
      refine (srcCurve2_any w.heap.size 8 _ (by exact E.out.s) (by omega) (by omega)).mono ?_
      rintro e w2 ⟨f, A, n, c, hD, hcf, rfl, hI, hA, hS, hk⟩
      have hps := E.out.s.lt
      have E := Lib.hid (E.out.kept hS hk)
      have Vf := Lib.hid (show (CR.mk A n c f).In w.heap.size w2 from CR.In.new hI hA hps)
      have Hf := Lib.hid (show DrawC 8 f from hD)
      have HCf := Lib.hid hcf
      have hlenf := hI.1
      try simp only at hlenf
      have hnf : n ≤ 20 := by have h1 := Hf.out.len; omega
      clear hlenf
      clear hD hI hA hS hk hps hcf
      go_wp2_with fail
      refine (srcCurve2_any w.heap.size 8 _ (by exact E.out.s) (by omega) (by omega)).mono ?_
      rintro e w3 ⟨g, B, m, d, hD, hcf, rfl, hI, hA, hS, hk⟩
      have hps := E.out.s.lt
      have E := Lib.hid (E.out.kept hS hk)
      have Vg := Lib.hid (show (CR.mk B m d g).In w.heap.size w3 from CR.In.new hI hA hps)
      have Hg := Lib.hid (show DrawC 8 g from hD)
      have HCg := Lib.hid hcf
      have hleng := hI.1
      try simp only at hleng
      have hmg : m ≤ 20 := by have h1 := Hg.out.len; omega
      clear hleng
      have Vf := Lib.hid (Vf.out.kept hk)
      clear hD hI hA hS hk hps hcf
      have E := Lib.hid (show EnvL w.heap.size w _ _ from E.out.push (X := ⟨A, n, c, f⟩) Vf.out)
      dsimp only [List.cons_append, List.nil_append] at E
      have Vg := Lib.hid (Vg.out.alloc (.cells #[.slice A n c, .int .i64 f.per, .int .i64 f.inc] 31))
      have E := Lib.hid (show EnvL w.heap.size w _ _ from E.out.push (X := ⟨B, m, d, g⟩) Vg.out)
      dsimp only [List.cons_append, List.nil_append] at E
      have FITF := Lib.hid (show (CR.mk A n c f).FitD from ⟨by show n ≤ 1000; omega, HCf.out⟩)
      have FITG := Lib.hid (show (CR.mk B m d g).FitD from ⟨by show m ≤ 1000; omega, HCg.out⟩)
      clear Vf Vg HCf HCg Hf Hg
      go_upto_region 5 with fail
      generalize hwe : (w3.alloc (.cells #[.slice A n c, .int .i64 f.per, .int .i64 f.inc] 31)).alloc (.cells #[.slice B m d, .int .i64 g.per, .int .i64 g.inc] 31) = we at E ⊢
      clear hwe
      simp only [World.size_alloc] at E
      go_cut [72, 73, 74] (fun s72 s73 s74 wx => ∃ (b : Nat) (xs : List (CR × CR)), s72 = .slice (some ⟨b, 0, none⟩) 7 7 ∧ s73 = .int .i64 7 ∧ s74 = .int .i64 0 ∧ xs.length = 7 ∧ (∀ q ∈ xs, q.1.FitD ∧ q.2.FitD) ∧ EnvL w.heap.size w wx [(W.heap.size, ⟨A1, n1, c1, ⟨L1, p1, i1⟩⟩), (W.heap.size + 1, ⟨A2, n2, c2, ⟨L2, p2, i2⟩⟩), (w3.heap.size, ⟨A, n, c, f⟩), (w3.heap.size + 1, ⟨B, m, d, g⟩)] ∧ RowP w.heap.size wx b xs)
      case first =>
        obtain ⟨s0, s1, s2, hls⟩ := (E.out.get 0 rfl).cells
        obtain ⟨t0, t1, t2, hlt⟩ := (E.out.get 1 rfl).cells
        obtain ⟨u0, u1, u2, hlu⟩ := (E.out.get 2 rfl).cells
        obtain ⟨v0, v1, v2, hlv⟩ := (E.out.get 3 rfl).cells
        go_region_held3 (fun w' => (w'.cell? ⟨W.heap.size, 0, none⟩ = some (.slice A1 n1 c1) ∧ w'.cell? ⟨W.heap.size, 1, none⟩ = some (.int .i64 p1) ∧ w'.cell? ⟨W.heap.size, 2, none⟩ = some (.int .i64 i1)) ∧ (w'.cell? ⟨W.heap.size + 1, 0, none⟩ = some (.slice A2 n2 c2) ∧ w'.cell? ⟨W.heap.size + 1, 1, none⟩ = some (.int .i64 p2) ∧ w'.cell? ⟨W.heap.size + 1, 2, none⟩ = some (.int .i64 i2)) ∧ (w'.cell? ⟨w3.heap.size, 0, none⟩ = some (.slice A n c) ∧ w'.cell? ⟨w3.heap.size, 1, none⟩ = some (.int .i64 f.per) ∧ w'.cell? ⟨w3.heap.size, 2, none⟩ = some (.int .i64 f.inc)) ∧ w'.cell? ⟨w3.heap.size + 1, 0, none⟩ = some (.slice B m d) ∧ w'.cell? ⟨w3.heap.size + 1, 1, none⟩ = some (.int .i64 g.per) ∧ w'.cell? ⟨w3.heap.size + 1, 2, none⟩ = some (.int .i64 g.inc)) (first | go_keep)
          (first
            | (go_at_call 49
               refine (srcBent2_any w.heap.size A n c f.per f.inc f.vals _ (by exact E.out.s.drew) (by exact (E.out.get 2 rfl).inn.drew.ints) (by omega)).mono ?_
               rintro e w7 ⟨k, AB, nB, cB, hlz, hcz, rfl, hIz, hBz, hSz, hkz⟩
               have hkz := kofdrew hkz
               have hps := E.out.s.lt
               have E := Lib.hid (E.out.kept hSz hkz)
               try (replace VB := Lib.hid (VB.out.kept hkz))
               try (replace VZ1 := Lib.hid (VZ1.out.kept hkz))
               try (replace VZ2 := Lib.hid (VZ2.out.kept hkz))
               try (replace VL := Lib.hid (VL.out.kept hkz))
               try (replace VS1 := Lib.hid (VS1.out.kept hkz))
               try (replace VS2 := Lib.hid (VS2.out.kept hkz))
               have VB := Lib.hid (show (CR.mk AB nB cB k).In w.heap.size w7 from CR.In.new hIz hBz (by simpa using hps))
               have FVB := Lib.hid (show (CR.mk AB nB cB k).FitD from ⟨by have h2 : k.vals.length = nB := hIz.1; show nB ≤ 1000; omega, hcz⟩)
               clear hIz hBz hSz hkz hlz hcz hps
               clear s0 s1 s2 hls t0 t1 t2 hlt u0 u1 u2 hlu v0 v1 v2 hlv
               obtain ⟨s0, s1, s2, hls⟩ := (E.out.get 0 rfl).cells
               obtain ⟨t0, t1, t2, hlt⟩ := (E.out.get 1 rfl).cells
               obtain ⟨u0, u1, u2, hlu⟩ := (E.out.get 2 rfl).cells
               obtain ⟨v0, v1, v2, hlv⟩ := (E.out.get 3 rfl).cells
               dsimp only)
            | (go_at_call_of 36 (Value.int IntKind.i64 6)
               refine (srcZero2_any w.heap.size 6 _ (by exact E.out.s) (by omega) (by omega)).mono ?_
               rintro e w8 ⟨z1, AZ1, nZ1, cZ1, hlz, hcz, rfl, hIz, hBz, hSz, hkz⟩
               have hps := E.out.s.lt
               have E := Lib.hid (E.out.kept hSz hkz)
               try (replace VB := Lib.hid (VB.out.kept hkz))
               try (replace VZ1 := Lib.hid (VZ1.out.kept hkz))
               try (replace VZ2 := Lib.hid (VZ2.out.kept hkz))
               try (replace VL := Lib.hid (VL.out.kept hkz))
               try (replace VS1 := Lib.hid (VS1.out.kept hkz))
               try (replace VS2 := Lib.hid (VS2.out.kept hkz))
               have VZ1 := Lib.hid (show (CR.mk AZ1 nZ1 cZ1 z1).In w.heap.size w8 from CR.In.new hIz hBz (by simpa using hps))
               have FVZ1 := Lib.hid (show (CR.mk AZ1 nZ1 cZ1 z1).FitD from ⟨by have h2 : z1.vals.length = nZ1 := hIz.1; show nZ1 ≤ 1000; have h3 := hlz.1.len; omega, hcz⟩)
               clear hIz hBz hSz hkz hlz hcz hps
               clear s0 s1 s2 hls t0 t1 t2 hlt u0 u1 u2 hlu v0 v1 v2 hlv
               obtain ⟨s0, s1, s2, hls⟩ := (E.out.get 0 rfl).cells
               obtain ⟨t0, t1, t2, hlt⟩ := (E.out.get 1 rfl).cells
               obtain ⟨u0, u1, u2, hlu⟩ := (E.out.get 2 rfl).cells
               obtain ⟨v0, v1, v2, hlv⟩ := (E.out.get 3 rfl).cells
               dsimp only)
            | (go_at_call_of 36 (Value.int IntKind.i64 5)
               refine (srcZero2_any w.heap.size 5 _ (by exact E.out.s) (by omega) (by omega)).mono ?_
               rintro e w9 ⟨z2, AZ2, nZ2, cZ2, hlz, hcz, rfl, hIz, hBz, hSz, hkz⟩
               have DZ2 := Lib.hid (show DrawC 5 z2 from hlz.1)
               have hps := E.out.s.lt
               have E := Lib.hid (E.out.kept hSz hkz)
               try (replace VB := Lib.hid (VB.out.kept hkz))
               try (replace VZ1 := Lib.hid (VZ1.out.kept hkz))
               try (replace VZ2 := Lib.hid (VZ2.out.kept hkz))
               try (replace VL := Lib.hid (VL.out.kept hkz))
               try (replace VS1 := Lib.hid (VS1.out.kept hkz))
               try (replace VS2 := Lib.hid (VS2.out.kept hkz))
               have VZ2 := Lib.hid (show (CR.mk AZ2 nZ2 cZ2 z2).In w.heap.size w9 from CR.In.new hIz hBz (by simpa using hps))
               have FVZ2 := Lib.hid (show (CR.mk AZ2 nZ2 cZ2 z2).FitD from ⟨by have h2 : z2.vals.length = nZ2 := hIz.1; show nZ2 ≤ 1000; have h3 := hlz.1.len; omega, hcz⟩)
               clear hIz hBz hSz hkz hlz hcz hps
               clear s0 s1 s2 hls t0 t1 t2 hlt u0 u1 u2 hlu v0 v1 v2 hlv
               obtain ⟨s0, s1, s2, hls⟩ := (E.out.get 0 rfl).cells
               obtain ⟨t0, t1, t2, hlt⟩ := (E.out.get 1 rfl).cells
               obtain ⟨u0, u1, u2, hlu⟩ := (E.out.get 2 rfl).cells
               obtain ⟨v0, v1, v2, hlv⟩ := (E.out.get 3 rfl).cells
               dsimp only)
            | (go_at_call 19
               have TOK := N1
               refine (n_any w.heap.size 3 _ (by exact E.out.s) (by omega) (by omega)).mono ?_
               rintro e w11 ⟨y2, hy20, hy21, rfl, hSz, hkz⟩
               have e9 : IntKind.i64.wrap (1 + y2) = 1 + y2 := IntWalk.i64_in _ (by omega)
               have N2 := trivial
               have E := Lib.hid (E.out.kept hSz hkz)
               try (replace VB := Lib.hid (VB.out.kept hkz))
               try (replace VZ1 := Lib.hid (VZ1.out.kept hkz))
               try (replace VZ2 := Lib.hid (VZ2.out.kept hkz))
               try (replace VL := Lib.hid (VL.out.kept hkz))
               try (replace VS1 := Lib.hid (VS1.out.kept hkz))
               try (replace VS2 := Lib.hid (VS2.out.kept hkz))
               clear hSz hkz
               clear s0 s1 s2 hls t0 t1 t2 hlt u0 u1 u2 hlu v0 v1 v2 hlv
               obtain ⟨s0, s1, s2, hls⟩ := (E.out.get 0 rfl).cells
               obtain ⟨t0, t1, t2, hlt⟩ := (E.out.get 1 rfl).cells
               obtain ⟨u0, u1, u2, hlu⟩ := (E.out.get 2 rfl).cells
               obtain ⟨v0, v1, v2, hlv⟩ := (E.out.get 3 rfl).cells
               dsimp only
               skip)
            | (go_at_call 19
               refine (n_any w.heap.size 3 _ (by exact E.out.s) (by omega) (by omega)).mono ?_
               rintro e w10 ⟨y1, hy10, hy11, rfl, hSz, hkz⟩
               have N1 := trivial
               have E := Lib.hid (E.out.kept hSz hkz)
               try (replace VB := Lib.hid (VB.out.kept hkz))
               try (replace VZ1 := Lib.hid (VZ1.out.kept hkz))
               try (replace VZ2 := Lib.hid (VZ2.out.kept hkz))
               try (replace VL := Lib.hid (VL.out.kept hkz))
               try (replace VS1 := Lib.hid (VS1.out.kept hkz))
               try (replace VS2 := Lib.hid (VS2.out.kept hkz))
               clear hSz hkz
               clear s0 s1 s2 hls t0 t1 t2 hlt u0 u1 u2 hlu v0 v1 v2 hlv
               obtain ⟨s0, s1, s2, hls⟩ := (E.out.get 0 rfl).cells
               obtain ⟨t0, t1, t2, hlt⟩ := (E.out.get 1 rfl).cells
               obtain ⟨u0, u1, u2, hlu⟩ := (E.out.get 2 rfl).cells
               obtain ⟨v0, v1, v2, hlv⟩ := (E.out.get 3 rfl).cells
               dsimp only
               skip)
            | (go_at_call 50
               refine (longer2_any AZ2 nZ2 cZ2 z2.per z2.inc y1 (1 + y2) z2.vals _ (by exact VZ2.out.ints) (by exact DZ2.out.ok) (by omega) (by omega) (by omega) (by omega)).mono ?_
               rintro e w12 ⟨k3, hk3, AL, nL, cL, rfl, hIl, hAl, hkl, hcl⟩
               have hps := E.out.s.lt
               have FVL := Lib.hid (longer_fit (c := cL) (y1 := y1) (y2 := 1 + y2) DZ2.out (by omega) (by omega) (by omega) (by omega) hk3 hIl (hcl FVZ2.out.2))
               have VL := Lib.hid (show (CR.mk AL nL cL k3).In w.heap.size w12 from longer_in VZ2.out DZ2.out hps hIl hAl)
               have E := Lib.hid (E.out.below hkl)
               replace VB := Lib.hid (VB.out.below hkl); replace VZ1 := Lib.hid (VZ1.out.below hkl); replace VZ2 := Lib.hid (VZ2.out.below hkl)
               clear hk3 hIl hAl hkl hcl hps e9
               clear s0 s1 s2 hls t0 t1 t2 hlt u0 u1 u2 hlu v0 v1 v2 hlv
               obtain ⟨s0, s1, s2, hls⟩ := (E.out.get 0 rfl).cells
               obtain ⟨t0, t1, t2, hlt⟩ := (E.out.get 1 rfl).cells
               obtain ⟨u0, u1, u2, hlu⟩ := (E.out.get 2 rfl).cells
               obtain ⟨v0, v1, v2, hlv⟩ := (E.out.get 3 rfl).cells
               dsimp only
               skip)
            | (go_at_call 51
               have TOK := FVS2
               refine (srcSteps_any w.heap.size _ (by exact E.out.s)).mono ?_
               rintro e w15 ⟨s5, AS3, nS3, cS3, hlz, hcz, rfl, hIz, hBz, hSz, hkz⟩
               have hps := E.out.s.lt
               have E := Lib.hid (E.out.kept hSz hkz)
               try (replace VB := Lib.hid (VB.out.kept hkz))
               try (replace VZ1 := Lib.hid (VZ1.out.kept hkz))
               try (replace VZ2 := Lib.hid (VZ2.out.kept hkz))
               try (replace VL := Lib.hid (VL.out.kept hkz))
               try (replace VS1 := Lib.hid (VS1.out.kept hkz))
               try (replace VS2 := Lib.hid (VS2.out.kept hkz))
               have VS3 := Lib.hid (show (CR.mk AS3 nS3 cS3 s5).In w.heap.size w15 from CR.In.new hIz hBz (by simpa using hps))
               have FVS3 := Lib.hid (show (CR.mk AS3 nS3 cS3 s5).FitD from ⟨by have h2 : s5.vals.length = nS3 := hIz.1; show nS3 ≤ 1000; omega, hcz⟩)
               clear hIz hBz hSz hkz hlz hcz hps
               clear s0 s1 s2 hls t0 t1 t2 hlt u0 u1 u2 hlu v0 v1 v2 hlv
               obtain ⟨s0, s1, s2, hls⟩ := (E.out.get 0 rfl).cells
               obtain ⟨t0, t1, t2, hlt⟩ := (E.out.get 1 rfl).cells
               obtain ⟨u0, u1, u2, hlu⟩ := (E.out.get 2 rfl).cells
               obtain ⟨v0, v1, v2, hlv⟩ := (E.out.get 3 rfl).cells
               dsimp only)
            | (go_at_call 51
               have TOK := FVS1
               refine (srcSteps_any w.heap.size _ (by exact E.out.s)).mono ?_
               rintro e w14 ⟨s4, AS2, nS2, cS2, hlz, hcz, rfl, hIz, hBz, hSz, hkz⟩
               have hps := E.out.s.lt
               have E := Lib.hid (E.out.kept hSz hkz)
               try (replace VB := Lib.hid (VB.out.kept hkz))
               try (replace VZ1 := Lib.hid (VZ1.out.kept hkz))
               try (replace VZ2 := Lib.hid (VZ2.out.kept hkz))
               try (replace VL := Lib.hid (VL.out.kept hkz))
               try (replace VS1 := Lib.hid (VS1.out.kept hkz))
               try (replace VS2 := Lib.hid (VS2.out.kept hkz))
               have VS2 := Lib.hid (show (CR.mk AS2 nS2 cS2 s4).In w.heap.size w14 from CR.In.new hIz hBz (by simpa using hps))
               have FVS2 := Lib.hid (show (CR.mk AS2 nS2 cS2 s4).FitD from ⟨by have h2 : s4.vals.length = nS2 := hIz.1; show nS2 ≤ 1000; omega, hcz⟩)
               clear hIz hBz hSz hkz hlz hcz hps
               clear s0 s1 s2 hls t0 t1 t2 hlt u0 u1 u2 hlu v0 v1 v2 hlv
               obtain ⟨s0, s1, s2, hls⟩ := (E.out.get 0 rfl).cells
               obtain ⟨t0, t1, t2, hlt⟩ := (E.out.get 1 rfl).cells
               obtain ⟨u0, u1, u2, hlu⟩ := (E.out.get 2 rfl).cells
               obtain ⟨v0, v1, v2, hlv⟩ := (E.out.get 3 rfl).cells
               dsimp only)
            | (go_at_call 51
               refine (srcSteps_any w.heap.size _ (by exact E.out.s)).mono ?_
               rintro e w13 ⟨s3, AS1, nS1, cS1, hlz, hcz, rfl, hIz, hBz, hSz, hkz⟩
               have hps := E.out.s.lt
               have E := Lib.hid (E.out.kept hSz hkz)
               try (replace VB := Lib.hid (VB.out.kept hkz))
               try (replace VZ1 := Lib.hid (VZ1.out.kept hkz))
               try (replace VZ2 := Lib.hid (VZ2.out.kept hkz))
               try (replace VL := Lib.hid (VL.out.kept hkz))
               try (replace VS1 := Lib.hid (VS1.out.kept hkz))
               try (replace VS2 := Lib.hid (VS2.out.kept hkz))
               have VS1 := Lib.hid (show (CR.mk AS1 nS1 cS1 s3).In w.heap.size w13 from CR.In.new hIz hBz (by simpa using hps))
               have FVS1 := Lib.hid (show (CR.mk AS1 nS1 cS1 s3).FitD from ⟨by have h2 : s3.vals.length = nS1 := hIz.1; show nS1 ≤ 1000; omega, hcz⟩)
               clear hIz hBz hSz hkz hlz hcz hps
               clear s0 s1 s2 hls t0 t1 t2 hlt u0 u1 u2 hlu v0 v1 v2 hlv
               obtain ⟨s0, s1, s2, hls⟩ := (E.out.get 0 rfl).cells
               obtain ⟨t0, t1, t2, hlt⟩ := (E.out.get 1 rfl).cells
               obtain ⟨u0, u1, u2, hlu⟩ := (E.out.get 2 rfl).cells
               obtain ⟨v0, v1, v2, hlv⟩ := (E.out.get 3 rfl).cells
               dsimp only))
        all_goals
          go_wp2_with fail
          go_meet
          exact ⟨w15.heap.size, [(⟨A, n, c, f⟩, ⟨B, m, d, g⟩), (⟨A1, n1, c1, ⟨L1, p1, i1⟩⟩, ⟨B, m, d, g⟩), (⟨A, n, c, f⟩, ⟨A2, n2, c2, ⟨L2, p2, i2⟩⟩), (⟨AB, nB, cB, k⟩, ⟨B, m, d, g⟩), (⟨AZ1, nZ1, cZ1, z1⟩, ⟨AL, nL, cL, k3⟩), (⟨AS1, nS1, cS1, s3⟩, ⟨AS2, nS2, cS2, s4⟩), (⟨AS3, nS3, cS3, s5⟩, ⟨A, n, c, f⟩)], rfl, rfl, rfl, rfl, (by
            intro x hx
            simp only [List.mem_cons, List.not_mem_nil, or_false] at hx
            rcases hx with rfl | rfl | rfl | rfl | rfl | rfl | rfl
            · exact ⟨FITF.out, FITG.out⟩
            · exact ⟨FIT1.out, FITG.out⟩
            · exact ⟨FITF.out, FIT2.out⟩
            · exact ⟨FVB.out, FITG.out⟩
            · exact ⟨FVZ1.out, FVL.out⟩
            · exact ⟨FVS1.out, FVS2.out⟩
            · exact ⟨FVS3.out, FITF.out⟩), E.out.alloc _, Blk.new _ _ _, (by
            intro x hx
            simp only [List.mem_cons, List.not_mem_nil, or_false] at hx
            have j1 := (E.out.get 0 rfl).inn; have j2 := (E.out.get 1 rfl).inn; have jf := (E.out.get 2 rfl).inn; have jg := (E.out.get 3 rfl).inn
            rcases hx with rfl | rfl | rfl | rfl | rfl | rfl | rfl
            · exact ⟨jf.alloc _, jg.alloc _⟩
            · exact ⟨j1.alloc _, jg.alloc _⟩
            · exact ⟨jf.alloc _, j2.alloc _⟩
            · exact ⟨VB.out.alloc _, jg.alloc _⟩
            · exact ⟨VZ1.out.alloc _, VL.out.alloc _⟩
            · exact ⟨VS1.out.alloc _, VS2.out.alloc _⟩
            · exact ⟨VS3.out.alloc _, jf.alloc _⟩), Nat.ne_of_gt E.out.s.lt⟩
      case rest =>
        obtain ⟨b, xs, rfl, rfl, rfl, hxl, hxf, hE, hR⟩ := hcut
        clear E
        have E := Lib.hid hE; have ROW := Lib.hid hR; have HXL := Lib.hid hxl; have HXF := Lib.hid hxf
        clear hE hR hxl hxf
        go_wp2_with fail
        go_loopg [74] 7 (fun gg s74 wx => ∃ k : Nat, k + gg = 7 ∧ s74 = .int .i64 k ∧ EnvL w.heap.size w wx [(W.heap.size, ⟨A1, n1, c1, ⟨L1, p1, i1⟩⟩), (W.heap.size + 1, ⟨A2, n2, c2, ⟨L2, p2, i2⟩⟩), (w3.heap.size, ⟨A, n, c, f⟩), (w3.heap.size + 1, ⟨B, m, d, g⟩)] ∧ RowP w.heap.size wx b xs)
        case atStart => exact ⟨0, rfl, rfl, E.out, ROW.out⟩
        case round =>
          clear E ROW
          obtain ⟨k, hkg, rfl, hE, hR⟩ := hrel
          have E := Lib.hid hE; have ROW := Lib.hid hR
          clear hE hR
          by_cases hk : k < 7
          · have hki : (k : Int) < 7 := by omega
            obtain ⟨X, Y, hXm, hXi, hYi, k0, k1, k2, k3, k4, k5⟩ := ROW.out.get (k := k) (by rw [HXL.out]; exact hk)
            have hlw := ROW.out.lt
            have hps := E.out.s.lt
            have HFX := Lib.hid (HXF.out _ hXm)
            have hfx := HFX.out.1.1; have hfx2 := HFX.out.1.2; have hfy := HFX.out.2.1; have hfy2 := HFX.out.2.2
            simp only at hfx hfx2 hfy hfy2
            have LX := Lib.hid (LcP.new hXi hYi)
            have E := Lib.hid (E.out.alloc (.cells #[.slice X.A X.n X.c, .int .i64 X.f.per, .int .i64 X.f.inc, .slice Y.A Y.n Y.c, .int .i64 Y.f.per, .int .i64 Y.f.inc] 54))
            have ROW := Lib.hid (ROW.out.alloc (.cells #[.slice X.A X.n X.c, .int .i64 X.f.per, .int .i64 X.f.inc, .slice Y.A Y.n Y.c, .int .i64 Y.f.per, .int .i64 Y.f.inc] 54))
            go_upto_region 8 with fail
            clear k0 k1 k2 k3 k4 k5 hXi hYi hXm hlw
            have hzx : w.heap.size < wr.heap.size := hps
            generalize hwe : wr.alloc (.cells #[.slice X.A X.n X.c, .int .i64 X.f.per, .int .i64 X.f.inc, .slice Y.A Y.n Y.c, .int .i64 Y.f.per, .int .i64 Y.f.inc] 54) = wo at E ROW LX ⊢
            clear hwe hps
            generalize wr.heap.size = ZX at LX hzx ⊢
            obtain ⟨go, hgo⟩ : ∃ go : Nat, go = gk := ⟨_, rfl⟩
            subst hgo
            have BI := Lib.hid (Below.refl wo.heap.size wo)
            obtain ⟨x0, x1, x2, x3, x4, x5, hlx⟩ := (LX.out.below BI.out).cells
            go_wp2_with fail
            refine (cvfn_any X.A Y.A X.n Y.n X.c Y.c X.f.per X.f.inc Y.f.per Y.f.inc X.f.vals Y.f.vals _ (by exact (LX.out.below BI.out).ix.ints) (by exact (LX.out.below BI.out).iy.ints) (by omega) (by omega)).mono ?_
            rintro e wa ⟨f1, r1, hS, A5, n5, c5, hc5, rfl, hI5, hA5, hb⟩
            have HS := Lib.hid hS
            have I5 := Lib.hid (hI5.alloc' (.cells #[.slice A5 n5 c5, .int .i64 f1.per, .int .i64 f1.inc] 31))
            have D5 := Lib.hid (Blk.new wa 31 #[.slice A5 n5 c5, .int .i64 f1.per, .int .i64 f1.inc])
            clear x0 x1 x2 x3 x4 x5 hlx
            replace BI := Lib.hid (bthen (bthen BI.out hb) (balloc _ (.cells #[.slice A5 n5 c5, .int .i64 f1.per, .int .i64 f1.inc] 31)))
            clear hS hb hc5 hI5 hA5
            go_upto_region 9 with fail
            generalize hwe : wa.alloc (.cells #[.slice A5 n5 c5, .int .i64 f1.per, .int .i64 f1.inc] 31) = wc at *
            clear hwe
            generalize wa.heap.size = Z1 at *
            obtain ⟨x0, x1, x2, x3, x4, x5, hlx⟩ := (LX.out.below BI.out).cells
            go_wp2_with fail
            refine (refCv7_any X.A Y.A X.n Y.n X.c Y.c X.f.per X.f.inc Y.f.per Y.f.inc X.f.vals Y.f.vals _ (by exact (LX.out.below BI.out).ix.ints) (by exact (LX.out.below BI.out).iy.ints) (by omega) (by omega) hfx2 hfy2).mono ?_
            rintro e wb ⟨f2, r2, A6, n6, c6, hS, hc6, rfl, hI6, hA6, hb⟩
            obtain ⟨e1, e2⟩ := CvS.unique HS.out hS
            subst e1 e2
            have hn5 : n5 ≤ 400 := by have h1 := hS.len; rw [I5.out.1] at h1; exact h1
            have hn6 : n6 ≤ 400 := by have h1 := hS.len; rw [hI6.1] at h1; exact h1
            have I6 := Lib.hid (hI6.alloc' (.cells #[.slice A6 n6 c6, .int .i64 f1.per, .int .i64 f1.inc] 31))
            have D6 := Lib.hid (Blk.new wb 31 #[.slice A6 n6 c6, .int .i64 f1.per, .int .i64 f1.inc])
            clear x0 x1 x2 x3 x4 x5 hlx
            have hbq := bthen hb (balloc _ (.cells #[.slice A6 n6 c6, .int .i64 f1.per, .int .i64 f1.inc] 31))
            replace BI := Lib.hid (bthen BI.out hbq); have I5 := Lib.hid (I5.out.ext hbq); have D5 := Lib.hid (D5.out.below hbq D5.out.lt)
            clear hS hb hbq hc6 hI6 hA6 HS
            go_upto_region 10 with fail
            generalize hwe : wb.alloc (.cells #[.slice A6 n6 c6, .int .i64 f1.per, .int .i64 f1.inc] 31) = wc2 at *
            clear hwe
            generalize wb.heap.size = Z2 at *
            obtain ⟨x0, x1, x2, x3, x4, x5, hlx⟩ := (LX.out.below BI.out).cells
            go_wp2_with fail
            refine (cpprv_any X.A Y.A X.n Y.n X.c Y.c X.f.per X.f.inc Y.f.per Y.f.inc X.f.vals Y.f.vals _ (by exact (LX.out.below BI.out).ix.ints) (by exact (LX.out.below BI.out).iy.ints) (by omega) (by omega)).mono ?_
            rintro e we ⟨f3, fr, cs, r3, hS, A7, n7, c7, B7, m7, d7, hc7, hd7, rfl, hI7, hJ7, hA7, hB7, hb⟩
            have HS := Lib.hid hS
            have hn7 : n7 ≤ 400 := by have h1 := hS.1.len; rw [hI7.1] at h1; exact h1
            have hm7 : m7 ≤ 1100 := by have h1 := hS.len; rw [hJ7.1] at h1; exact h1
            have I7 := Lib.hid (hI7.alloc' (.cells #[.slice A7 n7 c7, .int .i64 f3.per, .int .i64 f3.inc, .int .i64 fr, .slice B7 m7 d7] 56))
            have J7 := Lib.hid (hJ7.alloc' (.cells #[.slice A7 n7 c7, .int .i64 f3.per, .int .i64 f3.inc, .int .i64 fr, .slice B7 m7 d7] 56))
            have D7 := Lib.hid (Blk.new we 56 #[.slice A7 n7 c7, .int .i64 f3.per, .int .i64 f3.inc, .int .i64 fr, .slice B7 m7 d7])
            clear x0 x1 x2 x3 x4 x5 hlx
            have hbq := bthen hb (balloc _ (.cells #[.slice A7 n7 c7, .int .i64 f3.per, .int .i64 f3.inc, .int .i64 fr, .slice B7 m7 d7] 56))
            replace BI := Lib.hid (bthen BI.out hbq); have I5 := Lib.hid (I5.out.ext hbq); have D5 := Lib.hid (D5.out.below hbq D5.out.lt); have I6 := Lib.hid (I6.out.ext hbq); have D6 := Lib.hid (D6.out.below hbq D6.out.lt)
            clear hS hb hbq hc7 hd7 hI7 hJ7 hA7 hB7
            go_upto_region 11 with fail
            generalize hwe : we.alloc (.cells #[.slice A7 n7 c7, .int .i64 f3.per, .int .i64 f3.inc, .int .i64 fr, .slice B7 m7 d7] 56) = wf at *
            clear hwe
            generalize we.heap.size = Z3 at *
            obtain ⟨x0, x1, x2, x3, x4, x5, hlx⟩ := (LX.out.below BI.out).cells
            go_wp2_with fail
            refine (prove7_any X.A Y.A X.n Y.n X.c Y.c X.f.per X.f.inc Y.f.per Y.f.inc X.f.vals Y.f.vals _ (by exact (LX.out.below BI.out).ix.ints) (by exact (LX.out.below BI.out).iy.ints) (by omega) (by omega) hfx2 hfy2).mono ?_
            rintro e wg ⟨f4, fr4, ds, r4, hS, A8, n8, c8, B8, m8, d8, hc8, hd8, rfl, hI8, hJ8, hA8, hB8, hb⟩
            obtain ⟨e1, e2, e3, e4⟩ := PvS.unique HS.out hS
            subst e1 e2 e3 e4
            have hn8 : n8 ≤ 400 := by have h1 := hS.1.len; rw [hI8.1] at h1; exact h1
            have hm8 : m8 ≤ 1100 := by have h1 := hS.len; rw [hJ8.1] at h1; exact h1
            have I8 := Lib.hid (hI8.alloc' (.cells #[.slice A8 n8 c8, .int .i64 f3.per, .int .i64 f3.inc, .int .i64 fr, .slice B8 m8 d8] 56))
            have J8 := Lib.hid (hJ8.alloc' (.cells #[.slice A8 n8 c8, .int .i64 f3.per, .int .i64 f3.inc, .int .i64 fr, .slice B8 m8 d8] 56))
            have D8 := Lib.hid (Blk.new wg 56 #[.slice A8 n8 c8, .int .i64 f3.per, .int .i64 f3.inc, .int .i64 fr, .slice B8 m8 d8])
            clear x0 x1 x2 x3 x4 x5 hlx
            have hbq := bthen hb (balloc _ (.cells #[.slice A8 n8 c8, .int .i64 f3.per, .int .i64 f3.inc, .int .i64 fr, .slice B8 m8 d8] 56))
            replace BI := Lib.hid (bthen BI.out hbq); have I5 := Lib.hid (I5.out.ext hbq); have D5 := Lib.hid (D5.out.below hbq D5.out.lt); have I6 := Lib.hid (I6.out.ext hbq); have D6 := Lib.hid (D6.out.below hbq D6.out.lt); have I7 := Lib.hid (I7.out.ext hbq); have J7 := Lib.hid (J7.out.ext hbq); have D7 := Lib.hid (D7.out.below hbq D7.out.lt)
            clear hS hb hbq hc8 hd8 hI8 hJ8 hA8 hB8 HS
            go_upto_region 12 with fail
            generalize hwe : wg.alloc (.cells #[.slice A8 n8 c8, .int .i64 f3.per, .int .i64 f3.inc, .int .i64 fr, .slice B8 m8 d8] 56) = wh at *
            clear hwe
            generalize wg.heap.size = Z4 at *
            have g1 : (r1 != r1) = false := by simp
            have g3 : (r3 != r3) = false := by simp
            obtain ⟨⟨k0, k1, k2⟩, _, hlk⟩ := D5.out.c3
            obtain ⟨⟨l0, l1, l2⟩, _, hll⟩ := D6.out.c3
            obtain ⟨⟨y0, y1, y2, y3, y4⟩, _, hly⟩ := D7.out.d5
            obtain ⟨⟨z0, z1, z2, z3, z4⟩, _, hlz⟩ := D8.out.d5
            go_wp2_with fail
            refine (refSame_any A5 A6 n5 n6 c5 c6 f1.per f1.per f1.inc f1.inc f1.vals f1.vals _ (by exact I5.out) (by exact I6.out) (by omega) (by omega)).mono ?_
            rw [show Cv.same ⟨f1.vals, f1.per, f1.inc⟩ ⟨f1.vals, f1.per, f1.inc⟩ = true from (Cv.same_iff _ _).2 rfl]
            rintro e wi ⟨rfl, hb⟩
            replace BI := Lib.hid (bthen BI.out hb); have I7 := Lib.hid (I7.out.ext hb); have J7 := Lib.hid (J7.out.ext hb); have D7 := Lib.hid (D7.out.below hb D7.out.lt); have I8 := Lib.hid (I8.out.ext hb); have J8 := Lib.hid (J8.out.ext hb); have D8 := Lib.hid (D8.out.below hb D8.out.lt)
            clear hb k0 k1 k2 hlk l0 l1 l2 hll y0 y1 y2 y3 y4 hly z0 z1 z2 z3 z4 hlz D5 D6 I5 I6
            obtain ⟨⟨y0, y1, y2, y3, y4⟩, _, hly⟩ := D7.out.d5
            obtain ⟨⟨z0, z1, z2, z3, z4⟩, _, hlz⟩ := D8.out.d5
            go_wp2_with fail
            refine (same7_any A7 B7 A8 B8 n7 c7 m7 d7 n8 c8 m8 d8 f3 f3 fr fr cs cs _ (by exact I7.out) (by exact J7.out) (by exact I8.out) (by exact J8.out) (by omega) (by omega) (by omega) (by omega)).mono ?_
            rintro e wj ⟨⟨zz, hzz, rfl⟩, hb⟩
            obtain rfl : zz = true := hzz.2 ⟨rfl, rfl, rfl⟩
            replace BI := Lib.hid (bthen BI.out hb)
            clear hb hzz y0 y1 y2 y3 y4 hly z0 z1 z2 z3 z4 hlz D7 D8 I7 I8 J7 J8
            go_wp2_with fail
            go_roundg (go - 1)
            case measure => omega
            case rel => exact ⟨k + 1, by omega, by go_num, E.out.below BI.out, ROW.out.below BI.out⟩
          · have hk8 : k = 7 := by omega
            subst hk8
            clear hk hkg ROW HXL HXF
            go_upto_region 15 with fail
            go_cut [138, 139, 140] (fun s138 s139 s140 wx => ∃ (b b1 b3 : Nat) (h : Cv) (AH : Option Addr) (nH cH : Nat), s138 = .slice (some ⟨b, 0, none⟩) 3 3 ∧ s139 = .int .i64 3 ∧ s140 = .int .i64 0 ∧ (CR.mk AH nH cH h).FitD ∧ EnvL w.heap.size w wx [(W.heap.size, ⟨A1, n1, c1, ⟨L1, p1, i1⟩⟩), (W.heap.size + 1, ⟨A2, n2, c2, ⟨L2, p2, i2⟩⟩), (w3.heap.size, ⟨A, n, c, f⟩), (w3.heap.size + 1, ⟨B, m, d, g⟩)] ∧ LL w.heap.size wx b b1 b3 ⟨A, n, c, f⟩ ⟨B, m, d, g⟩ ⟨AH, nH, cH, h⟩)
            case first =>
              replace E := Lib.hid (EnvL.drew E.out)
              obtain ⟨u0, u1, u2, hlu⟩ := (E.out.get 2 rfl).cells
              obtain ⟨v0, v1, v2, hlv⟩ := (E.out.get 3 rfl).cells
              refine wp_region_held_drew (S := (fun w' => (w'.cell? ⟨w3.heap.size, 0, none⟩ = some (.slice A n c) ∧ w'.cell? ⟨w3.heap.size, 1, none⟩ = some (.int .i64 f.per) ∧ w'.cell? ⟨w3.heap.size, 2, none⟩ = some (.int .i64 f.inc)) ∧ w'.cell? ⟨w3.heap.size + 1, 0, none⟩ = some (.slice B m d) ∧ w'.cell? ⟨w3.heap.size + 1, 1, none⟩ = some (.int .i64 g.per) ∧ w'.cell? ⟨w3.heap.size + 1, 2, none⟩ = some (.int .i64 g.inc))) (by kernel_rfl) (by exact ⟨⟨u0, u1, u2⟩, v0, v1, v2⟩) (fun hHeld => ?_)
              clear u0 u1 u2 hlu v0 v1 v2 hlv
              generalize hwd : wr.drew = wd at *
              clear hwd
              obtain ⟨u0, u1, u2, hlu⟩ := (E.out.get 2 rfl).cells
              obtain ⟨v0, v1, v2, hlv⟩ := (E.out.get 3 rfl).cells
              refine wpAnyH_take (i := 0) (oi := _) (v := ?_) (by simp only [g8a, g8z]; rfl) (by kernel_rfl) (by kernel_rfl) (by kernel_rfl) (by exact fun _ _ _ h => h) (Or.inl ⟨by rfl, ?_⟩) (by assumption) ?_
              rotate_left 1
              · (intro w hSw; (try dsimp only at hSw); go_simp; try with_reducible rfl)
              all_goals ((try simp only [Act.put]); try simp only [g8b, g8c, g8d])
              refine wpAnyH_take (i := 2) (oi := _) (v := ?_) (by simp only [g8a, g8s, g8z]; rfl) (by kernel_rfl) (by kernel_rfl) (by kernel_rfl) (by exact fun _ _ _ h => h) (Or.inl ⟨by rfl, ?_⟩) (by assumption) ?_
              rotate_left 1
              · (intro w hSw; (try dsimp only at hSw); go_simp; try with_reducible rfl)
              all_goals ((try simp only [Act.put]); try simp only [g8b, g8c, g8d])
              refine wpAnyH_take (i := 3) (oi := _) (v := ?_) (by simp only [g8a, g8s, g8z]; rfl) (by kernel_rfl) (by kernel_rfl) (by kernel_rfl) (by exact fun _ _ _ h => h) (Or.inl ⟨by rfl, ?_⟩) (by assumption) ?_
              rotate_left 1
              · (intro w hSw; (try dsimp only at hSw); go_simp; try with_reducible rfl)
              all_goals ((try simp only [Act.put]); try simp only [g8b, g8c, g8d])
              refine wpAnyH_take (i := 4) (oi := _) (v := ?_) (by simp only [g8a, g8s, g8z]; rfl) (by kernel_rfl) (by kernel_rfl) (by kernel_rfl) (by exact fun _ _ _ h => h) (Or.inl ⟨by rfl, ?_⟩) (by assumption) ?_
              rotate_left 1
              · (intro w hSw; (try dsimp only at hSw); go_simp; try with_reducible rfl)
              all_goals ((try simp only [Act.put]); try simp only [g8b, g8c, g8d])
              refine wpAnyH_take (i := 9) (oi := _) (v := ?_) (by simp only [g8a, g8s, g8z]; rfl) (by kernel_rfl) (by kernel_rfl) (by kernel_rfl) (by exact fun _ _ _ h => h) (Or.inl ⟨by rfl, ?_⟩) (by assumption) ?_
              rotate_left 1
              · (intro w hSw; (try dsimp only at hSw); go_simp; try with_reducible rfl)
              all_goals ((try simp only [Act.put]); try simp only [g8b, g8c, g8d])
              refine wpAnyH_ready (rs := [1, 5]) (by kernel_rfl) (by simp) ?_
              refine (AllReadyH.cons (by simp only [g8a, g8s, g8z]; rfl) (fun K hK => ?_) (AllReadyH.cons (by simp only [g8a, g8s, g8z]; rfl) (fun K hK => ?_) AllReadyH.nil))
              · rw [if_pos (by rfl)]
                go_simp
                have hps := E.out.s.lt
                have hbq := balloc wd (.cells #[.slice A n c, .int .i64 f.per, .int .i64 f.inc] 31)
                have R1 := Lib.hid (show Row w.heap.size (wd.alloc (.cells #[.slice A n c, .int .i64 f.per, .int .i64 f.inc] 31)) wd.heap.size [⟨A, n, c, f⟩] from ⟨Blk.new _ _ _, (by
                  intro x hx
                  simp only [List.mem_singleton] at hx
                  subst hx
                  exact (E.out.get 2 rfl).inn.alloc _), Nat.ne_of_gt hps⟩)
                generalize hwa : wd.alloc (.cells #[.slice A n c, .int .i64 f.per, .int .i64 f.inc] 31) = wa at *
                clear hwa
                replace E := Lib.hid (E.out.below hbq)
                try (replace R3 := Lib.hid (R3.out.below hbq))
                try (replace VH := Lib.hid (VH.out.below hbq))
                generalize wd.heap.size = b1 at *
                clear hbq hHeld hps
                clear u0 u1 u2 hlu v0 v1 v2 hlv
                obtain ⟨u0, u1, u2, hlu⟩ := (E.out.get 2 rfl).cells
                obtain ⟨v0, v1, v2, hlv⟩ := (E.out.get 3 rfl).cells
                refine hK.out _ _ (by exact ⟨⟨u0, u1, u2⟩, v0, v1, v2⟩) (fun hHeld => ?_)
                clear hK K
                (try simp only [Act.put]); try simp only [g8b, g8c, g8d]
                refine wpAnyH_ready (rs := [5]) (by kernel_rfl) (by simp) ?_
                refine (AllReadyH.cons (by simp only [g8a, g8s, g8z]; rfl) (fun K hK => ?_) AllReadyH.nil)
                rw [if_pos (by rfl)]
                go_simp
                refine (srcCurve2_any w.heap.size 4 wa (by exact E.out.s) (by omega) (by omega)).mono ?_
                rintro e wb ⟨h, AH, nH, cH, hlz, hcz, rfl, hIz, hBz, hSz, hkz⟩
                have hps := E.out.s.lt
                replace E := Lib.hid (E.out.kept hSz hkz)
                try (replace R1 := Lib.hid (R1.out.kept hkz))
                have VH := Lib.hid (show (CR.mk AH nH cH h).In w.heap.size wb from CR.In.new hIz hBz hps)
                have FVH := Lib.hid (show (CR.mk AH nH cH h).FitD from ⟨by have h2 : h.vals.length = nH := hIz.1; have h3 := hlz.len; show nH ≤ 1000; omega, hcz⟩)
                clear hlz hcz hIz hBz hSz hkz hps hHeld
                clear u0 u1 u2 hlu v0 v1 v2 hlv
                obtain ⟨u0, u1, u2, hlu⟩ := (E.out.get 2 rfl).cells
                obtain ⟨v0, v1, v2, hlv⟩ := (E.out.get 3 rfl).cells
                refine hK.out _ _ (by exact ⟨⟨u0, u1, u2⟩, v0, v1, v2⟩) (fun hHeld => ?_)
                clear hK K
                (try simp only [Act.put]); try simp only [g8b, g8c, g8d]
                refine wpAnyH_ready (rs := [6]) (by kernel_rfl) (by simp) ?_
                refine (AllReadyH.cons (by simp only [g8a, g8s, g8z]; rfl) (fun K hK => ?_) AllReadyH.nil)
                rw [if_pos (by rfl)]
                go_simp
                have hps := E.out.s.lt
                have hbq := balloc wb (.cells #[.slice A n c, .int .i64 f.per, .int .i64 f.inc, .slice B m d, .int .i64 g.per, .int .i64 g.inc, .slice AH nH cH, .int .i64 h.per, .int .i64 h.inc] 31)
                have R3 := Lib.hid (show Row w.heap.size (wb.alloc (.cells #[.slice A n c, .int .i64 f.per, .int .i64 f.inc, .slice B m d, .int .i64 g.per, .int .i64 g.inc, .slice AH nH cH, .int .i64 h.per, .int .i64 h.inc] 31)) wb.heap.size [⟨A, n, c, f⟩, ⟨B, m, d, g⟩, ⟨AH, nH, cH, h⟩] from ⟨Blk.new _ _ _, (by
                  intro x hx
                  simp only [List.mem_cons, List.not_mem_nil, or_false] at hx
                  rcases hx with rfl | rfl | rfl
                  · exact (E.out.get 2 rfl).inn.alloc _
                  · exact (E.out.get 3 rfl).inn.alloc _
                  · exact VH.out.alloc _), Nat.ne_of_gt hps⟩)
                generalize hwa : wb.alloc (.cells #[.slice A n c, .int .i64 f.per, .int .i64 f.inc, .slice B m d, .int .i64 g.per, .int .i64 g.inc, .slice AH nH cH, .int .i64 h.per, .int .i64 h.inc] 31) = wc at *
                clear hwa
                replace E := Lib.hid (E.out.below hbq)
                try (replace R1 := Lib.hid (R1.out.below hbq))
                generalize wb.heap.size = b3 at *
                clear hbq hHeld hps VH
                clear u0 u1 u2 hlu v0 v1 v2 hlv
                obtain ⟨u0, u1, u2, hlu⟩ := (E.out.get 2 rfl).cells
                obtain ⟨v0, v1, v2, hlv⟩ := (E.out.get 3 rfl).cells
                refine hK.out _ _ (by exact ⟨⟨u0, u1, u2⟩, v0, v1, v2⟩) (fun hHeld => ?_)
                clear hK K
                (try simp only [Act.put]); try simp only [g8b, g8c, g8d]
                refine wpAnyH_ready (rs := [7]) (by kernel_rfl) (by simp) ?_
                refine (AllReadyH.cons (by simp only [g8a, g8s, g8z]; rfl) (fun K hK => ?_) AllReadyH.nil)
                rw [if_pos (by rfl)]
                go_simp
                have hbq := balloc wc (.cells #[.slice none 0 0, .slice (some ⟨b1, 0, none⟩) 1 1, .slice (some ⟨b3, 0, none⟩) 3 3] 41)
                have LLX := Lib.hid (show LL w.heap.size (wc.alloc (.cells #[.slice none 0 0, .slice (some ⟨b1, 0, none⟩) 1 1, .slice (some ⟨b3, 0, none⟩) 3 3] 41)) wc.heap.size b1 b3 ⟨A, n, c, f⟩ ⟨B, m, d, g⟩ ⟨AH, nH, cH, h⟩ from ⟨Blk.new _ _ _, R1.out.below hbq, R3.out.below hbq⟩)
                generalize hwa : wc.alloc (.cells #[.slice none 0 0, .slice (some ⟨b1, 0, none⟩) 1 1, .slice (some ⟨b3, 0, none⟩) 3 3] 41) = wz at *
                clear hwa
                replace E := Lib.hid (E.out.below hbq)
                clear hbq hHeld R1 R3
                clear u0 u1 u2 hlu v0 v1 v2 hlv
                obtain ⟨u0, u1, u2, hlu⟩ := (E.out.get 2 rfl).cells
                obtain ⟨v0, v1, v2, hlv⟩ := (E.out.get 3 rfl).cells
                refine hK.out _ _ (by exact ⟨⟨u0, u1, u2⟩, v0, v1, v2⟩) (fun hHeld => ?_)
                clear hK K
                (try simp only [Act.put]); try simp only [g8b, g8c, g8d]
                refine wpAnyH_take (i := 8) (oi := _) (v := ?_) (by simp only [g8a, g8s, g8z]; rfl) (by kernel_rfl) (by kernel_rfl) (by kernel_rfl) (by exact fun _ _ _ h => h) (Or.inl ⟨by rfl, ?_⟩) (by assumption) ?_
                rotate_left 1
                · (intro w hSw; (try dsimp only at hSw); go_simp; try with_reducible rfl)
                all_goals ((try simp only [Act.put]); try simp only [g8b, g8c, g8d])
                refine wpAnyH_done (by kernel_rfl) ?_ _
                go_wp2_with fail
                go_meet
                exact ⟨_, b1, b3, h, AH, nH, cH, rfl, rfl, rfl, FVH.out, E.out, LLX.out⟩
              · rw [if_pos (by rfl)]
                go_simp
                refine (srcCurve2_any w.heap.size 4 wd (by exact E.out.s) (by omega) (by omega)).mono ?_
                rintro e wa ⟨h, AH, nH, cH, hlz, hcz, rfl, hIz, hBz, hSz, hkz⟩
                have hps := E.out.s.lt
                replace E := Lib.hid (E.out.kept hSz hkz)
                try (replace R1 := Lib.hid (R1.out.kept hkz))
                have VH := Lib.hid (show (CR.mk AH nH cH h).In w.heap.size wa from CR.In.new hIz hBz hps)
                have FVH := Lib.hid (show (CR.mk AH nH cH h).FitD from ⟨by have h2 : h.vals.length = nH := hIz.1; have h3 := hlz.len; show nH ≤ 1000; omega, hcz⟩)
                clear hlz hcz hIz hBz hSz hkz hps hHeld
                clear u0 u1 u2 hlu v0 v1 v2 hlv
                obtain ⟨u0, u1, u2, hlu⟩ := (E.out.get 2 rfl).cells
                obtain ⟨v0, v1, v2, hlv⟩ := (E.out.get 3 rfl).cells
                refine hK.out _ _ (by exact ⟨⟨u0, u1, u2⟩, v0, v1, v2⟩) (fun hHeld => ?_)
                clear hK K
                (try simp only [Act.put]); try simp only [g8b, g8c, g8d]
                refine wpAnyH_ready (rs := [1, 6]) (by kernel_rfl) (by simp) ?_
                refine (AllReadyH.cons (by simp only [g8a, g8s, g8z]; rfl) (fun K hK => ?_) (AllReadyH.cons (by simp only [g8a, g8s, g8z]; rfl) (fun K hK => ?_) AllReadyH.nil))
                · rw [if_pos (by rfl)]
                  go_simp
                  have hps := E.out.s.lt
                  have hbq := balloc wa (.cells #[.slice A n c, .int .i64 f.per, .int .i64 f.inc] 31)
                  have R1 := Lib.hid (show Row w.heap.size (wa.alloc (.cells #[.slice A n c, .int .i64 f.per, .int .i64 f.inc] 31)) wa.heap.size [⟨A, n, c, f⟩] from ⟨Blk.new _ _ _, (by
                    intro x hx
                    simp only [List.mem_singleton] at hx
                    subst hx
                    exact (E.out.get 2 rfl).inn.alloc _), Nat.ne_of_gt hps⟩)
                  generalize hwa : wa.alloc (.cells #[.slice A n c, .int .i64 f.per, .int .i64 f.inc] 31) = wb at *
                  clear hwa
                  replace E := Lib.hid (E.out.below hbq)
                  try (replace R3 := Lib.hid (R3.out.below hbq))
                  try (replace VH := Lib.hid (VH.out.below hbq))
                  generalize wa.heap.size = b1 at *
                  clear hbq hHeld hps
                  clear u0 u1 u2 hlu v0 v1 v2 hlv
                  obtain ⟨u0, u1, u2, hlu⟩ := (E.out.get 2 rfl).cells
                  obtain ⟨v0, v1, v2, hlv⟩ := (E.out.get 3 rfl).cells
                  refine hK.out _ _ (by exact ⟨⟨u0, u1, u2⟩, v0, v1, v2⟩) (fun hHeld => ?_)
                  clear hK K
                  (try simp only [Act.put]); try simp only [g8b, g8c, g8d]
                  refine wpAnyH_ready (rs := [6]) (by kernel_rfl) (by simp) ?_
                  refine (AllReadyH.cons (by simp only [g8a, g8s, g8z]; rfl) (fun K hK => ?_) AllReadyH.nil)
                  rw [if_pos (by rfl)]
                  go_simp
                  have hps := E.out.s.lt
                  have hbq := balloc wb (.cells #[.slice A n c, .int .i64 f.per, .int .i64 f.inc, .slice B m d, .int .i64 g.per, .int .i64 g.inc, .slice AH nH cH, .int .i64 h.per, .int .i64 h.inc] 31)
                  have R3 := Lib.hid (show Row w.heap.size (wb.alloc (.cells #[.slice A n c, .int .i64 f.per, .int .i64 f.inc, .slice B m d, .int .i64 g.per, .int .i64 g.inc, .slice AH nH cH, .int .i64 h.per, .int .i64 h.inc] 31)) wb.heap.size [⟨A, n, c, f⟩, ⟨B, m, d, g⟩, ⟨AH, nH, cH, h⟩] from ⟨Blk.new _ _ _, (by
                    intro x hx
                    simp only [List.mem_cons, List.not_mem_nil, or_false] at hx
                    rcases hx with rfl | rfl | rfl
                    · exact (E.out.get 2 rfl).inn.alloc _
                    · exact (E.out.get 3 rfl).inn.alloc _
                    · exact VH.out.alloc _), Nat.ne_of_gt hps⟩)
                  generalize hwa : wb.alloc (.cells #[.slice A n c, .int .i64 f.per, .int .i64 f.inc, .slice B m d, .int .i64 g.per, .int .i64 g.inc, .slice AH nH cH, .int .i64 h.per, .int .i64 h.inc] 31) = wc at *
                  clear hwa
                  replace E := Lib.hid (E.out.below hbq)
                  try (replace R1 := Lib.hid (R1.out.below hbq))
                  generalize wb.heap.size = b3 at *
                  clear hbq hHeld hps VH
                  clear u0 u1 u2 hlu v0 v1 v2 hlv
                  obtain ⟨u0, u1, u2, hlu⟩ := (E.out.get 2 rfl).cells
                  obtain ⟨v0, v1, v2, hlv⟩ := (E.out.get 3 rfl).cells
                  refine hK.out _ _ (by exact ⟨⟨u0, u1, u2⟩, v0, v1, v2⟩) (fun hHeld => ?_)
                  clear hK K
                  (try simp only [Act.put]); try simp only [g8b, g8c, g8d]
                  refine wpAnyH_ready (rs := [7]) (by kernel_rfl) (by simp) ?_
                  refine (AllReadyH.cons (by simp only [g8a, g8s, g8z]; rfl) (fun K hK => ?_) AllReadyH.nil)
                  rw [if_pos (by rfl)]
                  go_simp
                  have hbq := balloc wc (.cells #[.slice none 0 0, .slice (some ⟨b1, 0, none⟩) 1 1, .slice (some ⟨b3, 0, none⟩) 3 3] 41)
                  have LLX := Lib.hid (show LL w.heap.size (wc.alloc (.cells #[.slice none 0 0, .slice (some ⟨b1, 0, none⟩) 1 1, .slice (some ⟨b3, 0, none⟩) 3 3] 41)) wc.heap.size b1 b3 ⟨A, n, c, f⟩ ⟨B, m, d, g⟩ ⟨AH, nH, cH, h⟩ from ⟨Blk.new _ _ _, R1.out.below hbq, R3.out.below hbq⟩)
                  generalize hwa : wc.alloc (.cells #[.slice none 0 0, .slice (some ⟨b1, 0, none⟩) 1 1, .slice (some ⟨b3, 0, none⟩) 3 3] 41) = wz at *
                  clear hwa
                  replace E := Lib.hid (E.out.below hbq)
                  clear hbq hHeld R1 R3
                  clear u0 u1 u2 hlu v0 v1 v2 hlv
                  obtain ⟨u0, u1, u2, hlu⟩ := (E.out.get 2 rfl).cells
                  obtain ⟨v0, v1, v2, hlv⟩ := (E.out.get 3 rfl).cells
                  refine hK.out _ _ (by exact ⟨⟨u0, u1, u2⟩, v0, v1, v2⟩) (fun hHeld => ?_)
                  clear hK K
                  (try simp only [Act.put]); try simp only [g8b, g8c, g8d]
                  refine wpAnyH_take (i := 8) (oi := _) (v := ?_) (by simp only [g8a, g8s, g8z]; rfl) (by kernel_rfl) (by kernel_rfl) (by kernel_rfl) (by exact fun _ _ _ h => h) (Or.inl ⟨by rfl, ?_⟩) (by assumption) ?_
                  rotate_left 1
                  · (intro w hSw; (try dsimp only at hSw); go_simp; try with_reducible rfl)
                  all_goals ((try simp only [Act.put]); try simp only [g8b, g8c, g8d])
                  refine wpAnyH_done (by kernel_rfl) ?_ _
                  go_wp2_with fail
                  go_meet
                  exact ⟨_, b1, b3, h, AH, nH, cH, rfl, rfl, rfl, FVH.out, E.out, LLX.out⟩
                · rw [if_pos (by rfl)]
                  go_simp
                  have hps := E.out.s.lt
                  have hbq := balloc wa (.cells #[.slice A n c, .int .i64 f.per, .int .i64 f.inc, .slice B m d, .int .i64 g.per, .int .i64 g.inc, .slice AH nH cH, .int .i64 h.per, .int .i64 h.inc] 31)
                  have R3 := Lib.hid (show Row w.heap.size (wa.alloc (.cells #[.slice A n c, .int .i64 f.per, .int .i64 f.inc, .slice B m d, .int .i64 g.per, .int .i64 g.inc, .slice AH nH cH, .int .i64 h.per, .int .i64 h.inc] 31)) wa.heap.size [⟨A, n, c, f⟩, ⟨B, m, d, g⟩, ⟨AH, nH, cH, h⟩] from ⟨Blk.new _ _ _, (by
                    intro x hx
                    simp only [List.mem_cons, List.not_mem_nil, or_false] at hx
                    rcases hx with rfl | rfl | rfl
                    · exact (E.out.get 2 rfl).inn.alloc _
                    · exact (E.out.get 3 rfl).inn.alloc _
                    · exact VH.out.alloc _), Nat.ne_of_gt hps⟩)
                  generalize hwa : wa.alloc (.cells #[.slice A n c, .int .i64 f.per, .int .i64 f.inc, .slice B m d, .int .i64 g.per, .int .i64 g.inc, .slice AH nH cH, .int .i64 h.per, .int .i64 h.inc] 31) = wb at *
                  clear hwa
                  replace E := Lib.hid (E.out.below hbq)
                  try (replace R1 := Lib.hid (R1.out.below hbq))
                  generalize wa.heap.size = b3 at *
                  clear hbq hHeld hps VH
                  clear u0 u1 u2 hlu v0 v1 v2 hlv
                  obtain ⟨u0, u1, u2, hlu⟩ := (E.out.get 2 rfl).cells
                  obtain ⟨v0, v1, v2, hlv⟩ := (E.out.get 3 rfl).cells
                  refine hK.out _ _ (by exact ⟨⟨u0, u1, u2⟩, v0, v1, v2⟩) (fun hHeld => ?_)
                  clear hK K
                  (try simp only [Act.put]); try simp only [g8b, g8c, g8d]
                  refine wpAnyH_ready (rs := [1]) (by kernel_rfl) (by simp) ?_
                  refine (AllReadyH.cons (by simp only [g8a, g8s, g8z]; rfl) (fun K hK => ?_) AllReadyH.nil)
                  rw [if_pos (by rfl)]
                  go_simp
                  have hps := E.out.s.lt
                  have hbq := balloc wb (.cells #[.slice A n c, .int .i64 f.per, .int .i64 f.inc] 31)
                  have R1 := Lib.hid (show Row w.heap.size (wb.alloc (.cells #[.slice A n c, .int .i64 f.per, .int .i64 f.inc] 31)) wb.heap.size [⟨A, n, c, f⟩] from ⟨Blk.new _ _ _, (by
                    intro x hx
                    simp only [List.mem_singleton] at hx
                    subst hx
                    exact (E.out.get 2 rfl).inn.alloc _), Nat.ne_of_gt hps⟩)
                  generalize hwa : wb.alloc (.cells #[.slice A n c, .int .i64 f.per, .int .i64 f.inc] 31) = wc at *
                  clear hwa
                  replace E := Lib.hid (E.out.below hbq)
                  try (replace R3 := Lib.hid (R3.out.below hbq))
                  try (replace VH := Lib.hid (VH.out.below hbq))
                  generalize wb.heap.size = b1 at *
                  clear hbq hHeld hps
                  clear u0 u1 u2 hlu v0 v1 v2 hlv
                  obtain ⟨u0, u1, u2, hlu⟩ := (E.out.get 2 rfl).cells
                  obtain ⟨v0, v1, v2, hlv⟩ := (E.out.get 3 rfl).cells
                  refine hK.out _ _ (by exact ⟨⟨u0, u1, u2⟩, v0, v1, v2⟩) (fun hHeld => ?_)
                  clear hK K
                  (try simp only [Act.put]); try simp only [g8b, g8c, g8d]
                  refine wpAnyH_ready (rs := [7]) (by kernel_rfl) (by simp) ?_
                  refine (AllReadyH.cons (by simp only [g8a, g8s, g8z]; rfl) (fun K hK => ?_) AllReadyH.nil)
                  rw [if_pos (by rfl)]
                  go_simp
                  have hbq := balloc wc (.cells #[.slice none 0 0, .slice (some ⟨b1, 0, none⟩) 1 1, .slice (some ⟨b3, 0, none⟩) 3 3] 41)
                  have LLX := Lib.hid (show LL w.heap.size (wc.alloc (.cells #[.slice none 0 0, .slice (some ⟨b1, 0, none⟩) 1 1, .slice (some ⟨b3, 0, none⟩) 3 3] 41)) wc.heap.size b1 b3 ⟨A, n, c, f⟩ ⟨B, m, d, g⟩ ⟨AH, nH, cH, h⟩ from ⟨Blk.new _ _ _, R1.out.below hbq, R3.out.below hbq⟩)
                  generalize hwa : wc.alloc (.cells #[.slice none 0 0, .slice (some ⟨b1, 0, none⟩) 1 1, .slice (some ⟨b3, 0, none⟩) 3 3] 41) = wz at *
                  clear hwa
                  replace E := Lib.hid (E.out.below hbq)
                  clear hbq hHeld R1 R3
                  clear u0 u1 u2 hlu v0 v1 v2 hlv
                  obtain ⟨u0, u1, u2, hlu⟩ := (E.out.get 2 rfl).cells
                  obtain ⟨v0, v1, v2, hlv⟩ := (E.out.get 3 rfl).cells
                  refine hK.out _ _ (by exact ⟨⟨u0, u1, u2⟩, v0, v1, v2⟩) (fun hHeld => ?_)
                  clear hK K
                  (try simp only [Act.put]); try simp only [g8b, g8c, g8d]
                  refine wpAnyH_take (i := 8) (oi := _) (v := ?_) (by simp only [g8a, g8s, g8z]; rfl) (by kernel_rfl) (by kernel_rfl) (by kernel_rfl) (by exact fun _ _ _ h => h) (Or.inl ⟨by rfl, ?_⟩) (by assumption) ?_
                  rotate_left 1
                  · (intro w hSw; (try dsimp only at hSw); go_simp; try with_reducible rfl)
                  all_goals ((try simp only [Act.put]); try simp only [g8b, g8c, g8d])
                  refine wpAnyH_done (by kernel_rfl) ?_ _
                  go_wp2_with fail
                  go_meet
                  exact ⟨_, b1, b3, h, AH, nH, cH, rfl, rfl, rfl, FVH.out, E.out, LLX.out⟩
            case rest =>
              clear E
              obtain ⟨b2, b1, b3, h, AH, nH, cH, rfl, rfl, rfl, hfh, hE, hLL⟩ := hcut
              have E := Lib.hid hE; have LLX := Lib.hid hLL; have FITH := Lib.hid hfh
              clear hE hLL hfh
              have FIT3 := Lib.hid (show ∀ u : CR, u = ⟨A, n, c, f⟩ ∨ u = ⟨B, m, d, g⟩ ∨ u = ⟨AH, nH, cH, h⟩ → u.FitD from fun u hu => by
                rcases hu with rfl | rfl | rfl
                · exact FITF.out
                · exact FITG.out
                · exact FITH.out)
              go_wp2_with fail
              go_loopg [140] 3 (fun gg s140 wx => ∃ k : Nat, k + gg = 3 ∧ s140 = .int .i64 k ∧ EnvL w.heap.size w wx [(W.heap.size, ⟨A1, n1, c1, ⟨L1, p1, i1⟩⟩), (W.heap.size + 1, ⟨A2, n2, c2, ⟨L2, p2, i2⟩⟩), (w3.heap.size, ⟨A, n, c, f⟩), (w3.heap.size + 1, ⟨B, m, d, g⟩)] ∧ LL w.heap.size wx b2 b1 b3 ⟨A, n, c, f⟩ ⟨B, m, d, g⟩ ⟨AH, nH, cH, h⟩)
              case atStart => exact ⟨0, rfl, rfl, E.out, LLX.out⟩
              case round =>
                clear E LLX
                obtain ⟨k, hkg, rfl, hE, hLL⟩ := hrel
                have E := Lib.hid hE; have LLX := Lib.hid hLL
                clear hE hLL
                by_cases hk : k < 3
                · have hki : (k : Int) < 3 := by omega
                  obtain ⟨A4, n4, c4, xs4, k0, hxl, hxn, hxr, hxm, hlw⟩ := LLX.out.get hk
                  have HXL := Lib.hid hxl; have HXR := Lib.hid hxr
                  have HX9 := Lib.hid (show ∀ x ∈ xs4, (x.n : Int) ≤ 1000000 from fun x hx => by have := (FIT3.out x (hxm x hx)).1; omega)
                  have HX8 := Lib.hid (show ∀ x ∈ xs4, x.n ≤ x.c from fun x hx => (FIT3.out x (hxm x hx)).2)
                  clear hxl hxr hxm
                  obtain ⟨go, hgo⟩ : ∃ go : Nat, go = gk := ⟨_, rfl⟩
                  subst hgo
                  rename World => wo
                  have BI := Lib.hid (Below.refl wo.heap.size wo)
                  go_wp2_with fail
                  refine (cvall_any A4 n4 c4 xs4 _ HXL.out hxn (by exact HXR.out) HX9.out).mono ?_
                  rintro e wa ⟨f1, r1, hS, A5, n5, c5, rfl, hI5, hA5, hb⟩
                  have HS := Lib.hid hS
                  have I5 := Lib.hid (hI5.alloc' (.cells #[.slice A5 n5 c5, .int .i64 f1.per, .int .i64 f1.inc] 31))
                  have D5 := Lib.hid (Blk.new wa 31 #[.slice A5 n5 c5, .int .i64 f1.per, .int .i64 f1.inc])
                  clear k0
                  replace BI := Lib.hid (bthen (bthen BI.out hb) (balloc _ (.cells #[.slice A5 n5 c5, .int .i64 f1.per, .int .i64 f1.inc] 31)))
                  clear hS hb hI5 hA5
                  go_upto_region 19 with fail
                  generalize hwe : wa.alloc (.cells #[.slice A5 n5 c5, .int .i64 f1.per, .int .i64 f1.inc] 31) = wc at *
                  clear hwe
                  generalize wa.heap.size = Z1 at *
                  go_wp2_with fail
                  refine (refall7_any A4 n4 c4 xs4 _ HXL.out hxn (by exact fun h0 => (HXR.out h0).imp fun q hq => ⟨hq.1, (hq.2.below BI.out).to (Nat.le_refl _)⟩) HX9.out HX8.out).mono ?_
                  rintro e wb ⟨f2, r2, hS, A6, n6, c6, rfl, hI6, hA6, hb⟩
                  obtain ⟨e1, e2⟩ := AllS.unique HS.out hS
                  subst e1 e2
                  have hn5 : n5 ≤ 400 := by have h1 := hS.len (by decide); rw [I5.out.1] at h1; exact h1
                  have hn6 : n6 ≤ 400 := by have h1 := hS.len (by decide); rw [hI6.1] at h1; exact h1
                  have I6 := Lib.hid (hI6.alloc' (.cells #[.slice A6 n6 c6, .int .i64 f1.per, .int .i64 f1.inc] 31))
                  have D6 := Lib.hid (Blk.new wb 31 #[.slice A6 n6 c6, .int .i64 f1.per, .int .i64 f1.inc])
                  have hbq := bthen hb (balloc _ (.cells #[.slice A6 n6 c6, .int .i64 f1.per, .int .i64 f1.inc] 31))
                  replace BI := Lib.hid (bthen BI.out hbq); replace I5 := Lib.hid (I5.out.ext hbq); replace D5 := Lib.hid (D5.out.below hbq D5.out.lt)
                  clear hS hb hbq hI6 hA6 HS HXR HXL HX9 HX8
                  go_upto_region 20 with fail
                  generalize hwe : wb.alloc (.cells #[.slice A6 n6 c6, .int .i64 f1.per, .int .i64 f1.inc] 31) = wc2 at *
                  clear hwe
                  generalize wb.heap.size = Z2 at *
                  have g1 : (r1 != r1) = false := by simp
                  obtain ⟨⟨k0, k1, k2⟩, _, hlk⟩ := D5.out.c3
                  obtain ⟨⟨l0, l1, l2⟩, _, hll⟩ := D6.out.c3
                  go_wp2_with fail
                  refine (refSame_any A5 A6 n5 n6 c5 c6 f1.per f1.per f1.inc f1.inc f1.vals f1.vals _ (by exact I5.out) (by exact I6.out) (by omega) (by omega)).mono ?_
                  rw [show Cv.same ⟨f1.vals, f1.per, f1.inc⟩ ⟨f1.vals, f1.per, f1.inc⟩ = true from (Cv.same_iff _ _).2 rfl]
                  rintro e wi ⟨rfl, hb⟩
                  replace BI := Lib.hid (bthen BI.out hb)
                  clear hb k0 k1 k2 hlk l0 l1 l2 hll D5 D6 I5 I6
                  go_wp2_with fail
                  go_roundg (go - 1)
                  case measure => omega
                  case rel => exact ⟨k + 1, by omega, by go_num, E.out.below BI.out, LLX.out.below BI.out⟩
                · have hk3 : k = 3 := by omega
                  subst hk3
                  clear hk hkg
                  go_wp2_with fail
                  refine (awake7_any _).mono ?_
                  rintro q wq ⟨rfl, hbq⟩
                  have bw := bthen BW.out (E.out.below hbq).fin
                  go_wp2_with fail
                  go_ret
                  exact ⟨rfl, bw⟩
end Go.Proofs.Ytbkimphcmmmaiaa
