/- (convolution.pair).attained and below: the walks. -/
import Derived.Test.YtaejfleahamapaaGreatTc27
import Derived.Test.YtaejfleahamapaaGreatTc12
import Derived.Test.YtaejfleahamapaaGreatTc2
namespace Go.Proofs.YtaejfleahamapaaGreat
open Go.RowKit
set_option linter.unusedVariables false

structure CT (w wx : World) (A : Option Addr) (n c : Nat) (a : Cv) (B : Option Addr) (m d : Nat) (b : Cv) (K : Int) (C : Option Addr) (k s : Nat) (h : Cv) (fr : Int) (D : Option Addr) (x y : Nat) (cs : List Int) : Prop where
  pb : Blk wx w.heap.size 91 (cpA A n c a B m d b K)
  ia : Ints wx w.heap.size A n a.vals
  ib : Ints wx w.heap.size B m b.vals
  hb : Blk wx (w.heap.size + 1) 29 #[.slice C k s, .int .i64 h.per, .int .i64 h.inc, .int .i64 fr, .slice D x y]
  ic : Ints wx w.heap.size C k h.vals
  id : Ints wx w.heap.size D x cs
  bw : Below w.heap.size w wx
section
variable {w wx wy : World} {A B C D : Option Addr} {n c m d k s x y : Nat} {a b h : Cv} {K fr : Int} {cs : List Int}
theorem CT.new (hA : Ints w w.heap.size A n a.vals) (hB : Ints w w.heap.size B m b.vals) (hC : Ints w w.heap.size C k h.vals) (hD : Ints w w.heap.size D x cs) :
    CT w ((w.alloc (.cells (cpA A n c a B m d b K) 91)).alloc (.cells #[.slice C k s, .int .i64 h.per, .int .i64 h.inc, .int .i64 fr, .slice D x y] 29)) A n c a B m d b K C k s h fr D x y cs := by
  have rb := Blk.new (w.alloc (.cells (cpA A n c a B m d b K) 91)) 29 #[.slice C k s, .int .i64 h.per, .int .i64 h.inc, .int .i64 fr, .slice D x y]
  rw [World.size_alloc] at rb
  exact ⟨(Blk.new _ _ _).alloc _, (hA.alloc (Nat.le_refl _) _).alloc (by simp) _, (hB.alloc (Nat.le_refl _) _).alloc (by simp) _, rb, (hC.alloc (Nat.le_refl _) _).alloc (by simp) _, (hD.alloc (Nat.le_refl _) _).alloc (by simp) _, bthen (balloc _ _) (balloc _ _)⟩
theorem CT.below (h' : CT w wx A n c a B m d b K C k s h fr D x y cs) (hb : Below wx.heap.size wx wy) : CT w wy A n c a B m d b K C k s h fr D x y cs :=
  ⟨h'.pb.below hb h'.pb.lt, h'.ia.below (hb.mono h'.bw.size), h'.ib.below (hb.mono h'.bw.size), h'.hb.below hb h'.hb.lt, h'.ic.below (hb.mono h'.bw.size), h'.id.below (hb.mono h'.bw.size), bthen h'.bw hb⟩
theorem CT.alloc (h' : CT w wx A n c a B m d b K C k s h fr D x y cs) (o : Obj) : CT w (wx.alloc o) A n c a B m d b K C k s h fr D x y cs := h'.below (balloc wx o)
theorem CT.drew (h' : CT w wx A n c a B m d b K C k s h fr D x y cs) : CT w wx.drew A n c a B m d b K C k s h fr D x y cs := ⟨h'.pb, h'.ia, h'.ib, h'.hb, h'.ic, h'.id, Below.drew h'.bw⟩
theorem CT.ja (h' : CT w wx A n c a B m d b K C k s h fr D x y cs) : Ints wx wx.heap.size A n a.vals := h'.ia.more h'.bw.size
theorem CT.jb (h' : CT w wx A n c a B m d b K C k s h fr D x y cs) : Ints wx wx.heap.size B m b.vals := h'.ib.more h'.bw.size
theorem CT.jc (h' : CT w wx A n c a B m d b K C k s h fr D x y cs) : Ints wx wx.heap.size C k h.vals := h'.ic.more h'.bw.size
theorem CT.jd (h' : CT w wx A n c a B m d b K C k s h fr D x y cs) : Ints wx wx.heap.size D x cs := h'.id.more h'.bw.size
theorem CT.cells (h' : CT w wx A n c a B m d b K C k s h fr D x y cs) : (wx.cell? ⟨w.heap.size, 0, none⟩ = some (.slice A n c) ∧ wx.cell? ⟨w.heap.size, 1, none⟩ = some (.int .i64 a.per) ∧ wx.cell? ⟨w.heap.size, 2, none⟩ = some (.int .i64 a.inc)) ∧
    (wx.cell? ⟨w.heap.size, 3, none⟩ = some (.slice B m d) ∧ wx.cell? ⟨w.heap.size, 4, none⟩ = some (.int .i64 b.per) ∧ wx.cell? ⟨w.heap.size, 5, none⟩ = some (.int .i64 b.inc)) ∧ wx.cell? ⟨w.heap.size, 6, none⟩ = some (.int .i64 K) ∧
    (wx.cell? ⟨w.heap.size + 1, 0, none⟩ = some (.slice C k s) ∧ wx.cell? ⟨w.heap.size + 1, 1, none⟩ = some (.int .i64 h.per) ∧ wx.cell? ⟨w.heap.size + 1, 2, none⟩ = some (.int .i64 h.inc)) ∧ (wx.cell? ⟨w.heap.size + 1, 3, none⟩ = some (.int .i64 fr) ∧ wx.cell? ⟨w.heap.size + 1, 4, none⟩ = some (.slice D x y)) ∧ w.heap.size + 1 < wx.heap.size := by
  have q := fun i => h'.pb.cell i
  have q0 := q 0; have q1 := q 1; have q2 := q 2; have q3 := q 3; have q4 := q 4; have q5 := q 5; have q6 := q 6
  have r := fun i => h'.hb.cell i
  have r0 := r 0; have r1 := r 1; have r2 := r 2; have r3 := r 3; have r4 := r 4
  simp [cpA] at q0 q1 q2 q3 q4 q5 q6 r0 r1 r2 r3 r4
  exact ⟨⟨q0, q1, q2⟩, ⟨q3, q4, q5⟩, q6, ⟨r0, r1, r2⟩, ⟨r3, r4⟩, h'.hb.lt⟩
end
set_option maxHeartbeats 4000000 in
set_option maxRecDepth 100000 in
theorem cpatt_any (A B C D : Option Addr) (n m k x c d s y : Nat) (a b h : Cv) (fr : Int) (cs : List Int) (w : World) (hA : Ints w w.heap.size A n a.vals) (hB : Ints w w.heap.size B m b.vals) (hC : Ints w w.heap.size C k h.vals) (hD : Ints w w.heap.size D x cs) (ha : a.Ok) (hb : b.Ok) (hh : h.Ok) (hx : (x : Int) ≤ 1000000) (hK : ordC a b ≤ 120) :
    Calls Tryz.prog 55 #[.agg (cpA A n c a B m d b (ordC a b : Nat)), .agg #[.slice C k s, .int .i64 h.per, .int .i64 h.inc, .int .i64 fr, .slice D x y]] w (RetQ (AttS a b h fr cs) w) := by
  have a1 := ha.n1; have a2 := ha.n2; have a3 := ha.p1; have a4 := ha.p2; have a5 := ha.pn; have a6 := ha.i1; have a7 := ha.i2
  have b1 := hb.n1; have b2 := hb.n2; have b3 := hb.p1; have b4 := hb.p2; have b5 := hb.pn; have b6 := hb.i1; have b7 := hb.i2
  have c1' := hh.n1; have c2' := hh.n2; have c3' := hh.p1; have c4' := hh.p2; have c5' := hh.pn; have c6' := hh.i1; have c7' := hh.i2
  have hln : a.vals.length = n := hA.1
  have hlm : b.vals.length = m := hB.1
  have hlk : h.vals.length = k := hC.1
  rw [hln] at a1 a2 a5
  rw [hlm] at b1 b2 b5
  rw [hlk] at c1' c2' c5'
  have hlx : cs.length = x := hD.1
  obtain ⟨K0, hK0⟩ : ∃ K0 : Nat, K0 = ordC a b := ⟨_, rfl⟩
  obtain ⟨KC, hKC⟩ : ∃ KC : Int, KC = ((ordC a b : Nat) : Int) := ⟨_, rfl⟩
  have hKb1 : 0 ≤ KC := by omega
  have hKb2 : KC ≤ 120 := by omega
  obtain ⟨X, hX⟩ : ∃ X : Nat, X = cvH a b h := ⟨_, rfl⟩
  obtain ⟨N, hN⟩ : ∃ N : Nat, N = X + K0 := ⟨_, rfl⟩
  have hX5 : X ≤ 920 := by
    have s1 := cst_le ha; have s2 := cst_le hb; have s3 := cst_le hh
    rw [hX]; unfold cvH; omega
  have hN9 : N ≤ 1040 := by omega
  have e1 : IntKind.i64.wrap ((X : Int) + KC) = (N : Int) := by rw [IntWalk.i64_in _ (by omega)]; omega
  have e2 : (X : Int) + KC = (N : Int) := by omega
  have e3 : IntKind.i64.wrap (N : Int) = (N : Int) := IntWalk.i64_in _ (by omega)
  have HAO := Lib.hid ha; have HBO := Lib.hid hb; have HHO := Lib.hid hh; have HKC := Lib.hid hKC; have HKK := Lib.hid hK; have HLX := Lib.hid hlx; have HXX := Lib.hid hX; have HNN := Lib.hid (show N = cvH a b h + ordC a b from by omega)
  rw [← hKC]
  have E := Lib.hid (CT.new (c := c) (d := d) (K := KC) (s := s) (h := h) (fr := fr) (y := y) hA hB hC hD)
  clear hA hB hC hD ha hb hh hln hlm hlk hlx hK hKC hK0 hX hN
  unfold cpA at E
  unfold cpA
  go_enter Tryz.func55, Tryz.ntmps55
  go_upto_region 1 with fail
  generalize hwe : (w.alloc (.cells #[.slice A n c, .int .i64 a.per, .int .i64 a.inc, .slice B m d, .int .i64 b.per, .int .i64 b.inc, .int .i64 KC] 91)).alloc (.cells #[.slice C k s, .int .i64 h.per, .int .i64 h.inc, .int .i64 fr, .slice D x y] 29) = we at *
  clear hwe
  have E : Hid (CT w we A n c a B m d b KC C k s h fr D x y cs) := E
  generalize (Value.agg #[.slice A n c, .int .i64 a.per, .int .i64 a.inc, .slice B m d, .int .i64 b.per, .int .i64 b.inc, .int .i64 KC]) = v0
  generalize (Value.agg #[.slice C k s, .int .i64 h.per, .int .i64 h.inc, .int .i64 fr, .slice D x y]) = v1
  have E := Lib.hid E.out.drew
  obtain ⟨⟨f0, f1, f2⟩, ⟨g0, g1, g2⟩, p6, ⟨h0, h1, h2⟩, ⟨h3, h4⟩, hlh⟩ := E.out.cells
  refine wp_region_held_drew (S := (fun w' => w'.cell? ⟨w.heap.size, 0, none⟩ = some (.slice A n c) ∧ w'.cell? ⟨w.heap.size, 1, none⟩ = some (.int .i64 a.per) ∧ w'.cell? ⟨w.heap.size, 2, none⟩ = some (.int .i64 a.inc) ∧ w'.cell? ⟨w.heap.size, 3, none⟩ = some (.slice B m d) ∧ w'.cell? ⟨w.heap.size, 4, none⟩ = some (.int .i64 b.per) ∧ w'.cell? ⟨w.heap.size, 5, none⟩ = some (.int .i64 b.inc) ∧ w'.cell? ⟨w.heap.size, 6, none⟩ = some (.int .i64 KC) ∧ w'.cell? ⟨w.heap.size + 1, 0, none⟩ = some (.slice C k s) ∧ w'.cell? ⟨w.heap.size + 1, 1, none⟩ = some (.int .i64 h.per) ∧ w'.cell? ⟨w.heap.size + 1, 2, none⟩ = some (.int .i64 h.inc) ∧ w'.cell? ⟨w.heap.size + 1, 3, none⟩ = some (.int .i64 (fr)) ∧ w'.cell? ⟨w.heap.size + 1, 4, none⟩ = some (.slice D x y))) (by kernel_rfl) (by exact ⟨f0, f1, f2, g0, g1, g2, p6, h0, h1, h2, h3, h4⟩) (fun hHeld => ?_)
  generalize hwd : we.drew = wd at *
  clear hwd
  refine tkS (i := 0) (v := ?_) ?_ ?_
  rotate_left 1
  · (intro w hSw; (try dsimp only at hSw); go_simp; try with_reducible rfl)
  all_goals ((try simp only [Act.put]); try simp only [g8b, g8c, g8d])
  refine tkS (i := 1) (v := ?_) ?_ ?_
  rotate_left 1
  · (intro w hSw; (try dsimp only at hSw); go_simp; try with_reducible rfl)
  all_goals ((try simp only [Act.put]); try simp only [g8b, g8c, g8d])
  refine tkS (i := 2) (v := ?_) ?_ ?_
  rotate_left 1
  · (intro w hSw; (try dsimp only at hSw); go_simp; try with_reducible rfl)
  all_goals ((try simp only [Act.put]); try simp only [g8b, g8c, g8d])
  refine tkS (i := 3) (v := ?_) ?_ ?_
  rotate_left 1
  · (intro w hSw; (try dsimp only at hSw); go_simp; try with_reducible rfl)
  all_goals ((try simp only [Act.put]); try simp only [g8b, g8c, g8d])
  refine tkS (i := 4) (v := ?_) ?_ ?_
  rotate_left 1
  · (intro w hSw; (try dsimp only at hSw); go_simp; try with_reducible rfl)
  all_goals ((try simp only [Act.put]); try simp only [g8b, g8c, g8d])
  refine wpAnyH_ready (rs := [5]) (by kernel_rfl) (by simp) ?_
  refine (AllReadyH.cons (by simp only [g8a, g8s, g8z]; rfl) (fun K hK => ?_) AllReadyH.nil)
  rw [if_pos (by rfl)]
  go_simp
  have th := cphor_any A B C n m k c d s a b h wd (by exact E.out.ja) (by exact E.out.jb) (by exact E.out.jc) HAO.out HBO.out HHO.out HKK.out
  rw [← HKC.out, ← HXX.out] at th
  unfold cpA at th
  have TH := Lib.hid th
  clear th
  refine TH.out.mono ?_
  rintro e wq ⟨rfl, hb⟩
  clear TH
  replace E := Lib.hid (E.out.below hb)
  clear hb
  try clear hHeld
  clear f0 f1 f2 g0 g1 g2 p6 h0 h1 h2 h3 h4 hlh
  obtain ⟨⟨f0, f1, f2⟩, ⟨g0, g1, g2⟩, p6, ⟨h0, h1, h2⟩, ⟨h3, h4⟩, hlh⟩ := E.out.cells
  refine hK.out _ _ (by exact ⟨f0, f1, f2, g0, g1, g2, p6, h0, h1, h2, h3, h4⟩) (fun hHeld => ?_)
  clear hK K
  (try simp only [Act.put]); (try simp only [g8b]); (try simp only [g8c]); (try simp only [g8d])
  by_cases hfr : fr = (X : Int)
  case neg =>
    have dx : (fr != (X : Int)) = true := by simpa using hfr
    have HFR := Lib.hid hfr
    clear hfr
    refine tkS (i := 6) (v := ?_) ?_ ?_
    rotate_left 1
    · (intro w hSw; (try dsimp only at hSw); go_simp; try with_reducible rfl)
    all_goals ((try simp only [Act.put]); try simp only [g8b, g8c, g8d])
    refine tkS (i := 7) (v := ?_) ?_ ?_
    rotate_left 1
    · (intro w hSw; (try dsimp only at hSw); go_simp; try with_reducible rfl)
    all_goals ((try simp only [Act.put]); try simp only [g8b, g8c, g8d])
    refine wpAnyH_take (i := 8) (oi := _) (v := undef) (by simp only [g8a, g8s, g8z]; rfl) (by kernel_rfl) (by kernel_rfl) (by kernel_rfl) (by exact fun _ _ _ h => h) (Or.inr ⟨by rfl, rfl⟩) (by assumption) ?_
    (try simp only [Act.put]); (try simp only [g8b]); (try simp only [g8c]); (try simp only [g8d])
    refine wpAnyH_take (i := 9) (oi := _) (v := undef) (by simp only [g8a, g8s, g8z]; rfl) (by kernel_rfl) (by kernel_rfl) (by kernel_rfl) (by exact fun _ _ _ h => h) (Or.inr ⟨by rfl, rfl⟩) (by assumption) ?_
    (try simp only [Act.put]); (try simp only [g8b]); (try simp only [g8c]); (try simp only [g8d])
    refine wpAnyH_take (i := 10) (oi := _) (v := undef) (by simp only [g8a, g8s, g8z]; rfl) (by kernel_rfl) (by kernel_rfl) (by kernel_rfl) (by exact fun _ _ _ h => h) (Or.inr ⟨by rfl, rfl⟩) (by assumption) ?_
    (try simp only [Act.put]); (try simp only [g8b]); (try simp only [g8c]); (try simp only [g8d])
    refine wpAnyH_take (i := 11) (oi := _) (v := undef) (by simp only [g8a, g8s, g8z]; rfl) (by kernel_rfl) (by kernel_rfl) (by kernel_rfl) (by exact fun _ _ _ h => h) (Or.inr ⟨by rfl, rfl⟩) (by assumption) ?_
    (try simp only [Act.put]); (try simp only [g8b]); (try simp only [g8c]); (try simp only [g8d])
    refine wpAnyH_take (i := 12) (oi := _) (v := undef) (by simp only [g8a, g8s, g8z]; rfl) (by kernel_rfl) (by kernel_rfl) (by kernel_rfl) (by exact fun _ _ _ h => h) (Or.inr ⟨by rfl, rfl⟩) (by assumption) ?_
    (try simp only [Act.put]); (try simp only [g8b]); (try simp only [g8c]); (try simp only [g8d])
    refine wpAnyH_take (i := 13) (oi := _) (v := undef) (by simp only [g8a, g8s, g8z]; rfl) (by kernel_rfl) (by kernel_rfl) (by kernel_rfl) (by exact fun _ _ _ h => h) (Or.inr ⟨by rfl, rfl⟩) (by assumption) ?_
    (try simp only [Act.put]); (try simp only [g8b]); (try simp only [g8c]); (try simp only [g8d])
    refine wpAnyH_take (i := 14) (oi := _) (v := undef) (by simp only [g8a, g8s, g8z]; rfl) (by kernel_rfl) (by kernel_rfl) (by kernel_rfl) (by exact fun _ _ _ h => h) (Or.inr ⟨by rfl, rfl⟩) (by assumption) ?_
    (try simp only [Act.put]); (try simp only [g8b]); (try simp only [g8c]); (try simp only [g8d])
    refine wpAnyH_take (i := 15) (oi := _) (v := undef) (by simp only [g8a, g8s, g8z]; rfl) (by kernel_rfl) (by kernel_rfl) (by kernel_rfl) (by exact fun _ _ _ h => h) (Or.inr ⟨by rfl, rfl⟩) (by assumption) ?_
    (try simp only [Act.put]); (try simp only [g8b]); (try simp only [g8c]); (try simp only [g8d])
    refine wpAnyH_take (i := 16) (oi := _) (v := undef) (by simp only [g8a, g8s, g8z]; rfl) (by kernel_rfl) (by kernel_rfl) (by kernel_rfl) (by exact fun _ _ _ h => h) (Or.inr ⟨by rfl, rfl⟩) (by assumption) ?_
    (try simp only [Act.put]); (try simp only [g8b]); (try simp only [g8c]); (try simp only [g8d])
    refine tkS (i := 17) (v := ?_) ?_ ?_
    rotate_left 1
    · (intro w hSw; (try dsimp only at hSw); go_simp; try with_reducible rfl)
    all_goals ((try simp only [Act.put]); try simp only [g8b, g8c, g8d])
    refine wpAnyH_done (by kernel_rfl) ?_ _
    try clear hHeld
    have FIN := Lib.hid (show ¬ AttS a b h fr cs from (fun hc => HFR.out (by rw [hc.1, HXX.out])))
    have bw := E.out.bw
    go_wp2_with fail
    try rw [Exit.noGoto_ret]
    go_ret
    exact RetQ.no FIN.out bw
  case pos =>
    subst hfr
    have dx : ((X : Int) != (X : Int)) = false := by simp
    refine tkS (i := 6) (v := ?_) ?_ ?_
    rotate_left 1
    · (intro w hSw; (try dsimp only at hSw); go_simp; try with_reducible rfl)
    all_goals ((try simp only [Act.put]); try simp only [g8b, g8c, g8d])
    refine tkS (i := 7) (v := ?_) ?_ ?_
    rotate_left 1
    · (intro w hSw; (try dsimp only at hSw); go_simp; try with_reducible rfl)
    all_goals ((try simp only [Act.put]); try simp only [g8b, g8c, g8d])
    refine tkS (i := 8) (v := ?_) ?_ ?_
    rotate_left 1
    · (intro w hSw; (try dsimp only at hSw); go_simp; try with_reducible rfl)
    all_goals ((try simp only [Act.put]); try simp only [g8b, g8c, g8d])
    refine tkS (i := 9) (v := ?_) ?_ ?_
    rotate_left 1
    · (intro w hSw; (try dsimp only at hSw); go_simp; try with_reducible rfl)
    all_goals ((try simp only [Act.put]); try simp only [g8b, g8c, g8d])
    refine tkS (i := 10) (v := ?_) ?_ ?_
    rotate_left 1
    · (intro w hSw; (try dsimp only at hSw); go_simp; try with_reducible rfl)
    all_goals ((try simp only [Act.put]); try simp only [g8b, g8c, g8d])
    refine tkS (i := 11) (v := ?_) ?_ ?_
    rotate_left 1
    · (intro w hSw; (try dsimp only at hSw); go_simp; try with_reducible rfl)
    all_goals ((try simp only [Act.put]); try simp only [g8b, g8c, g8d])
    refine tkS (i := 12) (v := ?_) ?_ ?_
    rotate_left 1
    · (intro w hSw; (try dsimp only at hSw); go_simp; try with_reducible rfl)
    all_goals ((try simp only [Act.put]); try simp only [g8b, g8c, g8d])
    refine tkS (i := 13) (v := ?_) ?_ ?_
    rotate_left 1
    · (intro w hSw; (try dsimp only at hSw); go_simp; try with_reducible rfl)
    all_goals ((try simp only [Act.put]); try simp only [g8b, g8c, g8d])
    refine tkS (i := 14) (v := ?_) ?_ ?_
    rotate_left 1
    · (intro w hSw; (try dsimp only at hSw); go_simp; try with_reducible rfl)
    all_goals ((try simp only [Act.put]); try simp only [g8b, g8c, g8d])
    refine tkS (i := 15) (v := ?_) ?_ ?_
    rotate_left 1
    · (intro w hSw; (try dsimp only at hSw); go_simp; try with_reducible rfl)
    all_goals ((try simp only [Act.put]); try simp only [g8b, g8c, g8d])
    by_cases hxN : x = N
    case neg =>
      have dn : ((x : Int) != (N : Int)) = true := by simp; omega
      have dn2 : (x != N) = true := by simp; omega
      have HXN := Lib.hid hxN
      clear hxN
      refine tkS (i := 16) (v := ?_) ?_ ?_
      rotate_left 1
      · (intro w hSw; (try dsimp only at hSw); go_simp; try with_reducible rfl)
      all_goals ((try simp only [Act.put]); try simp only [g8b, g8c, g8d])
      refine tkS (i := 17) (v := ?_) ?_ ?_
      rotate_left 1
      · (intro w hSw; (try dsimp only at hSw); go_simp; try with_reducible rfl)
      all_goals ((try simp only [Act.put]); try simp only [g8b, g8c, g8d])
      refine wpAnyH_done (by kernel_rfl) ?_ _
      try clear hHeld
      have FIN := Lib.hid (show ¬ AttS a b h (X : Int) cs from (fun hc => HXN.out (by rw [← HLX.out, hc.2.1, HNN.out])))
      have bw := E.out.bw
      go_wp2_with fail
      try rw [Exit.noGoto_ret]
      go_ret
      exact RetQ.no FIN.out bw
    case pos =>
      subst hxN
      have dn : ((x : Int) != (x : Int)) = false := by simp
      have dn2 : (x != x) = false := by simp
      refine tkS (i := 16) (v := ?_) ?_ ?_
      rotate_left 1
      · (intro w hSw; (try dsimp only at hSw); go_simp; try with_reducible rfl)
      all_goals ((try simp only [Act.put]); try simp only [g8b, g8c, g8d])
      refine tkS (i := 17) (v := ?_) ?_ ?_
      rotate_left 1
      · (intro w hSw; (try dsimp only at hSw); go_simp; try with_reducible rfl)
      all_goals ((try simp only [Act.put]); try simp only [g8b, g8c, g8d])
      refine wpAnyH_done (by kernel_rfl) ?_ _
      try clear hHeld
      clear dn dn2 dx e1 e2 e3
      go_wp2_with fail
      clear f0 f1 f2 g0 g1 g2 p6 h0 h1 h2 h3 h4 hlh
      go_loopg [5, 6, 7, 29] x (fun gg s5 s6 s7 s29 wx => ∃ t : Nat, t + gg = x ∧ s29 = .int .i64 t ∧ (∀ z, z < t → 0 ≤ nth cs z ∧ SpOk a b h z (nth cs z).toNat) ∧ CT w wx A n c a B m d b KC C k s h (X : Int) D x y cs)
      case atStart => exact ⟨0, by omega, rfl, (fun z hz => by omega), E.out⟩
      case round =>
        clear E
        obtain ⟨t, htg, rfl, hgood, hE⟩ := hrel
        have E := Lib.hid hE; have HG := Lib.hid hgood
        clear hE hgood
        by_cases ht : t < x
        · have hti : (t : Int) < x := by omega
          obtain ⟨dd, od, hDe, hdl, hdc⟩ := E.out.jd.2 (by omega)
          subst hDe
          have hdt := hdc t ht
          obtain ⟨at', hat⟩ : ∃ z, z = nth cs t := ⟨_, rfl⟩
          rw [← hat] at hdt
          obtain ⟨v, hv⟩ : ∃ z, z = h.at t := ⟨_, rfl⟩
          have HAT := Lib.hid hat; have HV := Lib.hid hv
          clear hdc hat hv
          obtain ⟨⟨f0, f1, f2⟩, ⟨g0, g1, g2⟩, p6, ⟨h0, h1, h2⟩, ⟨h3, h4⟩, hlh⟩ := E.out.cells
          go_wp2_with fail
          refine (at_any C k s h.per h.inc (t : Int) h.vals _ (by exact E.out.jc) (by omega) (by omega) (by omega) (by omega) (by omega) HHO.out.nn (by omega) (by omega)).mono ?_
          rw [Int.toNat_natCast, ← HV.out]
          rintro e wa ⟨rfl, hb⟩
          clear hdt hdl
          replace E := Lib.hid (E.out.below hb)
          clear hb
          try clear hHeld
          clear f0 f1 f2 g0 g1 g2 p6 h0 h1 h2 h3 h4 hlh
          obtain ⟨⟨f0, f1, f2⟩, ⟨g0, g1, g2⟩, p6, ⟨h0, h1, h2⟩, ⟨h3, h4⟩, hlh⟩ := E.out.cells
          have htx : t < cs.length := by rw [HLX.out]; exact ht
          go_upto_region 7 with fail
          have E := Lib.hid E.out.drew
          clear f0 f1 f2 g0 g1 g2 p6 h0 h1 h2 h3 h4 hlh
          obtain ⟨⟨f0, f1, f2⟩, ⟨g0, g1, g2⟩, p6, ⟨h0, h1, h2⟩, ⟨h3, h4⟩, hlh⟩ := E.out.cells
          refine wp_region_held_drew (S := (fun w' => w'.cell? ⟨w.heap.size, 0, none⟩ = some (.slice A n c) ∧ w'.cell? ⟨w.heap.size, 1, none⟩ = some (.int .i64 a.per) ∧ w'.cell? ⟨w.heap.size, 2, none⟩ = some (.int .i64 a.inc) ∧ w'.cell? ⟨w.heap.size, 3, none⟩ = some (.slice B m d) ∧ w'.cell? ⟨w.heap.size, 4, none⟩ = some (.int .i64 b.per) ∧ w'.cell? ⟨w.heap.size, 5, none⟩ = some (.int .i64 b.inc) ∧ w'.cell? ⟨w.heap.size, 6, none⟩ = some (.int .i64 KC) ∧ w'.cell? ⟨w.heap.size + 1, 0, none⟩ = some (.slice C k s) ∧ w'.cell? ⟨w.heap.size + 1, 1, none⟩ = some (.int .i64 h.per) ∧ w'.cell? ⟨w.heap.size + 1, 2, none⟩ = some (.int .i64 h.inc) ∧ w'.cell? ⟨w.heap.size + 1, 3, none⟩ = some (.int .i64 (X : Int)) ∧ w'.cell? ⟨w.heap.size + 1, 4, none⟩ = some (.slice (some ⟨dd, od, none⟩) x y))) (by kernel_rfl) (by exact ⟨f0, f1, f2, g0, g1, g2, p6, h0, h1, h2, h3, h4⟩) (fun hHeld => ?_)
          generalize hwd : wa.drew = wd at *
          clear hwd
          by_cases hn0 : at' < 0
          · have dz0 : decide (at' < 0) = true := by simpa using hn0
            have HN0 := Lib.hid hn0
            clear hn0
            refine tkS (i := 0) (v := ?_) ?_ ?_
            rotate_left 1
            · (intro w hSw; (try dsimp only at hSw); go_simp; try with_reducible rfl)
            all_goals ((try simp only [Act.put]); try simp only [g8b, g8c, g8d])
            refine tkS (i := 1) (v := ?_) ?_ ?_
            rotate_left 1
            · (intro w hSw; (try dsimp only at hSw); go_simp; try with_reducible rfl)
            all_goals ((try simp only [Act.put]); try simp only [g8b, g8c, g8d])
            refine tkS (i := 2) (v := ?_) ?_ ?_
            rotate_left 1
            · (intro w hSw; (try dsimp only at hSw); go_simp; try with_reducible rfl)
            all_goals ((try simp only [Act.put]); try simp only [g8b, g8c, g8d])
            refine wpAnyH_take (i := 3) (oi := _) (v := undef) (by simp only [g8a, g8s, g8z]; rfl) (by kernel_rfl) (by kernel_rfl) (by kernel_rfl) (by exact fun _ _ _ h => h) (Or.inr ⟨by rfl, rfl⟩) (by assumption) ?_
            (try simp only [Act.put]); (try simp only [g8b]); (try simp only [g8c]); (try simp only [g8d])
            refine wpAnyH_take (i := 4) (oi := _) (v := undef) (by simp only [g8a, g8s, g8z]; rfl) (by kernel_rfl) (by kernel_rfl) (by kernel_rfl) (by exact fun _ _ _ h => h) (Or.inr ⟨by rfl, rfl⟩) (by assumption) ?_
            (try simp only [Act.put]); (try simp only [g8b]); (try simp only [g8c]); (try simp only [g8d])
            refine wpAnyH_take (i := 5) (oi := _) (v := undef) (by simp only [g8a, g8s, g8z]; rfl) (by kernel_rfl) (by kernel_rfl) (by kernel_rfl) (by exact fun _ _ _ h => h) (Or.inr ⟨by rfl, rfl⟩) (by assumption) ?_
            (try simp only [Act.put]); (try simp only [g8b]); (try simp only [g8c]); (try simp only [g8d])
            refine tkS (i := 6) (v := ?_) ?_ ?_
            rotate_left 1
            · (intro w hSw; (try dsimp only at hSw); go_simp; try with_reducible rfl)
            all_goals ((try simp only [Act.put]); try simp only [g8b, g8c, g8d])
            refine tkS (i := 7) (v := ?_) ?_ ?_
            rotate_left 1
            · (intro w hSw; (try dsimp only at hSw); go_simp; try with_reducible rfl)
            all_goals ((try simp only [Act.put]); try simp only [g8b, g8c, g8d])
            refine wpAnyH_take (i := 8) (oi := _) (v := undef) (by simp only [g8a, g8s, g8z]; rfl) (by kernel_rfl) (by kernel_rfl) (by kernel_rfl) (by exact fun _ _ _ h => h) (Or.inr ⟨by rfl, rfl⟩) (by assumption) ?_
            (try simp only [Act.put]); (try simp only [g8b]); (try simp only [g8c]); (try simp only [g8d])
            refine wpAnyH_take (i := 9) (oi := _) (v := undef) (by simp only [g8a, g8s, g8z]; rfl) (by kernel_rfl) (by kernel_rfl) (by kernel_rfl) (by exact fun _ _ _ h => h) (Or.inr ⟨by rfl, rfl⟩) (by assumption) ?_
            (try simp only [Act.put]); (try simp only [g8b]); (try simp only [g8c]); (try simp only [g8d])
            refine wpAnyH_take (i := 10) (oi := _) (v := undef) (by simp only [g8a, g8s, g8z]; rfl) (by kernel_rfl) (by kernel_rfl) (by kernel_rfl) (by exact fun _ _ _ h => h) (Or.inr ⟨by rfl, rfl⟩) (by assumption) ?_
            (try simp only [Act.put]); (try simp only [g8b]); (try simp only [g8c]); (try simp only [g8d])
            refine wpAnyH_take (i := 11) (oi := _) (v := undef) (by simp only [g8a, g8s, g8z]; rfl) (by kernel_rfl) (by kernel_rfl) (by kernel_rfl) (by exact fun _ _ _ h => h) (Or.inr ⟨by rfl, rfl⟩) (by assumption) ?_
            (try simp only [Act.put]); (try simp only [g8b]); (try simp only [g8c]); (try simp only [g8d])
            refine wpAnyH_take (i := 12) (oi := _) (v := undef) (by simp only [g8a, g8s, g8z]; rfl) (by kernel_rfl) (by kernel_rfl) (by kernel_rfl) (by exact fun _ _ _ h => h) (Or.inr ⟨by rfl, rfl⟩) (by assumption) ?_
            (try simp only [Act.put]); (try simp only [g8b]); (try simp only [g8c]); (try simp only [g8d])
            refine wpAnyH_take (i := 13) (oi := _) (v := undef) (by simp only [g8a, g8s, g8z]; rfl) (by kernel_rfl) (by kernel_rfl) (by kernel_rfl) (by exact fun _ _ _ h => h) (Or.inr ⟨by rfl, rfl⟩) (by assumption) ?_
            (try simp only [Act.put]); (try simp only [g8b]); (try simp only [g8c]); (try simp only [g8d])
            refine wpAnyH_take (i := 14) (oi := _) (v := undef) (by simp only [g8a, g8s, g8z]; rfl) (by kernel_rfl) (by kernel_rfl) (by kernel_rfl) (by exact fun _ _ _ h => h) (Or.inr ⟨by rfl, rfl⟩) (by assumption) ?_
            (try simp only [Act.put]); (try simp only [g8b]); (try simp only [g8c]); (try simp only [g8d])
            refine wpAnyH_take (i := 15) (oi := _) (v := undef) (by simp only [g8a, g8s, g8z]; rfl) (by kernel_rfl) (by kernel_rfl) (by kernel_rfl) (by exact fun _ _ _ h => h) (Or.inr ⟨by rfl, rfl⟩) (by assumption) ?_
            (try simp only [Act.put]); (try simp only [g8b]); (try simp only [g8c]); (try simp only [g8d])
            refine wpAnyH_take (i := 16) (oi := _) (v := undef) (by simp only [g8a, g8s, g8z]; rfl) (by kernel_rfl) (by kernel_rfl) (by kernel_rfl) (by exact fun _ _ _ h => h) (Or.inr ⟨by rfl, rfl⟩) (by assumption) ?_
            (try simp only [Act.put]); (try simp only [g8b]); (try simp only [g8c]); (try simp only [g8d])
            refine wpAnyH_take (i := 17) (oi := _) (v := undef) (by simp only [g8a, g8s, g8z]; rfl) (by kernel_rfl) (by kernel_rfl) (by kernel_rfl) (by exact fun _ _ _ h => h) (Or.inr ⟨by rfl, rfl⟩) (by assumption) ?_
            (try simp only [Act.put]); (try simp only [g8b]); (try simp only [g8c]); (try simp only [g8d])
            refine wpAnyH_take (i := 18) (oi := _) (v := undef) (by simp only [g8a, g8s, g8z]; rfl) (by kernel_rfl) (by kernel_rfl) (by kernel_rfl) (by exact fun _ _ _ h => h) (Or.inr ⟨by rfl, rfl⟩) (by assumption) ?_
            (try simp only [Act.put]); (try simp only [g8b]); (try simp only [g8c]); (try simp only [g8d])
            refine wpAnyH_take (i := 19) (oi := _) (v := undef) (by simp only [g8a, g8s, g8z]; rfl) (by kernel_rfl) (by kernel_rfl) (by kernel_rfl) (by exact fun _ _ _ h => h) (Or.inr ⟨by rfl, rfl⟩) (by assumption) ?_
            (try simp only [Act.put]); (try simp only [g8b]); (try simp only [g8c]); (try simp only [g8d])
            refine wpAnyH_take (i := 20) (oi := _) (v := undef) (by simp only [g8a, g8s, g8z]; rfl) (by kernel_rfl) (by kernel_rfl) (by kernel_rfl) (by exact fun _ _ _ h => h) (Or.inr ⟨by rfl, rfl⟩) (by assumption) ?_
            (try simp only [Act.put]); (try simp only [g8b]); (try simp only [g8c]); (try simp only [g8d])
            refine tkS (i := 21) (v := ?_) ?_ ?_
            rotate_left 1
            · (intro w hSw; (try dsimp only at hSw); go_simp; try with_reducible rfl)
            all_goals ((try simp only [Act.put]); try simp only [g8b, g8c, g8d])
            refine wpAnyH_done (by kernel_rfl) ?_ _
            try clear hHeld
            have FIN := Lib.hid (show ¬ AttS a b h (X : Int) cs from (fun hc => by have := (hc.2.2 t htx).1; rw [← HAT.out] at this; have := HN0.out; omega))
            have bw := E.out.bw
            go_wp2_with fail
            try rw [Exit.noGoto_ret]
            go_ret
            exact RetQ.no FIN.out bw
          · have dz0 : decide (at' < 0) = false := by simpa using hn0
            obtain ⟨u, hu⟩ : ∃ u : Nat, at' = u := ⟨at'.toNat, by omega⟩
            subst hu
            clear hn0
            by_cases hut : u ≤ t
            case neg =>
              have d1 : decide (t < u) = true := by simpa using hut
              have d2 : decide ((u : Int) > (t : Int)) = true := by simp; omega
              have d3 : decide ((t : Int) < (u : Int)) = true := by simp; omega
              have HUT := Lib.hid hut
              clear hut
              refine tkS (i := 0) (v := ?_) ?_ ?_
              rotate_left 1
              · (intro w hSw; (try dsimp only at hSw); go_simp; try with_reducible rfl)
              all_goals ((try simp only [Act.put]); try simp only [g8b, g8c, g8d])
              refine tkS (i := 1) (v := ?_) ?_ ?_
              rotate_left 1
              · (intro w hSw; (try dsimp only at hSw); go_simp; try with_reducible rfl)
              all_goals ((try simp only [Act.put]); try simp only [g8b, g8c, g8d])
              refine tkS (i := 2) (v := ?_) ?_ ?_
              rotate_left 1
              · (intro w hSw; (try dsimp only at hSw); go_simp; try with_reducible rfl)
              all_goals ((try simp only [Act.put]); try simp only [g8b, g8c, g8d])
              refine tkS (i := 3) (v := ?_) ?_ ?_
              rotate_left 1
              · (intro w hSw; (try dsimp only at hSw); go_simp; try with_reducible rfl)
              all_goals ((try simp only [Act.put]); try simp only [g8b, g8c, g8d])
              refine tkS (i := 4) (v := ?_) ?_ ?_
              rotate_left 1
              · (intro w hSw; (try dsimp only at hSw); go_simp; try with_reducible rfl)
              all_goals ((try simp only [Act.put]); try simp only [g8b, g8c, g8d])
              refine tkS (i := 5) (v := ?_) ?_ ?_
              rotate_left 1
              · (intro w hSw; (try dsimp only at hSw); go_simp; try with_reducible rfl)
              all_goals ((try simp only [Act.put]); try simp only [g8b, g8c, g8d])
              refine tkS (i := 6) (v := ?_) ?_ ?_
              rotate_left 1
              · (intro w hSw; (try dsimp only at hSw); go_simp; try with_reducible rfl)
              all_goals ((try simp only [Act.put]); try simp only [g8b, g8c, g8d])
              refine tkS (i := 7) (v := ?_) ?_ ?_
              rotate_left 1
              · (intro w hSw; (try dsimp only at hSw); go_simp; try with_reducible rfl)
              all_goals ((try simp only [Act.put]); try simp only [g8b, g8c, g8d])
              refine wpAnyH_take (i := 8) (oi := _) (v := undef) (by simp only [g8a, g8s, g8z]; rfl) (by kernel_rfl) (by kernel_rfl) (by kernel_rfl) (by exact fun _ _ _ h => h) (Or.inr ⟨by rfl, rfl⟩) (by assumption) ?_
              (try simp only [Act.put]); (try simp only [g8b]); (try simp only [g8c]); (try simp only [g8d])
              refine wpAnyH_take (i := 9) (oi := _) (v := undef) (by simp only [g8a, g8s, g8z]; rfl) (by kernel_rfl) (by kernel_rfl) (by kernel_rfl) (by exact fun _ _ _ h => h) (Or.inr ⟨by rfl, rfl⟩) (by assumption) ?_
              (try simp only [Act.put]); (try simp only [g8b]); (try simp only [g8c]); (try simp only [g8d])
              refine wpAnyH_take (i := 10) (oi := _) (v := undef) (by simp only [g8a, g8s, g8z]; rfl) (by kernel_rfl) (by kernel_rfl) (by kernel_rfl) (by exact fun _ _ _ h => h) (Or.inr ⟨by rfl, rfl⟩) (by assumption) ?_
              (try simp only [Act.put]); (try simp only [g8b]); (try simp only [g8c]); (try simp only [g8d])
              refine wpAnyH_take (i := 11) (oi := _) (v := undef) (by simp only [g8a, g8s, g8z]; rfl) (by kernel_rfl) (by kernel_rfl) (by kernel_rfl) (by exact fun _ _ _ h => h) (Or.inr ⟨by rfl, rfl⟩) (by assumption) ?_
              (try simp only [Act.put]); (try simp only [g8b]); (try simp only [g8c]); (try simp only [g8d])
              refine wpAnyH_take (i := 12) (oi := _) (v := undef) (by simp only [g8a, g8s, g8z]; rfl) (by kernel_rfl) (by kernel_rfl) (by kernel_rfl) (by exact fun _ _ _ h => h) (Or.inr ⟨by rfl, rfl⟩) (by assumption) ?_
              (try simp only [Act.put]); (try simp only [g8b]); (try simp only [g8c]); (try simp only [g8d])
              refine wpAnyH_take (i := 13) (oi := _) (v := undef) (by simp only [g8a, g8s, g8z]; rfl) (by kernel_rfl) (by kernel_rfl) (by kernel_rfl) (by exact fun _ _ _ h => h) (Or.inr ⟨by rfl, rfl⟩) (by assumption) ?_
              (try simp only [Act.put]); (try simp only [g8b]); (try simp only [g8c]); (try simp only [g8d])
              refine wpAnyH_take (i := 14) (oi := _) (v := undef) (by simp only [g8a, g8s, g8z]; rfl) (by kernel_rfl) (by kernel_rfl) (by kernel_rfl) (by exact fun _ _ _ h => h) (Or.inr ⟨by rfl, rfl⟩) (by assumption) ?_
              (try simp only [Act.put]); (try simp only [g8b]); (try simp only [g8c]); (try simp only [g8d])
              refine wpAnyH_take (i := 15) (oi := _) (v := undef) (by simp only [g8a, g8s, g8z]; rfl) (by kernel_rfl) (by kernel_rfl) (by kernel_rfl) (by exact fun _ _ _ h => h) (Or.inr ⟨by rfl, rfl⟩) (by assumption) ?_
              (try simp only [Act.put]); (try simp only [g8b]); (try simp only [g8c]); (try simp only [g8d])
              refine wpAnyH_take (i := 16) (oi := _) (v := undef) (by simp only [g8a, g8s, g8z]; rfl) (by kernel_rfl) (by kernel_rfl) (by kernel_rfl) (by exact fun _ _ _ h => h) (Or.inr ⟨by rfl, rfl⟩) (by assumption) ?_
              (try simp only [Act.put]); (try simp only [g8b]); (try simp only [g8c]); (try simp only [g8d])
              refine wpAnyH_take (i := 17) (oi := _) (v := undef) (by simp only [g8a, g8s, g8z]; rfl) (by kernel_rfl) (by kernel_rfl) (by kernel_rfl) (by exact fun _ _ _ h => h) (Or.inr ⟨by rfl, rfl⟩) (by assumption) ?_
              (try simp only [Act.put]); (try simp only [g8b]); (try simp only [g8c]); (try simp only [g8d])
              refine wpAnyH_take (i := 18) (oi := _) (v := undef) (by simp only [g8a, g8s, g8z]; rfl) (by kernel_rfl) (by kernel_rfl) (by kernel_rfl) (by exact fun _ _ _ h => h) (Or.inr ⟨by rfl, rfl⟩) (by assumption) ?_
              (try simp only [Act.put]); (try simp only [g8b]); (try simp only [g8c]); (try simp only [g8d])
              refine wpAnyH_take (i := 19) (oi := _) (v := undef) (by simp only [g8a, g8s, g8z]; rfl) (by kernel_rfl) (by kernel_rfl) (by kernel_rfl) (by exact fun _ _ _ h => h) (Or.inr ⟨by rfl, rfl⟩) (by assumption) ?_
              (try simp only [Act.put]); (try simp only [g8b]); (try simp only [g8c]); (try simp only [g8d])
              refine wpAnyH_take (i := 20) (oi := _) (v := undef) (by simp only [g8a, g8s, g8z]; rfl) (by kernel_rfl) (by kernel_rfl) (by kernel_rfl) (by exact fun _ _ _ h => h) (Or.inr ⟨by rfl, rfl⟩) (by assumption) ?_
              (try simp only [Act.put]); (try simp only [g8b]); (try simp only [g8c]); (try simp only [g8d])
              refine tkS (i := 21) (v := ?_) ?_ ?_
              rotate_left 1
              · (intro w hSw; (try dsimp only at hSw); go_simp; try with_reducible rfl)
              all_goals ((try simp only [Act.put]); try simp only [g8b, g8c, g8d])
              refine wpAnyH_done (by kernel_rfl) ?_ _
              try clear hHeld
              have FIN := Lib.hid (show ¬ AttS a b h (X : Int) cs from (fun hc => by have := (hc.2.2 t htx).2.1; rw [← HAT.out, Int.toNat_natCast] at this; exact HUT.out this))
              have bw := E.out.bw
              go_wp2_with fail
              try rw [Exit.noGoto_ret]
              go_ret
              exact RetQ.no FIN.out bw
            case pos =>
              have d1 : decide (t < u) = false := by simpa using hut
              have d3 : decide ((t : Int) < (u : Int)) = false := by simp; omega
              obtain ⟨z, hz⟩ : ∃ z : Nat, z = t - u := ⟨_, rfl⟩
              have ez1 : IntKind.i64.wrap ((t : Int) - (u : Int)) = (z : Int) := by rw [IntWalk.i64_in _ (by omega)]; omega
              have ez2 : (t : Int) - (u : Int) = (z : Int) := by omega
              have ez3 : IntKind.i64.wrap (z : Int) = (z : Int) := IntWalk.i64_in _ (by omega)
              have hu9 : u ≤ 1040 := by omega
              have hz9 : z ≤ 1040 := by omega
              have HZ := Lib.hid hz
              clear hz
              obtain ⟨xv, hxv⟩ : ∃ xv, xv = a.at u := ⟨_, rfl⟩
              obtain ⟨yv, hyv⟩ : ∃ yv, yv = b.at z := ⟨_, rfl⟩
              obtain ⟨pv, hpv⟩ : ∃ pv, pv = pl xv yv := ⟨_, rfl⟩
              have HX1 := Lib.hid hxv; have HY1 := Lib.hid hyv; have HP := Lib.hid hpv
              have nx := at_near HAO.out (t := u) (by omega); have ny := at_near HBO.out (t := z) (by omega)
              rw [← hxv] at nx
              rw [← hyv] at ny
              have NX := Lib.hid nx; have NY := Lib.hid ny
              have PQ := Lib.hid (show pl (a.at u) (b.at (t - u)) = pv from by rw [hpv, hxv, hyv, HZ.out])
              clear hxv hyv hpv nx ny
              refine tkS (i := 0) (v := ?_) ?_ ?_
              rotate_left 1
              · (intro w hSw; (try dsimp only at hSw); go_simp; try with_reducible rfl)
              all_goals ((try simp only [Act.put]); try simp only [g8b, g8c, g8d])
              refine tkS (i := 1) (v := ?_) ?_ ?_
              rotate_left 1
              · (intro w hSw; (try dsimp only at hSw); go_simp; try with_reducible rfl)
              all_goals ((try simp only [Act.put]); try simp only [g8b, g8c, g8d])
              refine tkS (i := 2) (v := ?_) ?_ ?_
              rotate_left 1
              · (intro w hSw; (try dsimp only at hSw); go_simp; try with_reducible rfl)
              all_goals ((try simp only [Act.put]); try simp only [g8b, g8c, g8d])
              refine tkS (i := 3) (v := ?_) ?_ ?_
              rotate_left 1
              · (intro w hSw; (try dsimp only at hSw); go_simp; try with_reducible rfl)
              all_goals ((try simp only [Act.put]); try simp only [g8b, g8c, g8d])
              refine tkS (i := 4) (v := ?_) ?_ ?_
              rotate_left 1
              · (intro w hSw; (try dsimp only at hSw); go_simp; try with_reducible rfl)
              all_goals ((try simp only [Act.put]); try simp only [g8b, g8c, g8d])
              refine tkS (i := 5) (v := ?_) ?_ ?_
              rotate_left 1
              · (intro w hSw; (try dsimp only at hSw); go_simp; try with_reducible rfl)
              all_goals ((try simp only [Act.put]); try simp only [g8b, g8c, g8d])
              refine tkS (i := 6) (v := ?_) ?_ ?_
              rotate_left 1
              · (intro w hSw; (try dsimp only at hSw); go_simp; try with_reducible rfl)
              all_goals ((try simp only [Act.put]); try simp only [g8b, g8c, g8d])
              refine tkS (i := 7) (v := ?_) ?_ ?_
              rotate_left 1
              · (intro w hSw; (try dsimp only at hSw); go_simp; try with_reducible rfl)
              all_goals ((try simp only [Act.put]); try simp only [g8b, g8c, g8d])
              refine tkS (i := 8) (v := ?_) ?_ ?_
              rotate_left 1
              · (intro w hSw; (try dsimp only at hSw); go_simp; try with_reducible rfl)
              all_goals ((try simp only [Act.put]); try simp only [g8b, g8c, g8d])
              refine tkS (i := 9) (v := ?_) ?_ ?_
              rotate_left 1
              · (intro w hSw; (try dsimp only at hSw); go_simp; try with_reducible rfl)
              all_goals ((try simp only [Act.put]); try simp only [g8b, g8c, g8d])
              refine tkS (i := 10) (v := ?_) ?_ ?_
              rotate_left 1
              · (intro w hSw; (try dsimp only at hSw); go_simp; try with_reducible rfl)
              all_goals ((try simp only [Act.put]); try simp only [g8b, g8c, g8d])
              refine tkS (i := 12) (v := ?_) ?_ ?_
              rotate_left 1
              · (intro w hSw; (try dsimp only at hSw); go_simp; try with_reducible rfl)
              all_goals ((try simp only [Act.put]); try simp only [g8b, g8c, g8d])
              refine tkS (i := 13) (v := ?_) ?_ ?_
              rotate_left 1
              · (intro w hSw; (try dsimp only at hSw); go_simp; try with_reducible rfl)
              all_goals ((try simp only [Act.put]); try simp only [g8b, g8c, g8d])
              refine tkS (i := 14) (v := ?_) ?_ ?_
              rotate_left 1
              · (intro w hSw; (try dsimp only at hSw); go_simp; try with_reducible rfl)
              all_goals ((try simp only [Act.put]); try simp only [g8b, g8c, g8d])
              refine tkS (i := 15) (v := ?_) ?_ ?_
              rotate_left 1
              · (intro w hSw; (try dsimp only at hSw); go_simp; try with_reducible rfl)
              all_goals ((try simp only [Act.put]); try simp only [g8b, g8c, g8d])
              refine tkS (i := 16) (v := ?_) ?_ ?_
              rotate_left 1
              · (intro w hSw; (try dsimp only at hSw); go_simp; try with_reducible rfl)
              all_goals ((try simp only [Act.put]); try simp only [g8b, g8c, g8d])
              refine tkS (i := 19) (v := ?_) ?_ ?_
              rotate_left 1
              · (intro w hSw; (try dsimp only at hSw); go_simp; try with_reducible rfl)
              all_goals ((try simp only [Act.put]); try simp only [g8b, g8c, g8d])
              clear ez1 ez2 ez3
              refine wpAnyH_ready (rs := [11]) (by kernel_rfl) (by simp) ?_
              refine (AllReadyH.cons (by simp only [g8a, g8s, g8z]; rfl) (fun K hK => ?_) AllReadyH.nil)
              rw [if_pos (by rfl)]
              go_simp
              refine (at_any A n c a.per a.inc (u : Int) a.vals _ (by exact E.out.ja) (by omega) (by omega) (by omega) (by omega) (by omega) HAO.out.nn (by omega) (by omega)).mono ?_
              rw [Int.toNat_natCast, ← HX1.out]
              rintro e wb ⟨rfl, hb⟩
              replace E := Lib.hid (E.out.below hb)
              clear hb
              try clear hHeld
              clear f0 f1 f2 g0 g1 g2 p6 h0 h1 h2 h3 h4 hlh
              obtain ⟨⟨f0, f1, f2⟩, ⟨g0, g1, g2⟩, p6, ⟨h0, h1, h2⟩, ⟨h3, h4⟩, hlh⟩ := E.out.cells
              refine hK.out _ _ (by exact ⟨f0, f1, f2, g0, g1, g2, p6, h0, h1, h2, h3, h4⟩) (fun hHeld => ?_)
              clear hK K
              (try simp only [Act.put]); (try simp only [g8b]); (try simp only [g8c]); (try simp only [g8d])
              refine wpAnyH_ready (rs := [17]) (by kernel_rfl) (by simp) ?_
              refine (AllReadyH.cons (by simp only [g8a, g8s, g8z]; rfl) (fun K hK => ?_) AllReadyH.nil)
              rw [if_pos (by rfl)]
              go_simp
              refine (at_any B m d b.per b.inc (z : Int) b.vals _ (by exact E.out.jb) (by omega) (by omega) (by omega) (by omega) (by omega) HBO.out.nn (by omega) (by omega)).mono ?_
              rw [Int.toNat_natCast, ← HY1.out]
              rintro e wf ⟨rfl, hb⟩
              replace E := Lib.hid (E.out.below hb)
              clear hb
              try clear hHeld
              clear f0 f1 f2 g0 g1 g2 p6 h0 h1 h2 h3 h4 hlh
              obtain ⟨⟨f0, f1, f2⟩, ⟨g0, g1, g2⟩, p6, ⟨h0, h1, h2⟩, ⟨h3, h4⟩, hlh⟩ := E.out.cells
              refine hK.out _ _ (by exact ⟨f0, f1, f2, g0, g1, g2, p6, h0, h1, h2, h3, h4⟩) (fun hHeld => ?_)
              clear hK K
              (try simp only [Act.put]); (try simp only [g8b]); (try simp only [g8c]); (try simp only [g8d])
              refine wpAnyH_ready (rs := [18]) (by kernel_rfl) (by simp) ?_
              refine (AllReadyH.cons (by simp only [g8a, g8s, g8z]; rfl) (fun K hK => ?_) AllReadyH.nil)
              rw [if_pos (by rfl)]
              go_simp
              refine (plus_any xv yv wf (by exact NX.out.1) (by exact NX.out.2) (by exact NY.out.1) (by exact NY.out.2)).mono ?_
              rw [← HP.out]
              rintro e wg ⟨rfl, rfl⟩
              refine hK.out _ _ (by exact ⟨f0, f1, f2, g0, g1, g2, p6, h0, h1, h2, h3, h4⟩) (fun hHeld => ?_)
              clear hK K
              (try simp only [Act.put]); (try simp only [g8b]); (try simp only [g8c]); (try simp only [g8d])
              by_cases hpe : pv = v
              case neg =>
                have dp : (pv != v) = true := by simpa using hpe
                have HPE := Lib.hid hpe
                clear hpe
                refine tkS (i := 20) (v := ?_) ?_ ?_
                rotate_left 1
                · (intro w hSw; (try dsimp only at hSw); go_simp; try with_reducible rfl)
                all_goals ((try simp only [Act.put]); try simp only [g8b, g8c, g8d])
                refine tkS (i := 21) (v := ?_) ?_ ?_
                rotate_left 1
                · (intro w hSw; (try dsimp only at hSw); go_simp; try with_reducible rfl)
                all_goals ((try simp only [Act.put]); try simp only [g8b, g8c, g8d])
                refine wpAnyH_done (by kernel_rfl) ?_ _
                try clear hHeld
                have FIN := Lib.hid (show ¬ AttS a b h (X : Int) cs from (fun hc => by have := (hc.2.2 t htx).2.2.1; rw [← HAT.out, Int.toNat_natCast, PQ.out, ← HV.out] at this; exact HPE.out this))
                have bw := E.out.bw
                go_wp2_with fail
                try rw [Exit.noGoto_ret]
                go_ret
                exact RetQ.no FIN.out bw
              case pos =>
                have dp : (pv != v) = false := by simpa using hpe
                have HPE := Lib.hid hpe
                clear hpe
                refine tkS (i := 20) (v := ?_) ?_ ?_
                rotate_left 1
                · (intro w hSw; (try dsimp only at hSw); go_simp; try with_reducible rfl)
                all_goals ((try simp only [Act.put]); try simp only [g8b, g8c, g8d])
                refine tkS (i := 21) (v := ?_) ?_ ?_
                rotate_left 1
                · (intro w hSw; (try dsimp only at hSw); go_simp; try with_reducible rfl)
                all_goals ((try simp only [Act.put]); try simp only [g8b, g8c, g8d])
                refine wpAnyH_done (by kernel_rfl) ?_ _
                try clear hHeld
                clear dp d1 d3 dz0
                by_cases hlt : X ≤ t
                case neg =>
                  have dl : decide (X ≤ t) = false := by simpa using hlt
                  have dl2 : decide ((X : Int) ≤ (t : Int)) = false := by simp; omega
                  have GD := Lib.hid (show 0 ≤ nth cs t ∧ SpOk a b h t (nth cs t).toNat from by
                    rw [← HAT.out, Int.toNat_natCast]
                    exact ⟨by omega, hut, by rw [PQ.out, HPE.out, HV.out], .inl (by rw [← HXX.out]; omega)⟩)
                  clear hlt
                  go_wp2_with fail
                  go_roundg (gk - 1)
                  case measure => omega
                  case rel => exact ⟨t + 1, by omega, by go_num, (fun z hz => by
                    rcases Nat.lt_or_ge z t with h1 | h1
                    · exact HG.out z h1
                    · obtain rfl : z = t := by omega
                      exact GD.out), E.out⟩
                case pos =>
                  have dl : decide (X ≤ t) = true := by simpa using hlt
                  have dl2 : decide ((X : Int) ≤ (t : Int)) = true := by simp; omega
                  by_cases hvi : v = inf
                  case pos =>
                    have GD := Lib.hid (show 0 ≤ nth cs t ∧ SpOk a b h t (nth cs t).toNat from by
                      rw [← HAT.out, Int.toNat_natCast]
                      exact ⟨by omega, hut, by rw [PQ.out, HPE.out, HV.out], .inr (.inl (by rw [← HV.out]; exact hvi))⟩)
                    have di : (v != 4611686018427387904) = false := by unfold inf at hvi; simpa using hvi
                    clear hvi
                    go_wp2_with fail
                    go_roundg (gk - 1)
                    case measure => omega
                    case rel => exact ⟨t + 1, by omega, by go_num, (fun z hz => by
                      rcases Nat.lt_or_ge z t with h1 | h1
                      · exact HG.out z h1
                      · obtain rfl : z = t := by omega
                        exact GD.out), E.out⟩
                  case neg =>
                    have di : (v != 4611686018427387904) = true := by unfold inf at hvi; simpa using hvi
                    have HVI := Lib.hid hvi
                    clear hvi
                    go_wp2_with fail
                    have tr := cprep_any A B C n m k c d s t u a b h wf (by exact E.out.ja) (by exact E.out.jb) (by exact E.out.jc) HAO.out HBO.out HHO.out HKK.out hut (by omega)
                    rw [← HKC.out] at tr
                    unfold cpA at tr
                    have TR := Lib.hid tr
                    clear tr
                    refine TR.out.mono ?_
                    rintro e wk ⟨⟨rz, hrz, rfl⟩, hb⟩
                    have RZ := Lib.hid hrz
                    clear hrz TR
                    replace E := Lib.hid (E.out.below hb)
                    clear hb
                    try clear hHeld
                    clear f0 f1 f2 g0 g1 g2 p6 h0 h1 h2 h3 h4 hlh
                    obtain ⟨⟨f0, f1, f2⟩, ⟨g0, g1, g2⟩, p6, ⟨h0, h1, h2⟩, ⟨h3, h4⟩, hlh⟩ := E.out.cells
                    cases rz
                    case false =>
                      have NO := Lib.hid (show ¬ AttS a b h (X : Int) cs from fun hc => by
                        have h2 := (hc.2.2 t htx).2.2.2
                        rw [← HAT.out, Int.toNat_natCast, ← HXX.out, ← HV.out] at h2
                        rcases h2 with h2 | h2 | h2
                        · omega
                        · exact HVI.out h2
                        · have := RZ.out.2 h2
                          cases this)
                      have FIN := Lib.hid (show ¬ AttS a b h (X : Int) cs from NO.out)
                      have bw := E.out.bw
                      go_wp2_with fail
                      try rw [Exit.noGoto_ret]
                      go_ret
                      exact RetQ.no FIN.out bw
                    case true =>
                      have GD := Lib.hid (show 0 ≤ nth cs t ∧ SpOk a b h t (nth cs t).toNat from by
                        rw [← HAT.out, Int.toNat_natCast]
                        exact ⟨by omega, hut, by rw [PQ.out, HPE.out, HV.out], .inr (.inr (RZ.out.1 (by first | rfl | trivial)))⟩)
                      go_wp2_with fail
                      go_roundg (gk - 1)
                      case measure => omega
                      case rel => exact ⟨t + 1, by omega, by go_num, (fun z hz => by
                        rcases Nat.lt_or_ge z t with h1 | h1
                        · exact HG.out z h1
                        · obtain rfl : z = t := by omega
                          exact GD.out), E.out⟩
        · have htX : t = x := by omega
          subst htX
          have FIN := Lib.hid (show AttS a b h (X : Int) cs from ⟨by rw [HXX.out], by rw [HLX.out, HNN.out], fun z hz => HG.out z (by rw [← HLX.out]; exact hz)⟩)
          have bw := E.out.bw
          clear ht
          go_wp2_with fail
          try rw [Exit.noGoto_ret]
          go_ret
          exact RetQ.yes FIN.out bw
end Go.Proofs.YtaejfleahamapaaGreat

