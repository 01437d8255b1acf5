/- (convolution.pair).horizon and repeats: the walks. -/
import Derived.Test.YtbkimphcmmmaiaaCpLaw
import Derived.Test.YtbkimphcmmmaiaaWPlus
import Derived.Test.YtbkimphcmmmaiaaCvSame
namespace Go.Proofs.Ytbkimphcmmmaiaa
open Go.RowKit
set_option linter.unusedVariables false

/-- the blocks of a call of a method of a pair with a curve -/
structure CH (w wx : World) (A : Option Addr) (n c : Nat) (a : Cv) (B : Option Addr) (m d : Nat) (b : Cv) (K : Int) (C : Option Addr) (k s : Nat) (h : Cv) : Prop where
  pb : Blk wx w.heap.size 114 (cpA A n c a B m d b K)
  ia : Ints wx w.heap.size A n a.vals
  ib : Ints wx w.heap.size B m b.vals
  hb : Blk wx (w.heap.size + 1) 31 #[.slice C k s, .int .i64 h.per, .int .i64 h.inc]
  ic : Ints wx w.heap.size C k h.vals
  bw : Below w.heap.size w wx
section
variable {w wx wy : World} {A B C : Option Addr} {n c m d k s : Nat} {a b h : Cv} {K : Int}
theorem CH.new (hA : Ints w w.heap.size A n a.vals) (hB : Ints w w.heap.size B m b.vals) (hC : Ints w w.heap.size C k h.vals) :
    CH w ((w.alloc (.cells (cpA A n c a B m d b K) 114)).alloc (.cells #[.slice C k s, .int .i64 h.per, .int .i64 h.inc] 31)) A n c a B m d b K C k s h := by
  have rb := Blk.new (w.alloc (.cells (cpA A n c a B m d b K) 114)) 31 #[.slice C k s, .int .i64 h.per, .int .i64 h.inc]
  rw [World.size_alloc] at rb
  exact ⟨(Blk.new _ _ _).alloc _, (hA.alloc (Nat.le_refl _) _).alloc (by simp) _, (hB.alloc (Nat.le_refl _) _).alloc (by simp) _, rb, (hC.alloc (Nat.le_refl _) _).alloc (by simp) _, bthen (balloc _ _) (balloc _ _)⟩
theorem CH.below (h' : CH w wx A n c a B m d b K C k s h) (hb : Below wx.heap.size wx wy) : CH w wy A n c a B m d b K C k s h :=
  ⟨h'.pb.below hb h'.pb.lt, h'.ia.below (hb.mono h'.bw.size), h'.ib.below (hb.mono h'.bw.size), h'.hb.below hb h'.hb.lt, h'.ic.below (hb.mono h'.bw.size), bthen h'.bw hb⟩
theorem CH.alloc (h' : CH w wx A n c a B m d b K C k s h) (o : Obj) : CH w (wx.alloc o) A n c a B m d b K C k s h := h'.below (balloc wx o)
theorem CH.drew (h' : CH w wx A n c a B m d b K C k s h) : CH w wx.drew A n c a B m d b K C k s h := ⟨h'.pb, h'.ia, h'.ib, h'.hb, h'.ic, Below.drew h'.bw⟩
theorem CH.ja (h' : CH w wx A n c a B m d b K C k s h) : Ints wx wx.heap.size A n a.vals := h'.ia.more h'.bw.size
theorem CH.jb (h' : CH w wx A n c a B m d b K C k s h) : Ints wx wx.heap.size B m b.vals := h'.ib.more h'.bw.size
theorem CH.jc (h' : CH w wx A n c a B m d b K C k s h) : Ints wx wx.heap.size C k h.vals := h'.ic.more h'.bw.size
theorem CH.cells (h' : CH w wx A n c a B m d b K C k s h) : (wx.cell? ⟨w.heap.size, 0, none⟩ = some (.slice A n c) ∧ wx.cell? ⟨w.heap.size, 1, none⟩ = some (.int .i64 a.per) ∧ wx.cell? ⟨w.heap.size, 2, none⟩ = some (.int .i64 a.inc)) ∧
    (wx.cell? ⟨w.heap.size, 3, none⟩ = some (.slice B m d) ∧ wx.cell? ⟨w.heap.size, 4, none⟩ = some (.int .i64 b.per) ∧ wx.cell? ⟨w.heap.size, 5, none⟩ = some (.int .i64 b.inc)) ∧ wx.cell? ⟨w.heap.size, 6, none⟩ = some (.int .i64 K) ∧
    (wx.cell? ⟨w.heap.size + 1, 0, none⟩ = some (.slice C k s) ∧ wx.cell? ⟨w.heap.size + 1, 1, none⟩ = some (.int .i64 h.per) ∧ wx.cell? ⟨w.heap.size + 1, 2, none⟩ = some (.int .i64 h.inc)) ∧ w.heap.size + 1 < wx.heap.size := by
  have q := fun i => h'.pb.cell i
  have q0 := q 0; have q1 := q 1; have q2 := q 2; have q3 := q 3; have q4 := q 4; have q5 := q 5; have q6 := q 6
  have r := fun i => h'.hb.cell i
  have r0 := r 0; have r1 := r 1; have r2 := r 2
  simp [cpA] at q0 q1 q2 q3 q4 q5 q6 r0 r1 r2
  exact ⟨⟨q0, q1, q2⟩, ⟨q3, q4, q5⟩, q6, ⟨r0, r1, r2⟩, h'.hb.lt⟩
end
set_option maxHeartbeats 2000000 in
set_option maxRecDepth 100000 in
theorem cphor_any (A B C : Option Addr) (n m k c d s : Nat) (a b h : Cv) (w : World) (hA : Ints w w.heap.size A n a.vals) (hB : Ints w w.heap.size B m b.vals) (hC : Ints w w.heap.size C k h.vals) (ha : a.Ok) (hb : b.Ok) (hh : h.Ok) (hK : ordC a b ≤ 120) :
    Calls Try.prog 88 #[.agg (cpA A n c a B m d b (ordC a b : Nat)), .agg #[.slice C k s, .int .i64 h.per, .int .i64 h.inc]] w (fun e w' => e = .returned (.int .i64 (cvH a b h : Nat)) ∧ Below w.heap.size w w') := by
  have a1 := ha.n1; have a2 := ha.n2; have a3 := ha.p1; have a4 := ha.p2; have a5 := ha.pn; have a6 := ha.i1; have a7 := ha.i2
  have b1 := hb.n1; have b2 := hb.n2; have b3 := hb.p1; have b4 := hb.p2; have b5 := hb.pn; have b6 := hb.i1; have b7 := hb.i2
  have c1' := hh.n1; have c2' := hh.n2; have c3' := hh.p1; have c4' := hh.p2; have c5' := hh.pn; have c6' := hh.i1; have c7' := hh.i2
  have hln : a.vals.length = n := hA.1
  have hlm : b.vals.length = m := hB.1
  have hlk : h.vals.length = k := hC.1
  rw [hln] at a1 a2 a5
  rw [hlm] at b1 b2 b5
  rw [hlk] at c1' c2' c5'
  obtain ⟨K0, hK0⟩ : ∃ K0 : Nat, K0 = ordC a b := ⟨_, rfl⟩
  obtain ⟨KC, hKC⟩ : ∃ KC : Int, KC = (K0 : Int) := ⟨_, rfl⟩
  obtain ⟨X, hX⟩ : ∃ X : Nat, X = cvH a b h := ⟨_, rfl⟩
  obtain ⟨S, hS⟩ : ∃ S : Nat, S = max (cst a + cst b) (cst h) := ⟨_, rfl⟩
  obtain ⟨T, hT⟩ : ∃ T : Nat, T = cst a + cst b := ⟨_, rfl⟩
  have hSX : (X : Int) = (S : Int) + KC := by rw [hX, hS, hKC, hK0]; unfold cvH; omega
  have hTn : (T : Int) = (n : Int) - a.per + ((m : Int) - b.per) := by rw [hT]; unfold cst; rw [hln, hlm]; omega
  have hS2 : S ≤ 800 := by rw [hS]; unfold cst; rw [hln, hlm, hlk]; omega
  have hT2 : T ≤ 800 := by rw [hT]; unfold cst; rw [hln, hlm]; omega
  have hmx : (if (T : Int) < (k : Int) - h.per then (k : Int) - h.per else (T : Int)) = (S : Int) := by
    rw [hS, ← hT]; unfold cst; rw [hlk]; split <;> omega
  have hKb : 0 ≤ KC ∧ KC ≤ 120 := by omega
  have e1 : IntKind.i64.wrap ((S : Int) + KC) = (X : Int) := by rw [IntWalk.i64_in _ (by omega)]; omega
  have e2 : (S : Int) + KC = (X : Int) := by omega
  have e3 : IntKind.i64.wrap (X : Int) = (X : Int) := IntWalk.i64_in _ (by omega)
  have e4 : IntKind.i64.wrap ((n : Int) - a.per + ((m : Int) - b.per)) = (T : Int) := by rw [IntWalk.i64_in _ (by omega)]; omega
  have e5 : (n : Int) - a.per + ((m : Int) - b.per) = (T : Int) := by omega
  have e6 : IntKind.i64.wrap (T : Int) = (T : Int) := IntWalk.i64_in _ (by omega)
  rw [← hX, ← hK0, ← hKC]
  have E := Lib.hid (CH.new (c := c) (d := d) (K := KC) (s := s) (h := h) hA hB hC)
  clear hA hB hC ha hb hh hX hS hT hln hlm hlk hSX hTn hK hK0 hKC
  unfold cpA at E
  unfold cpA
  go_enter Try.func88, Try.ntmps88
  go_upto_region 1 with fail
  generalize hwe : (w.alloc (.cells #[.slice A n c, .int .i64 a.per, .int .i64 a.inc, .slice B m d, .int .i64 b.per, .int .i64 b.inc, .int .i64 KC] 114)).alloc (.cells #[.slice C k s, .int .i64 h.per, .int .i64 h.inc] 31) = we at *
  clear hwe
  have E : Hid (CH w we A n c a B m d b KC C k s h) := E
  generalize (Value.agg #[.slice A n c, .int .i64 a.per, .int .i64 a.inc, .slice B m d, .int .i64 b.per, .int .i64 b.inc, .int .i64 KC]) = v0
  generalize (Value.agg #[.slice C k s, .int .i64 h.per, .int .i64 h.inc]) = v1
  go_cut [4] (fun s4 wx => s4 = .int .i64 X ∧ CH w wx A n c a B m d b KC C k s h)
  case first =>
    have E := Lib.hid E.out.drew
    obtain ⟨⟨f0, f1, f2⟩, ⟨g0, g1, g2⟩, p6, ⟨h0, h1, h2⟩, hlh⟩ := E.out.cells
    refine wp_region_held_drew (S := (fun w' => w'.cell? ⟨w.heap.size, 0, none⟩ = some (.slice A n c) ∧ w'.cell? ⟨w.heap.size, 1, none⟩ = some (.int .i64 a.per) ∧ w'.cell? ⟨w.heap.size, 2, none⟩ = some (.int .i64 a.inc) ∧ w'.cell? ⟨w.heap.size, 3, none⟩ = some (.slice B m d) ∧ w'.cell? ⟨w.heap.size, 4, none⟩ = some (.int .i64 b.per) ∧ w'.cell? ⟨w.heap.size, 5, none⟩ = some (.int .i64 b.inc) ∧ w'.cell? ⟨w.heap.size, 6, none⟩ = some (.int .i64 KC) ∧ w'.cell? ⟨w.heap.size + 1, 0, none⟩ = some (.slice C k s) ∧ w'.cell? ⟨w.heap.size + 1, 1, none⟩ = some (.int .i64 h.per) ∧ w'.cell? ⟨w.heap.size + 1, 2, none⟩ = some (.int .i64 h.inc))) (by kernel_rfl) (by exact ⟨f0, f1, f2, g0, g1, g2, p6, h0, h1, h2⟩) (fun hHeld => ?_)
    generalize hwd : we.drew = wd at *
    clear hwd
    refine wpAnyH_take (i := 0) (oi := _) (v := ?_) (by simp only [g8a, g8z]; rfl) (by kernel_rfl) (by kernel_rfl) (by kernel_rfl) (by exact fun _ _ _ h => h) (Or.inl ⟨by rfl, ?_⟩) (by assumption) ?_
    rotate_left 1
    · (intro w hSw; (try dsimp only at hSw); go_simp; try with_reducible rfl)
    all_goals ((try simp only [Act.put]); (try simp only [g8b]); (try simp only [g8c]); (try simp only [g8d]))
    refine wpAnyH_take (i := 1) (oi := _) (v := ?_) (by simp only [g8a, g8s, g8z]; rfl) (by kernel_rfl) (by kernel_rfl) (by kernel_rfl) (by exact fun _ _ _ h => h) (Or.inl ⟨by rfl, ?_⟩) (by assumption) ?_
    rotate_left 1
    · (intro w hSw; (try dsimp only at hSw); go_simp; try with_reducible rfl)
    all_goals ((try simp only [Act.put]); (try simp only [g8b]); (try simp only [g8c]); (try simp only [g8d]))
    refine wpAnyH_take (i := 3) (oi := _) (v := ?_) (by simp only [g8a, g8s, g8z]; rfl) (by kernel_rfl) (by kernel_rfl) (by kernel_rfl) (by exact fun _ _ _ h => h) (Or.inl ⟨by rfl, ?_⟩) (by assumption) ?_
    rotate_left 1
    · (intro w hSw; (try dsimp only at hSw); go_simp; try with_reducible rfl)
    all_goals ((try simp only [Act.put]); (try simp only [g8b]); (try simp only [g8c]); (try simp only [g8d]))
    refine wpAnyH_take (i := 4) (oi := _) (v := ?_) (by simp only [g8a, g8s, g8z]; rfl) (by kernel_rfl) (by kernel_rfl) (by kernel_rfl) (by exact fun _ _ _ h => h) (Or.inl ⟨by rfl, ?_⟩) (by assumption) ?_
    rotate_left 1
    · (intro w hSw; (try dsimp only at hSw); go_simp; try with_reducible rfl)
    all_goals ((try simp only [Act.put]); (try simp only [g8b]); (try simp only [g8c]); (try simp only [g8d]))
    refine wpAnyH_take (i := 7) (oi := _) (v := ?_) (by simp only [g8a, g8s, g8z]; rfl) (by kernel_rfl) (by kernel_rfl) (by kernel_rfl) (by exact fun _ _ _ h => h) (Or.inl ⟨by rfl, ?_⟩) (by assumption) ?_
    rotate_left 1
    · (intro w hSw; (try dsimp only at hSw); go_simp; try with_reducible rfl)
    all_goals ((try simp only [Act.put]); (try simp only [g8b]); (try simp only [g8c]); (try simp only [g8d]))
    refine wpAnyH_take (i := 10) (oi := _) (v := ?_) (by simp only [g8a, g8s, g8z]; rfl) (by kernel_rfl) (by kernel_rfl) (by kernel_rfl) (by exact fun _ _ _ h => h) (Or.inl ⟨by rfl, ?_⟩) (by assumption) ?_
    rotate_left 1
    · (intro w hSw; (try dsimp only at hSw); go_simp; try with_reducible rfl)
    all_goals ((try simp only [Act.put]); (try simp only [g8b]); (try simp only [g8c]); (try simp only [g8d]))
    refine wpAnyH_take (i := 11) (oi := _) (v := ?_) (by simp only [g8a, g8s, g8z]; rfl) (by kernel_rfl) (by kernel_rfl) (by kernel_rfl) (by exact fun _ _ _ h => h) (Or.inl ⟨by rfl, ?_⟩) (by assumption) ?_
    rotate_left 1
    · (intro w hSw; (try dsimp only at hSw); go_simp; try with_reducible rfl)
    all_goals ((try simp only [Act.put]); (try simp only [g8b]); (try simp only [g8c]); (try simp only [g8d]))
    refine wpAnyH_ready (rs := [2]) (by kernel_rfl) (by simp) ?_
    refine (AllReadyH.cons (by simp only [g8a, g8s, g8z]; rfl) (fun K hK => ?_) AllReadyH.nil)
    rw [if_pos (by rfl)]
    go_simp
    refine (start_any A n c a.per a.inc _ (by omega) (by omega) (by omega)).mono ?_
    rintro e w3 ⟨rfl, hb⟩
    replace E := Lib.hid (E.out.below hb)
    clear hb
    try clear hHeld
    clear f0 f1 f2 g0 g1 g2 p6 h0 h1 h2 hlh
    obtain ⟨⟨f0, f1, f2⟩, ⟨g0, g1, g2⟩, p6, ⟨h0, h1, h2⟩, hlh⟩ := E.out.cells
    refine hK.out _ _ (by exact ⟨f0, f1, f2, g0, g1, g2, p6, h0, h1, h2⟩) (fun hHeld => ?_)
    clear hK K
    (try simp only [Act.put]); (try simp only [g8b]); (try simp only [g8c]); (try simp only [g8d])
    refine wpAnyH_ready (rs := [5]) (by kernel_rfl) (by simp) ?_
    refine (AllReadyH.cons (by simp only [g8a, g8s, g8z]; rfl) (fun K hK => ?_) AllReadyH.nil)
    rw [if_pos (by rfl)]
    go_simp
    refine (start_any B m d b.per b.inc _ (by omega) (by omega) (by omega)).mono ?_
    rintro e w4 ⟨rfl, hb⟩
    replace E := Lib.hid (E.out.below hb)
    clear hb
    try clear hHeld
    clear f0 f1 f2 g0 g1 g2 p6 h0 h1 h2 hlh
    obtain ⟨⟨f0, f1, f2⟩, ⟨g0, g1, g2⟩, p6, ⟨h0, h1, h2⟩, hlh⟩ := E.out.cells
    refine hK.out _ _ (by exact ⟨f0, f1, f2, g0, g1, g2, p6, h0, h1, h2⟩) (fun hHeld => ?_)
    clear hK K
    (try simp only [Act.put]); (try simp only [g8b]); (try simp only [g8c]); (try simp only [g8d])
    refine wpAnyH_take (i := 6) (oi := _) (v := ?_) (by simp only [g8a, g8s, g8z]; rfl) (by kernel_rfl) (by kernel_rfl) (by kernel_rfl) (by exact fun _ _ _ h => h) (Or.inl ⟨by rfl, ?_⟩) (by assumption) ?_
    rotate_left 1
    · (intro w hSw; (try dsimp only at hSw); go_simp; try with_reducible rfl)
    all_goals ((try simp only [Act.put]); (try simp only [g8b]); (try simp only [g8c]); (try simp only [g8d]))
    refine wpAnyH_ready (rs := [8]) (by kernel_rfl) (by simp) ?_
    refine (AllReadyH.cons (by simp only [g8a, g8s, g8z]; rfl) (fun K hK => ?_) AllReadyH.nil)
    rw [if_pos (by rfl)]
    go_simp
    refine (start_any C k s h.per h.inc _ (by omega) (by omega) (by omega)).mono ?_
    rintro e w5 ⟨rfl, hb⟩
    replace E := Lib.hid (E.out.below hb)
    clear hb
    try clear hHeld
    clear f0 f1 f2 g0 g1 g2 p6 h0 h1 h2 hlh
    obtain ⟨⟨f0, f1, f2⟩, ⟨g0, g1, g2⟩, p6, ⟨h0, h1, h2⟩, hlh⟩ := E.out.cells
    refine hK.out _ _ (by exact ⟨f0, f1, f2, g0, g1, g2, p6, h0, h1, h2⟩) (fun hHeld => ?_)
    clear hK K
    (try simp only [Act.put]); (try simp only [g8b]); (try simp only [g8c]); (try simp only [g8d])
    refine wpAnyH_ready (rs := [9]) (by kernel_rfl) (by simp) ?_
    refine (AllReadyH.cons (by simp only [g8a, g8s, g8z]; rfl) (fun K hK => ?_) AllReadyH.nil)
    rw [if_pos (by rfl)]
    go_simp
    refine hK.out _ _ (by exact ⟨f0, f1, f2, g0, g1, g2, p6, h0, h1, h2⟩) (fun hHeld => ?_)
    clear hK K
    (try simp only [Act.put]); (try simp only [g8b]); (try simp only [g8c]); (try simp only [g8d])
    refine wpAnyH_take (i := 12) (oi := _) (v := ?_) (by simp only [g8a, g8s, g8z]; rfl) (by kernel_rfl) (by kernel_rfl) (by kernel_rfl) (by exact fun _ _ _ h => h) (Or.inl ⟨by rfl, ?_⟩) (by assumption) ?_
    rotate_left 1
    · (intro w hSw; (try dsimp only at hSw); go_simp; try with_reducible rfl)
    all_goals ((try simp only [Act.put]); (try simp only [g8b]); (try simp only [g8c]); (try simp only [g8d]))
    refine wpAnyH_take (i := 13) (oi := _) (v := ?_) (by simp only [g8a, g8s, g8z]; rfl) (by kernel_rfl) (by kernel_rfl) (by kernel_rfl) (by exact fun _ _ _ h => h) (Or.inl ⟨by rfl, ?_⟩) (by assumption) ?_
    rotate_left 1
    · (intro w hSw; (try dsimp only at hSw); go_simp; try with_reducible rfl)
    all_goals ((try simp only [Act.put]); (try simp only [g8b]); (try simp only [g8c]); (try simp only [g8d]))
    refine wpAnyH_done (by kernel_rfl) ?_ _
    go_wp2_with fail
    go_meet
    exact ⟨rfl, E.out⟩
  case rest =>
    clear E
    obtain ⟨rfl, hE⟩ := hcut
    have bw := hE.bw
    clear hE
    go_wp2_with fail
    go_ret
    exact ⟨rfl, bw⟩
set_option maxHeartbeats 4000000 in
set_option maxRecDepth 100000 in
theorem cprep_any (A B C : Option Addr) (n m k c d s t u : Nat) (a b h : Cv) (w : World) (hA : Ints w w.heap.size A n a.vals) (hB : Ints w w.heap.size B m b.vals) (hC : Ints w w.heap.size C k h.vals) (ha : a.Ok) (hb : b.Ok) (hh : h.Ok) (hK : ordC a b ≤ 120) (hut : u ≤ t) (ht : t ≤ 4000) :
    Calls Try.prog 92 #[.agg (cpA A n c a B m d b (ordC a b : Nat)), .agg #[.slice C k s, .int .i64 h.per, .int .i64 h.inc], .int .i64 u, .int .i64 t] w (RetQ (Rep a b h t u) w) := by
  have a1 := ha.n1; have a2 := ha.n2; have a3 := ha.p1; have a4 := ha.p2; have a5 := ha.pn; have a6 := ha.i1; have a7 := ha.i2
  have b1 := hb.n1; have b2 := hb.n2; have b3 := hb.p1; have b4 := hb.p2; have b5 := hb.pn; have b6 := hb.i1; have b7 := hb.i2
  have c1' := hh.n1; have c2' := hh.n2; have c3' := hh.p1; have c4' := hh.p2; have c5' := hh.pn; have c6' := hh.i1; have c7' := hh.i2
  have hln : a.vals.length = n := hA.1
  have hlm : b.vals.length = m := hB.1
  have hlk : h.vals.length = k := hC.1
  rw [hln] at a1 a2 a5
  rw [hlm] at b1 b2 b5
  rw [hlk] at c1' c2' c5'
  obtain ⟨KC, hKC⟩ : ∃ KC : Int, KC = (ordC a b : Nat) := ⟨_, rfl⟩
  obtain ⟨fa, hfa⟩ : ∃ z, z = (nth a.vals (n - 1) != inf) := ⟨_, rfl⟩
  obtain ⟨fb, hfb⟩ : ∃ z, z = (nth b.vals (m - 1) != inf) := ⟨_, rfl⟩
  have LA := Lib.hid (show fa = true ↔ a.Fin from by rw [hfa, bne_iff_ne, ← hln]; exact ⟨fun h => ⟨ha, h⟩, fun h => h.2⟩)
  have LB := Lib.hid (show fb = true ↔ b.Fin from by rw [hfb, bne_iff_ne, ← hlm]; exact ⟨fun h => ⟨hb, h⟩, fun h => h.2⟩)
  obtain ⟨ga, hga⟩ : ∃ z, z = ((KC.toNat / a.per.toNat : Nat) : Int) * a.inc := ⟨_, rfl⟩
  obtain ⟨gb, hgb⟩ : ∃ z, z = ((KC.toNat / b.per.toNat : Nat) : Int) * b.inc := ⟨_, rfl⟩
  obtain ⟨gl, hgl⟩ : ∃ z, z = ((KC.toNat / h.per.toNat : Nat) : Int) * h.inc := ⟨_, rfl⟩
  have HA1 := Lib.hid (show ga = gnA a b from by rw [hga, hKC]; rfl)
  have HB1 := Lib.hid (show gb = gnB a b from by rw [hgb, hKC]; rfl)
  have HL1 := Lib.hid (show gl = gnl h (ordC a b) from by rw [hgl, hKC]; rfl)
  have SA := Lib.hid (show (cst a : Int) = (n : Int) - a.per from by unfold cst; rw [hln]; omega)
  have SB := Lib.hid (show (cst b : Int) = (m : Int) - b.per from by unfold cst; rw [hlm]; omega)
  have hKb : 0 ≤ KC ∧ KC ≤ 120 := by omega
  obtain ⟨hKb1, hKb2⟩ := hKb
  have HFA := Lib.hid hfa; have HFB := Lib.hid hfb; have HGA := Lib.hid hga; have HGB := Lib.hid hgb; have HGL := Lib.hid hgl
  rw [← hKC]
  have E := Lib.hid (CH.new (c := c) (d := d) (K := KC) (s := s) (h := h) hA hB hC)
  clear hA hB hC ha hb hh hln hlm hlk hK hKC hfa hfb hga hgb hgl
  unfold cpA at E
  unfold cpA
  go_enter Try.func92, Try.ntmps92
  go_upto_region 1 with fail
  generalize hwe : (w.alloc (.cells #[.slice A n c, .int .i64 a.per, .int .i64 a.inc, .slice B m d, .int .i64 b.per, .int .i64 b.inc, .int .i64 KC] 114)).alloc (.cells #[.slice C k s, .int .i64 h.per, .int .i64 h.inc] 31) = we at *
  clear hwe
  have E : Hid (CH w we A n c a B m d b KC C k s h) := E
  generalize (Value.agg #[.slice A n c, .int .i64 a.per, .int .i64 a.inc, .slice B m d, .int .i64 b.per, .int .i64 b.inc, .int .i64 KC]) = v0
  generalize (Value.agg #[.slice C k s, .int .i64 h.per, .int .i64 h.inc]) = v1
  obtain ⟨⟨f0, f1, f2⟩, ⟨g0, g1, g2⟩, p6, ⟨h0, h1, h2⟩, hlh⟩ := E.out.cells
  go_wp2_with fail
  refine (gain_any C k s h.per h.inc KC _ (by omega) (by omega) (by omega) (by omega) (by omega)).mono ?_
  rw [← HGL.out]
  rintro e w1 ⟨rfl, hb⟩
  replace E := Lib.hid (E.out.below hb)
  clear hb
  try clear hHeld
  clear f0 f1 f2 g0 g1 g2 p6 h0 h1 h2 hlh
  obtain ⟨⟨f0, f1, f2⟩, ⟨g0, g1, g2⟩, p6, ⟨h0, h1, h2⟩, hlh⟩ := E.out.cells
  go_wp2_with fail
  refine (finite_any A n c a.per a.inc a.vals _ (by exact E.out.ja) (by omega) (by omega)).mono ?_
  rw [← HFA.out]
  rintro e w2 ⟨rfl, hb⟩
  replace E := Lib.hid (E.out.below hb)
  clear hb
  try clear hHeld
  clear f0 f1 f2 g0 g1 g2 p6 h0 h1 h2 hlh
  obtain ⟨⟨f0, f1, f2⟩, ⟨g0, g1, g2⟩, p6, ⟨h0, h1, h2⟩, hlh⟩ := E.out.cells
  cases fa
  case false =>
    have N1 := Lib.hid (show ¬ (a.Fin ∧ gnA a b = gnl h (ordC a b) ∧ cst a ≤ u) from fun hr => by have := LA.out.2 hr.1; cases this)
    clear f0 f1 f2 p6 h0 h1 h2 g0 g1 g2 hlh
    obtain ⟨⟨f0, f1, f2⟩, ⟨g0, g1, g2⟩, p6, ⟨h0, h1, h2⟩, hlh⟩ := E.out.cells
    go_wp2_with fail
    refine (finite_any B m d b.per b.inc b.vals _ (by exact E.out.jb) (by omega) (by omega)).mono ?_
    rw [← HFB.out]
    rintro e wb ⟨rfl, hb⟩
    replace E := Lib.hid (E.out.below hb)
    clear hb
    try clear hHeld
    clear f0 f1 f2 g0 g1 g2 p6 h0 h1 h2 hlh
    obtain ⟨⟨f0, f1, f2⟩, ⟨g0, g1, g2⟩, p6, ⟨h0, h1, h2⟩, hlh⟩ := E.out.cells
    cases fb
    case false =>
      have FIN := Lib.hid (show ¬ Rep a b h t u from fun hr => hr.elim N1.out (fun hr => by have := LB.out.2 hr.1; cases this))
      have bw := E.out.bw
      go_wp2_with fail
      go_ret
      exact RetQ.no FIN.out bw
    case true =>
      go_wp2_with fail
      refine (gain_any B m d b.per b.inc KC _ (by omega) (by omega) (by omega) (by omega) (by omega)).mono ?_
      rw [← HGB.out]
      rintro e wc ⟨rfl, hb⟩
      replace E := Lib.hid (E.out.below hb)
      clear hb
      try clear hHeld
      clear f0 f1 f2 g0 g1 g2 p6 h0 h1 h2 hlh
      obtain ⟨⟨f0, f1, f2⟩, ⟨g0, g1, g2⟩, p6, ⟨h0, h1, h2⟩, hlh⟩ := E.out.cells
      by_cases q1 : gb = gl
      case neg =>
        have d1 : (gb == gl) = false := by simpa using q1
        have Q1 := Lib.hid q1
        clear q1
        have FIN := Lib.hid (show ¬ Rep a b h t u from fun hr => hr.elim N1.out (fun hr => Q1.out (by rw [HB1.out, HL1.out]; exact hr.2.1)))
        have bw := E.out.bw
        go_wp2_with fail
        go_ret
        exact RetQ.no FIN.out bw
      case pos =>
        have d1 : (gb == gl) = true := by simpa using q1
        have Q1 := Lib.hid q1
        clear q1
        go_wp2_with fail
        refine (start_any B m d b.per b.inc _ (by omega) (by omega) (by omega)).mono ?_
        rintro e wd ⟨rfl, hb⟩
        replace E := Lib.hid (E.out.below hb)
        clear hb
        try clear hHeld
        clear f0 f1 f2 g0 g1 g2 p6 h0 h1 h2 hlh
        obtain ⟨⟨f0, f1, f2⟩, ⟨g0, g1, g2⟩, p6, ⟨h0, h1, h2⟩, hlh⟩ := E.out.cells
        by_cases q2 : (m : Int) - b.per ≤ (t : Int) - (u : Int)
        case neg =>
          have d2 : decide ((m : Int) - b.per ≤ (t : Int) - (u : Int)) = false := by simpa using q2
          have Q2 := Lib.hid q2
          clear q2
          have FIN := Lib.hid (show ¬ Rep a b h t u from fun hr => hr.elim N1.out (fun hr => Q2.out (by have := hr.2.2; have := SB.out; omega)))
          have bw := E.out.bw
          go_wp2_with fail
          go_ret
          exact RetQ.no FIN.out bw
        case pos =>
          have d2 : decide ((m : Int) - b.per ≤ (t : Int) - (u : Int)) = true := by simpa using q2
          have FIN := Lib.hid (show Rep a b h t u from .inr ⟨LB.out.1 (by first | rfl | trivial), by rw [← HB1.out, ← HL1.out]; exact Q1.out, by have := SB.out; omega⟩)
          clear q2
          have bw := E.out.bw
          go_wp2_with fail
          go_ret
          exact RetQ.yes FIN.out bw
  case true =>
    go_wp2_with fail
    refine (gain_any A n c a.per a.inc KC _ (by omega) (by omega) (by omega) (by omega) (by omega)).mono ?_
    rw [← HGA.out]
    rintro e w3 ⟨rfl, hb⟩
    replace E := Lib.hid (E.out.below hb)
    clear hb
    try clear hHeld
    clear f0 f1 f2 g0 g1 g2 p6 h0 h1 h2 hlh
    obtain ⟨⟨f0, f1, f2⟩, ⟨g0, g1, g2⟩, p6, ⟨h0, h1, h2⟩, hlh⟩ := E.out.cells
    by_cases r1 : ga = gl
    case neg =>
      have dr : (ga == gl) = false := by simpa using r1
      have N1 := Lib.hid (show ¬ (a.Fin ∧ gnA a b = gnl h (ordC a b) ∧ cst a ≤ u) from fun hr => r1 (by rw [HA1.out, HL1.out]; exact hr.2.1))
      clear r1
      clear f0 f1 f2 p6 h0 h1 h2 g0 g1 g2 hlh
      obtain ⟨⟨f0, f1, f2⟩, ⟨g0, g1, g2⟩, p6, ⟨h0, h1, h2⟩, hlh⟩ := E.out.cells
      go_wp2_with fail
      refine (finite_any B m d b.per b.inc b.vals _ (by exact E.out.jb) (by omega) (by omega)).mono ?_
      rw [← HFB.out]
      rintro e wb ⟨rfl, hb⟩
      replace E := Lib.hid (E.out.below hb)
      clear hb
      try clear hHeld
      clear f0 f1 f2 g0 g1 g2 p6 h0 h1 h2 hlh
      obtain ⟨⟨f0, f1, f2⟩, ⟨g0, g1, g2⟩, p6, ⟨h0, h1, h2⟩, hlh⟩ := E.out.cells
      cases fb
      case false =>
        have FIN := Lib.hid (show ¬ Rep a b h t u from fun hr => hr.elim N1.out (fun hr => by have := LB.out.2 hr.1; cases this))
        have bw := E.out.bw
        go_wp2_with fail
        go_ret
        exact RetQ.no FIN.out bw
      case true =>
        go_wp2_with fail
        refine (gain_any B m d b.per b.inc KC _ (by omega) (by omega) (by omega) (by omega) (by omega)).mono ?_
        rw [← HGB.out]
        rintro e wc ⟨rfl, hb⟩
        replace E := Lib.hid (E.out.below hb)
        clear hb
        try clear hHeld
        clear f0 f1 f2 g0 g1 g2 p6 h0 h1 h2 hlh
        obtain ⟨⟨f0, f1, f2⟩, ⟨g0, g1, g2⟩, p6, ⟨h0, h1, h2⟩, hlh⟩ := E.out.cells
        by_cases q1 : gb = gl
        case neg =>
          have d1 : (gb == gl) = false := by simpa using q1
          have Q1 := Lib.hid q1
          clear q1
          have FIN := Lib.hid (show ¬ Rep a b h t u from fun hr => hr.elim N1.out (fun hr => Q1.out (by rw [HB1.out, HL1.out]; exact hr.2.1)))
          have bw := E.out.bw
          go_wp2_with fail
          go_ret
          exact RetQ.no FIN.out bw
        case pos =>
          have d1 : (gb == gl) = true := by simpa using q1
          have Q1 := Lib.hid q1
          clear q1
          go_wp2_with fail
          refine (start_any B m d b.per b.inc _ (by omega) (by omega) (by omega)).mono ?_
          rintro e wd ⟨rfl, hb⟩
          replace E := Lib.hid (E.out.below hb)
          clear hb
          try clear hHeld
          clear f0 f1 f2 g0 g1 g2 p6 h0 h1 h2 hlh
          obtain ⟨⟨f0, f1, f2⟩, ⟨g0, g1, g2⟩, p6, ⟨h0, h1, h2⟩, hlh⟩ := E.out.cells
          by_cases q2 : (m : Int) - b.per ≤ (t : Int) - (u : Int)
          case neg =>
            have d2 : decide ((m : Int) - b.per ≤ (t : Int) - (u : Int)) = false := by simpa using q2
            have Q2 := Lib.hid q2
            clear q2
            have FIN := Lib.hid (show ¬ Rep a b h t u from fun hr => hr.elim N1.out (fun hr => Q2.out (by have := hr.2.2; have := SB.out; omega)))
            have bw := E.out.bw
            go_wp2_with fail
            go_ret
            exact RetQ.no FIN.out bw
          case pos =>
            have d2 : decide ((m : Int) - b.per ≤ (t : Int) - (u : Int)) = true := by simpa using q2
            have FIN := Lib.hid (show Rep a b h t u from .inr ⟨LB.out.1 (by first | rfl | trivial), by rw [← HB1.out, ← HL1.out]; exact Q1.out, by have := SB.out; omega⟩)
            clear q2
            have bw := E.out.bw
            go_wp2_with fail
            go_ret
            exact RetQ.yes FIN.out bw
    case pos =>
      have dr : (ga == gl) = true := by simpa using r1
      have R1 := Lib.hid r1
      clear r1
      go_wp2_with fail
      refine (start_any A n c a.per a.inc _ (by omega) (by omega) (by omega)).mono ?_
      rintro e w4 ⟨rfl, hb⟩
      replace E := Lib.hid (E.out.below hb)
      clear hb
      try clear hHeld
      clear f0 f1 f2 g0 g1 g2 p6 h0 h1 h2 hlh
      obtain ⟨⟨f0, f1, f2⟩, ⟨g0, g1, g2⟩, p6, ⟨h0, h1, h2⟩, hlh⟩ := E.out.cells
      by_cases r2 : (n : Int) - a.per ≤ (u : Int)
      case neg =>
        have d9 : decide ((n : Int) - a.per ≤ (u : Int)) = false := by simpa using r2
        have N1 := Lib.hid (show ¬ (a.Fin ∧ gnA a b = gnl h (ordC a b) ∧ cst a ≤ u) from fun hr => r2 (by have := hr.2.2; have := SA.out; omega))
        clear r2
        clear f0 f1 f2 p6 h0 h1 h2 g0 g1 g2 hlh
        obtain ⟨⟨f0, f1, f2⟩, ⟨g0, g1, g2⟩, p6, ⟨h0, h1, h2⟩, hlh⟩ := E.out.cells
        go_wp2_with fail
        refine (finite_any B m d b.per b.inc b.vals _ (by exact E.out.jb) (by omega) (by omega)).mono ?_
        rw [← HFB.out]
        rintro e wb ⟨rfl, hb⟩
        replace E := Lib.hid (E.out.below hb)
        clear hb
        try clear hHeld
        clear f0 f1 f2 g0 g1 g2 p6 h0 h1 h2 hlh
        obtain ⟨⟨f0, f1, f2⟩, ⟨g0, g1, g2⟩, p6, ⟨h0, h1, h2⟩, hlh⟩ := E.out.cells
        cases fb
        case false =>
          have FIN := Lib.hid (show ¬ Rep a b h t u from fun hr => hr.elim N1.out (fun hr => by have := LB.out.2 hr.1; cases this))
          have bw := E.out.bw
          go_wp2_with fail
          go_ret
          exact RetQ.no FIN.out bw
        case true =>
          go_wp2_with fail
          refine (gain_any B m d b.per b.inc KC _ (by omega) (by omega) (by omega) (by omega) (by omega)).mono ?_
          rw [← HGB.out]
          rintro e wc ⟨rfl, hb⟩
          replace E := Lib.hid (E.out.below hb)
          clear hb
          try clear hHeld
          clear f0 f1 f2 g0 g1 g2 p6 h0 h1 h2 hlh
          obtain ⟨⟨f0, f1, f2⟩, ⟨g0, g1, g2⟩, p6, ⟨h0, h1, h2⟩, hlh⟩ := E.out.cells
          by_cases q1 : gb = gl
          case neg =>
            have d1 : (gb == gl) = false := by simpa using q1
            have Q1 := Lib.hid q1
            clear q1
            have FIN := Lib.hid (show ¬ Rep a b h t u from fun hr => hr.elim N1.out (fun hr => Q1.out (by rw [HB1.out, HL1.out]; exact hr.2.1)))
            have bw := E.out.bw
            go_wp2_with fail
            go_ret
            exact RetQ.no FIN.out bw
          case pos =>
            have d1 : (gb == gl) = true := by simpa using q1
            have Q1 := Lib.hid q1
            clear q1
            go_wp2_with fail
            refine (start_any B m d b.per b.inc _ (by omega) (by omega) (by omega)).mono ?_
            rintro e wd ⟨rfl, hb⟩
            replace E := Lib.hid (E.out.below hb)
            clear hb
            try clear hHeld
            clear f0 f1 f2 g0 g1 g2 p6 h0 h1 h2 hlh
            obtain ⟨⟨f0, f1, f2⟩, ⟨g0, g1, g2⟩, p6, ⟨h0, h1, h2⟩, hlh⟩ := E.out.cells
            by_cases q2 : (m : Int) - b.per ≤ (t : Int) - (u : Int)
            case neg =>
              have d2 : decide ((m : Int) - b.per ≤ (t : Int) - (u : Int)) = false := by simpa using q2
              have Q2 := Lib.hid q2
              clear q2
              have FIN := Lib.hid (show ¬ Rep a b h t u from fun hr => hr.elim N1.out (fun hr => Q2.out (by have := hr.2.2; have := SB.out; omega)))
              have bw := E.out.bw
              go_wp2_with fail
              go_ret
              exact RetQ.no FIN.out bw
            case pos =>
              have d2 : decide ((m : Int) - b.per ≤ (t : Int) - (u : Int)) = true := by simpa using q2
              have FIN := Lib.hid (show Rep a b h t u from .inr ⟨LB.out.1 (by first | rfl | trivial), by rw [← HB1.out, ← HL1.out]; exact Q1.out, by have := SB.out; omega⟩)
              clear q2
              have bw := E.out.bw
              go_wp2_with fail
              go_ret
              exact RetQ.yes FIN.out bw
      case pos =>
        have d9 : decide ((n : Int) - a.per ≤ (u : Int)) = true := by simpa using r2
        have FIN := Lib.hid (show Rep a b h t u from .inl ⟨LA.out.1 (by first | rfl | trivial), by rw [← HA1.out, ← HL1.out]; exact R1.out, by have := SA.out; omega⟩)
        clear r2
        have bw := E.out.bw
        go_wp2_with fail
        go_ret
        exact RetQ.yes FIN.out bw
end Go.Proofs.Ytbkimphcmmmaiaa
