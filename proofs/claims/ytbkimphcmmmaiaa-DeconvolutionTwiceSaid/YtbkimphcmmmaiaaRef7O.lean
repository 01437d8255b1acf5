/- netcalculusref07: below, guess. -/
import Derived.Test.YtbkimphcmmmaiaaRef7A
import Derived.Test.YtbkimphcmmmaiaaRefMade
import Derived.Test.YtbkimphcmmmaiaaRefSame
import Derived.Test.YtbkimphcmmmaiaaRefPair
namespace Go.Proofs.Ytbkimphcmmmaiaa
open Go.RowKit
set_option linter.unusedVariables false

theorem LeastS.pre {f g : Cv} (hp : Pre f) (h : LeastS f g) : Pre g := by
  have hl := h.len hp
  have hn := hp.n2
  rcases h with ⟨m, hm, hi, hlt, rfl⟩ | ⟨hne, h⟩
  · refine ⟨by show (1 : Int) ≤ 1; omega, by rw [tab_length]; show (1 : Int) ≤ _; omega, by show (0 : Int) ≤ 0; omega, by show (0 : Int) ≤ _; omega, by omega, fun k => ?_⟩
    by_cases hk : k < m + 1
    · show 0 ≤ nth (tab f.at 0 (m + 1)) k ∧ _
      rw [tab_nth _ _ _ _ hk, Nat.zero_add, Cv.at_lt (by omega)]
      exact hp.v k
    · rw [nth_out _ _ (by rw [tab_length]; omega)]; omega
  · have hF : f.FinL := ⟨hp.p1, hp.pn, hne⟩
    have p1 := hp.p1; have q1 := h.p1
    have hd := h.per_dvd (s := f.vals.length - f.per.toNat) (p := f.per.toNat) (b := f.inc) (by omega) hF.step
    have s1 := h.per.mul (f.per.toNat / g.per.toNat)
    rw [Nat.div_mul_cancel hd] at s1
    have t1 := s1 (max (g.vals.length - g.per.toNat) (f.vals.length - f.per.toNat)) (by omega)
    have t2 := hF.step (max (g.vals.length - g.per.toNat) (f.vals.length - f.per.toNat)) (by omega)
    have he : f.inc = ((f.per.toNat / g.per.toNat : Nat) : Int) * g.inc := by omega
    have hk : 1 ≤ f.per.toNat / g.per.toNat := by
      rcases Nat.eq_zero_or_pos (f.per.toNat / g.per.toNat) with e | e
      · have := Nat.div_mul_cancel hd
        rw [e] at this; omega
      · exact e
    generalize f.per.toNat / g.per.toNat = k at *
    have i0 := hp.i0; have i1 := hp.i1
    have h0 : 0 ≤ g.inc := by
      rcases (show 0 ≤ g.inc ∨ g.inc ≤ -1 by omega) with h' | h'
      · exact h'
      · exfalso
        have : (k : Int) * g.inc ≤ (k : Int) * (-1) := Int.mul_le_mul_of_nonneg_left h' (by omega)
        omega
    have h1 : g.inc ≤ (k : Int) * g.inc := by
      have : 1 * g.inc ≤ (k : Int) * g.inc := Int.mul_le_mul_of_nonneg_right (by omega) h0
      omega
    refine ⟨h.p1, h.pn, h0, by omega, by omega, fun j => ?_⟩
    by_cases hj : j < g.vals.length
    · rw [h.vals j hj, Cv.at_lt (by omega)]; exact hp.v j
    · rw [nth_out _ _ (by omega)]; omega
/-- three curves in the first blocks of a call -/
structure P7 (w wx : World) (A : Option Addr) (n c : Nat) (a : Cv) (B : Option Addr) (m d : Nat) (b : Cv) (C : Option Addr) (k s : Nat) (h : Cv) : Prop where
  fb : Blk wx w.heap.size 31 #[.slice A n c, .int .i64 a.per, .int .i64 a.inc]
  gb : Blk wx (w.heap.size + 1) 31 #[.slice B m d, .int .i64 b.per, .int .i64 b.inc]
  hb : Blk wx (w.heap.size + 1 + 1) 31 #[.slice C k s, .int .i64 h.per, .int .i64 h.inc]
  ja : Ints wx w.heap.size A n a.vals
  jb : Ints wx w.heap.size B m b.vals
  jc : Ints wx w.heap.size C k h.vals
  bw : Below w.heap.size w wx
section
variable {w wx wy : World} {A B C : Option Addr} {n c m d k s : Nat} {a b h : Cv}
theorem P7.new (hA : Ints w w.heap.size A n a.vals) (hB : Ints w w.heap.size B m b.vals) (hC : Ints w w.heap.size C k h.vals) :
    P7 w (((w.alloc (.cells #[.slice A n c, .int .i64 a.per, .int .i64 a.inc] 31)).alloc (.cells #[.slice B m d, .int .i64 b.per, .int .i64 b.inc] 31)).alloc (.cells #[.slice C k s, .int .i64 h.per, .int .i64 h.inc] 31)) A n c a B m d b C k s h := by
  have r1 := Blk.new (w.alloc (.cells #[.slice A n c, .int .i64 a.per, .int .i64 a.inc] 31)) 31 #[.slice B m d, .int .i64 b.per, .int .i64 b.inc]
  have r2 := Blk.new ((w.alloc (.cells #[.slice A n c, .int .i64 a.per, .int .i64 a.inc] 31)).alloc (.cells #[.slice B m d, .int .i64 b.per, .int .i64 b.inc] 31)) 31 #[.slice C k s, .int .i64 h.per, .int .i64 h.inc]
  simp only [World.size_alloc] at r1 r2
  exact ⟨((Blk.new _ _ _).alloc _).alloc _, r1.alloc _, r2, ((hA.alloc (Nat.le_refl _) _).alloc (by simp) _).alloc (by simp; omega) _, ((hB.alloc (Nat.le_refl _) _).alloc (by simp) _).alloc (by simp; omega) _, ((hC.alloc (Nat.le_refl _) _).alloc (by simp) _).alloc (by simp; omega) _, bthen (bthen (balloc _ _) (balloc _ _)) (balloc _ _)⟩
theorem P7.below (h' : P7 w wx A n c a B m d b C k s h) (hb : Below wx.heap.size wx wy) : P7 w wy A n c a B m d b C k s h :=
  ⟨h'.fb.below hb h'.fb.lt, h'.gb.below hb h'.gb.lt, h'.hb.below hb h'.hb.lt, h'.ja.below (hb.mono h'.bw.size), h'.jb.below (hb.mono h'.bw.size), h'.jc.below (hb.mono h'.bw.size), bthen h'.bw hb⟩
theorem P7.drew (h' : P7 w wx A n c a B m d b C k s h) : P7 w wx.drew A n c a B m d b C k s h := ⟨h'.fb, h'.gb, h'.hb, h'.ja, h'.jb, h'.jc, Below.drew h'.bw⟩
theorem P7.ia (h' : P7 w wx A n c a B m d b C k s h) : Ints wx wx.heap.size A n a.vals := h'.ja.more h'.bw.size
theorem P7.ib (h' : P7 w wx A n c a B m d b C k s h) : Ints wx wx.heap.size B m b.vals := h'.jb.more h'.bw.size
theorem P7.ic (h' : P7 w wx A n c a B m d b C k s h) : Ints wx wx.heap.size C k h.vals := h'.jc.more h'.bw.size
theorem P7.cells (h' : P7 w wx A n c a B m d b C k s h) : (wx.cell? ⟨w.heap.size, 0, none⟩ = some (.slice A n c) ∧ wx.cell? ⟨w.heap.size, 1, none⟩ = some (.int .i64 a.per) ∧ wx.cell? ⟨w.heap.size, 2, none⟩ = some (.int .i64 a.inc)) ∧
    (wx.cell? ⟨w.heap.size + 1, 0, none⟩ = some (.slice B m d) ∧ wx.cell? ⟨w.heap.size + 1, 1, none⟩ = some (.int .i64 b.per) ∧ wx.cell? ⟨w.heap.size + 1, 2, none⟩ = some (.int .i64 b.inc)) ∧
    (wx.cell? ⟨w.heap.size + 1 + 1, 0, none⟩ = some (.slice C k s) ∧ wx.cell? ⟨w.heap.size + 1 + 1, 1, none⟩ = some (.int .i64 h.per) ∧ wx.cell? ⟨w.heap.size + 1 + 1, 2, none⟩ = some (.int .i64 h.inc)) ∧ w.heap.size + 1 + 1 < wx.heap.size := by
  have q := fun i => h'.fb.cell i
  have q0 := q 0; have q1 := q 1; have q2 := q 2
  have r := fun i => h'.gb.cell i
  have r0 := r 0; have r1 := r 1; have r2 := r 2
  have u := fun i => h'.hb.cell i
  have u0 := u 0; have u1 := u 1; have u2 := u 2
  simp at q0 q1 q2 r0 r1 r2 u0 u1 u2
  exact ⟨⟨q0, q1, q2⟩, ⟨r0, r1, r2⟩, ⟨u0, u1, u2⟩, h'.hb.lt⟩
end
set_option maxHeartbeats 4000000 in
set_option maxRecDepth 100000 in
theorem below7_any (A B C : Option Addr) (n m k c d s K0 : Nat) (a b h : Cv) (w : World) (hA : Ints w w.heap.size A n a.vals) (hB : Ints w w.heap.size B m b.vals) (hC : Ints w w.heap.size C k h.vals) (ha : a.Ok) (hb : b.Ok) (ph : Pre h) (hk : k ≤ 2000) (hK0 : K0 = ordC a b) (hK : K0 ≤ 120) :
    Calls Try.prog 143 #[.agg #[.slice A n c, .int .i64 a.per, .int .i64 a.inc], .agg #[.slice B m d, .int .i64 b.per, .int .i64 b.inc], .agg #[.slice C k s, .int .i64 h.per, .int .i64 h.inc], .int .i64 K0] w (RetQ (BelowS a b h) w) := by
  have a1 := ha.n1; have a2 := ha.n2; have a3 := ha.p1; have a4 := ha.p2; have a5 := ha.pn; have a6 := ha.i1; have a7 := ha.i2
  have b1 := hb.n1; have b2 := hb.n2; have b3 := hb.p1; have b4 := hb.p2; have b5 := hb.pn; have b6 := hb.i1; have b7 := hb.i2
  have c1' := ph.p1; have c2' := ph.pn; have c3' := ph.i0; have c4' := ph.i1
  have hln : a.vals.length = n := hA.1
  have hlm : b.vals.length = m := hB.1
  have hlk : h.vals.length = k := hC.1
  rw [hln] at a1 a2 a5
  rw [hlm] at b1 b2 b5
  rw [hlk] at c2'
  obtain ⟨MF, hMF⟩ : ∃ MF : Nat, MF = max (cst a) (cst h) := ⟨_, rfl⟩
  obtain ⟨MG, hMG⟩ : ∃ MG : Nat, MG = max (cst b) (cst h) := ⟨_, rfl⟩
  have s1 := cst_le ha; have s2 := cst_le hb
  have s3 : cst h ≤ 2000 := by unfold cst; rw [hlk]; omega
  have hmx1 : (if (n : Int) - a.per < (k : Int) - h.per then (k : Int) - h.per else (n : Int) - a.per) = (MF : Int) := by
    rw [hMF]; unfold cst; rw [hln, hlk]; split <;> omega
  have hmx2 : (if (m : Int) - b.per < (k : Int) - h.per then (k : Int) - h.per else (m : Int) - b.per) = (MG : Int) := by
    rw [hMG]; unfold cst; rw [hlm, hlk]; split <;> omega
  obtain ⟨NF', hNF⟩ : ∃ x : Nat, x = MF + K0 := ⟨_, rfl⟩
  obtain ⟨NG, hNG⟩ : ∃ x : Nat, x = MG + K0 := ⟨_, rfl⟩
  have hNF9 : NF' ≤ 2120 := by omega
  have hNG9 : NG ≤ 2120 := by omega
  have e1 : IntKind.i64.wrap ((MF : Int) + (K0 : Int)) = (NF' : Int) := by rw [IntWalk.i64_in _ (by omega)]; omega
  have e2 : (MF : Int) + (K0 : Int) = (NF' : Int) := by omega
  have e3 : IntKind.i64.wrap (NF' : Int) = (NF' : Int) := IntWalk.i64_in _ (by omega)
  have e4 : IntKind.i64.wrap ((MG : Int) + (K0 : Int)) = (NG : Int) := by rw [IntWalk.i64_in _ (by omega)]; omega
  have e5 : (MG : Int) + (K0 : Int) = (NG : Int) := by omega
  have e6 : IntKind.i64.wrap (NG : Int) = (NG : Int) := IntWalk.i64_in _ (by omega)
  have HBS := Lib.hid (show BelowS a b h ↔ ∀ x u, x < NF' → u < NG → h.at (x + u) ≤ pl (a.at x) (b.at u) from by
    rw [hNF, hNG, hMF, hMG, hK0]; exact Iff.rfl)
  have F1 := Lib.hid hmx1; have F2 := Lib.hid hmx2; have E1 := Lib.hid e1; have E2 := Lib.hid e2; have E3 := Lib.hid e3; have E4 := Lib.hid e4; have E5 := Lib.hid e5; have E6 := Lib.hid e6
  have HAO := Lib.hid ha; have HBO := Lib.hid hb; have PH := Lib.hid ph
  have P := Lib.hid (P7.new (c := c) (d := d) (s := s) (h := h) hA hB hC)
  clear hA hB hC ha hb ph hln hlm hlk hK0 hMF hMG hNF hNG s1 s2 s3 hmx1 hmx2 e1 e2 e3 e4 e5 e6
  go_enter Try.func143, Try.ntmps143
  go_wp2_with fail
  go_loopg [9, 10] NF' (fun gg s9 s10 wx => ∃ x : Nat, x + gg = NF' ∧ s9 = .int .i64 x ∧ (∀ x' u, x' < x → u < NG → h.at (x' + u) ≤ pl (a.at x') (b.at u)) ∧ P7 w wx A n c a B m d b C k s h)
  case atStart => exact ⟨0, by omega, rfl, (fun x' u hx => by omega), P.out⟩
  case round =>
    clear P
    obtain ⟨x, hxg, rfl, hgood, hP⟩ := hrel
    have P := Lib.hid hP; have HG := Lib.hid hgood
    clear hP hgood
    obtain ⟨go, hgo⟩ : ∃ go : Nat, go = gk := ⟨_, rfl⟩
    subst hgo
    have hm := F1.out; have q1 := E1.out; have q2 := E2.out; have q3 := E3.out
    by_cases hx : x < NF'
    · have hxi : (x : Int) < NF' := by omega
      have dx : decide (x < NF') = true := by simpa using hx
      have dxi : decide ((x : Int) < (NF' : Int)) = true := by simpa using hxi
      go_upto_region 2 with fail
      have P := Lib.hid P.out.drew
      obtain ⟨⟨f0, f1, f2⟩, ⟨g0, g1, g2⟩, ⟨h0, h1, h2⟩, hlh⟩ := P.out.cells
      refine wp_region_held_drew (S := (fun w' => w'.cell? ⟨w.heap.size, 0, none⟩ = some (.slice A n c) ∧ w'.cell? ⟨w.heap.size, 1, none⟩ = some (.int .i64 a.per) ∧ w'.cell? ⟨w.heap.size, 2, none⟩ = some (.int .i64 a.inc) ∧ w'.cell? ⟨w.heap.size + 1, 0, none⟩ = some (.slice B m d) ∧ w'.cell? ⟨w.heap.size + 1, 1, none⟩ = some (.int .i64 b.per) ∧ w'.cell? ⟨w.heap.size + 1, 2, none⟩ = some (.int .i64 b.inc) ∧ w'.cell? ⟨w.heap.size + 1 + 1, 0, none⟩ = some (.slice C k s) ∧ w'.cell? ⟨w.heap.size + 1 + 1, 1, none⟩ = some (.int .i64 h.per) ∧ w'.cell? ⟨w.heap.size + 1 + 1, 2, none⟩ = some (.int .i64 h.inc))) (by kernel_rfl) (by exact ⟨f0, f1, f2, g0, g1, g2, h0, h1, h2⟩) (fun hHeld => ?_)
      generalize hwd : wr.drew = wd at *
      clear hwd
      refine wpAnyH_take (i := 0) (oi := _) (v := ?_) (by simp only [g8a, g8z]; rfl) (by kernel_rfl) (by kernel_rfl) (by kernel_rfl) (by exact fun _ _ _ h => h) (Or.inl ⟨by rfl, ?_⟩) (by assumption) ?_
      rotate_left 1
      · (intro w hSw; (try dsimp only at hSw); go_simp; try with_reducible rfl)
      all_goals ((try simp only [Act.put]); (try simp only [g8b]); (try simp only [g8c]); (try simp only [g8d]))
      refine wpAnyH_take (i := 1) (oi := _) (v := ?_) (by simp only [g8a, g8s, g8z]; rfl) (by kernel_rfl) (by kernel_rfl) (by kernel_rfl) (by exact fun _ _ _ h => h) (Or.inl ⟨by rfl, ?_⟩) (by assumption) ?_
      rotate_left 1
      · (intro w hSw; (try dsimp only at hSw); go_simp; try with_reducible rfl)
      all_goals ((try simp only [Act.put]); (try simp only [g8b]); (try simp only [g8c]); (try simp only [g8d]))
      refine wpAnyH_take (i := 3) (oi := _) (v := ?_) (by simp only [g8a, g8s, g8z]; rfl) (by kernel_rfl) (by kernel_rfl) (by kernel_rfl) (by exact fun _ _ _ h => h) (Or.inl ⟨by rfl, ?_⟩) (by assumption) ?_
      rotate_left 1
      · (intro w hSw; (try dsimp only at hSw); go_simp; try with_reducible rfl)
      all_goals ((try simp only [Act.put]); (try simp only [g8b]); (try simp only [g8c]); (try simp only [g8d]))
      refine wpAnyH_take (i := 6) (oi := _) (v := ?_) (by simp only [g8a, g8s, g8z]; rfl) (by kernel_rfl) (by kernel_rfl) (by kernel_rfl) (by exact fun _ _ _ h => h) (Or.inl ⟨by rfl, ?_⟩) (by assumption) ?_
      rotate_left 1
      · (intro w hSw; (try dsimp only at hSw); go_simp; try with_reducible rfl)
      all_goals ((try simp only [Act.put]); (try simp only [g8b]); (try simp only [g8c]); (try simp only [g8d]))
      refine wpAnyH_ready (rs := [2]) (by kernel_rfl) (by simp) ?_
      refine (AllReadyH.cons (by simp only [g8a, g8s, g8z]; rfl) (fun K hK => ?_) AllReadyH.nil)
      rw [if_pos (by rfl)]
      go_simp
      refine (start7_any A n c a.per a.inc _ (by omega) (by omega) (by omega)).mono ?_
      rintro e wa ⟨rfl, hb⟩
      replace P := Lib.hid (P.out.below hb)
      clear hb
      try clear hHeld
      clear f0 f1 f2 g0 g1 g2 h0 h1 h2 hlh
      obtain ⟨⟨f0, f1, f2⟩, ⟨g0, g1, g2⟩, ⟨h0, h1, h2⟩, hlh⟩ := P.out.cells
      refine hK.out _ _ (by exact ⟨f0, f1, f2, g0, g1, g2, h0, h1, h2⟩) (fun hHeld => ?_)
      clear hK K
      (try simp only [Act.put]); (try simp only [g8b]); (try simp only [g8c]); (try simp only [g8d])
      refine wpAnyH_ready (rs := [4]) (by kernel_rfl) (by simp) ?_
      refine (AllReadyH.cons (by simp only [g8a, g8s, g8z]; rfl) (fun K hK => ?_) AllReadyH.nil)
      rw [if_pos (by rfl)]
      go_simp
      refine (start7_any C k s h.per h.inc _ (by omega) (by omega) (by omega)).mono ?_
      rintro e wb ⟨rfl, hb⟩
      replace P := Lib.hid (P.out.below hb)
      clear hb
      try clear hHeld
      clear f0 f1 f2 g0 g1 g2 h0 h1 h2 hlh
      obtain ⟨⟨f0, f1, f2⟩, ⟨g0, g1, g2⟩, ⟨h0, h1, h2⟩, hlh⟩ := P.out.cells
      refine hK.out _ _ (by exact ⟨f0, f1, f2, g0, g1, g2, h0, h1, h2⟩) (fun hHeld => ?_)
      clear hK K
      (try simp only [Act.put]); (try simp only [g8b]); (try simp only [g8c]); (try simp only [g8d])
      refine wpAnyH_ready (rs := [5]) (by kernel_rfl) (by simp) ?_
      refine (AllReadyH.cons (by simp only [g8a, g8s, g8z]; rfl) (fun K hK => ?_) AllReadyH.nil)
      rw [if_pos (by rfl)]
      go_simp
      refine hK.out _ _ (by exact ⟨f0, f1, f2, g0, g1, g2, h0, h1, h2⟩) (fun hHeld => ?_)
      clear hK K
      (try simp only [Act.put]); (try simp only [g8b]); (try simp only [g8c]); (try simp only [g8d])
      refine wpAnyH_take (i := 7) (oi := _) (v := ?_) (by simp only [g8a, g8s, g8z]; rfl) (by kernel_rfl) (by kernel_rfl) (by kernel_rfl) (by exact fun _ _ _ h => h) (Or.inl ⟨by rfl, ?_⟩) (by assumption) ?_
      rotate_left 1
      · (intro w hSw; (try dsimp only at hSw); go_simp; try with_reducible rfl)
      all_goals ((try simp only [Act.put]); (try simp only [g8b]); (try simp only [g8c]); (try simp only [g8d]))
      refine wpAnyH_take (i := 8) (oi := _) (v := ?_) (by simp only [g8a, g8s, g8z]; rfl) (by kernel_rfl) (by kernel_rfl) (by kernel_rfl) (by exact fun _ _ _ h => h) (Or.inl ⟨by rfl, ?_⟩) (by assumption) ?_
      rotate_left 1
      · (intro w hSw; (try dsimp only at hSw); go_simp; try with_reducible rfl)
      all_goals ((try simp only [Act.put]); (try simp only [g8b]); (try simp only [g8c]); (try simp only [g8d]))
      refine wpAnyH_done (by kernel_rfl) ?_ _
      clear hHeld
      clear hm q1 q2 q3 dx dxi
      clear f0 f1 f2 g0 g1 g2 h0 h1 h2 hlh
      obtain ⟨av, hav⟩ : ∃ av, av = a.at x := ⟨_, rfl⟩
      have nx := at_near HAO.out (t := x) (by omega)
      rw [← hav] at nx
      have NX := Lib.hid nx; have HAV := Lib.hid hav
      clear nx hav
      go_wp2_with fail
      go_loopg [10] NG (fun gg s10 wx => ∃ u : Nat, u + gg = NG ∧ s10 = .int .i64 u ∧ (∀ u', u' < u → h.at (x + u') ≤ pl (a.at x) (b.at u')) ∧ P7 w wx A n c a B m d b C k s h)
      case atStart => exact ⟨0, by omega, rfl, (fun u' hu => by omega), P.out⟩
      case round =>
        clear P
        obtain ⟨u, hug, rfl, hgood, hP⟩ := hrel
        have P := Lib.hid hP; have HU := Lib.hid hgood
        clear hP hgood
        have hm := F2.out; have q1 := E4.out; have q2 := E5.out; have q3 := E6.out
        by_cases hu : u < NG
        · have hui : (u : Int) < NG := by omega
          have dx : decide (u < NG) = true := by simpa using hu
          have dxi : decide ((u : Int) < (NG : Int)) = true := by simpa using hui
          go_upto_region 5 with fail
          have P := Lib.hid P.out.drew
          obtain ⟨⟨f0, f1, f2⟩, ⟨g0, g1, g2⟩, ⟨h0, h1, h2⟩, hlh⟩ := P.out.cells
          refine wp_region_held_drew (S := (fun w' => w'.cell? ⟨w.heap.size, 0, none⟩ = some (.slice A n c) ∧ w'.cell? ⟨w.heap.size, 1, none⟩ = some (.int .i64 a.per) ∧ w'.cell? ⟨w.heap.size, 2, none⟩ = some (.int .i64 a.inc) ∧ w'.cell? ⟨w.heap.size + 1, 0, none⟩ = some (.slice B m d) ∧ w'.cell? ⟨w.heap.size + 1, 1, none⟩ = some (.int .i64 b.per) ∧ w'.cell? ⟨w.heap.size + 1, 2, none⟩ = some (.int .i64 b.inc) ∧ w'.cell? ⟨w.heap.size + 1 + 1, 0, none⟩ = some (.slice C k s) ∧ w'.cell? ⟨w.heap.size + 1 + 1, 1, none⟩ = some (.int .i64 h.per) ∧ w'.cell? ⟨w.heap.size + 1 + 1, 2, none⟩ = some (.int .i64 h.inc))) (by kernel_rfl) (by exact ⟨f0, f1, f2, g0, g1, g2, h0, h1, h2⟩) (fun hHeld => ?_)
          generalize hwd : wr.drew = wd at *
          clear hwd
          refine wpAnyH_take (i := 0) (oi := _) (v := ?_) (by simp only [g8a, g8z]; rfl) (by kernel_rfl) (by kernel_rfl) (by kernel_rfl) (by exact fun _ _ _ h => h) (Or.inl ⟨by rfl, ?_⟩) (by assumption) ?_
          rotate_left 1
          · (intro w hSw; (try dsimp only at hSw); go_simp; try with_reducible rfl)
          all_goals ((try simp only [Act.put]); (try simp only [g8b]); (try simp only [g8c]); (try simp only [g8d]))
          refine wpAnyH_take (i := 1) (oi := _) (v := ?_) (by simp only [g8a, g8s, g8z]; rfl) (by kernel_rfl) (by kernel_rfl) (by kernel_rfl) (by exact fun _ _ _ h => h) (Or.inl ⟨by rfl, ?_⟩) (by assumption) ?_
          rotate_left 1
          · (intro w hSw; (try dsimp only at hSw); go_simp; try with_reducible rfl)
          all_goals ((try simp only [Act.put]); (try simp only [g8b]); (try simp only [g8c]); (try simp only [g8d]))
          refine wpAnyH_take (i := 3) (oi := _) (v := ?_) (by simp only [g8a, g8s, g8z]; rfl) (by kernel_rfl) (by kernel_rfl) (by kernel_rfl) (by exact fun _ _ _ h => h) (Or.inl ⟨by rfl, ?_⟩) (by assumption) ?_
          rotate_left 1
          · (intro w hSw; (try dsimp only at hSw); go_simp; try with_reducible rfl)
          all_goals ((try simp only [Act.put]); (try simp only [g8b]); (try simp only [g8c]); (try simp only [g8d]))
          refine wpAnyH_take (i := 6) (oi := _) (v := ?_) (by simp only [g8a, g8s, g8z]; rfl) (by kernel_rfl) (by kernel_rfl) (by kernel_rfl) (by exact fun _ _ _ h => h) (Or.inl ⟨by rfl, ?_⟩) (by assumption) ?_
          rotate_left 1
          · (intro w hSw; (try dsimp only at hSw); go_simp; try with_reducible rfl)
          all_goals ((try simp only [Act.put]); (try simp only [g8b]); (try simp only [g8c]); (try simp only [g8d]))
          refine wpAnyH_ready (rs := [2]) (by kernel_rfl) (by simp) ?_
          refine (AllReadyH.cons (by simp only [g8a, g8s, g8z]; rfl) (fun K hK => ?_) AllReadyH.nil)
          rw [if_pos (by rfl)]
          go_simp
          refine (start7_any B m d b.per b.inc _ (by omega) (by omega) (by omega)).mono ?_
          rintro e wa ⟨rfl, hb⟩
          replace P := Lib.hid (P.out.below hb)
          clear hb
          try clear hHeld
          clear f0 f1 f2 g0 g1 g2 h0 h1 h2 hlh
          obtain ⟨⟨f0, f1, f2⟩, ⟨g0, g1, g2⟩, ⟨h0, h1, h2⟩, hlh⟩ := P.out.cells
          refine hK.out _ _ (by exact ⟨f0, f1, f2, g0, g1, g2, h0, h1, h2⟩) (fun hHeld => ?_)
          clear hK K
          (try simp only [Act.put]); (try simp only [g8b]); (try simp only [g8c]); (try simp only [g8d])
          refine wpAnyH_ready (rs := [4]) (by kernel_rfl) (by simp) ?_
          refine (AllReadyH.cons (by simp only [g8a, g8s, g8z]; rfl) (fun K hK => ?_) AllReadyH.nil)
          rw [if_pos (by rfl)]
          go_simp
          refine (start7_any C k s h.per h.inc _ (by omega) (by omega) (by omega)).mono ?_
          rintro e wb ⟨rfl, hb⟩
          replace P := Lib.hid (P.out.below hb)
          clear hb
          try clear hHeld
          clear f0 f1 f2 g0 g1 g2 h0 h1 h2 hlh
          obtain ⟨⟨f0, f1, f2⟩, ⟨g0, g1, g2⟩, ⟨h0, h1, h2⟩, hlh⟩ := P.out.cells
          refine hK.out _ _ (by exact ⟨f0, f1, f2, g0, g1, g2, h0, h1, h2⟩) (fun hHeld => ?_)
          clear hK K
          (try simp only [Act.put]); (try simp only [g8b]); (try simp only [g8c]); (try simp only [g8d])
          refine wpAnyH_ready (rs := [5]) (by kernel_rfl) (by simp) ?_
          refine (AllReadyH.cons (by simp only [g8a, g8s, g8z]; rfl) (fun K hK => ?_) AllReadyH.nil)
          rw [if_pos (by rfl)]
          go_simp
          refine hK.out _ _ (by exact ⟨f0, f1, f2, g0, g1, g2, h0, h1, h2⟩) (fun hHeld => ?_)
          clear hK K
          (try simp only [Act.put]); (try simp only [g8b]); (try simp only [g8c]); (try simp only [g8d])
          refine wpAnyH_take (i := 7) (oi := _) (v := ?_) (by simp only [g8a, g8s, g8z]; rfl) (by kernel_rfl) (by kernel_rfl) (by kernel_rfl) (by exact fun _ _ _ h => h) (Or.inl ⟨by rfl, ?_⟩) (by assumption) ?_
          rotate_left 1
          · (intro w hSw; (try dsimp only at hSw); go_simp; try with_reducible rfl)
          all_goals ((try simp only [Act.put]); (try simp only [g8b]); (try simp only [g8c]); (try simp only [g8d]))
          refine wpAnyH_take (i := 8) (oi := _) (v := ?_) (by simp only [g8a, g8s, g8z]; rfl) (by kernel_rfl) (by kernel_rfl) (by kernel_rfl) (by exact fun _ _ _ h => h) (Or.inl ⟨by rfl, ?_⟩) (by assumption) ?_
          rotate_left 1
          · (intro w hSw; (try dsimp only at hSw); go_simp; try with_reducible rfl)
          all_goals ((try simp only [Act.put]); (try simp only [g8b]); (try simp only [g8c]); (try simp only [g8d]))
          refine wpAnyH_done (by kernel_rfl) ?_ _
          clear hHeld
          clear hm q1 q2 q3 dx dxi
          clear f0 f1 f2 g0 g1 g2 h0 h1 h2 hlh
          obtain ⟨bv, hbv⟩ : ∃ bv, bv = b.at u := ⟨_, rfl⟩
          have ny := at_near HBO.out (t := u) (by omega)
          rw [← hbv] at ny
          have NY := Lib.hid ny; have HBV := Lib.hid hbv
          clear ny hbv
          obtain ⟨y, hy⟩ : ∃ y : Nat, y = x + u := ⟨_, rfl⟩
          have hy9 : y ≤ 4240 := by omega
          have ey1 : IntKind.i64.wrap ((x : Int) + (u : Int)) = (y : Int) := by rw [IntWalk.i64_in _ (by omega)]; omega
          have ey2 : (x : Int) + (u : Int) = (y : Int) := by omega
          have ey3 : IntKind.i64.wrap (y : Int) = (y : Int) := IntWalk.i64_in _ (by omega)
          have HY := Lib.hid hy
          clear hy
          obtain ⟨hv, hhv⟩ : ∃ hv, hv = h.at y := ⟨_, rfl⟩
          have HHV := Lib.hid hhv
          clear hhv
          obtain ⟨pv, hpv⟩ : ∃ pv, pv = pl av bv := ⟨_, rfl⟩
          have HP := Lib.hid hpv
          clear hpv
          go_upto_region 7 with fail
          have P := Lib.hid P.out.drew
          obtain ⟨⟨f0, f1, f2⟩, ⟨g0, g1, g2⟩, ⟨h0, h1, h2⟩, hlh⟩ := P.out.cells
          refine wp_region_held_drew (S := (fun w' => w'.cell? ⟨w.heap.size, 0, none⟩ = some (.slice A n c) ∧ w'.cell? ⟨w.heap.size, 1, none⟩ = some (.int .i64 a.per) ∧ w'.cell? ⟨w.heap.size, 2, none⟩ = some (.int .i64 a.inc) ∧ w'.cell? ⟨w.heap.size + 1, 0, none⟩ = some (.slice B m d) ∧ w'.cell? ⟨w.heap.size + 1, 1, none⟩ = some (.int .i64 b.per) ∧ w'.cell? ⟨w.heap.size + 1, 2, none⟩ = some (.int .i64 b.inc) ∧ w'.cell? ⟨w.heap.size + 1 + 1, 0, none⟩ = some (.slice C k s) ∧ w'.cell? ⟨w.heap.size + 1 + 1, 1, none⟩ = some (.int .i64 h.per) ∧ w'.cell? ⟨w.heap.size + 1 + 1, 2, none⟩ = some (.int .i64 h.inc))) (by kernel_rfl) (by exact ⟨f0, f1, f2, g0, g1, g2, h0, h1, h2⟩) (fun hHeld => ?_)
          generalize hwd : wb.drew = wd at *
          clear hwd
          refine wpAnyH_take (i := 0) (oi := _) (v := ?_) (by simp only [g8a, g8z]; rfl) (by kernel_rfl) (by kernel_rfl) (by kernel_rfl) (by exact fun _ _ _ h => h) (Or.inl ⟨by rfl, ?_⟩) (by assumption) ?_
          rotate_left 1
          · (intro w hSw; (try dsimp only at hSw); go_simp; try with_reducible rfl)
          all_goals ((try simp only [Act.put]); (try simp only [g8b]); (try simp only [g8c]); (try simp only [g8d]))
          refine wpAnyH_take (i := 1) (oi := _) (v := ?_) (by simp only [g8a, g8s, g8z]; rfl) (by kernel_rfl) (by kernel_rfl) (by kernel_rfl) (by exact fun _ _ _ h => h) (Or.inl ⟨by rfl, ?_⟩) (by assumption) ?_
          rotate_left 1
          · (intro w hSw; (try dsimp only at hSw); go_simp; try with_reducible rfl)
          all_goals ((try simp only [Act.put]); (try simp only [g8b]); (try simp only [g8c]); (try simp only [g8d]))
          refine wpAnyH_take (i := 2) (oi := _) (v := ?_) (by simp only [g8a, g8s, g8z]; rfl) (by kernel_rfl) (by kernel_rfl) (by kernel_rfl) (by exact fun _ _ _ h => h) (Or.inl ⟨by rfl, ?_⟩) (by assumption) ?_
          rotate_left 1
          · (intro w hSw; (try dsimp only at hSw); go_simp; try with_reducible rfl)
          all_goals ((try simp only [Act.put]); (try simp only [g8b]); (try simp only [g8c]); (try simp only [g8d]))
          refine wpAnyH_take (i := 3) (oi := _) (v := ?_) (by simp only [g8a, g8s, g8z]; rfl) (by kernel_rfl) (by kernel_rfl) (by kernel_rfl) (by exact fun _ _ _ h => h) (Or.inl ⟨by rfl, ?_⟩) (by assumption) ?_
          rotate_left 1
          · (intro w hSw; (try dsimp only at hSw); go_simp; try with_reducible rfl)
          all_goals ((try simp only [Act.put]); (try simp only [g8b]); (try simp only [g8c]); (try simp only [g8d]))
          refine wpAnyH_take (i := 5) (oi := _) (v := ?_) (by simp only [g8a, g8s, g8z]; rfl) (by kernel_rfl) (by kernel_rfl) (by kernel_rfl) (by exact fun _ _ _ h => h) (Or.inl ⟨by rfl, ?_⟩) (by assumption) ?_
          rotate_left 1
          · (intro w hSw; (try dsimp only at hSw); go_simp; try with_reducible rfl)
          all_goals ((try simp only [Act.put]); (try simp only [g8b]); (try simp only [g8c]); (try simp only [g8d]))
          refine wpAnyH_take (i := 6) (oi := _) (v := ?_) (by simp only [g8a, g8s, g8z]; rfl) (by kernel_rfl) (by kernel_rfl) (by kernel_rfl) (by exact fun _ _ _ h => h) (Or.inl ⟨by rfl, ?_⟩) (by assumption) ?_
          rotate_left 1
          · (intro w hSw; (try dsimp only at hSw); go_simp; try with_reducible rfl)
          all_goals ((try simp only [Act.put]); (try simp only [g8b]); (try simp only [g8c]); (try simp only [g8d]))
          refine wpAnyH_take (i := 8) (oi := _) (v := ?_) (by simp only [g8a, g8s, g8z]; rfl) (by kernel_rfl) (by kernel_rfl) (by kernel_rfl) (by exact fun _ _ _ h => h) (Or.inl ⟨by rfl, ?_⟩) (by assumption) ?_
          rotate_left 1
          · (intro w hSw; (try dsimp only at hSw); go_simp; try with_reducible rfl)
          all_goals ((try simp only [Act.put]); (try simp only [g8b]); (try simp only [g8c]); (try simp only [g8d]))
          refine wpAnyH_take (i := 9) (oi := _) (v := ?_) (by simp only [g8a, g8s, g8z]; rfl) (by kernel_rfl) (by kernel_rfl) (by kernel_rfl) (by exact fun _ _ _ h => h) (Or.inl ⟨by rfl, ?_⟩) (by assumption) ?_
          rotate_left 1
          · (intro w hSw; (try dsimp only at hSw); go_simp; try with_reducible rfl)
          all_goals ((try simp only [Act.put]); (try simp only [g8b]); (try simp only [g8c]); (try simp only [g8d]))
          clear ey1 ey2 ey3
          refine wpAnyH_ready (rs := [4]) (by kernel_rfl) (by simp) ?_
          refine (AllReadyH.cons (by simp only [g8a, g8s, g8z]; rfl) (fun K hK => ?_) AllReadyH.nil)
          rw [if_pos (by rfl)]
          go_simp
          refine (refAt_any C k s h.per h.inc (y : Int) h.vals _ (by exact P.out.ic) (by omega) (by omega) (by omega) (by omega) (by omega) PH.out.v (by omega) (by omega)).mono ?_
          rw [Int.toNat_natCast, ← HHV.out]
          rintro e wf ⟨rfl, hb⟩
          replace P := Lib.hid (P.out.below hb)
          clear hb
          try clear hHeld
          clear f0 f1 f2 g0 g1 g2 h0 h1 h2 hlh
          obtain ⟨⟨f0, f1, f2⟩, ⟨g0, g1, g2⟩, ⟨h0, h1, h2⟩, hlh⟩ := P.out.cells
          refine hK.out _ _ (by exact ⟨f0, f1, f2, g0, g1, g2, h0, h1, h2⟩) (fun hHeld => ?_)
          clear hK K
          (try simp only [Act.put]); (try simp only [g8b]); (try simp only [g8c]); (try simp only [g8d])
          refine wpAnyH_ready (rs := [7]) (by kernel_rfl) (by simp) ?_
          refine (AllReadyH.cons (by simp only [g8a, g8s, g8z]; rfl) (fun K hK => ?_) AllReadyH.nil)
          rw [if_pos (by rfl)]
          go_simp
          refine (refAt_any A n c a.per a.inc (x : Int) a.vals _ (by exact P.out.ia) (by omega) (by omega) (by omega) (by omega) (by omega) HAO.out.nn (by omega) (by omega)).mono ?_
          rw [Int.toNat_natCast, ← HAV.out]
          rintro e wg ⟨rfl, hb⟩
          replace P := Lib.hid (P.out.below hb)
          clear hb
          try clear hHeld
          clear f0 f1 f2 g0 g1 g2 h0 h1 h2 hlh
          obtain ⟨⟨f0, f1, f2⟩, ⟨g0, g1, g2⟩, ⟨h0, h1, h2⟩, hlh⟩ := P.out.cells
          refine hK.out _ _ (by exact ⟨f0, f1, f2, g0, g1, g2, h0, h1, h2⟩) (fun hHeld => ?_)
          clear hK K
          (try simp only [Act.put]); (try simp only [g8b]); (try simp only [g8c]); (try simp only [g8d])
          refine wpAnyH_ready (rs := [10]) (by kernel_rfl) (by simp) ?_
          refine (AllReadyH.cons (by simp only [g8a, g8s, g8z]; rfl) (fun K hK => ?_) AllReadyH.nil)
          rw [if_pos (by rfl)]
          go_simp
          refine (refAt_any B m d b.per b.inc (u : Int) b.vals _ (by exact P.out.ib) (by omega) (by omega) (by omega) (by omega) (by omega) HBO.out.nn (by omega) (by omega)).mono ?_
          rw [Int.toNat_natCast, ← HBV.out]
          rintro e wh ⟨rfl, hb⟩
          replace P := Lib.hid (P.out.below hb)
          clear hb
          try clear hHeld
          clear f0 f1 f2 g0 g1 g2 h0 h1 h2 hlh
          obtain ⟨⟨f0, f1, f2⟩, ⟨g0, g1, g2⟩, ⟨h0, h1, h2⟩, hlh⟩ := P.out.cells
          refine hK.out _ _ (by exact ⟨f0, f1, f2, g0, g1, g2, h0, h1, h2⟩) (fun hHeld => ?_)
          clear hK K
          (try simp only [Act.put]); (try simp only [g8b]); (try simp only [g8c]); (try simp only [g8d])
          refine wpAnyH_ready (rs := [11]) (by kernel_rfl) (by simp) ?_
          refine (AllReadyH.cons (by simp only [g8a, g8s, g8z]; rfl) (fun K hK => ?_) AllReadyH.nil)
          rw [if_pos (by rfl)]
          go_simp
          refine (plus7_any av bv wh (by exact NX.out.1) (by exact NX.out.2) (by exact NY.out.1) (by exact NY.out.2)).mono ?_
          rw [← HP.out]
          rintro e wi ⟨rfl, rfl⟩
          refine hK.out _ _ (by exact ⟨f0, f1, f2, g0, g1, g2, h0, h1, h2⟩) (fun hHeld => ?_)
          clear hK K
          (try simp only [Act.put]); (try simp only [g8b]); (try simp only [g8c]); (try simp only [g8d])
          by_cases hgt : pv < hv
          case pos =>
            have dt : decide (hv > pv) = true := by simpa using hgt
            have dt2 : decide (pv < hv) = true := by simpa using hgt
            have HGT := Lib.hid hgt
            clear hgt
            refine wpAnyH_take (i := 12) (oi := _) (v := ?_) (by simp only [g8a, g8s, g8z]; rfl) (by kernel_rfl) (by kernel_rfl) (by kernel_rfl) (by exact fun _ _ _ h => h) (Or.inl ⟨by rfl, ?_⟩) (by assumption) ?_
            rotate_left 1
            · (intro w hSw; (try dsimp only at hSw); go_simp; try with_reducible rfl)
            all_goals ((try simp only [Act.put]); (try simp only [g8b]); (try simp only [g8c]); (try simp only [g8d]))
            refine wpAnyH_done (by kernel_rfl) ?_ _
            clear hHeld
            clear f0 f1 f2 g0 g1 g2 h0 h1 h2 hlh
            have FIN := Lib.hid (show ¬ BelowS a b h from fun hc => by
              have h1 := HBS.out.1 hc x u hx hu
              rw [← HY.out, ← HHV.out, ← HAV.out, ← HBV.out, ← HP.out] at h1
              have := HGT.out
              omega)
            have bw := P.out.bw
            go_wp2_with fail
            try rw [Exit.noGoto_ret]
            go_ret
            exact RetQ.no FIN.out bw
          case neg =>
            have dt : decide (hv > pv) = false := by simpa using hgt
            have dt2 : decide (pv < hv) = false := by simpa using hgt
            have HGT := Lib.hid hgt
            clear hgt
            refine wpAnyH_take (i := 12) (oi := _) (v := ?_) (by simp only [g8a, g8s, g8z]; rfl) (by kernel_rfl) (by kernel_rfl) (by kernel_rfl) (by exact fun _ _ _ h => h) (Or.inl ⟨by rfl, ?_⟩) (by assumption) ?_
            rotate_left 1
            · (intro w hSw; (try dsimp only at hSw); go_simp; try with_reducible rfl)
            all_goals ((try simp only [Act.put]); (try simp only [g8b]); (try simp only [g8c]); (try simp only [g8d]))
            refine wpAnyH_done (by kernel_rfl) ?_ _
            clear hHeld
            clear f0 f1 f2 g0 g1 g2 h0 h1 h2 hlh
            have GD := Lib.hid (show ∀ u', u' < u + 1 → h.at (x + u') ≤ pl (a.at x) (b.at u') from fun u' hu' => by
              rcases Nat.lt_or_ge u' u with h1 | h1
              · exact HU.out u' h1
              · have e : u' = u := by omega
                rw [e, ← HY.out, ← HHV.out, ← HAV.out, ← HBV.out, ← HP.out]
                have := HGT.out
                omega)
            go_wp2_with fail
            go_roundg (gk - 1)
            case measure => omega
            case rel => exact ⟨u + 1, by omega, by go_num, GD.out, P.out⟩
        · have hui : ¬ (u : Int) < NG := by omega
          have dx : decide (u < NG) = false := by simpa using hu
          have dxi : decide ((u : Int) < (NG : Int)) = false := by simp; omega
          go_upto_region 5 with fail
          have P := Lib.hid P.out.drew
          obtain ⟨⟨f0, f1, f2⟩, ⟨g0, g1, g2⟩, ⟨h0, h1, h2⟩, hlh⟩ := P.out.cells
          refine wp_region_held_drew (S := (fun w' => w'.cell? ⟨w.heap.size, 0, none⟩ = some (.slice A n c) ∧ w'.cell? ⟨w.heap.size, 1, none⟩ = some (.int .i64 a.per) ∧ w'.cell? ⟨w.heap.size, 2, none⟩ = some (.int .i64 a.inc) ∧ w'.cell? ⟨w.heap.size + 1, 0, none⟩ = some (.slice B m d) ∧ w'.cell? ⟨w.heap.size + 1, 1, none⟩ = some (.int .i64 b.per) ∧ w'.cell? ⟨w.heap.size + 1, 2, none⟩ = some (.int .i64 b.inc) ∧ w'.cell? ⟨w.heap.size + 1 + 1, 0, none⟩ = some (.slice C k s) ∧ w'.cell? ⟨w.heap.size + 1 + 1, 1, none⟩ = some (.int .i64 h.per) ∧ w'.cell? ⟨w.heap.size + 1 + 1, 2, none⟩ = some (.int .i64 h.inc))) (by kernel_rfl) (by exact ⟨f0, f1, f2, g0, g1, g2, h0, h1, h2⟩) (fun hHeld => ?_)
          generalize hwd : wr.drew = wd at *
          clear hwd
          refine wpAnyH_take (i := 0) (oi := _) (v := ?_) (by simp only [g8a, g8z]; rfl) (by kernel_rfl) (by kernel_rfl) (by kernel_rfl) (by exact fun _ _ _ h => h) (Or.inl ⟨by rfl, ?_⟩) (by assumption) ?_
          rotate_left 1
          · (intro w hSw; (try dsimp only at hSw); go_simp; try with_reducible rfl)
          all_goals ((try simp only [Act.put]); (try simp only [g8b]); (try simp only [g8c]); (try simp only [g8d]))
          refine wpAnyH_take (i := 1) (oi := _) (v := ?_) (by simp only [g8a, g8s, g8z]; rfl) (by kernel_rfl) (by kernel_rfl) (by kernel_rfl) (by exact fun _ _ _ h => h) (Or.inl ⟨by rfl, ?_⟩) (by assumption) ?_
          rotate_left 1
          · (intro w hSw; (try dsimp only at hSw); go_simp; try with_reducible rfl)
          all_goals ((try simp only [Act.put]); (try simp only [g8b]); (try simp only [g8c]); (try simp only [g8d]))
          refine wpAnyH_take (i := 3) (oi := _) (v := ?_) (by simp only [g8a, g8s, g8z]; rfl) (by kernel_rfl) (by kernel_rfl) (by kernel_rfl) (by exact fun _ _ _ h => h) (Or.inl ⟨by rfl, ?_⟩) (by assumption) ?_
          rotate_left 1
          · (intro w hSw; (try dsimp only at hSw); go_simp; try with_reducible rfl)
          all_goals ((try simp only [Act.put]); (try simp only [g8b]); (try simp only [g8c]); (try simp only [g8d]))
          refine wpAnyH_take (i := 6) (oi := _) (v := ?_) (by simp only [g8a, g8s, g8z]; rfl) (by kernel_rfl) (by kernel_rfl) (by kernel_rfl) (by exact fun _ _ _ h => h) (Or.inl ⟨by rfl, ?_⟩) (by assumption) ?_
          rotate_left 1
          · (intro w hSw; (try dsimp only at hSw); go_simp; try with_reducible rfl)
          all_goals ((try simp only [Act.put]); (try simp only [g8b]); (try simp only [g8c]); (try simp only [g8d]))
          refine wpAnyH_ready (rs := [2]) (by kernel_rfl) (by simp) ?_
          refine (AllReadyH.cons (by simp only [g8a, g8s, g8z]; rfl) (fun K hK => ?_) AllReadyH.nil)
          rw [if_pos (by rfl)]
          go_simp
          refine (start7_any B m d b.per b.inc _ (by omega) (by omega) (by omega)).mono ?_
          rintro e wa ⟨rfl, hb⟩
          replace P := Lib.hid (P.out.below hb)
          clear hb
          try clear hHeld
          clear f0 f1 f2 g0 g1 g2 h0 h1 h2 hlh
          obtain ⟨⟨f0, f1, f2⟩, ⟨g0, g1, g2⟩, ⟨h0, h1, h2⟩, hlh⟩ := P.out.cells
          refine hK.out _ _ (by exact ⟨f0, f1, f2, g0, g1, g2, h0, h1, h2⟩) (fun hHeld => ?_)
          clear hK K
          (try simp only [Act.put]); (try simp only [g8b]); (try simp only [g8c]); (try simp only [g8d])
          refine wpAnyH_ready (rs := [4]) (by kernel_rfl) (by simp) ?_
          refine (AllReadyH.cons (by simp only [g8a, g8s, g8z]; rfl) (fun K hK => ?_) AllReadyH.nil)
          rw [if_pos (by rfl)]
          go_simp
          refine (start7_any C k s h.per h.inc _ (by omega) (by omega) (by omega)).mono ?_
          rintro e wb ⟨rfl, hb⟩
          replace P := Lib.hid (P.out.below hb)
          clear hb
          try clear hHeld
          clear f0 f1 f2 g0 g1 g2 h0 h1 h2 hlh
          obtain ⟨⟨f0, f1, f2⟩, ⟨g0, g1, g2⟩, ⟨h0, h1, h2⟩, hlh⟩ := P.out.cells
          refine hK.out _ _ (by exact ⟨f0, f1, f2, g0, g1, g2, h0, h1, h2⟩) (fun hHeld => ?_)
          clear hK K
          (try simp only [Act.put]); (try simp only [g8b]); (try simp only [g8c]); (try simp only [g8d])
          refine wpAnyH_ready (rs := [5]) (by kernel_rfl) (by simp) ?_
          refine (AllReadyH.cons (by simp only [g8a, g8s, g8z]; rfl) (fun K hK => ?_) AllReadyH.nil)
          rw [if_pos (by rfl)]
          go_simp
          refine hK.out _ _ (by exact ⟨f0, f1, f2, g0, g1, g2, h0, h1, h2⟩) (fun hHeld => ?_)
          clear hK K
          (try simp only [Act.put]); (try simp only [g8b]); (try simp only [g8c]); (try simp only [g8d])
          refine wpAnyH_take (i := 7) (oi := _) (v := ?_) (by simp only [g8a, g8s, g8z]; rfl) (by kernel_rfl) (by kernel_rfl) (by kernel_rfl) (by exact fun _ _ _ h => h) (Or.inl ⟨by rfl, ?_⟩) (by assumption) ?_
          rotate_left 1
          · (intro w hSw; (try dsimp only at hSw); go_simp; try with_reducible rfl)
          all_goals ((try simp only [Act.put]); (try simp only [g8b]); (try simp only [g8c]); (try simp only [g8d]))
          refine wpAnyH_take (i := 8) (oi := _) (v := ?_) (by simp only [g8a, g8s, g8z]; rfl) (by kernel_rfl) (by kernel_rfl) (by kernel_rfl) (by exact fun _ _ _ h => h) (Or.inl ⟨by rfl, ?_⟩) (by assumption) ?_
          rotate_left 1
          · (intro w hSw; (try dsimp only at hSw); go_simp; try with_reducible rfl)
          all_goals ((try simp only [Act.put]); (try simp only [g8b]); (try simp only [g8c]); (try simp only [g8d]))
          refine wpAnyH_done (by kernel_rfl) ?_ _
          clear hHeld
          clear hm q1 q2 q3 dx dxi
          clear f0 f1 f2 g0 g1 g2 h0 h1 h2 hlh
          have GD := Lib.hid (show ∀ x' u', x' < x + 1 → u' < NG → h.at (x' + u') ≤ pl (a.at x') (b.at u') from fun x' u' hx' hu' => by
            rcases Nat.lt_or_ge x' x with h1 | h1
            · exact HG.out x' u' h1 hu'
            · have e : x' = x := by omega
              rw [e]; exact HU.out u' (by omega))
          go_wp2_with fail
          go_roundg (go - 1)
          case measure => omega
          case rel => exact ⟨x + 1, by omega, by go_num, GD.out, P.out⟩
    · have hxi : ¬ (x : Int) < NF' := by omega
      have dx : decide (x < NF') = false := by simpa using hx
      have dxi : decide ((x : Int) < (NF' : Int)) = false := by simp; omega
      go_upto_region 2 with fail
      have P := Lib.hid P.out.drew
      obtain ⟨⟨f0, f1, f2⟩, ⟨g0, g1, g2⟩, ⟨h0, h1, h2⟩, hlh⟩ := P.out.cells
      refine wp_region_held_drew (S := (fun w' => w'.cell? ⟨w.heap.size, 0, none⟩ = some (.slice A n c) ∧ w'.cell? ⟨w.heap.size, 1, none⟩ = some (.int .i64 a.per) ∧ w'.cell? ⟨w.heap.size, 2, none⟩ = some (.int .i64 a.inc) ∧ w'.cell? ⟨w.heap.size + 1, 0, none⟩ = some (.slice B m d) ∧ w'.cell? ⟨w.heap.size + 1, 1, none⟩ = some (.int .i64 b.per) ∧ w'.cell? ⟨w.heap.size + 1, 2, none⟩ = some (.int .i64 b.inc) ∧ w'.cell? ⟨w.heap.size + 1 + 1, 0, none⟩ = some (.slice C k s) ∧ w'.cell? ⟨w.heap.size + 1 + 1, 1, none⟩ = some (.int .i64 h.per) ∧ w'.cell? ⟨w.heap.size + 1 + 1, 2, none⟩ = some (.int .i64 h.inc))) (by kernel_rfl) (by exact ⟨f0, f1, f2, g0, g1, g2, h0, h1, h2⟩) (fun hHeld => ?_)
      generalize hwd : wr.drew = wd at *
      clear hwd
      refine wpAnyH_take (i := 0) (oi := _) (v := ?_) (by simp only [g8a, g8z]; rfl) (by kernel_rfl) (by kernel_rfl) (by kernel_rfl) (by exact fun _ _ _ h => h) (Or.inl ⟨by rfl, ?_⟩) (by assumption) ?_
      rotate_left 1
      · (intro w hSw; (try dsimp only at hSw); go_simp; try with_reducible rfl)
      all_goals ((try simp only [Act.put]); (try simp only [g8b]); (try simp only [g8c]); (try simp only [g8d]))
      refine wpAnyH_take (i := 1) (oi := _) (v := ?_) (by simp only [g8a, g8s, g8z]; rfl) (by kernel_rfl) (by kernel_rfl) (by kernel_rfl) (by exact fun _ _ _ h => h) (Or.inl ⟨by rfl, ?_⟩) (by assumption) ?_
      rotate_left 1
      · (intro w hSw; (try dsimp only at hSw); go_simp; try with_reducible rfl)
      all_goals ((try simp only [Act.put]); (try simp only [g8b]); (try simp only [g8c]); (try simp only [g8d]))
      refine wpAnyH_take (i := 3) (oi := _) (v := ?_) (by simp only [g8a, g8s, g8z]; rfl) (by kernel_rfl) (by kernel_rfl) (by kernel_rfl) (by exact fun _ _ _ h => h) (Or.inl ⟨by rfl, ?_⟩) (by assumption) ?_
      rotate_left 1
      · (intro w hSw; (try dsimp only at hSw); go_simp; try with_reducible rfl)
      all_goals ((try simp only [Act.put]); (try simp only [g8b]); (try simp only [g8c]); (try simp only [g8d]))
      refine wpAnyH_take (i := 6) (oi := _) (v := ?_) (by simp only [g8a, g8s, g8z]; rfl) (by kernel_rfl) (by kernel_rfl) (by kernel_rfl) (by exact fun _ _ _ h => h) (Or.inl ⟨by rfl, ?_⟩) (by assumption) ?_
      rotate_left 1
      · (intro w hSw; (try dsimp only at hSw); go_simp; try with_reducible rfl)
      all_goals ((try simp only [Act.put]); (try simp only [g8b]); (try simp only [g8c]); (try simp only [g8d]))
      refine wpAnyH_ready (rs := [2]) (by kernel_rfl) (by simp) ?_
      refine (AllReadyH.cons (by simp only [g8a, g8s, g8z]; rfl) (fun K hK => ?_) AllReadyH.nil)
      rw [if_pos (by rfl)]
      go_simp
      refine (start7_any A n c a.per a.inc _ (by omega) (by omega) (by omega)).mono ?_
      rintro e wa ⟨rfl, hb⟩
      replace P := Lib.hid (P.out.below hb)
      clear hb
      try clear hHeld
      clear f0 f1 f2 g0 g1 g2 h0 h1 h2 hlh
      obtain ⟨⟨f0, f1, f2⟩, ⟨g0, g1, g2⟩, ⟨h0, h1, h2⟩, hlh⟩ := P.out.cells
      refine hK.out _ _ (by exact ⟨f0, f1, f2, g0, g1, g2, h0, h1, h2⟩) (fun hHeld => ?_)
      clear hK K
      (try simp only [Act.put]); (try simp only [g8b]); (try simp only [g8c]); (try simp only [g8d])
      refine wpAnyH_ready (rs := [4]) (by kernel_rfl) (by simp) ?_
      refine (AllReadyH.cons (by simp only [g8a, g8s, g8z]; rfl) (fun K hK => ?_) AllReadyH.nil)
      rw [if_pos (by rfl)]
      go_simp
      refine (start7_any C k s h.per h.inc _ (by omega) (by omega) (by omega)).mono ?_
      rintro e wb ⟨rfl, hb⟩
      replace P := Lib.hid (P.out.below hb)
      clear hb
      try clear hHeld
      clear f0 f1 f2 g0 g1 g2 h0 h1 h2 hlh
      obtain ⟨⟨f0, f1, f2⟩, ⟨g0, g1, g2⟩, ⟨h0, h1, h2⟩, hlh⟩ := P.out.cells
      refine hK.out _ _ (by exact ⟨f0, f1, f2, g0, g1, g2, h0, h1, h2⟩) (fun hHeld => ?_)
      clear hK K
      (try simp only [Act.put]); (try simp only [g8b]); (try simp only [g8c]); (try simp only [g8d])
      refine wpAnyH_ready (rs := [5]) (by kernel_rfl) (by simp) ?_
      refine (AllReadyH.cons (by simp only [g8a, g8s, g8z]; rfl) (fun K hK => ?_) AllReadyH.nil)
      rw [if_pos (by rfl)]
      go_simp
      refine hK.out _ _ (by exact ⟨f0, f1, f2, g0, g1, g2, h0, h1, h2⟩) (fun hHeld => ?_)
      clear hK K
      (try simp only [Act.put]); (try simp only [g8b]); (try simp only [g8c]); (try simp only [g8d])
      refine wpAnyH_take (i := 7) (oi := _) (v := ?_) (by simp only [g8a, g8s, g8z]; rfl) (by kernel_rfl) (by kernel_rfl) (by kernel_rfl) (by exact fun _ _ _ h => h) (Or.inl ⟨by rfl, ?_⟩) (by assumption) ?_
      rotate_left 1
      · (intro w hSw; (try dsimp only at hSw); go_simp; try with_reducible rfl)
      all_goals ((try simp only [Act.put]); (try simp only [g8b]); (try simp only [g8c]); (try simp only [g8d]))
      refine wpAnyH_take (i := 8) (oi := _) (v := ?_) (by simp only [g8a, g8s, g8z]; rfl) (by kernel_rfl) (by kernel_rfl) (by kernel_rfl) (by exact fun _ _ _ h => h) (Or.inl ⟨by rfl, ?_⟩) (by assumption) ?_
      rotate_left 1
      · (intro w hSw; (try dsimp only at hSw); go_simp; try with_reducible rfl)
      all_goals ((try simp only [Act.put]); (try simp only [g8b]); (try simp only [g8c]); (try simp only [g8d]))
      refine wpAnyH_done (by kernel_rfl) ?_ _
      clear hHeld
      clear hm q1 q2 q3 dx dxi
      clear f0 f1 f2 g0 g1 g2 h0 h1 h2 hlh
      have FIN := Lib.hid (show BelowS a b h from HBS.out.2 fun x' u' h1 h2 => HG.out x' u' (by omega) h2)
      have bw := P.out.bw
      go_wp2_with fail
      try rw [Exit.noGoto_ret]
      go_ret
      exact RetQ.yes FIN.out bw
end Go.Proofs.Ytbkimphcmmmaiaa
namespace Go.Proofs.Ytbkimphcmmmaiaa
open Go.RowKit
set_option linter.unusedVariables false

theorem PT.upto {w wx wy : World} {A B : Option Addr} {n c m d K : Nat} {p i q j : Int} {xs ys : List Int} (h : PT w wx A n c p i xs B m d q j ys) (hb : Below K wx wy) (hK : w.heap.size + 1 < K) : PT w wy A n c p i xs B m d q j ys :=
  ⟨h.fb.below hb (by omega), h.gb.below hb hK, h.ja.below (hb.mono (by omega)), h.jb.below (hb.mono (by omega)), h.bw.trans (hb.mono (by omega))⟩
theorem mod7 {x y : Nat} {p : Int} (hp : 1 ≤ p) : ((x : Int).tmod p = 0 ↔ p.toNat ∣ x) := by
  obtain ⟨q, rfl⟩ := Int.eq_ofNat_of_zero_le (show 0 ≤ p by omega)
  rw [Int.tmod_eq_emod_of_nonneg (by omega)]
  simp only [Int.toNat_natCast]
  rw [Nat.dvd_iff_mod_eq_zero]
  omega
/-- what guess returns -/
def RetGs (a b : Cv) (fr : Nat) (w : World) (e : Ending) (w' : World) : Prop :=
  ∃ (r : Cv) (ok : Bool) (A : Option Addr) (n c : Nat), GuessS a b fr r ok ∧ n ≤ c ∧ n ≤ 2000 ∧ e = .returned (.tuple #[.agg #[.slice A n c, .int .i64 r.per, .int .i64 r.inc], .bool ok]) ∧ Ints w' w'.heap.size A n r.vals ∧ (∀ b off s, A = some ⟨b, off, s⟩ → w.heap.size ≤ b) ∧ Below w.heap.size w w'
set_option maxHeartbeats 4000000 in
set_option maxRecDepth 100000 in
theorem guess7_any (A B : Option Addr) (n m c d : Nat) (a b : Cv) (C fr : Nat) (w : World) (hA : Ints w w.heap.size A n a.vals) (hB : Ints w w.heap.size B m b.vals) (ha : a.Ok) (hb : b.Ok) (hC : C = ordC a b) (hC2 : C ≤ 120) (hfr : fr ≤ 1100) :
    Calls Try.prog 82 #[.agg #[.slice A n c, .int .i64 a.per, .int .i64 a.inc], .agg #[.slice B m d, .int .i64 b.per, .int .i64 b.inc], .int .i64 C, .int .i64 fr] w (RetGs a b fr w) := by
  obtain ⟨D, hD⟩ := cvF_exists a b
  have P := Lib.hid ((PT.new (c := c) (p := a.per) (i := a.inc) (d := d) (q := b.per) (j := b.inc) hA hB).alloc (.cells #[.slice none 0 0, .int .i64 0, .int .i64 0] 31))
  have rb := Blk.new ((w.alloc (.cells #[.slice A n c, .int .i64 a.per, .int .i64 a.inc] 31)).alloc (.cells #[.slice B m d, .int .i64 b.per, .int .i64 b.inc] 31)) 31 #[.slice none 0 0, .int .i64 0, .int .i64 0]
  rw [World.size_alloc, World.size_alloc] at rb
  have RB := Lib.hid rb
  have HAO := Lib.hid ha; have HBO := Lib.hid hb; have HCC := Lib.hid hC; have HD := Lib.hid hD
  have hqb := slopeQ_bd ha hb
  obtain ⟨q, hq⟩ : ∃ q, q = slopeQ a b := ⟨_, rfl⟩
  rw [← hq] at hqb
  obtain ⟨hq0, hq1⟩ := hqb
  have HQ := Lib.hid hq
  have hC1 : 1 ≤ C := by rw [hC]; exact (ord_b ha hb).c1
  obtain ⟨NN, hNN⟩ : ∃ NN : Nat, NN = fr + C := ⟨_, rfl⟩
  have e1 : IntKind.i64.wrap ((fr : Int) + (C : Int)) = (NN : Int) := by rw [IntWalk.i64_in _ (by omega)]; omega
  have e2 : (fr : Int) + (C : Int) = (NN : Int) := by omega
  have hNN9 : NN ≤ 1220 := by omega
  have HNN := Lib.hid (show NN = fr + ordC a b from by omega)
  have GXE := Lib.hid (show gX a b D fr = ⟨tab D 0 NN, (C : Int), q⟩ from by unfold gX; rw [← hC, ← hNN, ← hq])
  have PRE := Lib.hid (show Pre ⟨tab D 0 NN, (C : Int), q⟩ from by rw [← GXE.out]; exact gX_pre ha hb hD (by omega) hfr)
  clear hA hB rb ha hb hC hD hq hNN
  go_enter Try.func82, Try.ntmps82
  go_upto_region 1 with fail
  generalize hwe : ((w.alloc (.cells #[.slice A n c, .int .i64 a.per, .int .i64 a.inc] 31)).alloc (.cells #[.slice B m d, .int .i64 b.per, .int .i64 b.inc] 31)).alloc (.cells #[.slice none 0 0, .int .i64 0, .int .i64 0] 31) = we at *
  clear hwe
  obtain ⟨f0, f1, f2, g0, g1, g2, hlf, hlg⟩ := P.out.cells
  go_wp2_with fail
  refine (slope7_any A B n m c d a b C _ P.out.ia P.out.ib HAO.out HBO.out HCC.out hC2).mono ?_
  rintro e w1 ⟨q', z, hq', _, rfl, hb⟩
  obtain rfl : q = q' := by rw [hq', HQ.out]
  clear hq'
  have hs0 := RB.out.lt
  have RB := Lib.hid ((RB.out.below hb RB.out.lt).alloc (.cells #[.slice none 0 0, .int .i64 C, .int .i64 q] 31))
  have P := Lib.hid ((P.out.below hb).alloc (.cells #[.slice none 0 0, .int .i64 C, .int .i64 q] 31))
  have OB := Lib.hid (Blk.new w1 31 #[.slice none 0 0, .int .i64 C, .int .i64 q])
  have hO : w.heap.size + 1 + 1 < w1.heap.size := by have := hb.size; omega
  clear hb
  clear f0 f1 f2 g0 g1 g2 hlf hlg
  go_upto_region 3 with fail
  generalize hwe : w1.alloc (.cells #[.slice none 0 0, .int .i64 C, .int .i64 q] 31) = w2 at *
  clear hwe
  generalize w1.heap.size = O at *
  go_wp2_with fail
  go_loopg [13, 14] NN (fun gg s13 s14 wx => ∃ (t : Nat) (Am : Option Addr) (cm : Nat), t + gg = NN ∧ s13 = .int .i64 t ∧ (∀ x, fr ≤ x → x < t → ∃ s, SpQ a b q (D x) x s) ∧ Blk wx O 31 #[.slice Am t cm, .int .i64 C, .int .i64 q] ∧ Own wx (O + 1) (.slice Am t cm) t (tab D 0 t) ∧ PT w wx A n c a.per a.inc a.vals B m d b.per b.inc b.vals ∧ Blk wx (w.heap.size + 1 + 1) 31 #[.slice none 0 0, .int .i64 0, .int .i64 0])
  case atStart => exact ⟨0, none, 0, by omega, rfl, (fun x h1 h2 => by omega), OB.out, Own.nil_ _ _, P.out, RB.out⟩
  case round =>
    clear OB P RB
    obtain ⟨t, Am, cm, htg, rfl, hgood, hO1, hO2, hP, hR⟩ := hrel
    have OB := Lib.hid hO1; have OWN := Lib.hid hO2; have P := Lib.hid hP; have RB := Lib.hid hR; have HG := Lib.hid hgood
    clear hO1 hO2 hP hR hgood
    by_cases ht : t < NN
    · have hti : (t : Int) < NN := by omega
      obtain ⟨v, hv⟩ : ∃ v, v = D t := ⟨_, rfl⟩
      have HV := Lib.hid hv
      clear hv
      obtain ⟨f0, f1, f2, g0, g1, g2, hlf, hlg⟩ := P.out.cells
      go_wp2_with fail
      refine (least7_any A B n m c d a b t _ P.out.ia P.out.ib HAO.out HBO.out (by omega)).mono ?_
      rintro e w3 ⟨v', hv', rfl, hb⟩
      obtain rfl : v = v' := by rw [HV.out]; exact (HD.out t).unique hv'
      clear hv'
      have OB := Lib.hid (OB.out.below hb OB.out.lt); have OWN := Lib.hid (OWN.out.below hb (fun g hg => (OWN.out.blk_lt g hg).2)); have P := Lib.hid (P.out.below hb); have RB := Lib.hid (RB.out.below hb RB.out.lt)
      clear hb
      clear f0 f1 f2 g0 g1 g2 hlf hlg
      have OWNx := Lib.hid (OWN.out.alloc (.cells ([v].map (Value.int .i64)).toArray 3))
      have IAy := ints_litC w3 [v]
      rw [World.size_alloc] at IAy
      have hPb : O + 1 ≤ w3.heap.size := OB.out.lt
      obtain ⟨⟨o0, o1, o2⟩, ⟨z0, z1, z2⟩, hlo⟩ := OB.out.c3
      go_upto_region 7 with fail
      go_wp2_with (at_builtin; refine wpList_app rfl _ _ 22 rfl Try.underlying22 (O + 1) (.slice Am t cm) t (tab D 0 t) rfl OWNx.out (w3.heap.size + 1) (some ⟨w3.heap.size, 0, none⟩) 1 1 [v] rfl IAy (by omega) (by simp; omega) ?_)
      intro v2 wn own2 grow2 at2
      have hb5 : Below (O + 1) w3 wn := ((Below.refl (O + 1) w3).alloc hPb _).grown grow2 (by simp; omega) (fun g hg => (OWN.out.blk_lt g hg).1)
      obtain ⟨A9, c9, rfl, hc9, hI9, hf9⟩ := own2.ints
      rw [HV.out, tab_snoc7] at own2
      have OWN := Lib.hid own2
      have OB := Lib.hid (OB.out.below hb5 (by omega)); have P := Lib.hid (P.out.upto hb5 (by omega)); have RB := Lib.hid (RB.out.below hb5 (by omega))
      clear own2 grow2 at2 hI9 hf9 hc9 hb5 OWNx IAy o0 o1 o2 z0 z1 z2 hlo hPb
      obtain ⟨⟨o0, o1, o2⟩, ⟨z0, z1, z2⟩, hlo⟩ := OB.out.c3
      go_upto_region 8 with fail
      have OWN := Lib.hid (OWN.out.far (p := ⟨O, 0, none⟩) (fun e => by have := (OWN.out.blk_lt _ e).1; simp at this; omega) (.slice A9 (t + 1) c9))
      have OB := Lib.hid (show Blk (wn.setCell ⟨O, 0, none⟩ (.slice A9 (t + 1) c9)) O 31 #[.slice A9 (t + 1) c9, .int .i64 C, .int .i64 q] from OB.out.set_ 0 _)
      have P := Lib.hid (P.out.sto ((Sto.refl O wn).set 0 (.slice A9 (t + 1) c9)) (by omega)); have RB := Lib.hid (RB.out.far (p := ⟨O, 0, none⟩) (by show w.heap.size + 1 + 1 ≠ O; omega) (.slice A9 (t + 1) c9))
      clear o0 o1 o2 z0 z1 z2 hlo
      generalize hws : wn.setCell ⟨O, 0, none⟩ (.slice A9 (t + 1) c9) = ws at *
      clear hws
      by_cases hft : fr ≤ t
      case neg =>
        have d1 : decide (fr ≤ t) = false := by simpa using hft
        have d2 : decide ((fr : Int) ≤ (t : Int)) = false := by simp; omega
        have GD := Lib.hid (show ∀ x, fr ≤ x → x < t + 1 → ∃ s, SpQ a b q (D x) x s from fun x h1 h2 => by omega)
        clear hft
        go_wp2_with fail
        go_roundg (gk - 1)
        case measure => omega
        case rel => exact ⟨t + 1, A9, c9, by omega, by go_num, GD.out, OB.out, OWN.out, P.out, RB.out⟩
      case pos =>
        have d1 : decide (fr ≤ t) = true := by simpa using hft
        have d2 : decide ((fr : Int) ≤ (t : Int)) = true := by simp; omega
        obtain ⟨f0, f1, f2, g0, g1, g2, hlf, hlg⟩ := P.out.cells
        go_wp2_with fail
        refine (split7_any A B n m c d a b C t v q true _ P.out.ia P.out.ib HAO.out HBO.out HCC.out hC2 (by omega)).mono ?_
        rintro e w4 ⟨sr, hsr, rfl, hb⟩
        have HSR := Lib.hid hsr
        have OB := Lib.hid (OB.out.below hb OB.out.lt); have OWN := Lib.hid (OWN.out.below hb (fun g hg => (OWN.out.blk_lt g hg).2)); have P := Lib.hid (P.out.below hb); have RB := Lib.hid (RB.out.below hb RB.out.lt)
        clear hb hsr
        clear f0 f1 f2 g0 g1 g2 hlf hlg
        by_cases hs0 : sr < 0
        case pos =>
          have d3 : decide (sr < 0) = true := by simpa using hs0
          have FIN := Lib.hid (show GuessS a b fr ⟨tab D 0 (t + 1), (C : Int), q⟩ false from by
            refine ⟨D, HD.out, .inl ⟨fun hG => ?_, rfl⟩⟩
            obtain ⟨s, k1, k2, k3⟩ := hG t hft (by rw [← HNN.out]; exact ht)
            rcases HSR.out with ⟨s', h1, _⟩ | ⟨_, h1⟩
            · omega
            · refine h1 s k1 ⟨by rw [k2, HV.out], .inr ?_⟩
              rw [HQ.out, HV.out]; exact k3)
          clear hs0 hft
          obtain ⟨A8, c8, e', hc8, hI8, hf8⟩ := OWN.out.ints
          injection e' with e1' e2' e3'
          subst e1' e3'
          have I8 := Lib.hid hI8; have F8 := Lib.hid hf8; have C8 := Lib.hid hc8
          clear hI8 hf8 hc8 e2'
          obtain ⟨⟨o0, o1, o2⟩, ⟨z0, z1, z2⟩, hlo⟩ := OB.out.c3
          obtain ⟨⟨r0, r1, r2⟩, ⟨y0, y1, y2⟩, hlr⟩ := RB.out.c3
          go_wp2_with fail
          have rb := RB.out.store3 (.slice A9 (t + 1) c9) (.int .i64 (C : Int)) (.int .i64 q)
          try rw [Exit.noGoto_ret]
          exact bodyPost_ret (v := .tuple #[.agg #[.slice A9 (t + 1) c9, .int .i64 (C : Int), .int .i64 q], .bool false]) (by simp [results, Try.results82, go_sem, rb.cell]) rfl
            ⟨⟨tab D 0 (t + 1), (C : Int), q⟩, false, A9, t + 1, c9, FIN.out, C8.out, by omega, rfl, I8.out.sto (Sto.three _ _ _ _ _) (fun b off o e => by have := F8.out b off o e; omega), (fun b off s e => by have := F8.out b off s e; omega), bsto P.out.bw (Sto.three _ _ _ _ _) (by omega)⟩
        case neg =>
          have d3 : decide (sr < 0) = false := by simpa using hs0
          have GD := Lib.hid (show ∀ x, fr ≤ x → x < t + 1 → ∃ s, SpQ a b q (D x) x s from fun x h1 h2 => by
            rcases Nat.lt_or_ge x t with h3 | h3
            · exact HG.out x h1 h3
            · obtain rfl : x = t := by omega
              rcases HSR.out with ⟨s', k1, k2, k3, _⟩ | ⟨k1, _⟩
              · refine ⟨s', k2, by rw [← HV.out]; exact k3.1, ?_⟩
                rcases k3.2 with k4 | k4
                · cases k4
                · rw [← HV.out]; exact k4
              · omega)
          clear hs0 hft
          go_wp2_with fail
          go_roundg (gk - 1)
          case measure => omega
          case rel => exact ⟨t + 1, A9, c9, by omega, by go_num, GD.out, OB.out, OWN.out, P.out, RB.out⟩
    · have htn : t = NN := by omega
      subst htn
      have hti : ¬ (t : Int) < (t : Int) := by omega
      have GK := Lib.hid (show GOk a b D fr from fun x h1 h2 => by
        rw [← HQ.out]
        exact HG.out x h1 (by rw [HNN.out]; exact h2))
      obtain ⟨A8, c8, e', hc8, hI8, hf8⟩ := OWN.out.ints
      injection e' with e1' e2' e3'
      subst e1' e3'
      have I8 := Lib.hid hI8; have C8 := Lib.hid hc8
      clear hI8 hf8 hc8 e2' ht
      obtain ⟨⟨o0, o1, o2⟩, ⟨z0, z1, z2⟩, hlo⟩ := OB.out.c3
      go_wp2_with fail
      refine (refLeast_any Am t cm (C : Int) q (tab D 0 t) _ (by exact I8.out) C8.out PRE.out).mono ?_
      rintro e w5 ⟨r, A9, n9', c9, hS, hc9, rfl, hI9, hA9, hb⟩
      have hsO := OB.out.lt
      have HS := Lib.hid hS; have HC9 := Lib.hid hc9
      have PR := Lib.hid (LeastS.pre PRE.out hS)
      have hle := LeastS.len PRE.out hS
      have hl9 := hI9.1
      simp only [tab_length] at hle
      rw [hl9] at hle
      have HN9 := Lib.hid (show n9' ≤ 2000 from by omega)
      have hA9' : ∀ b off s, A9 = some ⟨b, off, s⟩ → O < b := fun b off s e => by have := hA9 b off s e; omega
      have HA9 := Lib.hid hA9'
      have OB := Lib.hid (OB.out.below hb OB.out.lt); have P := Lib.hid (P.out.below hb); have RB := Lib.hid (RB.out.below hb RB.out.lt)
      have HI9 := Lib.hid hI9
      clear hS hc9 hI9 hA9 hA9' hb OWN I8 C8 hl9
      clear o0 o1 o2 z0 z1 z2 hlo
      obtain ⟨⟨o0, o1, o2⟩, ⟨z0, z1, z2⟩, hlo⟩ := OB.out.c3
      go_upto_region 11 with fail
      have P := Lib.hid (P.out.sto (Sto.three O w5 (.slice A9 n9' c9) (.int .i64 r.per) (.int .i64 r.inc)) (by omega)); have RB := Lib.hid (RB.out.sto (Sto.three O w5 (.slice A9 n9' c9) (.int .i64 r.per) (.int .i64 r.inc)) (by omega))
      have HI9 := Lib.hid (HI9.out.sto (Sto.three O w5 (.slice A9 n9' c9) (.int .i64 r.per) (.int .i64 r.inc)) (fun b off o e => by have := HA9.out b off o e; omega))
      have OB := Lib.hid (OB.out.store3 (.slice A9 n9' c9) (.int .i64 r.per) (.int .i64 r.inc))
      clear o0 o1 o2 z0 z1 z2 hlo
      generalize hws : ((w5.setCell ⟨O, 0, none⟩ (.slice A9 n9' c9)).setCell ⟨O, 1, none⟩ (.int .i64 r.per)).setCell ⟨O, 2, none⟩ (.int .i64 r.inc) = ws at *
      clear hws
      have p1 := PR.out.p1; have pn := PR.out.pn
      have hp0 : ¬ r.per = 0 := by omega
      obtain ⟨rr, hrr⟩ : ∃ rr, rr = (C : Int).tmod r.per := ⟨_, rfl⟩
      have er1 : (C : Int).tmod r.per = rr := hrr.symm
      have er2 : (C : Int) % r.per = rr := by rw [hrr, Int.tmod_eq_emod_of_nonneg (by omega)]
      have DVD := Lib.hid (show rr = 0 ↔ r.per.toNat ∣ C from by rw [hrr]; exact mod7 (y := 0) p1)
      clear hrr pn
      have P := Lib.hid P.out.drew; have RB := Lib.hid (Blk.drew RB.out); have OB := Lib.hid (Blk.drew OB.out); have HI9 := Lib.hid (show Ints ws.drew ws.drew.heap.size A9 n9' r.vals from Ints.drew HI9.out)
      obtain ⟨f0, f1, f2, g0, g1, g2, hlf, hlg⟩ := P.out.cells
      obtain ⟨⟨o0, o1, o2⟩, ⟨z0, z1, z2⟩, hlo⟩ := OB.out.c3
      refine wp_region_held_drew (S := (fun w' => w'.cell? ⟨w.heap.size, 0, none⟩ = some (.slice A n c) ∧ w'.cell? ⟨w.heap.size, 1, none⟩ = some (.int .i64 a.per) ∧ w'.cell? ⟨w.heap.size, 2, none⟩ = some (.int .i64 a.inc) ∧ w'.cell? ⟨w.heap.size + 1, 0, none⟩ = some (.slice B m d) ∧ w'.cell? ⟨w.heap.size + 1, 1, none⟩ = some (.int .i64 b.per) ∧ w'.cell? ⟨w.heap.size + 1, 2, none⟩ = some (.int .i64 b.inc) ∧ w'.cell? ⟨O, 0, none⟩ = some (.slice A9 n9' c9) ∧ w'.cell? ⟨O, 1, none⟩ = some (.int .i64 r.per) ∧ w'.cell? ⟨O, 2, none⟩ = some (.int .i64 r.inc))) (by kernel_rfl) (by exact ⟨f0, f1, f2, g0, g1, g2, o0, o1, o2⟩) (fun hHeld => ?_)
      generalize hwd : ws.drew = wd at *
      clear hwd
      refine wpAnyH_take (i := 0) (oi := _) (v := ?_) (by simp only [g8a, g8z]; rfl) (by kernel_rfl) (by kernel_rfl) (by kernel_rfl) (by exact fun _ _ _ h => h) (Or.inl ⟨by rfl, ?_⟩) (by assumption) ?_
      rotate_left 1
      · (intro w hSw; (try dsimp only at hSw); go_simp; try with_reducible rfl)
      all_goals ((try simp only [Act.put]); (try simp only [g8b]); (try simp only [g8c]); (try simp only [g8d]))
      refine wpAnyH_take (i := 1) (oi := _) (v := ?_) (by simp only [g8a, g8s, g8z]; rfl) (by kernel_rfl) (by kernel_rfl) (by kernel_rfl) (by exact fun _ _ _ h => h) (Or.inl ⟨by rfl, ?_⟩) (by assumption) ?_
      rotate_left 1
      · (intro w hSw; (try dsimp only at hSw); go_simp; try with_reducible rfl)
      all_goals ((try simp only [Act.put]); (try simp only [g8b]); (try simp only [g8c]); (try simp only [g8d]))
      refine wpAnyH_take (i := 2) (oi := _) (v := ?_) (by simp only [g8a, g8s, g8z]; rfl) (by kernel_rfl) (by kernel_rfl) (by kernel_rfl) (by exact fun _ _ _ h => h) (Or.inl ⟨by rfl, ?_⟩) (by assumption) ?_
      rotate_left 1
      · (intro w hSw; (try dsimp only at hSw); go_simp; try with_reducible rfl)
      all_goals ((try simp only [Act.put]); (try simp only [g8b]); (try simp only [g8c]); (try simp only [g8d]))
      refine wpAnyH_take (i := 3) (oi := _) (v := ?_) (by simp only [g8a, g8s, g8z]; rfl) (by kernel_rfl) (by kernel_rfl) (by kernel_rfl) (by exact fun _ _ _ h => h) (Or.inl ⟨by rfl, ?_⟩) (by assumption) ?_
      rotate_left 1
      · (intro w hSw; (try dsimp only at hSw); go_simp; try with_reducible rfl)
      all_goals ((try simp only [Act.put]); (try simp only [g8b]); (try simp only [g8c]); (try simp only [g8d]))
      refine wpAnyH_take (i := 4) (oi := _) (v := ?_) (by simp only [g8a, g8s, g8z]; rfl) (by kernel_rfl) (by kernel_rfl) (by kernel_rfl) (by exact fun _ _ _ h => h) (Or.inl ⟨by rfl, ?_⟩) (by assumption) ?_
      rotate_left 1
      · (intro w hSw; (try dsimp only at hSw); go_simp; try with_reducible rfl)
      all_goals ((try simp only [Act.put]); (try simp only [g8b]); (try simp only [g8c]); (try simp only [g8d]))
      by_cases hr0 : rr = 0
      case neg =>
        have dr : (rr == 0) = false := by simpa using hr0
        have FIN := Lib.hid (show GuessS a b fr r false from ⟨D, HD.out, .inr ⟨GK.out, by rw [GXE.out]; exact HS.out, (by constructor; (intro h; cases h); (rintro ⟨h, _⟩; exact absurd (DVD.out.2 (by rw [HCC.out]; exact h)) hr0))⟩⟩)
        clear hr0
        refine wpAnyH_take (i := 5) (oi := _) (v := ?_) (by simp only [g8a, g8s, g8z]; rfl) (by kernel_rfl) (by kernel_rfl) (by kernel_rfl) (by exact fun _ _ _ h => h) (Or.inl ⟨by rfl, ?_⟩) (by assumption) ?_
        rotate_left 1
        · (intro w hSw; (try dsimp only at hSw); go_simp; try with_reducible rfl)
        all_goals ((try simp only [Act.put]); (try simp only [g8b]); (try simp only [g8c]); (try simp only [g8d]))
        refine wpAnyH_take (i := 6) (oi := _) (v := ?_) (by simp only [g8a, g8s, g8z]; rfl) (by kernel_rfl) (by kernel_rfl) (by kernel_rfl) (by exact fun _ _ _ h => h) (Or.inl ⟨by rfl, ?_⟩) (by assumption) ?_
        rotate_left 1
        · (intro w hSw; (try dsimp only at hSw); go_simp; try with_reducible rfl)
        all_goals ((try simp only [Act.put]); (try simp only [g8b]); (try simp only [g8c]); (try simp only [g8d]))
        refine wpAnyH_take (i := 7) (oi := _) (v := undef) (by simp only [g8a, g8s, g8z]; rfl) (by kernel_rfl) (by kernel_rfl) (by kernel_rfl) (by exact fun _ _ _ h => h) (Or.inr ⟨by rfl, rfl⟩) (by assumption) ?_
        (try simp only [Act.put]); (try simp only [g8b]); (try simp only [g8c]); (try simp only [g8d])
        refine wpAnyH_take (i := 8) (oi := _) (v := undef) (by simp only [g8a, g8s, g8z]; rfl) (by kernel_rfl) (by kernel_rfl) (by kernel_rfl) (by exact fun _ _ _ h => h) (Or.inr ⟨by rfl, rfl⟩) (by assumption) ?_
        (try simp only [Act.put]); (try simp only [g8b]); (try simp only [g8c]); (try simp only [g8d])
        refine wpAnyH_take (i := 9) (oi := _) (v := undef) (by simp only [g8a, g8s, g8z]; rfl) (by kernel_rfl) (by kernel_rfl) (by kernel_rfl) (by exact fun _ _ _ h => h) (Or.inr ⟨by rfl, rfl⟩) (by assumption) ?_
        (try simp only [Act.put]); (try simp only [g8b]); (try simp only [g8c]); (try simp only [g8d])
        refine wpAnyH_take (i := 10) (oi := _) (v := undef) (by simp only [g8a, g8s, g8z]; rfl) (by kernel_rfl) (by kernel_rfl) (by kernel_rfl) (by exact fun _ _ _ h => h) (Or.inr ⟨by rfl, rfl⟩) (by assumption) ?_
        (try simp only [Act.put]); (try simp only [g8b]); (try simp only [g8c]); (try simp only [g8d])
        refine wpAnyH_take (i := 11) (oi := _) (v := undef) (by simp only [g8a, g8s, g8z]; rfl) (by kernel_rfl) (by kernel_rfl) (by kernel_rfl) (by exact fun _ _ _ h => h) (Or.inr ⟨by rfl, rfl⟩) (by assumption) ?_
        (try simp only [Act.put]); (try simp only [g8b]); (try simp only [g8c]); (try simp only [g8d])
        refine wpAnyH_take (i := 12) (oi := _) (v := ?_) (by simp only [g8a, g8s, g8z]; rfl) (by kernel_rfl) (by kernel_rfl) (by kernel_rfl) (by exact fun _ _ _ h => h) (Or.inl ⟨by rfl, ?_⟩) (by assumption) ?_
        rotate_left 1
        · (intro w hSw; (try dsimp only at hSw); go_simp; try with_reducible rfl)
        all_goals ((try simp only [Act.put]); (try simp only [g8b]); (try simp only [g8c]); (try simp only [g8d]))
        refine wpAnyH_ready (rs := [13]) (by kernel_rfl) (by simp) ?_
        refine (AllReadyH.cons (by simp only [g8a, g8s, g8z]; rfl) (fun K hK => ?_) AllReadyH.nil)
        refine step_storeN rfl 31 _ _ rfl rfl RB.out rfl rfl (by kernel_rfl) (by simp [Value.oneCell']) ?_
        intro wz hsto rz
        have I9 := Lib.hid (HI9.out.sto hsto (fun b off o e => by have := HA9.out b off o e; omega))
        have BWZ := Lib.hid (bsto P.out.bw hsto (by omega))
        clear hHeld f0 f1 f2 g0 g1 g2 o0 o1 o2
        have P := Lib.hid (P.out.sto hsto (by omega))
        have OB := Lib.hid (OB.out.sto hsto (by omega))
        obtain ⟨f0, f1, f2, g0, g1, g2, hlf, hlg⟩ := P.out.cells
        obtain ⟨⟨o0, o1, o2⟩, ⟨z0, z1, z2⟩, hlo⟩ := OB.out.c3
        refine hK.out _ _ (by exact ⟨f0, f1, f2, g0, g1, g2, o0, o1, o2⟩) (fun hHeld => ?_)
        clear hK K
        (try simp only [Act.put]); (try simp only [g8b]); (try simp only [g8c]); (try simp only [g8d])
        refine wpAnyH_take (i := 14) (oi := _) (v := ?_) (by simp only [g8a, g8s, g8z]; rfl) (by kernel_rfl) (by kernel_rfl) (by kernel_rfl) (by exact fun _ _ _ h => h) (Or.inl ⟨by rfl, ?_⟩) (by assumption) ?_
        rotate_left 1
        · (intro w hSw; (try dsimp only at hSw); go_simp; try with_reducible rfl)
        all_goals ((try simp only [Act.put]); (try simp only [g8b]); (try simp only [g8c]); (try simp only [g8d]))
        refine wpAnyH_done (by kernel_rfl) ?_ _
        have n9 := HN9.out
        clear hHeld
        clear f0 f1 f2 g0 g1 g2 hlf hlg
        clear o0 o1 o2 z0 z1 z2 hlo
        go_wp2_with fail
        exact bodyPost_ret (v := .tuple #[.agg #[.slice A9 n9' c9, .int .i64 r.per, .int .i64 r.inc], .bool false]) (by simp [results, Try.results82, go_sem, rz.cell]) rfl
          ⟨r, false, A9, n9', c9, FIN.out, HC9.out, n9, rfl, I9.out, (fun b off s e => by have := HA9.out b off s e; omega), BWZ.out⟩
      case pos =>
        have dr : (rr == 0) = true := by simpa using hr0
        have DV := Lib.hid (show r.per.toNat ∣ ordC a b from by rw [← HCC.out]; exact DVD.out.1 hr0)
        clear hr0
        refine wpAnyH_take (i := 5) (oi := _) (v := ?_) (by simp only [g8a, g8s, g8z]; rfl) (by kernel_rfl) (by kernel_rfl) (by kernel_rfl) (by exact fun _ _ _ h => h) (Or.inl ⟨by rfl, ?_⟩) (by assumption) ?_
        rotate_left 1
        · (intro w hSw; (try dsimp only at hSw); go_simp; try with_reducible rfl)
        all_goals ((try simp only [Act.put]); (try simp only [g8b]); (try simp only [g8c]); (try simp only [g8d]))
        refine wpAnyH_take (i := 6) (oi := _) (v := ?_) (by simp only [g8a, g8s, g8z]; rfl) (by kernel_rfl) (by kernel_rfl) (by kernel_rfl) (by exact fun _ _ _ h => h) (Or.inl ⟨by rfl, ?_⟩) (by assumption) ?_
        rotate_left 1
        · (intro w hSw; (try dsimp only at hSw); go_simp; try with_reducible rfl)
        all_goals ((try simp only [Act.put]); (try simp only [g8b]); (try simp only [g8c]); (try simp only [g8d]))
        refine wpAnyH_take (i := 7) (oi := _) (v := ?_) (by simp only [g8a, g8s, g8z]; rfl) (by kernel_rfl) (by kernel_rfl) (by kernel_rfl) (by exact fun _ _ _ h => h) (Or.inl ⟨by rfl, ?_⟩) (by assumption) ?_
        rotate_left 1
        · (intro w hSw; (try dsimp only at hSw); go_simp; try with_reducible rfl)
        all_goals ((try simp only [Act.put]); (try simp only [g8b]); (try simp only [g8c]); (try simp only [g8d]))
        refine wpAnyH_take (i := 8) (oi := _) (v := ?_) (by simp only [g8a, g8s, g8z]; rfl) (by kernel_rfl) (by kernel_rfl) (by kernel_rfl) (by exact fun _ _ _ h => h) (Or.inl ⟨by rfl, ?_⟩) (by assumption) ?_
        rotate_left 1
        · (intro w hSw; (try dsimp only at hSw); go_simp; try with_reducible rfl)
        all_goals ((try simp only [Act.put]); (try simp only [g8b]); (try simp only [g8c]); (try simp only [g8d]))
        refine wpAnyH_take (i := 9) (oi := _) (v := ?_) (by simp only [g8a, g8s, g8z]; rfl) (by kernel_rfl) (by kernel_rfl) (by kernel_rfl) (by exact fun _ _ _ h => h) (Or.inl ⟨by rfl, ?_⟩) (by assumption) ?_
        rotate_left 1
        · (intro w hSw; (try dsimp only at hSw); go_simp; try with_reducible rfl)
        all_goals ((try simp only [Act.put]); (try simp only [g8b]); (try simp only [g8c]); (try simp only [g8d]))
        refine wpAnyH_take (i := 10) (oi := _) (v := ?_) (by simp only [g8a, g8s, g8z]; rfl) (by kernel_rfl) (by kernel_rfl) (by kernel_rfl) (by exact fun _ _ _ h => h) (Or.inl ⟨by rfl, ?_⟩) (by assumption) ?_
        rotate_left 1
        · (intro w hSw; (try dsimp only at hSw); go_simp; try with_reducible rfl)
        all_goals ((try simp only [Act.put]); (try simp only [g8b]); (try simp only [g8c]); (try simp only [g8d]))
        refine wpAnyH_ready (rs := [11]) (by kernel_rfl) (by simp) ?_
        refine (AllReadyH.cons (by simp only [g8a, g8s, g8z]; rfl) (fun K hK => ?_) AllReadyH.nil)
        rw [if_pos (by rfl)]
        go_simp
        refine (below7_any A B A9 n m n9' c d c9 C a b r _ (by exact P.out.ia) (by exact P.out.ib) (by exact HI9.out) HAO.out HBO.out PR.out HN9.out HCC.out hC2).mono ?_
        rintro e w6 ⟨⟨z, hz, rfl⟩, hb⟩
        have FIN := Lib.hid (show GuessS a b fr r z from ⟨D, HD.out, .inr ⟨GK.out, by rw [GXE.out]; exact HS.out, by rw [hz]; exact ⟨fun h => ⟨DV.out, h⟩, fun h => h.2⟩⟩⟩)
        have OB := Lib.hid (OB.out.below hb OB.out.lt); have P := Lib.hid (P.out.below hb); have RB := Lib.hid (RB.out.below hb RB.out.lt); have HI9 := Lib.hid (HI9.out.ext hb)
        clear hb hz hHeld
        clear f0 f1 f2 g0 g1 g2 hlf hlg
        clear o0 o1 o2 z0 z1 z2 hlo
        obtain ⟨f0, f1, f2, g0, g1, g2, hlf, hlg⟩ := P.out.cells
        obtain ⟨⟨o0, o1, o2⟩, ⟨z0, z1, z2⟩, hlo⟩ := OB.out.c3
        refine hK.out _ _ (by exact ⟨f0, f1, f2, g0, g1, g2, o0, o1, o2⟩) (fun hHeld => ?_)
        clear hK K
        (try simp only [Act.put]); (try simp only [g8b]); (try simp only [g8c]); (try simp only [g8d])
        refine wpAnyH_take (i := 12) (oi := _) (v := ?_) (by simp only [g8a, g8s, g8z]; rfl) (by kernel_rfl) (by kernel_rfl) (by kernel_rfl) (by exact fun _ _ _ h => h) (Or.inl ⟨by rfl, ?_⟩) (by assumption) ?_
        rotate_left 1
        · (intro w hSw; (try dsimp only at hSw); go_simp; try with_reducible rfl)
        all_goals ((try simp only [Act.put]); (try simp only [g8b]); (try simp only [g8c]); (try simp only [g8d]))
        refine wpAnyH_ready (rs := [13]) (by kernel_rfl) (by simp) ?_
        refine (AllReadyH.cons (by simp only [g8a, g8s, g8z]; rfl) (fun K hK => ?_) AllReadyH.nil)
        refine step_storeN rfl 31 _ _ rfl rfl RB.out rfl rfl (by kernel_rfl) (by simp [Value.oneCell']) ?_
        intro wz hsto rz
        have I9 := Lib.hid (HI9.out.sto hsto (fun b off o e => by have := HA9.out b off o e; omega))
        have BWZ := Lib.hid (bsto P.out.bw hsto (by omega))
        clear hHeld f0 f1 f2 g0 g1 g2 o0 o1 o2
        have P := Lib.hid (P.out.sto hsto (by omega))
        have OB := Lib.hid (OB.out.sto hsto (by omega))
        obtain ⟨f0, f1, f2, g0, g1, g2, hlf, hlg⟩ := P.out.cells
        obtain ⟨⟨o0, o1, o2⟩, ⟨z0, z1, z2⟩, hlo⟩ := OB.out.c3
        refine hK.out _ _ (by exact ⟨f0, f1, f2, g0, g1, g2, o0, o1, o2⟩) (fun hHeld => ?_)
        clear hK K
        (try simp only [Act.put]); (try simp only [g8b]); (try simp only [g8c]); (try simp only [g8d])
        refine wpAnyH_take (i := 14) (oi := _) (v := ?_) (by simp only [g8a, g8s, g8z]; rfl) (by kernel_rfl) (by kernel_rfl) (by kernel_rfl) (by exact fun _ _ _ h => h) (Or.inl ⟨by rfl, ?_⟩) (by assumption) ?_
        rotate_left 1
        · (intro w hSw; (try dsimp only at hSw); go_simp; try with_reducible rfl)
        all_goals ((try simp only [Act.put]); (try simp only [g8b]); (try simp only [g8c]); (try simp only [g8d]))
        refine wpAnyH_done (by kernel_rfl) ?_ _
        have n9 := HN9.out
        clear hHeld
        clear f0 f1 f2 g0 g1 g2 hlf hlg
        clear o0 o1 o2 z0 z1 z2 hlo
        go_wp2_with fail
        exact bodyPost_ret (v := .tuple #[.agg #[.slice A9 n9' c9, .int .i64 r.per, .int .i64 r.inc], .bool z]) (by simp [results, Try.results82, go_sem, rz.cell]) rfl
          ⟨r, z, A9, n9', c9, FIN.out, HC9.out, n9, rfl, I9.out, (fun b off s e => by have := HA9.out b off s e; omega), BWZ.out⟩
end Go.Proofs.Ytbkimphcmmmaiaa
namespace Go.Proofs.Ytbkimphcmmmaiaa
open Go.RowKit
set_option linter.unusedVariables false

set_option maxHeartbeats 4000000 in
set_option maxRecDepth 100000 in
theorem refCv7_any (A B : Option Addr) (n m c d : Nat) (p i q j : Int) (xs ys : List Int) (w : World) (hA : Ints w w.heap.size A n xs) (hB : Ints w w.heap.size B m ys) (hn : (n : Int) ≤ 1000000) (hm : (m : Int) ≤ 1000000) (hnc : n ≤ c) (hmd : m ≤ d) :
    Calls Try.prog 29 #[.agg #[.slice A n c, .int .i64 p, .int .i64 i], .agg #[.slice B m d, .int .i64 q, .int .i64 j]] w (RetS2 (CvS ⟨xs, p, i⟩ ⟨ys, q, j⟩) w) := by
  have P := Lib.hid ((PS.new (c := c) (p := p) (i := i) (d := d) (q := q) (j := j) hA hB).alloc (.cells #[.slice none 0 0, .int .i64 0, .int .i64 0] 31))
  have rb := Blk.new ((w.alloc (.cells #[.slice A n c, .int .i64 p, .int .i64 i] 31)).alloc (.cells #[.slice B m d, .int .i64 q, .int .i64 j] 31)) 31 #[.slice none 0 0, .int .i64 0, .int .i64 0]
  rw [World.size_alloc, World.size_alloc] at rb
  have RB := Lib.hid rb
  have HNC := Lib.hid hnc; have HMD := Lib.hid hmd
  clear hA hB rb hnc hmd
  go_enter Try.func29, Try.ntmps29
  go_wp2_with fail
  refine (refPair_any A B n m c d p i q j xs ys _ P.out.ia P.out.ib hn hm HNC.out HMD.out).mono ?_
  rintro e w1 ⟨a, b, l, er, A1, n1, c1, A2, n2, c2, hR, rfl, hI1, hI2, hA1, hA2, hb⟩
  simp only [World.size_alloc] at hA1 hA2
  have HR := Lib.hid hR
  have RB := Lib.hid (((RB.out.below hb RB.out.lt).alloc (.cells #[.slice A1 n1 c1, .int .i64 a.per, .int .i64 a.inc] 31)).alloc (.cells #[.slice A2 n2 c2, .int .i64 b.per, .int .i64 b.inc] 31))
  have BW := Lib.hid (bthen (bthen (bthen P.out.bw hb) (balloc _ (.cells #[.slice A1 n1 c1, .int .i64 a.per, .int .i64 a.inc] 31))) (balloc _ (.cells #[.slice A2 n2 c2, .int .i64 b.per, .int .i64 b.inc] 31)))
  have hs1 : w.heap.size + 1 + 1 < w1.heap.size := by have := hb.size; simp only [World.size_alloc] at this; omega
  have FA := Lib.hid ((By.new (L := w.heap.size + 1 + 1 + 1) (c := c1) hI1 hA1 (Nat.le_refl _) (by omega)).alloc (.cells #[.slice A2 n2 c2, .int .i64 b.per, .int .i64 b.inc] 31))
  have fb := By.new (L := w.heap.size + 1 + 1 + 1) (f := b) (c := c2) (hI2.alloc' (.cells #[.slice A1 n1 c1, .int .i64 a.per, .int .i64 a.inc] 31)) hA2 (Nat.le_refl _) (by simp only [World.size_alloc]; omega)
  simp only [World.size_alloc] at fb
  have FB := Lib.hid fb
  clear hR hI1 hI2 hA1 hA2 hb fb P
  go_upto_region 2 with fail
  generalize hwz : (w1.alloc (.cells #[.slice A1 n1 c1, .int .i64 a.per, .int .i64 a.inc] 31)).alloc (.cells #[.slice A2 n2 c2, .int .i64 b.per, .int .i64 b.inc] 31) = wz at *
  clear hwz
  rcases HR.out with ⟨hbad, rfl⟩ | ⟨hf, hg, hna, hnb, hao, hbo, ⟨hcc, rfl⟩ | ⟨hcc, hle, rfl⟩⟩
  · obtain ⟨⟨r0, r1, r2⟩, ⟨y0, y1, y2⟩, hlr⟩ := RB.out.c3
    have F := Lib.hid (show CvS ⟨xs, p, i⟩ ⟨ys, q, j⟩ Cv.none 1 from .inl ⟨hbad, rfl, rfl⟩)
    clear HR hbad
    go_wp2_with fail
    have rb := RB.out.store3 (.slice none 0 0) (.int .i64 0) (.int .i64 0)
    exact bodyPost_ret (v := .tuple #[.agg #[.slice none 0 0, .int .i64 0, .int .i64 0], .int .i64 1]) (by simp [results, Try.results29, go_sem, rb.cell]) rfl (retS2_store0 F.out (by omega) BW.out)
  · obtain ⟨⟨r0, r1, r2⟩, ⟨y0, y1, y2⟩, hlr⟩ := RB.out.c3
    have F := Lib.hid (show CvS ⟨xs, p, i⟩ ⟨ys, q, j⟩ Cv.none 3 from .inr ⟨hf, hg, a, b, hna, hnb, .inl ⟨hcc, rfl, rfl⟩⟩)
    clear HR hf hg hna hnb hao hbo hcc
    go_wp2_with fail
    have rb := RB.out.store3 (.slice none 0 0) (.int .i64 0) (.int .i64 0)
    exact bodyPost_ret (v := .tuple #[.agg #[.slice none 0 0, .int .i64 0, .int .i64 0], .int .i64 3]) (by simp [results, Try.results29, go_sem, rb.cell]) rfl (retS2_store0 F.out (by omega) BW.out)
  · have hp1 := hao.p1; have hp2 := hao.p2; have hq1 := hbo.p1; have hq2 := hbo.p2
    have hna2 := hao.n2; have hnb2 := hbo.n2; have hpn := hao.pn; have hqn := hbo.pn
    have hl1 : a.vals.length = n1 := FA.out.ints.1
    have hl2 : b.vals.length = n2 := FB.out.ints.1
    have FINC := Lib.hid (show ∀ r er, CvoS a b r er → CvS ⟨xs, p, i⟩ ⟨ys, q, j⟩ r er from fun r er h => .inr ⟨hf, hg, a, b, hna, hnb, .inr ⟨hcc, h⟩⟩)
    obtain ⟨C, hC⟩ : ∃ C, C = comm a.per.toNat b.per.toNat := ⟨_, rfl⟩
    rw [← hC] at hle hcc
    obtain rfl := hle
    have HC := Lib.hid (show C = ordC a b from hC)
    have HOC := Lib.hid (show ordC a b ≤ 120 from by rw [← HC.out]; exact hcc)
    have HAO := Lib.hid hao; have HBO := Lib.hid hbo
    obtain ⟨T, hT⟩ : ∃ T : Nat, T = cst a + cst b := ⟨_, rfl⟩
    have hTn : (T : Int) = (n1 : Int) - a.per + ((n2 : Int) - b.per) := by rw [hT]; unfold cst; rw [hl1, hl2]; omega
    rw [hl1] at hna2 hpn
    rw [hl2] at hnb2 hqn
    have hT9 : T ≤ 800 := by omega
    obtain ⟨C2, hC2⟩ : ∃ C2 : Nat, C2 = 2 * C := ⟨_, rfl⟩
    obtain ⟨FR, hFR⟩ : ∃ FR : Nat, FR = T + C2 := ⟨_, rfl⟩
    obtain ⟨FY, hFS⟩ : ∃ FY : Nat, FY = 800 + C2 := ⟨_, rfl⟩
    have eT1 : IntKind.i64.wrap ((n1 : Int) - a.per + ((n2 : Int) - b.per)) = (T : Int) := by rw [IntWalk.i64_in _ (by omega)]; omega
    have eT2 : (n1 : Int) - a.per + ((n2 : Int) - b.per) = (T : Int) := by omega
    have eT3 : IntKind.i64.wrap (T : Int) = (T : Int) := IntWalk.i64_in _ (by omega)
    have eM1 : IntKind.i64.wrap (2 * (C : Int)) = (C2 : Int) := by rw [IntWalk.i64_in _ (by omega)]; omega
    have eM2 : 2 * (C : Int) = (C2 : Int) := by omega
    have eM3 : IntKind.i64.wrap (C2 : Int) = (C2 : Int) := IntWalk.i64_in _ (by omega)
    have eS1 : IntKind.i64.wrap ((T : Int) + (C2 : Int)) = (FR : Int) := by rw [IntWalk.i64_in _ (by omega)]; omega
    have eS2 : (T : Int) + (C2 : Int) = (FR : Int) := by omega
    have eS3 : IntKind.i64.wrap (FR : Int) = (FR : Int) := IntWalk.i64_in _ (by omega)
    have EM1 := Lib.hid eM1; have EM2 := Lib.hid eM2; have EM3 := Lib.hid eM3
    have EF1 := Lib.hid (show IntKind.i64.wrap (800 + (C2 : Int)) = (FY : Int) from by rw [IntWalk.i64_in _ (by omega)]; omega)
    have EF2 := Lib.hid (show 800 + (C2 : Int) = (FY : Int) from by omega)
    have hFR9 : FR ≤ 1040 := by omega
    have hFS9 : FY ≤ 1040 := by omega
    have HFR := Lib.hid (show cst a + cst b ≤ FR from by omega)
    have HFS := Lib.hid (show 800 + ordC a b ≤ FY from by rw [← HC.out]; omega)
    have HFS2 := Lib.hid (show cst a + cst b ≤ FY from by have := cst_le hao; have := cst_le hbo; omega)
    clear HR hf hg hna hnb hao hbo hC hl1 hl2 hT hTn hC2 hFR hFS
    go_upto_region 4 with fail
    go_cut [10, 11] (fun s10 s11 wx => ∃ (Q : Nat) (r : Cv) (ok : Bool) (A5 : Option Addr) (n5 c5 : Nat), s10 = .pointer (some ⟨Q, 0, none⟩) ∧ s11 = .bool ok ∧ GuessS a b FR r ok ∧ n5 ≤ c5 ∧ n5 ≤ 2000 ∧ (∀ b off s, A5 = some ⟨b, off, s⟩ → w.heap.size + 1 + 1 < b) ∧ w1.heap.size + 1 < Q ∧ Blk wx Q 31 #[.slice A5 n5 c5, .int .i64 r.per, .int .i64 r.inc] ∧ Ints wx wx.heap.size A5 n5 r.vals ∧
      By (w.heap.size + 1 + 1 + 1) wx w1.heap.size A1 n1 c1 a ∧ By (w.heap.size + 1 + 1 + 1) wx (w1.heap.size + 1) A2 n2 c2 b ∧ Blk wx (w.heap.size + 1 + 1) 31 #[.slice none 0 0, .int .i64 0, .int .i64 0] ∧ Below w.heap.size w wx)
    case first =>
      have FA := Lib.hid FA.out.drew; have FB := Lib.hid FB.out.drew; have RB := Lib.hid (Blk.drew RB.out); have BW := Lib.hid (Below.drew BW.out)
      obtain ⟨a0, a1, a2, hla⟩ := FA.out.cells
      obtain ⟨b0, b1, b2, hlb⟩ := FB.out.cells
      refine wp_region_held_drew (S := (fun w' => w'.cell? ⟨w1.heap.size, 0, none⟩ = some (.slice A1 n1 c1) ∧ w'.cell? ⟨w1.heap.size, 1, none⟩ = some (.int .i64 a.per) ∧ w'.cell? ⟨w1.heap.size, 2, none⟩ = some (.int .i64 a.inc) ∧ w'.cell? ⟨w1.heap.size + 1, 0, none⟩ = some (.slice A2 n2 c2) ∧ w'.cell? ⟨w1.heap.size + 1, 1, none⟩ = some (.int .i64 b.per) ∧ w'.cell? ⟨w1.heap.size + 1, 2, none⟩ = some (.int .i64 b.inc))) (by kernel_rfl) (by exact ⟨a0, a1, a2, b0, b1, b2⟩) (fun hHeld => ?_)
      generalize hwd : wz.drew = wd at *
      clear hwd
      refine wpAnyH_take (i := 0) (oi := _) (v := ?_) (by simp only [g8a, g8z]; rfl) (by kernel_rfl) (by kernel_rfl) (by kernel_rfl) (by exact fun _ _ _ h => h) (Or.inl ⟨by rfl, ?_⟩) (by assumption) ?_
      rotate_left 1
      · (intro w hSw; (try dsimp only at hSw); go_simp; try with_reducible rfl)
      all_goals ((try simp only [Act.put]); (try simp only [g8b]); (try simp only [g8c]); (try simp only [g8d]))
      refine wpAnyH_take (i := 1) (oi := _) (v := ?_) (by simp only [g8a, g8s, g8z]; rfl) (by kernel_rfl) (by kernel_rfl) (by kernel_rfl) (by exact fun _ _ _ h => h) (Or.inl ⟨by rfl, ?_⟩) (by assumption) ?_
      rotate_left 1
      · (intro w hSw; (try dsimp only at hSw); go_simp; try with_reducible rfl)
      all_goals ((try simp only [Act.put]); (try simp only [g8b]); (try simp only [g8c]); (try simp only [g8d]))
      refine wpAnyH_take (i := 2) (oi := _) (v := ?_) (by simp only [g8a, g8s, g8z]; rfl) (by kernel_rfl) (by kernel_rfl) (by kernel_rfl) (by exact fun _ _ _ h => h) (Or.inl ⟨by rfl, ?_⟩) (by assumption) ?_
      rotate_left 1
      · (intro w hSw; (try dsimp only at hSw); go_simp; try with_reducible rfl)
      all_goals ((try simp only [Act.put]); (try simp only [g8b]); (try simp only [g8c]); (try simp only [g8d]))
      refine wpAnyH_take (i := 3) (oi := _) (v := ?_) (by simp only [g8a, g8s, g8z]; rfl) (by kernel_rfl) (by kernel_rfl) (by kernel_rfl) (by exact fun _ _ _ h => h) (Or.inl ⟨by rfl, ?_⟩) (by assumption) ?_
      rotate_left 1
      · (intro w hSw; (try dsimp only at hSw); go_simp; try with_reducible rfl)
      all_goals ((try simp only [Act.put]); (try simp only [g8b]); (try simp only [g8c]); (try simp only [g8d]))
      refine wpAnyH_take (i := 5) (oi := _) (v := ?_) (by simp only [g8a, g8s, g8z]; rfl) (by kernel_rfl) (by kernel_rfl) (by kernel_rfl) (by exact fun _ _ _ h => h) (Or.inl ⟨by rfl, ?_⟩) (by assumption) ?_
      rotate_left 1
      · (intro w hSw; (try dsimp only at hSw); go_simp; try with_reducible rfl)
      all_goals ((try simp only [Act.put]); (try simp only [g8b]); (try simp only [g8c]); (try simp only [g8d]))
      refine wpAnyH_take (i := 8) (oi := _) (v := ?_) (by simp only [g8a, g8s, g8z]; rfl) (by kernel_rfl) (by kernel_rfl) (by kernel_rfl) (by exact fun _ _ _ h => h) (Or.inl ⟨by rfl, ?_⟩) (by assumption) ?_
      rotate_left 1
      · (intro w hSw; (try dsimp only at hSw); go_simp; try with_reducible rfl)
      all_goals ((try simp only [Act.put]); (try simp only [g8b]); (try simp only [g8c]); (try simp only [g8d]))
      refine wpAnyH_take (i := 9) (oi := _) (v := ?_) (by simp only [g8a, g8s, g8z]; rfl) (by kernel_rfl) (by kernel_rfl) (by kernel_rfl) (by exact fun _ _ _ h => h) (Or.inl ⟨by rfl, ?_⟩) (by assumption) ?_
      rotate_left 1
      · (intro w hSw; (try dsimp only at hSw); go_simp; try with_reducible rfl)
      all_goals ((try simp only [Act.put]); (try simp only [g8b]); (try simp only [g8c]); (try simp only [g8d]))
      refine wpAnyH_ready (rs := [4, 15]) (by kernel_rfl) (by simp) ?_
      refine (AllReadyH.cons (by simp only [g8a, g8s, g8z]; rfl) (fun K hK => ?_) (AllReadyH.cons (by simp only [g8a, g8s, g8z]; rfl) (fun K hK => ?_) AllReadyH.nil))
      · rw [if_pos (by rfl)]
        go_simp
        refine (start7_any A1 n1 c1 a.per a.inc _ (by omega) (by omega) (by omega)).mono ?_
        rintro e wa ⟨rfl, hbq⟩
        have FA := Lib.hid (FA.out.below hbq); have FB := Lib.hid (FB.out.below hbq); have RB := Lib.hid (RB.out.below hbq RB.out.lt); have BW := Lib.hid (bthen BW.out hbq)
        try (have ZB := Lib.hid (ZB.out.below hbq ZB.out.lt))
        try (have hsz := Nat.lt_of_lt_of_le hsz hbq.size)
        clear hbq
        try clear hHeld
        clear a0 a1 a2 hla b0 b1 b2 hlb
        obtain ⟨a0, a1, a2, hla⟩ := FA.out.cells
        obtain ⟨b0, b1, b2, hlb⟩ := FB.out.cells
        refine hK.out _ _ (by exact ⟨a0, a1, a2, b0, b1, b2⟩) (fun hHeld => ?_)
        clear hK K
        (try simp only [Act.put]); (try simp only [g8b]); (try simp only [g8c]); (try simp only [g8d])
        refine wpAnyH_ready (rs := [6, 15]) (by kernel_rfl) (by simp) ?_
        refine (AllReadyH.cons (by simp only [g8a, g8s, g8z]; rfl) (fun K hK => ?_) (AllReadyH.cons (by simp only [g8a, g8s, g8z]; rfl) (fun K hK => ?_) AllReadyH.nil))
        · rw [if_pos (by rfl)]
          go_simp
          refine (start7_any A2 n2 c2 b.per b.inc _ (by omega) (by omega) (by omega)).mono ?_
          rintro e wb ⟨rfl, hbq⟩
          have FA := Lib.hid (FA.out.below hbq); have FB := Lib.hid (FB.out.below hbq); have RB := Lib.hid (RB.out.below hbq RB.out.lt); have BW := Lib.hid (bthen BW.out hbq)
          try (have ZB := Lib.hid (ZB.out.below hbq ZB.out.lt))
          try (have hsz := Nat.lt_of_lt_of_le hsz hbq.size)
          clear hbq
          try clear hHeld
          clear a0 a1 a2 hla b0 b1 b2 hlb
          obtain ⟨a0, a1, a2, hla⟩ := FA.out.cells
          obtain ⟨b0, b1, b2, hlb⟩ := FB.out.cells
          refine hK.out _ _ (by exact ⟨a0, a1, a2, b0, b1, b2⟩) (fun hHeld => ?_)
          clear hK K
          (try simp only [Act.put]); (try simp only [g8b]); (try simp only [g8c]); (try simp only [g8d])
          refine wpAnyH_take (i := 7) (oi := _) (v := ?_) (by simp only [g8a, g8s, g8z]; rfl) (by kernel_rfl) (by kernel_rfl) (by kernel_rfl) (by exact fun _ _ _ h => h) (Or.inl ⟨by rfl, ?_⟩) (by assumption) ?_
          rotate_left 1
          · (intro w hSw; (try dsimp only at hSw); go_simp; try with_reducible rfl)
          all_goals ((try simp only [Act.put]); (try simp only [g8b]); (try simp only [g8c]); (try simp only [g8d]))
          refine wpAnyH_take (i := 10) (oi := _) (v := ?_) (by simp only [g8a, g8s, g8z]; rfl) (by kernel_rfl) (by kernel_rfl) (by kernel_rfl) (by exact fun _ _ _ h => h) (Or.inl ⟨by rfl, ?_⟩) (by assumption) ?_
          rotate_left 1
          · (intro w hSw; (try dsimp only at hSw); go_simp; try with_reducible rfl)
          all_goals ((try simp only [Act.put]); (try simp only [g8b]); (try simp only [g8c]); (try simp only [g8d]))
          refine wpAnyH_ready (rs := [11, 15]) (by kernel_rfl) (by simp) ?_
          refine (AllReadyH.cons (by simp only [g8a, g8s, g8z]; rfl) (fun K hK => ?_) (AllReadyH.cons (by simp only [g8a, g8s, g8z]; rfl) (fun K hK => ?_) AllReadyH.nil))
          · have hgz := FB.out.lt
            rw [if_pos (by rfl)]
            go_simp
            refine (guess7_any A1 A2 n1 n2 c1 c2 a b C FR _ (by exact FA.out.ints) (by exact FB.out.ints) HAO.out HBO.out HC.out hcc (by omega)).mono ?_
            rintro e wf ⟨r, ok, A5, n5, c5, hG, hc5, hn5, rfl, hI5, hA5, hbq⟩
            have HG := Lib.hid hG; have HC5 := Lib.hid hc5; have HI5 := Lib.hid hI5; have HA5 := Lib.hid hA5
            clear hG hc5 hI5 hA5
            have FA := Lib.hid (FA.out.below hbq); have FB := Lib.hid (FB.out.below hbq); have RB := Lib.hid (RB.out.below hbq RB.out.lt); have BW := Lib.hid (bthen BW.out hbq)
            try (have ZB := Lib.hid (ZB.out.below hbq ZB.out.lt))
            try (have hsz := Nat.lt_of_lt_of_le hsz hbq.size)
            clear hbq
            try clear hHeld
            clear a0 a1 a2 hla b0 b1 b2 hlb
            obtain ⟨a0, a1, a2, hla⟩ := FA.out.cells
            obtain ⟨b0, b1, b2, hlb⟩ := FB.out.cells
            refine hK.out _ _ (by exact ⟨a0, a1, a2, b0, b1, b2⟩) (fun hHeld => ?_)
            clear hK K
            (try simp only [Act.put]); (try simp only [g8b]); (try simp only [g8c]); (try simp only [g8d])
            refine wpAnyH_take (i := 12) (oi := _) (v := ?_) (by simp only [g8a, g8s, g8z]; rfl) (by kernel_rfl) (by kernel_rfl) (by kernel_rfl) (by exact fun _ _ _ h => h) (Or.inl ⟨by rfl, ?_⟩) (by assumption) ?_
            rotate_left 1
            · (intro w hSw; (try dsimp only at hSw); go_simp; try with_reducible rfl)
            all_goals ((try simp only [Act.put]); (try simp only [g8b]); (try simp only [g8c]); (try simp only [g8d]))
            refine wpAnyH_take (i := 13) (oi := _) (v := ?_) (by simp only [g8a, g8s, g8z]; rfl) (by kernel_rfl) (by kernel_rfl) (by kernel_rfl) (by exact fun _ _ _ h => h) (Or.inl ⟨by rfl, ?_⟩) (by assumption) ?_
            rotate_left 1
            · (intro w hSw; (try dsimp only at hSw); go_simp; try with_reducible rfl)
            all_goals ((try simp only [Act.put]); (try simp only [g8b]); (try simp only [g8c]); (try simp only [g8d]))
            refine wpAnyH_take (i := 14) (oi := _) (v := ?_) (by simp only [g8a, g8s, g8z]; rfl) (by kernel_rfl) (by kernel_rfl) (by kernel_rfl) (by exact fun _ _ _ h => h) (Or.inl ⟨by rfl, ?_⟩) (by assumption) ?_
            rotate_left 1
            · (intro w hSw; (try dsimp only at hSw); go_simp; try with_reducible rfl)
            all_goals ((try simp only [Act.put]); (try simp only [g8b]); (try simp only [g8c]); (try simp only [g8d]))
            refine wpAnyH_ready (rs := [15]) (by kernel_rfl) (by simp) ?_
            refine (AllReadyH.cons (by simp only [g8a, g8s, g8z]; rfl) (fun K hK => ?_) AllReadyH.nil)
            rw [if_pos (by rfl)]
            go_simp
            have hbq := balloc wf (.cells #[.slice none 0 0, .int .i64 0, .int .i64 0] 31)
            have ZB := Lib.hid (Blk.new wf 31 #[.slice none 0 0, .int .i64 0, .int .i64 0])
            have hQ : w1.heap.size + 1 < wf.heap.size := FB.out.lt
            have FA := Lib.hid (FA.out.below hbq); have FB := Lib.hid (FB.out.below hbq); have RB := Lib.hid (RB.out.below hbq RB.out.lt); have BW := Lib.hid (bthen BW.out hbq)
            have hsz : wf.heap.size < (wf.alloc (.cells #[.slice none 0 0, .int .i64 0, .int .i64 0] 31)).heap.size := by simp
            try (have HI5 := Lib.hid (HI5.out.alloc (Nat.le_refl _) (.cells #[.slice none 0 0, .int .i64 0, .int .i64 0] 31)))
            generalize hwa : wf.alloc (.cells #[.slice none 0 0, .int .i64 0, .int .i64 0] 31) = wg at *
            clear hwa hbq
            generalize wf.heap.size = Q at *
            try clear hHeld
            clear a0 a1 a2 hla b0 b1 b2 hlb
            obtain ⟨a0, a1, a2, hla⟩ := FA.out.cells
            obtain ⟨b0, b1, b2, hlb⟩ := FB.out.cells
            refine hK.out _ _ (by exact ⟨a0, a1, a2, b0, b1, b2⟩) (fun hHeld => ?_)
            clear hK K
            (try simp only [Act.put]); (try simp only [g8b]); (try simp only [g8c]); (try simp only [g8d])
            refine wpAnyH_ready (rs := [16]) (by kernel_rfl) (by simp) ?_
            refine (AllReadyH.cons (by simp only [g8a, g8s, g8z]; rfl) (fun K hK => ?_) AllReadyH.nil)
            refine step_storeN rfl 31 _ _ rfl rfl ZB.out rfl rfl (by kernel_rfl) (by simp [Value.oneCell']) ?_
            intro wz hsto rz
            have FA := Lib.hid (FA.out.sto hsto (.inl (by omega))); have FB := Lib.hid (FB.out.sto hsto (.inl (by omega))); have RB := Lib.hid (RB.out.sto hsto (by omega)); have BW := Lib.hid (bsto BW.out hsto (by omega))
            have I5 := Lib.hid (show Ints wz wz.heap.size A5 n5 r.vals from (HI5.out.stoB hsto (Nat.le_refl _)).more (by have := hsto.size; omega))
            try clear hHeld
            clear a0 a1 a2 hla b0 b1 b2 hlb
            obtain ⟨a0, a1, a2, hla⟩ := FA.out.cells
            obtain ⟨b0, b1, b2, hlb⟩ := FB.out.cells
            refine hK.out _ _ (by exact ⟨a0, a1, a2, b0, b1, b2⟩) (fun hHeld => ?_)
            clear hK K
            (try simp only [Act.put]); (try simp only [g8b]); (try simp only [g8c]); (try simp only [g8d])
            refine wpAnyH_take (i := 17) (oi := _) (v := ?_) (by simp only [g8a, g8s, g8z]; rfl) (by kernel_rfl) (by kernel_rfl) (by kernel_rfl) (by exact fun _ _ _ h => h) (Or.inl ⟨by rfl, ?_⟩) (by assumption) ?_
            rotate_left 1
            · (intro w hSw; (try dsimp only at hSw); go_simp; try with_reducible rfl)
            all_goals ((try simp only [Act.put]); (try simp only [g8b]); (try simp only [g8c]); (try simp only [g8d]))
            refine wpAnyH_done (by kernel_rfl) ?_ _
            try clear hHeld
            clear a0 a1 a2 hla b0 b1 b2 hlb
            go_wp2_with fail
            go_meet
            exact ⟨Q, r, ok, A5, n5, c5, rfl, rfl, HG.out, HC5.out, hn5, (fun b off s e => by have := HA5.out b off s e; omega), hQ, rz, I5.out, FA.out, FB.out, RB.out, BW.out⟩
          · rw [if_pos (by rfl)]
            go_simp
            have hbq := balloc wb (.cells #[.slice none 0 0, .int .i64 0, .int .i64 0] 31)
            have ZB := Lib.hid (Blk.new wb 31 #[.slice none 0 0, .int .i64 0, .int .i64 0])
            have hQ : w1.heap.size + 1 < wb.heap.size := FB.out.lt
            have FA := Lib.hid (FA.out.below hbq); have FB := Lib.hid (FB.out.below hbq); have RB := Lib.hid (RB.out.below hbq RB.out.lt); have BW := Lib.hid (bthen BW.out hbq)
            have hsz : wb.heap.size < (wb.alloc (.cells #[.slice none 0 0, .int .i64 0, .int .i64 0] 31)).heap.size := by simp
            try (have HI5 := Lib.hid (HI5.out.alloc (Nat.le_refl _) (.cells #[.slice none 0 0, .int .i64 0, .int .i64 0] 31)))
            generalize hwa : wb.alloc (.cells #[.slice none 0 0, .int .i64 0, .int .i64 0] 31) = wf at *
            clear hwa hbq
            generalize wb.heap.size = Q at *
            try clear hHeld
            clear a0 a1 a2 hla b0 b1 b2 hlb
            obtain ⟨a0, a1, a2, hla⟩ := FA.out.cells
            obtain ⟨b0, b1, b2, hlb⟩ := FB.out.cells
            refine hK.out _ _ (by exact ⟨a0, a1, a2, b0, b1, b2⟩) (fun hHeld => ?_)
            clear hK K
            (try simp only [Act.put]); (try simp only [g8b]); (try simp only [g8c]); (try simp only [g8d])
            refine wpAnyH_ready (rs := [11]) (by kernel_rfl) (by simp) ?_
            refine (AllReadyH.cons (by simp only [g8a, g8s, g8z]; rfl) (fun K hK => ?_) AllReadyH.nil)
            have hgz := FB.out.lt
            rw [if_pos (by rfl)]
            go_simp
            refine (guess7_any A1 A2 n1 n2 c1 c2 a b C FR _ (by exact FA.out.ints) (by exact FB.out.ints) HAO.out HBO.out HC.out hcc (by omega)).mono ?_
            rintro e wg ⟨r, ok, A5, n5, c5, hG, hc5, hn5, rfl, hI5, hA5, hbq⟩
            have HG := Lib.hid hG; have HC5 := Lib.hid hc5; have HI5 := Lib.hid hI5; have HA5 := Lib.hid hA5
            clear hG hc5 hI5 hA5
            have FA := Lib.hid (FA.out.below hbq); have FB := Lib.hid (FB.out.below hbq); have RB := Lib.hid (RB.out.below hbq RB.out.lt); have BW := Lib.hid (bthen BW.out hbq)
            try (have ZB := Lib.hid (ZB.out.below hbq ZB.out.lt))
            try (have hsz := Nat.lt_of_lt_of_le hsz hbq.size)
            clear hbq
            try clear hHeld
            clear a0 a1 a2 hla b0 b1 b2 hlb
            obtain ⟨a0, a1, a2, hla⟩ := FA.out.cells
            obtain ⟨b0, b1, b2, hlb⟩ := FB.out.cells
            refine hK.out _ _ (by exact ⟨a0, a1, a2, b0, b1, b2⟩) (fun hHeld => ?_)
            clear hK K
            (try simp only [Act.put]); (try simp only [g8b]); (try simp only [g8c]); (try simp only [g8d])
            refine wpAnyH_take (i := 12) (oi := _) (v := ?_) (by simp only [g8a, g8s, g8z]; rfl) (by kernel_rfl) (by kernel_rfl) (by kernel_rfl) (by exact fun _ _ _ h => h) (Or.inl ⟨by rfl, ?_⟩) (by assumption) ?_
            rotate_left 1
            · (intro w hSw; (try dsimp only at hSw); go_simp; try with_reducible rfl)
            all_goals ((try simp only [Act.put]); (try simp only [g8b]); (try simp only [g8c]); (try simp only [g8d]))
            refine wpAnyH_take (i := 13) (oi := _) (v := ?_) (by simp only [g8a, g8s, g8z]; rfl) (by kernel_rfl) (by kernel_rfl) (by kernel_rfl) (by exact fun _ _ _ h => h) (Or.inl ⟨by rfl, ?_⟩) (by assumption) ?_
            rotate_left 1
            · (intro w hSw; (try dsimp only at hSw); go_simp; try with_reducible rfl)
            all_goals ((try simp only [Act.put]); (try simp only [g8b]); (try simp only [g8c]); (try simp only [g8d]))
            refine wpAnyH_take (i := 14) (oi := _) (v := ?_) (by simp only [g8a, g8s, g8z]; rfl) (by kernel_rfl) (by kernel_rfl) (by kernel_rfl) (by exact fun _ _ _ h => h) (Or.inl ⟨by rfl, ?_⟩) (by assumption) ?_
            rotate_left 1
            · (intro w hSw; (try dsimp only at hSw); go_simp; try with_reducible rfl)
            all_goals ((try simp only [Act.put]); (try simp only [g8b]); (try simp only [g8c]); (try simp only [g8d]))
            refine wpAnyH_ready (rs := [16]) (by kernel_rfl) (by simp) ?_
            refine (AllReadyH.cons (by simp only [g8a, g8s, g8z]; rfl) (fun K hK => ?_) AllReadyH.nil)
            refine step_storeN rfl 31 _ _ rfl rfl ZB.out rfl rfl (by kernel_rfl) (by simp [Value.oneCell']) ?_
            intro wz hsto rz
            have FA := Lib.hid (FA.out.sto hsto (.inl (by omega))); have FB := Lib.hid (FB.out.sto hsto (.inl (by omega))); have RB := Lib.hid (RB.out.sto hsto (by omega)); have BW := Lib.hid (bsto BW.out hsto (by omega))
            have I5 := Lib.hid (show Ints wz wz.heap.size A5 n5 r.vals from HI5.out.sto hsto (fun b off o e => by have := HA5.out b off o e; omega))
            try clear hHeld
            clear a0 a1 a2 hla b0 b1 b2 hlb
            obtain ⟨a0, a1, a2, hla⟩ := FA.out.cells
            obtain ⟨b0, b1, b2, hlb⟩ := FB.out.cells
            refine hK.out _ _ (by exact ⟨a0, a1, a2, b0, b1, b2⟩) (fun hHeld => ?_)
            clear hK K
            (try simp only [Act.put]); (try simp only [g8b]); (try simp only [g8c]); (try simp only [g8d])
            refine wpAnyH_take (i := 17) (oi := _) (v := ?_) (by simp only [g8a, g8s, g8z]; rfl) (by kernel_rfl) (by kernel_rfl) (by kernel_rfl) (by exact fun _ _ _ h => h) (Or.inl ⟨by rfl, ?_⟩) (by assumption) ?_
            rotate_left 1
            · (intro w hSw; (try dsimp only at hSw); go_simp; try with_reducible rfl)
            all_goals ((try simp only [Act.put]); (try simp only [g8b]); (try simp only [g8c]); (try simp only [g8d]))
            refine wpAnyH_done (by kernel_rfl) ?_ _
            try clear hHeld
            clear a0 a1 a2 hla b0 b1 b2 hlb
            go_wp2_with fail
            go_meet
            exact ⟨Q, r, ok, A5, n5, c5, rfl, rfl, HG.out, HC5.out, hn5, (fun b off s e => by have := HA5.out b off s e; omega), hQ, rz, I5.out, FA.out, FB.out, RB.out, BW.out⟩
        · rw [if_pos (by rfl)]
          go_simp
          have hbq := balloc wa (.cells #[.slice none 0 0, .int .i64 0, .int .i64 0] 31)
          have ZB := Lib.hid (Blk.new wa 31 #[.slice none 0 0, .int .i64 0, .int .i64 0])
          have hQ : w1.heap.size + 1 < wa.heap.size := FB.out.lt
          have FA := Lib.hid (FA.out.below hbq); have FB := Lib.hid (FB.out.below hbq); have RB := Lib.hid (RB.out.below hbq RB.out.lt); have BW := Lib.hid (bthen BW.out hbq)
          have hsz : wa.heap.size < (wa.alloc (.cells #[.slice none 0 0, .int .i64 0, .int .i64 0] 31)).heap.size := by simp
          try (have HI5 := Lib.hid (HI5.out.alloc (Nat.le_refl _) (.cells #[.slice none 0 0, .int .i64 0, .int .i64 0] 31)))
          generalize hwa : wa.alloc (.cells #[.slice none 0 0, .int .i64 0, .int .i64 0] 31) = wb at *
          clear hwa hbq
          generalize wa.heap.size = Q at *
          try clear hHeld
          clear a0 a1 a2 hla b0 b1 b2 hlb
          obtain ⟨a0, a1, a2, hla⟩ := FA.out.cells
          obtain ⟨b0, b1, b2, hlb⟩ := FB.out.cells
          refine hK.out _ _ (by exact ⟨a0, a1, a2, b0, b1, b2⟩) (fun hHeld => ?_)
          clear hK K
          (try simp only [Act.put]); (try simp only [g8b]); (try simp only [g8c]); (try simp only [g8d])
          refine wpAnyH_ready (rs := [6]) (by kernel_rfl) (by simp) ?_
          refine (AllReadyH.cons (by simp only [g8a, g8s, g8z]; rfl) (fun K hK => ?_) AllReadyH.nil)
          rw [if_pos (by rfl)]
          go_simp
          refine (start7_any A2 n2 c2 b.per b.inc _ (by omega) (by omega) (by omega)).mono ?_
          rintro e wf ⟨rfl, hbq⟩
          have FA := Lib.hid (FA.out.below hbq); have FB := Lib.hid (FB.out.below hbq); have RB := Lib.hid (RB.out.below hbq RB.out.lt); have BW := Lib.hid (bthen BW.out hbq)
          try (have ZB := Lib.hid (ZB.out.below hbq ZB.out.lt))
          try (have hsz := Nat.lt_of_lt_of_le hsz hbq.size)
          clear hbq
          try clear hHeld
          clear a0 a1 a2 hla b0 b1 b2 hlb
          obtain ⟨a0, a1, a2, hla⟩ := FA.out.cells
          obtain ⟨b0, b1, b2, hlb⟩ := FB.out.cells
          refine hK.out _ _ (by exact ⟨a0, a1, a2, b0, b1, b2⟩) (fun hHeld => ?_)
          clear hK K
          (try simp only [Act.put]); (try simp only [g8b]); (try simp only [g8c]); (try simp only [g8d])
          refine wpAnyH_take (i := 7) (oi := _) (v := ?_) (by simp only [g8a, g8s, g8z]; rfl) (by kernel_rfl) (by kernel_rfl) (by kernel_rfl) (by exact fun _ _ _ h => h) (Or.inl ⟨by rfl, ?_⟩) (by assumption) ?_
          rotate_left 1
          · (intro w hSw; (try dsimp only at hSw); go_simp; try with_reducible rfl)
          all_goals ((try simp only [Act.put]); (try simp only [g8b]); (try simp only [g8c]); (try simp only [g8d]))
          refine wpAnyH_take (i := 10) (oi := _) (v := ?_) (by simp only [g8a, g8s, g8z]; rfl) (by kernel_rfl) (by kernel_rfl) (by kernel_rfl) (by exact fun _ _ _ h => h) (Or.inl ⟨by rfl, ?_⟩) (by assumption) ?_
          rotate_left 1
          · (intro w hSw; (try dsimp only at hSw); go_simp; try with_reducible rfl)
          all_goals ((try simp only [Act.put]); (try simp only [g8b]); (try simp only [g8c]); (try simp only [g8d]))
          refine wpAnyH_ready (rs := [11]) (by kernel_rfl) (by simp) ?_
          refine (AllReadyH.cons (by simp only [g8a, g8s, g8z]; rfl) (fun K hK => ?_) AllReadyH.nil)
          have hgz := FB.out.lt
          rw [if_pos (by rfl)]
          go_simp
          refine (guess7_any A1 A2 n1 n2 c1 c2 a b C FR _ (by exact FA.out.ints) (by exact FB.out.ints) HAO.out HBO.out HC.out hcc (by omega)).mono ?_
          rintro e wg ⟨r, ok, A5, n5, c5, hG, hc5, hn5, rfl, hI5, hA5, hbq⟩
          have HG := Lib.hid hG; have HC5 := Lib.hid hc5; have HI5 := Lib.hid hI5; have HA5 := Lib.hid hA5
          clear hG hc5 hI5 hA5
          have FA := Lib.hid (FA.out.below hbq); have FB := Lib.hid (FB.out.below hbq); have RB := Lib.hid (RB.out.below hbq RB.out.lt); have BW := Lib.hid (bthen BW.out hbq)
          try (have ZB := Lib.hid (ZB.out.below hbq ZB.out.lt))
          try (have hsz := Nat.lt_of_lt_of_le hsz hbq.size)
          clear hbq
          try clear hHeld
          clear a0 a1 a2 hla b0 b1 b2 hlb
          obtain ⟨a0, a1, a2, hla⟩ := FA.out.cells
          obtain ⟨b0, b1, b2, hlb⟩ := FB.out.cells
          refine hK.out _ _ (by exact ⟨a0, a1, a2, b0, b1, b2⟩) (fun hHeld => ?_)
          clear hK K
          (try simp only [Act.put]); (try simp only [g8b]); (try simp only [g8c]); (try simp only [g8d])
          refine wpAnyH_take (i := 12) (oi := _) (v := ?_) (by simp only [g8a, g8s, g8z]; rfl) (by kernel_rfl) (by kernel_rfl) (by kernel_rfl) (by exact fun _ _ _ h => h) (Or.inl ⟨by rfl, ?_⟩) (by assumption) ?_
          rotate_left 1
          · (intro w hSw; (try dsimp only at hSw); go_simp; try with_reducible rfl)
          all_goals ((try simp only [Act.put]); (try simp only [g8b]); (try simp only [g8c]); (try simp only [g8d]))
          refine wpAnyH_take (i := 13) (oi := _) (v := ?_) (by simp only [g8a, g8s, g8z]; rfl) (by kernel_rfl) (by kernel_rfl) (by kernel_rfl) (by exact fun _ _ _ h => h) (Or.inl ⟨by rfl, ?_⟩) (by assumption) ?_
          rotate_left 1
          · (intro w hSw; (try dsimp only at hSw); go_simp; try with_reducible rfl)
          all_goals ((try simp only [Act.put]); (try simp only [g8b]); (try simp only [g8c]); (try simp only [g8d]))
          refine wpAnyH_take (i := 14) (oi := _) (v := ?_) (by simp only [g8a, g8s, g8z]; rfl) (by kernel_rfl) (by kernel_rfl) (by kernel_rfl) (by exact fun _ _ _ h => h) (Or.inl ⟨by rfl, ?_⟩) (by assumption) ?_
          rotate_left 1
          · (intro w hSw; (try dsimp only at hSw); go_simp; try with_reducible rfl)
          all_goals ((try simp only [Act.put]); (try simp only [g8b]); (try simp only [g8c]); (try simp only [g8d]))
          refine wpAnyH_ready (rs := [16]) (by kernel_rfl) (by simp) ?_
          refine (AllReadyH.cons (by simp only [g8a, g8s, g8z]; rfl) (fun K hK => ?_) AllReadyH.nil)
          refine step_storeN rfl 31 _ _ rfl rfl ZB.out rfl rfl (by kernel_rfl) (by simp [Value.oneCell']) ?_
          intro wz hsto rz
          have FA := Lib.hid (FA.out.sto hsto (.inl (by omega))); have FB := Lib.hid (FB.out.sto hsto (.inl (by omega))); have RB := Lib.hid (RB.out.sto hsto (by omega)); have BW := Lib.hid (bsto BW.out hsto (by omega))
          have I5 := Lib.hid (show Ints wz wz.heap.size A5 n5 r.vals from HI5.out.sto hsto (fun b off o e => by have := HA5.out b off o e; omega))
          try clear hHeld
          clear a0 a1 a2 hla b0 b1 b2 hlb
          obtain ⟨a0, a1, a2, hla⟩ := FA.out.cells
          obtain ⟨b0, b1, b2, hlb⟩ := FB.out.cells
          refine hK.out _ _ (by exact ⟨a0, a1, a2, b0, b1, b2⟩) (fun hHeld => ?_)
          clear hK K
          (try simp only [Act.put]); (try simp only [g8b]); (try simp only [g8c]); (try simp only [g8d])
          refine wpAnyH_take (i := 17) (oi := _) (v := ?_) (by simp only [g8a, g8s, g8z]; rfl) (by kernel_rfl) (by kernel_rfl) (by kernel_rfl) (by exact fun _ _ _ h => h) (Or.inl ⟨by rfl, ?_⟩) (by assumption) ?_
          rotate_left 1
          · (intro w hSw; (try dsimp only at hSw); go_simp; try with_reducible rfl)
          all_goals ((try simp only [Act.put]); (try simp only [g8b]); (try simp only [g8c]); (try simp only [g8d]))
          refine wpAnyH_done (by kernel_rfl) ?_ _
          try clear hHeld
          clear a0 a1 a2 hla b0 b1 b2 hlb
          go_wp2_with fail
          go_meet
          exact ⟨Q, r, ok, A5, n5, c5, rfl, rfl, HG.out, HC5.out, hn5, (fun b off s e => by have := HA5.out b off s e; omega), hQ, rz, I5.out, FA.out, FB.out, RB.out, BW.out⟩
      · rw [if_pos (by rfl)]
        go_simp
        have hbq := balloc wd (.cells #[.slice none 0 0, .int .i64 0, .int .i64 0] 31)
        have ZB := Lib.hid (Blk.new wd 31 #[.slice none 0 0, .int .i64 0, .int .i64 0])
        have hQ : w1.heap.size + 1 < wd.heap.size := FB.out.lt
        have FA := Lib.hid (FA.out.below hbq); have FB := Lib.hid (FB.out.below hbq); have RB := Lib.hid (RB.out.below hbq RB.out.lt); have BW := Lib.hid (bthen BW.out hbq)
        have hsz : wd.heap.size < (wd.alloc (.cells #[.slice none 0 0, .int .i64 0, .int .i64 0] 31)).heap.size := by simp
        try (have HI5 := Lib.hid (HI5.out.alloc (Nat.le_refl _) (.cells #[.slice none 0 0, .int .i64 0, .int .i64 0] 31)))
        generalize hwa : wd.alloc (.cells #[.slice none 0 0, .int .i64 0, .int .i64 0] 31) = wa at *
        clear hwa hbq
        generalize wd.heap.size = Q at *
        try clear hHeld
        clear a0 a1 a2 hla b0 b1 b2 hlb
        obtain ⟨a0, a1, a2, hla⟩ := FA.out.cells
        obtain ⟨b0, b1, b2, hlb⟩ := FB.out.cells
        refine hK.out _ _ (by exact ⟨a0, a1, a2, b0, b1, b2⟩) (fun hHeld => ?_)
        clear hK K
        (try simp only [Act.put]); (try simp only [g8b]); (try simp only [g8c]); (try simp only [g8d])
        refine wpAnyH_ready (rs := [4]) (by kernel_rfl) (by simp) ?_
        refine (AllReadyH.cons (by simp only [g8a, g8s, g8z]; rfl) (fun K hK => ?_) AllReadyH.nil)
        rw [if_pos (by rfl)]
        go_simp
        refine (start7_any A1 n1 c1 a.per a.inc _ (by omega) (by omega) (by omega)).mono ?_
        rintro e wb ⟨rfl, hbq⟩
        have FA := Lib.hid (FA.out.below hbq); have FB := Lib.hid (FB.out.below hbq); have RB := Lib.hid (RB.out.below hbq RB.out.lt); have BW := Lib.hid (bthen BW.out hbq)
        try (have ZB := Lib.hid (ZB.out.below hbq ZB.out.lt))
        try (have hsz := Nat.lt_of_lt_of_le hsz hbq.size)
        clear hbq
        try clear hHeld
        clear a0 a1 a2 hla b0 b1 b2 hlb
        obtain ⟨a0, a1, a2, hla⟩ := FA.out.cells
        obtain ⟨b0, b1, b2, hlb⟩ := FB.out.cells
        refine hK.out _ _ (by exact ⟨a0, a1, a2, b0, b1, b2⟩) (fun hHeld => ?_)
        clear hK K
        (try simp only [Act.put]); (try simp only [g8b]); (try simp only [g8c]); (try simp only [g8d])
        refine wpAnyH_ready (rs := [6]) (by kernel_rfl) (by simp) ?_
        refine (AllReadyH.cons (by simp only [g8a, g8s, g8z]; rfl) (fun K hK => ?_) AllReadyH.nil)
        rw [if_pos (by rfl)]
        go_simp
        refine (start7_any A2 n2 c2 b.per b.inc _ (by omega) (by omega) (by omega)).mono ?_
        rintro e wf ⟨rfl, hbq⟩
        have FA := Lib.hid (FA.out.below hbq); have FB := Lib.hid (FB.out.below hbq); have RB := Lib.hid (RB.out.below hbq RB.out.lt); have BW := Lib.hid (bthen BW.out hbq)
        try (have ZB := Lib.hid (ZB.out.below hbq ZB.out.lt))
        try (have hsz := Nat.lt_of_lt_of_le hsz hbq.size)
        clear hbq
        try clear hHeld
        clear a0 a1 a2 hla b0 b1 b2 hlb
        obtain ⟨a0, a1, a2, hla⟩ := FA.out.cells
        obtain ⟨b0, b1, b2, hlb⟩ := FB.out.cells
        refine hK.out _ _ (by exact ⟨a0, a1, a2, b0, b1, b2⟩) (fun hHeld => ?_)
        clear hK K
        (try simp only [Act.put]); (try simp only [g8b]); (try simp only [g8c]); (try simp only [g8d])
        refine wpAnyH_take (i := 7) (oi := _) (v := ?_) (by simp only [g8a, g8s, g8z]; rfl) (by kernel_rfl) (by kernel_rfl) (by kernel_rfl) (by exact fun _ _ _ h => h) (Or.inl ⟨by rfl, ?_⟩) (by assumption) ?_
        rotate_left 1
        · (intro w hSw; (try dsimp only at hSw); go_simp; try with_reducible rfl)
        all_goals ((try simp only [Act.put]); (try simp only [g8b]); (try simp only [g8c]); (try simp only [g8d]))
        refine wpAnyH_take (i := 10) (oi := _) (v := ?_) (by simp only [g8a, g8s, g8z]; rfl) (by kernel_rfl) (by kernel_rfl) (by kernel_rfl) (by exact fun _ _ _ h => h) (Or.inl ⟨by rfl, ?_⟩) (by assumption) ?_
        rotate_left 1
        · (intro w hSw; (try dsimp only at hSw); go_simp; try with_reducible rfl)
        all_goals ((try simp only [Act.put]); (try simp only [g8b]); (try simp only [g8c]); (try simp only [g8d]))
        refine wpAnyH_ready (rs := [11]) (by kernel_rfl) (by simp) ?_
        refine (AllReadyH.cons (by simp only [g8a, g8s, g8z]; rfl) (fun K hK => ?_) AllReadyH.nil)
        have hgz := FB.out.lt
        rw [if_pos (by rfl)]
        go_simp
        refine (guess7_any A1 A2 n1 n2 c1 c2 a b C FR _ (by exact FA.out.ints) (by exact FB.out.ints) HAO.out HBO.out HC.out hcc (by omega)).mono ?_
        rintro e wg ⟨r, ok, A5, n5, c5, hG, hc5, hn5, rfl, hI5, hA5, hbq⟩
        have HG := Lib.hid hG; have HC5 := Lib.hid hc5; have HI5 := Lib.hid hI5; have HA5 := Lib.hid hA5
        clear hG hc5 hI5 hA5
        have FA := Lib.hid (FA.out.below hbq); have FB := Lib.hid (FB.out.below hbq); have RB := Lib.hid (RB.out.below hbq RB.out.lt); have BW := Lib.hid (bthen BW.out hbq)
        try (have ZB := Lib.hid (ZB.out.below hbq ZB.out.lt))
        try (have hsz := Nat.lt_of_lt_of_le hsz hbq.size)
        clear hbq
        try clear hHeld
        clear a0 a1 a2 hla b0 b1 b2 hlb
        obtain ⟨a0, a1, a2, hla⟩ := FA.out.cells
        obtain ⟨b0, b1, b2, hlb⟩ := FB.out.cells
        refine hK.out _ _ (by exact ⟨a0, a1, a2, b0, b1, b2⟩) (fun hHeld => ?_)
        clear hK K
        (try simp only [Act.put]); (try simp only [g8b]); (try simp only [g8c]); (try simp only [g8d])
        refine wpAnyH_take (i := 12) (oi := _) (v := ?_) (by simp only [g8a, g8s, g8z]; rfl) (by kernel_rfl) (by kernel_rfl) (by kernel_rfl) (by exact fun _ _ _ h => h) (Or.inl ⟨by rfl, ?_⟩) (by assumption) ?_
        rotate_left 1
        · (intro w hSw; (try dsimp only at hSw); go_simp; try with_reducible rfl)
        all_goals ((try simp only [Act.put]); (try simp only [g8b]); (try simp only [g8c]); (try simp only [g8d]))
        refine wpAnyH_take (i := 13) (oi := _) (v := ?_) (by simp only [g8a, g8s, g8z]; rfl) (by kernel_rfl) (by kernel_rfl) (by kernel_rfl) (by exact fun _ _ _ h => h) (Or.inl ⟨by rfl, ?_⟩) (by assumption) ?_
        rotate_left 1
        · (intro w hSw; (try dsimp only at hSw); go_simp; try with_reducible rfl)
        all_goals ((try simp only [Act.put]); (try simp only [g8b]); (try simp only [g8c]); (try simp only [g8d]))
        refine wpAnyH_take (i := 14) (oi := _) (v := ?_) (by simp only [g8a, g8s, g8z]; rfl) (by kernel_rfl) (by kernel_rfl) (by kernel_rfl) (by exact fun _ _ _ h => h) (Or.inl ⟨by rfl, ?_⟩) (by assumption) ?_
        rotate_left 1
        · (intro w hSw; (try dsimp only at hSw); go_simp; try with_reducible rfl)
        all_goals ((try simp only [Act.put]); (try simp only [g8b]); (try simp only [g8c]); (try simp only [g8d]))
        refine wpAnyH_ready (rs := [16]) (by kernel_rfl) (by simp) ?_
        refine (AllReadyH.cons (by simp only [g8a, g8s, g8z]; rfl) (fun K hK => ?_) AllReadyH.nil)
        refine step_storeN rfl 31 _ _ rfl rfl ZB.out rfl rfl (by kernel_rfl) (by simp [Value.oneCell']) ?_
        intro wz hsto rz
        have FA := Lib.hid (FA.out.sto hsto (.inl (by omega))); have FB := Lib.hid (FB.out.sto hsto (.inl (by omega))); have RB := Lib.hid (RB.out.sto hsto (by omega)); have BW := Lib.hid (bsto BW.out hsto (by omega))
        have I5 := Lib.hid (show Ints wz wz.heap.size A5 n5 r.vals from HI5.out.sto hsto (fun b off o e => by have := HA5.out b off o e; omega))
        try clear hHeld
        clear a0 a1 a2 hla b0 b1 b2 hlb
        obtain ⟨a0, a1, a2, hla⟩ := FA.out.cells
        obtain ⟨b0, b1, b2, hlb⟩ := FB.out.cells
        refine hK.out _ _ (by exact ⟨a0, a1, a2, b0, b1, b2⟩) (fun hHeld => ?_)
        clear hK K
        (try simp only [Act.put]); (try simp only [g8b]); (try simp only [g8c]); (try simp only [g8d])
        refine wpAnyH_take (i := 17) (oi := _) (v := ?_) (by simp only [g8a, g8s, g8z]; rfl) (by kernel_rfl) (by kernel_rfl) (by kernel_rfl) (by exact fun _ _ _ h => h) (Or.inl ⟨by rfl, ?_⟩) (by assumption) ?_
        rotate_left 1
        · (intro w hSw; (try dsimp only at hSw); go_simp; try with_reducible rfl)
        all_goals ((try simp only [Act.put]); (try simp only [g8b]); (try simp only [g8c]); (try simp only [g8d]))
        refine wpAnyH_done (by kernel_rfl) ?_ _
        try clear hHeld
        clear a0 a1 a2 hla b0 b1 b2 hlb
        go_wp2_with fail
        go_meet
        exact ⟨Q, r, ok, A5, n5, c5, rfl, rfl, HG.out, HC5.out, hn5, (fun b off s e => by have := HA5.out b off s e; omega), hQ, rz, I5.out, FA.out, FB.out, RB.out, BW.out⟩
    case rest =>
    clear FA FB RB BW eT1 eT2 eT3 eM1 eM2 eM3 eS1 eS2 eS3
    obtain ⟨Q, r, ok, A5, n5, c5, rfl, rfl, hG, hc5, hn5, hA5, hQ, hO, hI, hFA, hFB, hRB, hBW⟩ := hcut
    have HG := Lib.hid hG; have HC5 := Lib.hid hc5; have HA5 := Lib.hid hA5; have OB := Lib.hid hO; have I5 := Lib.hid hI; have FA := Lib.hid hFA; have FB := Lib.hid hFB; have RB := Lib.hid hRB; have BW := Lib.hid hBW
    clear hG hc5 hA5 hO hI hFA hFB hRB hBW
    cases ok
    case true =>
      have YES := Lib.hid (show r.Ok → CvoS a b r 0 from fun h => of_yes HAO.out HBO.out HOC.out HFR.out (by omega) HG.out h)
      have BIG := Lib.hid (show ¬ r.Ok → CvoS a b Cv.none 3 from fun h => of_big HAO.out HBO.out HOC.out HFR.out (by omega) HG.out h)
      obtain ⟨⟨o0, o1, o2⟩, ⟨z0, z1, z2⟩, hlo⟩ := OB.out.c3
      by_cases hok : r.Ok
      case neg =>
        have HB := Lib.hid (Cv.okB_false hok)
        have F := Lib.hid (FINC.out _ _ (BIG.out hok))
        clear hok
        go_wp2_with fail
        refine (refValid_any A5 n5 c5 r.per r.inc r.vals _ (by exact I5.out) (by omega)).mono ?_
        rintro e we ⟨rfl, hbq⟩
        rw [show Cv.okB ⟨r.vals, r.per, r.inc⟩ = false from HB.out]
        have RB := Lib.hid (RB.out.below hbq RB.out.lt); have BW := Lib.hid (bthen BW.out hbq)
        clear hbq o0 o1 o2 z0 z1 z2 hlo
        obtain ⟨⟨r0, r1, r2⟩, ⟨y0, y1, y2⟩, hlr⟩ := RB.out.c3
        go_wp2_with fail
        have rb := RB.out.store3 (.slice none 0 0) (.int .i64 0) (.int .i64 0)
        exact bodyPost_ret (v := .tuple #[.agg #[.slice none 0 0, .int .i64 0, .int .i64 0], .int .i64 3]) (by simp [results, Try.results29, go_sem, rb.cell]) rfl (retS2_store0 F.out (by omega) BW.out)
      case pos =>
        have HB := Lib.hid (Cv.okB_true hok)
        have F := Lib.hid (FINC.out _ _ (YES.out hok))
        clear hok
        go_wp2_with fail
        refine (refValid_any A5 n5 c5 r.per r.inc r.vals _ (by exact I5.out) (by omega)).mono ?_
        rintro e we ⟨rfl, hbq⟩
        rw [show Cv.okB ⟨r.vals, r.per, r.inc⟩ = true from HB.out]
        have RB := Lib.hid (RB.out.below hbq RB.out.lt); have BW := Lib.hid (bthen BW.out hbq); have OB := Lib.hid (OB.out.below hbq OB.out.lt)
        have I5 := Lib.hid (I5.out.ext hbq)
        clear hbq o0 o1 o2 z0 z1 z2 hlo
        obtain ⟨⟨o0, o1, o2⟩, _, hlo⟩ := OB.out.c3
        obtain ⟨⟨r0, r1, r2⟩, ⟨y0, y1, y2⟩, hlr⟩ := RB.out.c3
        go_wp2_with fail
        have rb := RB.out.store3 (.slice A5 n5 c5) (.int .i64 r.per) (.int .i64 r.inc)
        exact bodyPost_ret (v := .tuple #[.agg #[.slice A5 n5 c5, .int .i64 r.per, .int .i64 r.inc], .int .i64 0]) (by simp [results, Try.results29, go_sem, rb.cell]) rfl
          ⟨r, 0, A5, n5, c5, F.out, HC5.out, rfl, I5.out.sto (Sto.three _ _ _ _ _) (fun b off o e => by have := HA5.out b off o e; omega), (fun b off s e => by have := HA5.out b off s e; omega), bsto BW.out (Sto.three _ _ _ _ _) (by omega)⟩
    case false =>
      clear HG HC5 HA5 I5
      have eM1 := EM1.out; have eM2 := EM2.out; have eM3 := EM3.out; have eF1 := EF1.out; have eF2 := EF2.out
      obtain ⟨a0, a1, a2, hla⟩ := FA.out.cells
      obtain ⟨b0, b1, b2, hlb⟩ := FB.out.cells
      go_wp2_with fail
      refine (guess7_any A1 A2 n1 n2 c1 c2 a b C FY _ (by exact FA.out.ints) (by exact FB.out.ints) HAO.out HBO.out HC.out hcc (by omega)).mono ?_
      rintro e w2 ⟨r, ok, A5, n5, c5, hG, hc5, hn5, rfl, hI5, hA5, hbq⟩
      clear eM1 eM2 eM3 eF1 eF2
      clear a0 a1 a2 hla b0 b1 b2 hlb
      have hQl := OB.out.lt
      have hA5' : ∀ b off s, A5 = some ⟨b, off, s⟩ → Q < b := fun b off s e => by have := hA5 b off s e; omega
      have OB := Lib.hid (OB.out.below hbq OB.out.lt); have RB := Lib.hid (RB.out.below hbq RB.out.lt); have BW := Lib.hid (bthen BW.out hbq)
      have hlw := BW.out.size
      have HG := Lib.hid hG; have HC5 := Lib.hid hc5; have HA5 := Lib.hid (show ∀ b off s, A5 = some ⟨b, off, s⟩ → w.heap.size + 1 + 1 < b from fun b off s e => by have := hA5' b off s e; omega)
      have I5 := Lib.hid (hI5.sto (Sto.three Q w2 (.slice A5 n5 c5) (.int .i64 r.per) (.int .i64 r.inc)) (fun b off o e => by have := hA5' b off o e; omega))
      clear hG hc5 hA5 hA5' hI5 hbq hQl hlw
      obtain ⟨⟨o0, o1, o2⟩, ⟨z0, z1, z2⟩, hlo⟩ := OB.out.c3
      go_upto_region 7 with fail
      have OB := Lib.hid (OB.out.store3 (.slice A5 n5 c5) (.int .i64 r.per) (.int .i64 r.inc))
      have RB := Lib.hid (RB.out.sto (Sto.three Q w2 (.slice A5 n5 c5) (.int .i64 r.per) (.int .i64 r.inc)) (by omega)); have BW := Lib.hid (bsto BW.out (Sto.three Q w2 (.slice A5 n5 c5) (.int .i64 r.per) (.int .i64 r.inc)) (by omega))
      clear o0 o1 o2 z0 z1 z2 hlo FA FB
      generalize hws : ((w2.setCell ⟨Q, 0, none⟩ (.slice A5 n5 c5)).setCell ⟨Q, 1, none⟩ (.int .i64 r.per)).setCell ⟨Q, 2, none⟩ (.int .i64 r.inc) = ws at *
      clear hws
      cases ok
      case true =>
        have YES := Lib.hid (show r.Ok → CvoS a b r 0 from fun h => of_yes HAO.out HBO.out HOC.out HFS2.out (by omega) HG.out h)
        have BIG := Lib.hid (show ¬ r.Ok → CvoS a b Cv.none 3 from fun h => of_big HAO.out HBO.out HOC.out HFS2.out (by omega) HG.out h)
        obtain ⟨⟨o0, o1, o2⟩, ⟨z0, z1, z2⟩, hlo⟩ := OB.out.c3
        by_cases hok : r.Ok
        case neg =>
          have HB := Lib.hid (Cv.okB_false hok)
          have F := Lib.hid (FINC.out _ _ (BIG.out hok))
          clear hok
          go_wp2_with fail
          refine (refValid_any A5 n5 c5 r.per r.inc r.vals _ (by exact I5.out) (by omega)).mono ?_
          rintro e we ⟨rfl, hbq⟩
          rw [show Cv.okB ⟨r.vals, r.per, r.inc⟩ = false from HB.out]
          have RB := Lib.hid (RB.out.below hbq RB.out.lt); have BW := Lib.hid (bthen BW.out hbq)
          clear hbq o0 o1 o2 z0 z1 z2 hlo
          obtain ⟨⟨r0, r1, r2⟩, ⟨y0, y1, y2⟩, hlr⟩ := RB.out.c3
          go_wp2_with fail
          have rb := RB.out.store3 (.slice none 0 0) (.int .i64 0) (.int .i64 0)
          exact bodyPost_ret (v := .tuple #[.agg #[.slice none 0 0, .int .i64 0, .int .i64 0], .int .i64 3]) (by simp [results, Try.results29, go_sem, rb.cell]) rfl (retS2_store0 F.out (by omega) BW.out)
        case pos =>
          have HB := Lib.hid (Cv.okB_true hok)
          have F := Lib.hid (FINC.out _ _ (YES.out hok))
          clear hok
          go_wp2_with fail
          refine (refValid_any A5 n5 c5 r.per r.inc r.vals _ (by exact I5.out) (by omega)).mono ?_
          rintro e we ⟨rfl, hbq⟩
          rw [show Cv.okB ⟨r.vals, r.per, r.inc⟩ = true from HB.out]
          have RB := Lib.hid (RB.out.below hbq RB.out.lt); have BW := Lib.hid (bthen BW.out hbq); have OB := Lib.hid (OB.out.below hbq OB.out.lt)
          have I5 := Lib.hid (I5.out.ext hbq)
          clear hbq o0 o1 o2 z0 z1 z2 hlo
          obtain ⟨⟨o0, o1, o2⟩, _, hlo⟩ := OB.out.c3
          obtain ⟨⟨r0, r1, r2⟩, ⟨y0, y1, y2⟩, hlr⟩ := RB.out.c3
          go_wp2_with fail
          have rb := RB.out.store3 (.slice A5 n5 c5) (.int .i64 r.per) (.int .i64 r.inc)
          exact bodyPost_ret (v := .tuple #[.agg #[.slice A5 n5 c5, .int .i64 r.per, .int .i64 r.inc], .int .i64 0]) (by simp [results, Try.results29, go_sem, rb.cell]) rfl
            ⟨r, 0, A5, n5, c5, F.out, HC5.out, rfl, I5.out.sto (Sto.three _ _ _ _ _) (fun b off o e => by have := HA5.out b off o e; omega), (fun b off s e => by have := HA5.out b off s e; omega), bsto BW.out (Sto.three _ _ _ _ _) (by omega)⟩
      case false =>
        have F := Lib.hid (FINC.out _ _ (of_none HAO.out HBO.out HOC.out HFS.out (by omega) HG.out))
        obtain ⟨⟨r0, r1, r2⟩, ⟨y0, y1, y2⟩, hlr⟩ := RB.out.c3
        go_wp2_with fail
        have rb := RB.out.store3 (.slice none 0 0) (.int .i64 0) (.int .i64 0)
        exact bodyPost_ret (v := .tuple #[.agg #[.slice none 0 0, .int .i64 0, .int .i64 0], .int .i64 3]) (by simp [results, Try.results29, go_sem, rb.cell]) rfl (retS2_store0 F.out (by omega) BW.out)
end Go.Proofs.Ytbkimphcmmmaiaa
