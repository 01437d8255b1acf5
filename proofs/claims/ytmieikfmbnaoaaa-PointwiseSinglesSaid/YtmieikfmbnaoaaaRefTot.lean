/- netcalculusref05.Total: what it returns. -/
import Derived.Test.YtmieikfmbnaoaaaRefSum
import Derived.Test.YtmieikfmbnaoaaaPwTot
import Derived.Deep.RegionHeld3
namespace Go.Proofs.Ytmieikfmbnaoaaa
open Go.RowKit
set_option linter.unusedVariables false

theorem zz_at (t : Nat) : Cv.at ⟨[0, 0], 1, 0⟩ t = 0 := by
  have h : ∀ k, nth [0, 0] k = 0 := fun k => by
    rcases Nat.lt_or_ge k 2 with hk | hk
    · have : k = 0 ∨ k = 1 := by omega
      rcases this with rfl | rfl <;> rfl
    · exact nth_out _ _ hk
  unfold Cv.at
  simp only [h]
  simp
  intro _ h
  exact absurd h inf_pos
theorem zz_fun : Cv.at ⟨[0, 0], 1, 0⟩ = fun _ => 0 := funext zz_at
set_option maxHeartbeats 1000000 in
theorem refFlat0_any (w : World) : Calls Try.prog 123 #[.int .i64 0] w (RetS2 (fun f er => f = cvZ ∧ er = 0) w) := by
  have RB := Lib.hid ((Blk.new w 41 #[.slice none 0 0, .int .i64 0, .int .i64 0]).alloc (.cells #[.int .i64 0, .int .i64 0] 3))
  have BW := Lib.hid (bthen (balloc w (.cells #[.slice none 0 0, .int .i64 0, .int .i64 0] 41)) (balloc _ (.cells #[.int .i64 0, .int .i64 0] 3)))
  have il := ints_litC (w.alloc (.cells #[.slice none 0 0, .int .i64 0, .int .i64 0] 41)) [0, 0]
  simp only [List.map_cons, List.map_nil, World.size_alloc] at il
  have IL := Lib.hid il
  have up : Up0 (Cv.at ⟨[0, 0], 1, 0⟩) := by rw [zz_fun]; exact ⟨Int.le_refl _, fun t => Int.le_refl _⟩
  have pre : Pre ⟨[0, 0], 1, 0⟩ := ⟨by decide, by decide, by decide, by decide, by decide, fun k => by
    have : nth [0, 0] k = 0 := by
      rcases Nat.lt_or_ge k 2 with hk | hk
      · have : k = 0 ∨ k = 1 := by omega
        rcases this with rfl | rfl <;> rfl
      · exact nth_out _ _ hk
    show 0 ≤ nth [0, 0] k ∧ nth [0, 0] k ≤ 4611686018427387904
    rw [this]; omega⟩
  clear il
  go_enter Try.func123, Try.ntmps123
  go_wp2_with fail
  refine (refMade_any (some ⟨w.heap.size + 1, 0, none⟩) 2 2 1 0 [0, 0] _ (by simp only [World.size_alloc]; exact IL.out) (Nat.le_refl _) pre up (fun m t hm h hmt => by
    exfalso
    have : m = 0 ∨ m = 1 := by simp at hm; omega
    rcases this with rfl | rfl <;> exact absurd h inf_pos)).mono ?_
  rintro e w5 ⟨r, er, A5, n5, c5, hS, hc5, rfl, hI5, hA5, hbq⟩
  rw [zz_fun] at hS
  obtain ⟨rfl, rfl⟩ := hS.toL.is zero_nf cvZ_lim
  have hs0 := RB.out.lt
  replace RB := Lib.hid (RB.out.below hbq RB.out.lt)
  replace BW := Lib.hid (bthen BW.out hbq)
  have HI5 := Lib.hid hI5; have HA5 := Lib.hid hA5
  clear hS hI5 hA5 hbq up pre
  obtain ⟨⟨r0, r1, r2⟩, ⟨y0, y1, y2⟩, hlr⟩ := RB.out.c3
  go_wp2_with fail
  have rb := RB.out.store3 (.slice A5 n5 c5) (.int .i64 1) (.int .i64 0)
  refine bodyPost_ret (v := .tuple #[.agg #[.slice A5 n5 c5, .int .i64 1, .int .i64 0], .int .i64 0]) (by simp [results, Try.results123, go_sem, rb.cell]) rfl ?_
  exact retS2_store (f := cvZ) (er := 0) ⟨rfl, rfl⟩ hc5 HA5.out (Nat.le_refl _) hs0 HI5.out BW.out
/-- the cells of the element x at the place k of the list at block b -/
structure RowE (w : World) (b o k : Nat) (x : CR) : Prop where
  lt : b < w.heap.size
  c0 : w.cell? ⟨b, o + k * 3, none⟩ = some (.slice x.A x.n x.c)
  c1 : w.cell? ⟨b, o + k * 3 + 1, none⟩ = some (.int .i64 x.f.per)
  c2 : w.cell? ⟨b, o + k * 3 + 2, none⟩ = some (.int .i64 x.f.inc)
section
variable {w w' : World} {b o k : Nat} {x : CR}
theorem RowO.e {xs : List CR} (h : RowO w b o xs) (hx : xs[k]? = some x) : RowE w b o k x := ⟨h.lt, h.cell k 0 x hx (by omega), h.cell k 1 x hx (by omega), h.cell k 2 x hx (by omega)⟩
theorem RowE.below (h : RowE w b o k x) (hb : Below w.heap.size w w') : RowE w' b o k x :=
  ⟨Nat.lt_of_lt_of_le h.lt hb.size, ((bcell hb).1 b _ h.lt).trans h.c0, ((bcell hb).1 b _ h.lt).trans h.c1, ((bcell hb).1 b _ h.lt).trans h.c2⟩
theorem RowE.drew (h : RowE w b o k x) : RowE w.drew b o k x := ⟨h.lt, h.c0, h.c1, h.c2⟩
theorem RowE.sto {g : Nat} (h : RowE w b o k x) (s : Sto g w w') (hne : b ≠ g) : RowE w' b o k x :=
  ⟨by rw [s.size]; exact h.lt, (World.cell?_of_block (a := ⟨b, o + k * 3, none⟩) (s.block b hne)).trans h.c0, (World.cell?_of_block (a := ⟨b, o + k * 3 + 1, none⟩) (s.block b hne)).trans h.c1, (World.cell?_of_block (a := ⟨b, o + k * 3 + 2, none⟩) (s.block b hne)).trans h.c2⟩
end
set_option maxHeartbeats 4000000 in
set_option maxRecDepth 100000 in
theorem refTotal_any (b : Option Addr) (n c : Nat) (xs : List CR) (w : World) (hl : xs.length = n) (hn : n ≤ 1000) (hrow : 0 < n → ∃ g o, b = some ⟨g, o, none⟩ ∧ RowO w g o xs) (hlen : ∀ x ∈ xs, x.n ≤ 1000000 ∧ x.n ≤ x.c) :
    Calls Try.prog 71 #[.slice b n c] w (RetS2 (TotR cvZ (xs.map CR.f)) w) := by
  have HROW := Lib.hid hrow; have HLEN := Lib.hid hlen; have HL := Lib.hid hl
  clear hrow hlen hl
  have RB := Lib.hid (Blk.new w 41 #[.slice none 0 0, .int .i64 0, .int .i64 0])
  have BW := Lib.hid (balloc w (.cells #[.slice none 0 0, .int .i64 0, .int .i64 0] 41))
  go_enter Try.func71, Try.ntmps71
  go_wp2_with fail
  refine (refFlat0_any _).mono ?_
  rintro e w1 ⟨s0, er0, A, m, d, ⟨rfl, rfl⟩, hmd, rfl, hI, hA, hb⟩
  have hs0 := (RB.out.below hb RB.out.lt).lt
  have ZB := Lib.hid (Blk.new w1 41 #[.slice A m d, .int .i64 cvZ.per, .int .i64 cvZ.inc])
  have IZ := Lib.hid (hI.alloc' (.cells #[.slice A m d, .int .i64 cvZ.per, .int .i64 cvZ.inc] 41))
  have hm1 : m ≤ 1 := by have h2 : cvZ.vals.length = m := hI.1; rw [← h2]; exact Nat.le_refl _
  have OZ := Lib.hid (show 0 < m → ∀ b off s, A = some ⟨b, off, s⟩ → b ≠ w1.heap.size from fun hm b off s e => by
    obtain ⟨b', off', e', hb', _⟩ := hI.2 hm
    rw [e] at e'; cases e'; omega)
  have LZ := Lib.hid (show ∀ b off s, A = some ⟨b, off, s⟩ → w.heap.size + 1 ≤ b from fun b off s e => by have := hA b off s e; simp at this; omega)
  replace RB := Lib.hid ((RB.out.below hb RB.out.lt).alloc (.cells #[.slice A m d, .int .i64 cvZ.per, .int .i64 cvZ.inc] 41))
  replace BW := Lib.hid (bthen (bthen BW.out hb) (balloc _ (.cells #[.slice A m d, .int .i64 cvZ.per, .int .i64 cvZ.inc] 41)))
  clear hI hA hb
  go_upto_region 2 with fail
  generalize hwe : w1.alloc (.cells #[.slice A m d, .int .i64 cvZ.per, .int .i64 cvZ.inc] 41) = we at RB BW ZB IZ ⊢
  clear hwe
  generalize w1.heap.size = Z at hs0 ZB OZ ⊢
  go_wp2_with fail
  go_loopg [6] n (fun gg s6 wx => ∃ (k : Nat) (s : Cv) (A : Option Addr) (m d : Nat), k + gg = n ∧ s6 = .int .i64 k ∧ m ≤ 1000 ∧ m ≤ d ∧ Blk wx Z 41 #[.slice A m d, .int .i64 s.per, .int .i64 s.inc] ∧ Ints wx wx.heap.size A m s.vals ∧
    (0 < m → ∀ b off s, A = some ⟨b, off, s⟩ → b ≠ Z) ∧ (∀ b off s, A = some ⟨b, off, s⟩ → w.heap.size + 1 ≤ b) ∧ (∀ r er, TotR s ((xs.drop k).map CR.f) r er → TotR cvZ (xs.map CR.f) r er) ∧ Blk wx w.heap.size 41 #[.slice none 0 0, .int .i64 0, .int .i64 0] ∧ Below w.heap.size w wx)
  case atStart => exact ⟨0, cvZ, A, m, d, by omega, rfl, by omega, hmd, ZB.out, IZ.out, OZ.out, LZ.out, fun r er h => by rw [List.drop_zero] at h; exact h, RB.out, BW.out⟩
  case round =>
    clear ZB IZ OZ LZ RB BW hm1 hmd
    obtain ⟨k, s, A, m, d, hkg, rfl, hm, hmd, hZB, hIZ, hOZ, hLZ, hT, hRB, hBW⟩ := hrel
    have ZB := Lib.hid hZB; have IZ := Lib.hid hIZ; have OZ := Lib.hid hOZ; have LZ := Lib.hid hLZ; have HT := Lib.hid hT; have RB := Lib.hid hRB; have BW := Lib.hid hBW
    clear hZB hIZ hOZ hLZ hT hRB hBW
    by_cases hk : k < n
    · have hki : (k : Int) < n := by omega
      obtain ⟨g, o, hg, hrow⟩ := HROW.out (by omega)
      subst hg
      obtain ⟨x, hx, hix, _, _, _⟩ := (hrow.below BW.out).get (k := k) (by rw [HL.out]; exact hk)
      have hxn := HLEN.out x (List.mem_of_getElem? hx)
      have XE := Lib.hid ((hrow.below BW.out).e hx)
      have HX := Lib.hid hx; have IX := Lib.hid hix
      clear hx hix hrow
      have hwZ : Z < wr.heap.size := ZB.out.lt
      go_upto_region 5 with fail
      go_cut [7, 8] (fun s7 s8 wx => ∃ (V : Nat) (r : Cv) (er : Int) (A2 : Option Addr) (m2 d2 : Nat), s7 = .pointer (some ⟨V, 0, none⟩) ∧ s8 = .int .i64 er ∧ SumS s x.f r er ∧ m2 ≤ d2 ∧ Blk wx V 41 #[.slice A2 m2 d2, .int .i64 r.per, .int .i64 r.inc] ∧ Ints wx wx.heap.size A2 m2 r.vals ∧ (∀ b off s, A2 = some ⟨b, off, s⟩ → wr.heap.size ≤ b) ∧
        Blk wx Z 41 #[.slice A m d, .int .i64 s.per, .int .i64 s.inc] ∧ Blk wx w.heap.size 41 #[.slice none 0 0, .int .i64 0, .int .i64 0] ∧ Below w.heap.size w wx)
      case first =>
        replace ZB := Lib.hid (Blk.drew ZB.out); replace RB := Lib.hid (Blk.drew RB.out); replace BW := Lib.hid (Below.drew BW.out); replace XE := Lib.hid XE.out.drew; replace IZ := Lib.hid (show Ints wr.drew wr.drew.heap.size A m s.vals from Ints.drew IZ.out); replace IX := Lib.hid (show Ints wr.drew wr.drew.heap.size x.A x.n x.f.vals from Ints.drew IX.out)
        have hsd : wr.heap.size ≤ wr.drew.heap.size := Nat.le_refl _
        obtain ⟨⟨q0, q1, q2⟩, ⟨k0, k1, k2⟩, hlq⟩ := ZB.out.c3
        obtain ⟨hgl, x0, x1, x2⟩ := XE.out
        refine wp_region_held_drew (S := fun w' => (w'.cell? ⟨Z, 0, none⟩ = some (.slice A m d) ∧ w'.cell? ⟨Z, 1, none⟩ = some (.int .i64 s.per) ∧ w'.cell? ⟨Z, 2, none⟩ = some (.int .i64 s.inc)) ∧ w'.cell? ⟨g, o + k * 3, none⟩ = some (.slice x.A x.n x.c) ∧ w'.cell? ⟨g, o + k * 3 + 1, none⟩ = some (.int .i64 x.f.per) ∧ w'.cell? ⟨g, o + k * 3 + 2, none⟩ = some (.int .i64 x.f.inc)) (by kernel_rfl) ⟨⟨q0, q1, q2⟩, x0, x1, x2⟩ (fun hHeld => ?_)
        generalize hwd : wr.drew = wd at hHeld ZB RB BW XE IZ IX hsd q0 q1 q2 k0 k1 k2 x0 x1 x2 ⊢
        clear hwd
        clear q0 q1 q2 k0 k1 k2 hlq
        clear hgl x0 x1 x2
        obtain ⟨⟨q0, q1, q2⟩, ⟨k0, k1, k2⟩, hlq⟩ := ZB.out.c3
        obtain ⟨hgl, x0, x1, x2⟩ := XE.out
        refine wpAnyH_take (i := 0) (oi := _) (v := ?_) (by simp only [List.getElem?_toArray, List.getElem?_cons_zero]; rfl) (by kernel_rfl) (by kernel_rfl) (by kernel_rfl) (by exact fun _ _ _ h => h) (Or.inl ⟨by rfl, ?_⟩) (by assumption) ?_
        rotate_left 1
        · (intro w hSw; (try dsimp only at hSw); go_simp; try with_reducible rfl)
        all_goals try simp only [Act.put]
        all_goals try simp only [List.setIfInBounds_toArray]
        all_goals try simp only [List.set_cons_succ]
        all_goals try simp only [List.set_cons_zero]
        refine wpAnyH_take (i := 1) (oi := _) (v := ?_) (by simp only [List.getElem?_toArray, List.getElem?_cons_succ, List.getElem?_cons_zero]; rfl) (by kernel_rfl) (by kernel_rfl) (by kernel_rfl) (by exact fun _ _ _ h => h) (Or.inl ⟨by rfl, ?_⟩) (by assumption) ?_
        rotate_left 1
        · (intro w hSw; (try dsimp only at hSw); go_simp; try with_reducible rfl)
        all_goals try simp only [Act.put]
        all_goals try simp only [List.setIfInBounds_toArray]
        all_goals try simp only [List.set_cons_succ]
        all_goals try simp only [List.set_cons_zero]
        refine wpAnyH_take (i := 2) (oi := _) (v := ?_) (by simp only [List.getElem?_toArray, List.getElem?_cons_succ, List.getElem?_cons_zero]; rfl) (by kernel_rfl) (by kernel_rfl) (by kernel_rfl) (by exact fun _ _ _ h => h) (Or.inl ⟨by rfl, ?_⟩) (by assumption) ?_
        rotate_left 1
        · (intro w hSw; (try dsimp only at hSw); go_simp; try with_reducible rfl)
        all_goals try simp only [Act.put]
        all_goals try simp only [List.setIfInBounds_toArray]
        all_goals try simp only [List.set_cons_succ]
        all_goals try simp only [List.set_cons_zero]
        refine wpAnyH_take (i := 3) (oi := _) (v := ?_) (by simp only [List.getElem?_toArray, List.getElem?_cons_succ, List.getElem?_cons_zero]; rfl) (by kernel_rfl) (by kernel_rfl) (by kernel_rfl) (by exact fun _ _ _ h => h) (Or.inl ⟨by rfl, ?_⟩) (by assumption) ?_
        rotate_left 1
        · (intro w hSw; (try dsimp only at hSw); go_simp; try with_reducible rfl)
        all_goals try simp only [Act.put]
        all_goals try simp only [List.setIfInBounds_toArray]
        all_goals try simp only [List.set_cons_succ]
        all_goals try simp only [List.set_cons_zero]
        refine wpAnyH_take (i := 4) (oi := _) (v := ?_) (by simp only [List.getElem?_toArray, List.getElem?_cons_succ, List.getElem?_cons_zero]; rfl) (by kernel_rfl) (by kernel_rfl) (by kernel_rfl) (by exact fun _ _ _ h => h) (Or.inl ⟨by rfl, ?_⟩) (by assumption) ?_
        rotate_left 1
        · (intro w hSw; (try dsimp only at hSw); go_simp; try with_reducible rfl)
        all_goals try simp only [Act.put]
        all_goals try simp only [List.setIfInBounds_toArray]
        all_goals try simp only [List.set_cons_succ]
        all_goals try simp only [List.set_cons_zero]
        refine wpAnyH_ready (rs := [5, 9]) (by kernel_rfl) (by simp) ?_
        refine (AllReadyH.cons (by simp only [List.getElem?_toArray, List.getElem?_cons_succ, List.getElem?_cons_zero]; rfl) (fun K hK => ?_) (AllReadyH.cons (by simp only [List.getElem?_toArray, List.getElem?_cons_succ, List.getElem?_cons_zero]; rfl) (fun K hK => ?_) AllReadyH.nil))
        · rw [if_pos (by rfl)]
          go_simp
          refine (refSum_any A x.A m x.n d x.c s.per s.inc x.f.per x.f.inc s.vals x.f.vals wd (by exact IZ.out) (by exact IX.out) (by omega) (by omega) hmd hxn.2).mono ?_
          rintro e w2 ⟨r, er, A2, m2, d2, hS, hc2, rfl, hI, hA, hb⟩
          have HS := Lib.hid hS; have HC2 := Lib.hid hc2; have I2 := Lib.hid hI
          have LA := Lib.hid (show ∀ b off s, A2 = some ⟨b, off, s⟩ → wr.heap.size ≤ b from fun b off s e => by have := hA b off s e; omega)
          try (have OV := Lib.hid (show 0 < m2 → ∀ b off s, A2 = some ⟨b, off, s⟩ → b ≠ V from fun _ b off s e => by have := hA b off s e; have := VB.out.lt; omega))
          have hsz := hb.size
          replace ZB := Lib.hid (ZB.out.below hb ZB.out.lt); replace RB := Lib.hid (RB.out.below hb RB.out.lt); replace BW := Lib.hid (bthen BW.out hb); replace XE := Lib.hid (XE.out.below hb)
          replace IZ := Lib.hid (IZ.out.ext hb)
          try (replace VB := Lib.hid (VB.out.below hb VB.out.lt))
          clear hS hc2 hI hA hb hHeld
          clear q0 q1 q2 k0 k1 k2 hlq
          clear hgl x0 x1 x2
          obtain ⟨⟨q0, q1, q2⟩, ⟨k0, k1, k2⟩, hlq⟩ := ZB.out.c3
          obtain ⟨hgl, x0, x1, x2⟩ := XE.out
          refine hK.out _ _ (by exact ⟨⟨q0, q1, q2⟩, x0, x1, x2⟩) (fun hHeld => ?_)
          clear hK K
          try simp only [Act.put]
          try simp only [List.setIfInBounds_toArray]
          try simp only [List.set_cons_succ]
          try simp only [List.set_cons_zero]
          refine wpAnyH_take (i := 6) (oi := _) (v := ?_) (by simp only [List.getElem?_toArray, List.getElem?_cons_succ, List.getElem?_cons_zero]; rfl) (by kernel_rfl) (by kernel_rfl) (by kernel_rfl) (by exact fun _ _ _ h => h) (Or.inl ⟨by rfl, ?_⟩) (by assumption) ?_
          rotate_left 1
          · (intro w hSw; (try dsimp only at hSw); go_simp; try with_reducible rfl)
          all_goals try simp only [Act.put]
          all_goals try simp only [List.setIfInBounds_toArray]
          all_goals try simp only [List.set_cons_succ]
          all_goals try simp only [List.set_cons_zero]
          refine wpAnyH_take (i := 7) (oi := _) (v := ?_) (by simp only [List.getElem?_toArray, List.getElem?_cons_succ, List.getElem?_cons_zero]; rfl) (by kernel_rfl) (by kernel_rfl) (by kernel_rfl) (by exact fun _ _ _ h => h) (Or.inl ⟨by rfl, ?_⟩) (by assumption) ?_
          rotate_left 1
          · (intro w hSw; (try dsimp only at hSw); go_simp; try with_reducible rfl)
          all_goals try simp only [Act.put]
          all_goals try simp only [List.setIfInBounds_toArray]
          all_goals try simp only [List.set_cons_succ]
          all_goals try simp only [List.set_cons_zero]
          refine wpAnyH_take (i := 8) (oi := _) (v := ?_) (by simp only [List.getElem?_toArray, List.getElem?_cons_succ, List.getElem?_cons_zero]; rfl) (by kernel_rfl) (by kernel_rfl) (by kernel_rfl) (by exact fun _ _ _ h => h) (Or.inl ⟨by rfl, ?_⟩) (by assumption) ?_
          rotate_left 1
          · (intro w hSw; (try dsimp only at hSw); go_simp; try with_reducible rfl)
          all_goals try simp only [Act.put]
          all_goals try simp only [List.setIfInBounds_toArray]
          all_goals try simp only [List.set_cons_succ]
          all_goals try simp only [List.set_cons_zero]
          refine wpAnyH_ready (rs := [9]) (by kernel_rfl) (by simp) ?_
          refine (AllReadyH.cons (by simp only [List.getElem?_toArray, List.getElem?_cons_succ, List.getElem?_cons_zero]; rfl) (fun K hK => ?_) AllReadyH.nil)
          rw [if_pos (by rfl)]
          go_simp
          have VB := Lib.hid (Blk.new w2 41 #[.slice none 0 0, .int .i64 0, .int .i64 0])
          have hZV : Z < w2.heap.size := ZB.out.lt
          have hGV : g < w2.heap.size := XE.out.lt
          have hsv : w2.heap.size < (w2.alloc (.cells #[.slice none 0 0, .int .i64 0, .int .i64 0] 41)).heap.size := by rw [World.size_alloc]; omega
          try (have OV := Lib.hid (show 0 < m2 → ∀ b off s, A2 = some ⟨b, off, s⟩ → b ≠ w2.heap.size from fun hm b off s e => by
            obtain ⟨b', off', e', hb', _⟩ := I2.out.2 hm
            rw [e] at e'; cases e'; omega))
          try (replace I2 := Lib.hid (I2.out.alloc' (.cells #[.slice none 0 0, .int .i64 0, .int .i64 0] 41)))
          replace ZB := Lib.hid (ZB.out.alloc (.cells #[.slice none 0 0, .int .i64 0, .int .i64 0] 41)); replace RB := Lib.hid (RB.out.alloc (.cells #[.slice none 0 0, .int .i64 0, .int .i64 0] 41)); replace BW := Lib.hid (bthen BW.out (balloc _ (.cells #[.slice none 0 0, .int .i64 0, .int .i64 0] 41))); replace XE := Lib.hid (XE.out.below (balloc _ (.cells #[.slice none 0 0, .int .i64 0, .int .i64 0] 41))); replace IZ := Lib.hid (IZ.out.alloc' (.cells #[.slice none 0 0, .int .i64 0, .int .i64 0] 41)); replace IX := Lib.hid (IX.out.alloc' (.cells #[.slice none 0 0, .int .i64 0, .int .i64 0] 41))
          clear hHeld
          clear q0 q1 q2 k0 k1 k2 hlq
          clear hgl x0 x1 x2
          generalize hzz : w2.alloc (.cells #[.slice none 0 0, .int .i64 0, .int .i64 0] 41) = w3 at *
          clear hzz
          generalize w2.heap.size = V at *
          obtain ⟨⟨q0, q1, q2⟩, ⟨k0, k1, k2⟩, hlq⟩ := ZB.out.c3
          obtain ⟨hgl, x0, x1, x2⟩ := XE.out
          refine hK.out _ _ (by exact ⟨⟨q0, q1, q2⟩, x0, x1, x2⟩) (fun hHeld => ?_)
          clear hK K
          try simp only [Act.put]
          try simp only [List.setIfInBounds_toArray]
          try simp only [List.set_cons_succ]
          try simp only [List.set_cons_zero]
          obtain ⟨⟨v0, v1, v2⟩, ⟨v3, v4, v5⟩, hlv⟩ := VB.out.c3
          refine wpAnyH_ready (rs := [10]) (by kernel_rfl) (by simp) ?_
          refine (AllReadyH.cons (by simp only [List.getElem?_toArray, List.getElem?_cons_succ, List.getElem?_cons_zero]; rfl) (fun K hK => ?_) AllReadyH.nil)
          rw [if_pos (by rfl)]
          go_simp
          have st := Sto.three V w3 (.slice A2 m2 d2) (.int .i64 r.per) (.int .i64 r.inc)
          replace I2 := Lib.hid (I2.out.sto0 st OV.out); replace VB := Lib.hid (VB.out.store3 (.slice A2 m2 d2) (.int .i64 r.per) (.int .i64 r.inc)); replace ZB := Lib.hid (ZB.out.sto st (by omega)); replace RB := Lib.hid (RB.out.sto st (by omega)); replace BW := Lib.hid (bsto BW.out st (by omega)); replace XE := Lib.hid (XE.out.sto st (by omega))
          clear hHeld v0 v1 v2 v3 v4 v5 hlv st
          clear q0 q1 q2 k0 k1 k2 hlq
          clear hgl x0 x1 x2
          obtain ⟨⟨q0, q1, q2⟩, ⟨k0, k1, k2⟩, hlq⟩ := ZB.out.c3
          obtain ⟨hgl, x0, x1, x2⟩ := XE.out
          refine hK.out _ _ (by exact ⟨⟨q0, q1, q2⟩, x0, x1, x2⟩) (fun hHeld => ?_)
          clear hK K
          try simp only [Act.put]
          try simp only [List.setIfInBounds_toArray]
          try simp only [List.set_cons_succ]
          try simp only [List.set_cons_zero]
          refine wpAnyH_take (i := 11) (oi := _) (v := ?_) (by simp only [List.getElem?_toArray, List.getElem?_cons_succ, List.getElem?_cons_zero]; rfl) (by kernel_rfl) (by kernel_rfl) (by kernel_rfl) (by exact fun _ _ _ h => h) (Or.inl ⟨by rfl, ?_⟩) (by assumption) ?_
          rotate_left 1
          · (intro w hSw; (try dsimp only at hSw); go_simp; try with_reducible rfl)
          all_goals try simp only [Act.put]
          all_goals try simp only [List.setIfInBounds_toArray]
          all_goals try simp only [List.set_cons_succ]
          all_goals try simp only [List.set_cons_zero]
          refine wpAnyH_done (by kernel_rfl) ?_ _
          go_wp2_with fail
          go_meet
          exact ⟨V, r, er, A2, m2, d2, rfl, rfl, HS.out, HC2.out, VB.out, I2.out, LA.out, ZB.out, RB.out, BW.out⟩
        · rw [if_pos (by rfl)]
          go_simp
          have VB := Lib.hid (Blk.new wd 41 #[.slice none 0 0, .int .i64 0, .int .i64 0])
          have hZV : Z < wd.heap.size := ZB.out.lt
          have hGV : g < wd.heap.size := XE.out.lt
          have hsv : wd.heap.size < (wd.alloc (.cells #[.slice none 0 0, .int .i64 0, .int .i64 0] 41)).heap.size := by rw [World.size_alloc]; omega
          try (have OV := Lib.hid (show 0 < m2 → ∀ b off s, A2 = some ⟨b, off, s⟩ → b ≠ wd.heap.size from fun hm b off s e => by
            obtain ⟨b', off', e', hb', _⟩ := I2.out.2 hm
            rw [e] at e'; cases e'; omega))
          try (replace I2 := Lib.hid (I2.out.alloc' (.cells #[.slice none 0 0, .int .i64 0, .int .i64 0] 41)))
          replace ZB := Lib.hid (ZB.out.alloc (.cells #[.slice none 0 0, .int .i64 0, .int .i64 0] 41)); replace RB := Lib.hid (RB.out.alloc (.cells #[.slice none 0 0, .int .i64 0, .int .i64 0] 41)); replace BW := Lib.hid (bthen BW.out (balloc _ (.cells #[.slice none 0 0, .int .i64 0, .int .i64 0] 41))); replace XE := Lib.hid (XE.out.below (balloc _ (.cells #[.slice none 0 0, .int .i64 0, .int .i64 0] 41))); replace IZ := Lib.hid (IZ.out.alloc' (.cells #[.slice none 0 0, .int .i64 0, .int .i64 0] 41)); replace IX := Lib.hid (IX.out.alloc' (.cells #[.slice none 0 0, .int .i64 0, .int .i64 0] 41))
          clear hHeld
          clear q0 q1 q2 k0 k1 k2 hlq
          clear hgl x0 x1 x2
          generalize hzz : wd.alloc (.cells #[.slice none 0 0, .int .i64 0, .int .i64 0] 41) = w2 at *
          clear hzz
          generalize wd.heap.size = V at *
          obtain ⟨⟨q0, q1, q2⟩, ⟨k0, k1, k2⟩, hlq⟩ := ZB.out.c3
          obtain ⟨hgl, x0, x1, x2⟩ := XE.out
          refine hK.out _ _ (by exact ⟨⟨q0, q1, q2⟩, x0, x1, x2⟩) (fun hHeld => ?_)
          clear hK K
          try simp only [Act.put]
          try simp only [List.setIfInBounds_toArray]
          try simp only [List.set_cons_succ]
          try simp only [List.set_cons_zero]
          refine wpAnyH_ready (rs := [5]) (by kernel_rfl) (by simp) ?_
          refine (AllReadyH.cons (by simp only [List.getElem?_toArray, List.getElem?_cons_succ, List.getElem?_cons_zero]; rfl) (fun K hK => ?_) AllReadyH.nil)
          rw [if_pos (by rfl)]
          go_simp
          refine (refSum_any A x.A m x.n d x.c s.per s.inc x.f.per x.f.inc s.vals x.f.vals w2 (by exact IZ.out) (by exact IX.out) (by omega) (by omega) hmd hxn.2).mono ?_
          rintro e w3 ⟨r, er, A2, m2, d2, hS, hc2, rfl, hI, hA, hb⟩
          have HS := Lib.hid hS; have HC2 := Lib.hid hc2; have I2 := Lib.hid hI
          have LA := Lib.hid (show ∀ b off s, A2 = some ⟨b, off, s⟩ → wr.heap.size ≤ b from fun b off s e => by have := hA b off s e; omega)
          try (have OV := Lib.hid (show 0 < m2 → ∀ b off s, A2 = some ⟨b, off, s⟩ → b ≠ V from fun _ b off s e => by have := hA b off s e; have := VB.out.lt; omega))
          have hsz := hb.size
          replace ZB := Lib.hid (ZB.out.below hb ZB.out.lt); replace RB := Lib.hid (RB.out.below hb RB.out.lt); replace BW := Lib.hid (bthen BW.out hb); replace XE := Lib.hid (XE.out.below hb)
          replace IZ := Lib.hid (IZ.out.ext hb)
          try (replace VB := Lib.hid (VB.out.below hb VB.out.lt))
          clear hS hc2 hI hA hb hHeld
          clear q0 q1 q2 k0 k1 k2 hlq
          clear hgl x0 x1 x2
          obtain ⟨⟨q0, q1, q2⟩, ⟨k0, k1, k2⟩, hlq⟩ := ZB.out.c3
          obtain ⟨hgl, x0, x1, x2⟩ := XE.out
          refine hK.out _ _ (by exact ⟨⟨q0, q1, q2⟩, x0, x1, x2⟩) (fun hHeld => ?_)
          clear hK K
          try simp only [Act.put]
          try simp only [List.setIfInBounds_toArray]
          try simp only [List.set_cons_succ]
          try simp only [List.set_cons_zero]
          refine wpAnyH_take (i := 6) (oi := _) (v := ?_) (by simp only [List.getElem?_toArray, List.getElem?_cons_succ, List.getElem?_cons_zero]; rfl) (by kernel_rfl) (by kernel_rfl) (by kernel_rfl) (by exact fun _ _ _ h => h) (Or.inl ⟨by rfl, ?_⟩) (by assumption) ?_
          rotate_left 1
          · (intro w hSw; (try dsimp only at hSw); go_simp; try with_reducible rfl)
          all_goals try simp only [Act.put]
          all_goals try simp only [List.setIfInBounds_toArray]
          all_goals try simp only [List.set_cons_succ]
          all_goals try simp only [List.set_cons_zero]
          refine wpAnyH_take (i := 7) (oi := _) (v := ?_) (by simp only [List.getElem?_toArray, List.getElem?_cons_succ, List.getElem?_cons_zero]; rfl) (by kernel_rfl) (by kernel_rfl) (by kernel_rfl) (by exact fun _ _ _ h => h) (Or.inl ⟨by rfl, ?_⟩) (by assumption) ?_
          rotate_left 1
          · (intro w hSw; (try dsimp only at hSw); go_simp; try with_reducible rfl)
          all_goals try simp only [Act.put]
          all_goals try simp only [List.setIfInBounds_toArray]
          all_goals try simp only [List.set_cons_succ]
          all_goals try simp only [List.set_cons_zero]
          refine wpAnyH_take (i := 8) (oi := _) (v := ?_) (by simp only [List.getElem?_toArray, List.getElem?_cons_succ, List.getElem?_cons_zero]; rfl) (by kernel_rfl) (by kernel_rfl) (by kernel_rfl) (by exact fun _ _ _ h => h) (Or.inl ⟨by rfl, ?_⟩) (by assumption) ?_
          rotate_left 1
          · (intro w hSw; (try dsimp only at hSw); go_simp; try with_reducible rfl)
          all_goals try simp only [Act.put]
          all_goals try simp only [List.setIfInBounds_toArray]
          all_goals try simp only [List.set_cons_succ]
          all_goals try simp only [List.set_cons_zero]
          obtain ⟨⟨v0, v1, v2⟩, ⟨v3, v4, v5⟩, hlv⟩ := VB.out.c3
          refine wpAnyH_ready (rs := [10]) (by kernel_rfl) (by simp) ?_
          refine (AllReadyH.cons (by simp only [List.getElem?_toArray, List.getElem?_cons_succ, List.getElem?_cons_zero]; rfl) (fun K hK => ?_) AllReadyH.nil)
          rw [if_pos (by rfl)]
          go_simp
          have st := Sto.three V w3 (.slice A2 m2 d2) (.int .i64 r.per) (.int .i64 r.inc)
          replace I2 := Lib.hid (I2.out.sto0 st OV.out); replace VB := Lib.hid (VB.out.store3 (.slice A2 m2 d2) (.int .i64 r.per) (.int .i64 r.inc)); replace ZB := Lib.hid (ZB.out.sto st (by omega)); replace RB := Lib.hid (RB.out.sto st (by omega)); replace BW := Lib.hid (bsto BW.out st (by omega)); replace XE := Lib.hid (XE.out.sto st (by omega))
          clear hHeld v0 v1 v2 v3 v4 v5 hlv st
          clear q0 q1 q2 k0 k1 k2 hlq
          clear hgl x0 x1 x2
          obtain ⟨⟨q0, q1, q2⟩, ⟨k0, k1, k2⟩, hlq⟩ := ZB.out.c3
          obtain ⟨hgl, x0, x1, x2⟩ := XE.out
          refine hK.out _ _ (by exact ⟨⟨q0, q1, q2⟩, x0, x1, x2⟩) (fun hHeld => ?_)
          clear hK K
          try simp only [Act.put]
          try simp only [List.setIfInBounds_toArray]
          try simp only [List.set_cons_succ]
          try simp only [List.set_cons_zero]
          refine wpAnyH_take (i := 11) (oi := _) (v := ?_) (by simp only [List.getElem?_toArray, List.getElem?_cons_succ, List.getElem?_cons_zero]; rfl) (by kernel_rfl) (by kernel_rfl) (by kernel_rfl) (by exact fun _ _ _ h => h) (Or.inl ⟨by rfl, ?_⟩) (by assumption) ?_
          rotate_left 1
          · (intro w hSw; (try dsimp only at hSw); go_simp; try with_reducible rfl)
          all_goals try simp only [Act.put]
          all_goals try simp only [List.setIfInBounds_toArray]
          all_goals try simp only [List.set_cons_succ]
          all_goals try simp only [List.set_cons_zero]
          refine wpAnyH_done (by kernel_rfl) ?_ _
          go_wp2_with fail
          go_meet
          exact ⟨V, r, er, A2, m2, d2, rfl, rfl, HS.out, HC2.out, VB.out, I2.out, LA.out, ZB.out, RB.out, BW.out⟩
      case rest =>
        clear ZB IZ OZ LZ RB BW IX XE
        obtain ⟨V, r, er, A2, m2, d2, rfl, rfl, hS, hc2, hVB, hI2, hLA, hZB, hRB, hBW⟩ := hcut
        have VB := Lib.hid hVB; have I2 := Lib.hid hI2; have ZB := Lib.hid hZB; have RB := Lib.hid hRB; have BW := Lib.hid hBW
        have hm2 : m2 ≤ 400 := by
          have h2 : r.vals.length = m2 := hI2.1
          rcases hS with ⟨_, rfl, _⟩ | ⟨_, _, a', b', _, _, ⟨_, rfl, _⟩ | ⟨_, g', hg', ⟨hl', rfl, _⟩ | ⟨_, rfl, _⟩⟩⟩
          · rw [← h2]; decide
          · rw [← h2]; decide
          · rw [← h2]; exact hl'.1
          · rw [← h2]; decide
        have OZ2 := Lib.hid (show 0 < m2 → ∀ b off s, A2 = some ⟨b, off, s⟩ → b ≠ Z from fun _ b off s e => by have := hLA b off s e; omega)
        have LZ2 := Lib.hid (show ∀ b off s, A2 = some ⟨b, off, s⟩ → w.heap.size + 1 ≤ b from fun b off s e => by have := hLA b off s e; omega)
        have hxd : xs.drop k = x :: xs.drop (k + 1) := by
          have h1 : k < xs.length := by rw [HL.out]; exact hk
          rw [List.drop_eq_getElem_cons h1]
          have h2 := HX.out
          rw [List.getElem?_eq_getElem h1] at h2
          injection h2 with h2
          rw [h2]
        have HT2 := Lib.hid (show ∀ q eq, ((er = 0 ∧ TotR r ((xs.drop (k + 1)).map CR.f) q eq) ∨ (er ≠ 0 ∧ q = Cv.none ∧ eq = er)) → TotR cvZ (xs.map CR.f) q eq from fun q eq h => HT.out q eq (by
          rw [hxd, List.map_cons]
          exact ⟨r, er, hS, h⟩))
        clear hS hVB hI2 hLA hZB hRB hBW HT hxd
        by_cases he : er = 0
        · subst he
          have HT3 := Lib.hid (fun q eq h => HT2.out q eq (.inl ⟨rfl, h⟩))
          clear HT2
          obtain ⟨⟨v0, v1, v2⟩, ⟨v3, v4, v5⟩, hlv⟩ := VB.out.c3
          obtain ⟨⟨q0, q1, q2⟩, ⟨k0, k1, k2⟩, hlq⟩ := ZB.out.c3
          go_upto_region 4 with fail
          have st := fun w' => Sto.three Z w' (.slice A2 m2 d2) (.int .i64 r.per) (.int .i64 r.inc)
          have I3 := Lib.hid (I2.out.sto0 (st _) OZ2.out)
          have ZB3 := Lib.hid (ZB.out.store3 (.slice A2 m2 d2) (.int .i64 r.per) (.int .i64 r.inc))
          have RB3 := Lib.hid (RB.out.sto (st _) (by omega))
          have BW3 := Lib.hid (bsto BW.out (st _) (by omega))
          clear v0 v1 v2 v3 v4 v5 hlv
          clear q0 q1 q2 k0 k1 k2 hlq
          go_wp2_with fail
          go_roundg (gk - 1)
          case measure => omega
          case rel => exact ⟨k + 1, r, A2, m2, d2, by omega, by go_num, by omega, hc2, ZB3.out, I3.out, OZ2.out, LZ2.out, HT3.out, RB3.out, BW3.out⟩
        · have g1 : (er != 0) = true := by simpa using he
          have FN := Lib.hid (HT2.out Cv.none er (.inr ⟨he, rfl, rfl⟩))
          clear he HT2
          obtain ⟨⟨r0, r1, r2⟩, ⟨y0, y1, y2⟩, hlr⟩ := RB.out.c3
          go_wp2_with fail
          have rb := RB.out.store3 (.slice none 0 0) (.int .i64 0) (.int .i64 0)
          refine bodyPost_ret (v := .tuple #[.agg #[(.slice none 0 0), .int .i64 0, .int .i64 0], .int .i64 er]) (by simp [results, Try.results71, go_sem, rb.cell]) rfl ?_
          exact retS2_none FN.out (bst3 BW.out (by omega) _ _ _)
    · have hkn : k = n := by omega
      subst hkn
      have FN := Lib.hid (HT.out s 0 (by rw [List.drop_eq_nil_of_le (by rw [HL.out]; exact Nat.le_refl _)]; exact ⟨rfl, rfl⟩))
      clear hk hkg HT
      obtain ⟨⟨q0, q1, q2⟩, ⟨k0, k1, k2⟩, hlq⟩ := ZB.out.c3
      obtain ⟨⟨r0, r1, r2⟩, ⟨y0, y1, y2⟩, hlr⟩ := RB.out.c3
      go_wp2_with fail
      have rb := RB.out.store3 (.slice A m d) (.int .i64 s.per) (.int .i64 s.inc)
      refine bodyPost_ret (v := .tuple #[.agg #[.slice A m d, .int .i64 s.per, .int .i64 s.inc], .int .i64 0]) (by simp [results, Try.results71, go_sem, rb.cell]) rfl ?_
      exact retS2_store FN.out hmd LZ.out (Nat.le_refl _) (by omega) IZ.out BW.out
end Go.Proofs.Ytmieikfmbnaoaaa
