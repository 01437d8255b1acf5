/- The statement DeviationShifts: the walk. -/
import Derived.Test.YtjlinbmjgijpiaaAwake10
import Derived.Test.YtjlinbmjgijpiaaEnvL2
import Derived.Test.YtjlinbmjgijpiaaRefLater
import Derived.Test.YtjlinbmjgijpiaaRefExc
import Derived.Test.YtjlinbmjgijpiaaShiftLaw
namespace Go.Proofs.Ytjlinbmjgijpiaa
open Go.RowKit
set_option linter.unusedVariables false

/-- what the statement knows of the delay -/
def SH (f g : Cv) (i : Bool) (V A : Int) : Prop := ∃ v a : Nat, V = v ∧ A = a ∧ DelayS f g i v a


set_option maxHeartbeats 4000000 in
set_option maxRecDepth 100000 in
theorem shiftLaw_any (A0 : Option Addr) (n0 c0 : Nat) (L : List Int) (w : World) (hL : Ints w w.heap.size A0 n0 L) (hc0 : n0 ≤ c0) (hn0 : (n0 : Int) ≤ 9223372036854775807) :
    Calls Try.prog 4 #[.slice A0 n0 c0] w fun e w' => e = .returned (.bool true) ∧ Below w.heap.size w w' := by
  go_enter Try.func4, Try.ntmps4
  go_wp2_with fail
  refine (new_any A0 n0 c0 L w hL hc0 hn0).mono ?_
  rintro e w1 ⟨rfl, hS1, hb1⟩
  have E := Lib.hid (EnvL.start hS1 hb1)
  clear hL hS1 hb1
  go_wp2_with fail
  refine (srcCurve2_any w.heap.size 7 w1 (by exact E.out.s) (by omega) (by omega)).mono ?_
  rintro e w2 ⟨f, A, n, c, hD, hcf, rfl, hI, hA, hS, hk⟩
  have hps := E.out.s.lt
  have E := Lib.hid (E.out.kept hS hk)
  have F1 := Lib.hid (show (CR.mk A n c f).In w.heap.size w2 from CR.In.new hI hA hps)
  have HD := Lib.hid (show DrawC 7 f from hD)
  have HNC := Lib.hid hcf
  have hnl : n ≤ 15 := by have h1 := HD.out.len; have h2 : f.vals.length = n := hI.1; omega
  have HFL := Lib.hid (show f.vals.length ≤ 15 from HD.out.len)
  clear hD hI hA hS hk hps hcf
  go_wp2_with fail
  refine (srcCurve2_any w.heap.size 7 w2 (by exact E.out.s) (by omega) (by omega)).mono ?_
  rintro e w3 ⟨g, B, m, d, hD, hcf, rfl, hI, hA, hS, hk⟩
  have hps := E.out.s.lt
  have E := Lib.hid (E.out.kept hS hk)
  have F1 := Lib.hid (F1.out.kept hk)
  have G1 := Lib.hid (show (CR.mk B m d g).In w.heap.size w3 from CR.In.new hI hA hps)
  have HD2 := Lib.hid (show DrawC 7 g from hD)
  have hml : m ≤ 15 := by have h1 := HD2.out.len; have h2 : g.vals.length = m := hI.1; omega
  have HGL := Lib.hid (show g.vals.length = m from hI.1)
  have HFN := Lib.hid (show f.vals.length = n from F1.out.ints.1)
  clear hD hI hA hS hk hps hcf
  have E := Lib.hid (show EnvL w.heap.size w _ [(w3.heap.size, ⟨A, n, c, f⟩)] from E.out.push F1.out)
  have G1 := Lib.hid (G1.out.alloc (.cells #[.slice A n c, .int .i64 f.per, .int .i64 f.inc] 24))
  have E := Lib.hid (show EnvL w.heap.size w ((w3.alloc (.cells #[.slice A n c, .int .i64 f.per, .int .i64 f.inc] 24)).alloc (.cells #[.slice B m d, .int .i64 g.per, .int .i64 g.inc] 24)) [(w3.heap.size, ⟨A, n, c, f⟩), (w3.heap.size + 1, ⟨B, m, d, g⟩)] from by
    have := E.out.push G1.out
    simpa using this)
  clear F1 G1
  go_upto_region 3 with fail
  generalize hwz : (w3.alloc (.cells #[.slice A n c, .int .i64 f.per, .int .i64 f.inc] 24)).alloc (.cells #[.slice B m d, .int .i64 g.per, .int .i64 g.inc] 24) = wz at *
  clear hwz
  generalize hGe : w3.heap.size + 1 = G at *
  generalize hFe : w3.heap.size = F at *
  clear hGe hFe
  obtain ⟨x0, x1, x2, hlx⟩ := (E.out.get 0 rfl).cells
  obtain ⟨y0, y1, y2, hly⟩ := (E.out.get 1 rfl).cells
  go_wp2_with fail
  refine (delay_any A B n m c d f.per f.inc g.per g.inc f.vals g.vals _ (by exact (E.out.get 0 rfl).inn.ints) (by exact (E.out.get 1 rfl).inn.ints) (by omega) (by omega)).mono ?_
  rintro e w7 ⟨i1, V, Av, er1, hE, rfl, hb⟩
  have hE' : er1 = 0 ∧ SH f g i1 V Av := by
    rcases hE with ⟨h, _⟩ | ⟨_, _, _, h0, v1, a1, hv, ha, hS⟩
    · exact absurd (nf_pair HD.out.ok HD2.out.ok (n := 12) (by omega) (by omega) (fun a ha => HD.out.dvd ha) (fun b hb => HD2.out.dvd hb)) (h.not HD.out.ok HD2.out.ok)
    · exact ⟨h0, v1, a1, hv, ha, hS⟩
  obtain ⟨rfl, hSH⟩ := hE'
  have HSH := Lib.hid hSH
  have hV0 : 0 ≤ V := by obtain ⟨v, a, rfl, _⟩ := hSH; omega
  have hAv0 : 0 ≤ Av := by obtain ⟨v, a, _, rfl, _⟩ := hSH; omega
  clear hE hSH
  go_upto_region 6 with fail
  have E0 := E.out.below hb
  have E := Lib.hid (E0.alloc (.cells #[.bool i1, .int .i64 V, .int .i64 Av] 35))
  have D1 := Lib.hid (Blk.new w7 35 #[.bool i1, .int .i64 V, .int .i64 Av])
  have hd1 : w.heap.size < w7.heap.size := E0.s.lt
  generalize hwe : w7.alloc (.cells #[.bool i1, .int .i64 V, .int .i64 Av] 35) = we at *
  clear hwe
  generalize w7.heap.size = d1 at *
  clear hb E0 x0 x1 x2 hlx
  clear y0 y1 y2 hly
  obtain ⟨x0, x1, x2, hlx⟩ := (E.out.get 0 rfl).cells
  obtain ⟨p0, p1, p2⟩ : _ ∧ _ ∧ _ := ⟨D1.out.cell 0, D1.out.cell 1, D1.out.cell 2⟩
  simp at p0 p1 p2
  have hlp := D1.out.lt
  obtain ⟨Mn, hMn⟩ : ∃ Mn : Nat, Mn = min V.toNat 300 := ⟨_, rfl⟩
  have hmn : (if 300 < V then 300 else V) = (Mn : Int) := by rw [hMn]; split <;> omega
  have hMb : Mn ≤ 300 := by omega
  have HMN := Lib.hid (show V ≤ 300 → V ≤ Mn from fun h => by omega)
  clear hMn
  go_cut [8, 9] (fun s8 s9 wx => ∃ (Z D : Nat) (l : Cv) (A6 : Option Addr) (n6 c6 : Nat), s8 = .pointer (some ⟨Z, 0, none⟩) ∧ s9 = .int .i64 0 ∧ Mn ≤ D ∧ D ≤ 319 ∧ l.Ok ∧ (∀ t, l.at t = laterV f D t) ∧ EnvL w.heap.size w wx [(F, ⟨A, n, c, f⟩), (G, ⟨B, m, d, g⟩), (Z, ⟨A6, n6, c6, l⟩)] ∧ Blk wx d1 35 #[.bool i1, .int .i64 V, .int .i64 Av])
  case first =>
    refine wp_region_held_drew (S := (fun w' => w'.cell? ⟨F, 0, none⟩ = some (.slice A n c) ∧ w'.cell? ⟨F, 1, none⟩ = some (.int .i64 f.per) ∧ w'.cell? ⟨F, 2, none⟩ = some (.int .i64 f.inc) ∧ w'.cell? ⟨d1, 1, none⟩ = some (.int .i64 V))) (by kernel_rfl) ⟨x0, x1, x2, p1⟩ (fun hHeld => ?_)
    have E := Lib.hid E.out.drew
    have D1 := Lib.hid (Blk.drew D1.out)
    clear x0 x1 x2 hlx p0 p1 p2 hlp
    generalize we.drew = wd at *
    obtain ⟨x0, x1, x2, hlx⟩ := (E.out.get 0 rfl).cells
    obtain ⟨p0, p1, p2⟩ : _ ∧ _ ∧ _ := ⟨D1.out.cell 0, D1.out.cell 1, D1.out.cell 2⟩
    simp at p0 p1 p2
    have hlp := D1.out.lt
    refine wpAnyH_take (i := 0) (oi := _) (v := ?_) (by simp only [List.getElem?_toArray, List.getElem?_cons_zero]; rfl) (by kernel_rfl) (by kernel_rfl) (by kernel_rfl) (by exact fun _ _ _ h => h) (Or.inl ⟨by rfl, ?_⟩) (by assumption) ?_
    rotate_left 1
    · (intro w hSw; (try dsimp only at hSw); go_simp; try with_reducible rfl)
    all_goals try simp only [Act.put]
    all_goals try simp only [List.setIfInBounds_toArray]
    all_goals try simp only [List.set_cons_succ]
    all_goals try simp only [List.set_cons_zero]
    refine wpAnyH_take (i := 1) (oi := _) (v := ?_) (by simp only [List.getElem?_toArray, List.getElem?_cons_succ, List.getElem?_cons_zero]; rfl) (by kernel_rfl) (by kernel_rfl) (by kernel_rfl) (by exact fun _ _ _ h => h) (Or.inl ⟨by rfl, ?_⟩) (by assumption) ?_
    rotate_left 1
    · (intro w hSw; (try dsimp only at hSw); go_simp; try with_reducible rfl)
    all_goals try simp only [Act.put]
    all_goals try simp only [List.setIfInBounds_toArray]
    all_goals try simp only [List.set_cons_succ]
    all_goals try simp only [List.set_cons_zero]
    refine wpAnyH_take (i := 2) (oi := _) (v := ?_) (by simp only [List.getElem?_toArray, List.getElem?_cons_succ, List.getElem?_cons_zero]; rfl) (by kernel_rfl) (by kernel_rfl) (by kernel_rfl) (by exact fun _ _ _ h => h) (Or.inl ⟨by rfl, ?_⟩) (by assumption) ?_
    rotate_left 1
    · (intro w hSw; (try dsimp only at hSw); go_simp; try with_reducible rfl)
    all_goals try simp only [Act.put]
    all_goals try simp only [List.setIfInBounds_toArray]
    all_goals try simp only [List.set_cons_succ]
    all_goals try simp only [List.set_cons_zero]
    refine wpAnyH_take (i := 3) (oi := _) (v := ?_) (by simp only [List.getElem?_toArray, List.getElem?_cons_succ, List.getElem?_cons_zero]; rfl) (by kernel_rfl) (by kernel_rfl) (by kernel_rfl) (by exact fun _ _ _ h => h) (Or.inl ⟨by rfl, ?_⟩) (by assumption) ?_
    rotate_left 1
    · (intro w hSw; (try dsimp only at hSw); go_simp; try with_reducible rfl)
    all_goals try simp only [Act.put]
    all_goals try simp only [List.setIfInBounds_toArray]
    all_goals try simp only [List.set_cons_succ]
    all_goals try simp only [List.set_cons_zero]
    refine wpAnyH_take (i := 4) (oi := _) (v := ?_) (by simp only [List.getElem?_toArray, List.getElem?_cons_succ, List.getElem?_cons_zero]; rfl) (by kernel_rfl) (by kernel_rfl) (by kernel_rfl) (by exact fun _ _ _ h => h) (Or.inl ⟨by rfl, ?_⟩) (by assumption) ?_
    rotate_left 1
    · (intro w hSw; (try dsimp only at hSw); go_simp; try with_reducible rfl)
    all_goals try simp only [Act.put]
    all_goals try simp only [List.setIfInBounds_toArray]
    all_goals try simp only [List.set_cons_succ]
    all_goals try simp only [List.set_cons_zero]
    refine wpAnyH_ready (rs := [5, 11]) (by kernel_rfl) (by simp) ?_
    refine (AllReadyH.cons (by simp only [List.getElem?_toArray, List.getElem?_cons_succ, List.getElem?_cons_zero]; rfl) (fun K hK => ?_) (AllReadyH.cons (by simp only [List.getElem?_toArray, List.getElem?_cons_succ, List.getElem?_cons_zero]; rfl) (fun K hK => ?_) AllReadyH.nil))
    · rw [if_pos (by rfl)]
      go_simp
      refine (n_any w.heap.size 20 wd (by exact E.out.s) (by omega) (by omega)).mono ?_
      rintro e w5 ⟨z, hz0, hz1, rfl, hS, hk⟩
      obtain ⟨Nz, rfl⟩ := Int.eq_ofNat_of_zero_le hz0
      try (have ZB := Lib.hid (ZB.out.kept (by omega) hk))
      have D1 := Lib.hid (D1.out.kept (by omega) hk)
      have E := Lib.hid (E.out.kept hS hk)
      have hNz : Nz ≤ 19 := by omega
      obtain ⟨D, hDD⟩ : ∃ D, D = Mn + Nz := ⟨_, rfl⟩
      have e8 : IntKind.i64.wrap ((Mn : Int) + (Nz : Int)) = (D : Int) := by rw [hDD, Int.natCast_add]; exact IntWalk.i64_in _ (by omega)
      have hDb : D ≤ 319 := by omega
      have hDm : Mn ≤ D := by omega
      clear hDD
      clear hS hk hHeld hz0 hz1
      clear x0 x1 x2 hlx p0 p1 p2 hlp
      obtain ⟨x0, x1, x2, hlx⟩ := (E.out.get 0 rfl).cells
      obtain ⟨p0, p1, p2⟩ : _ ∧ _ ∧ _ := ⟨D1.out.cell 0, D1.out.cell 1, D1.out.cell 2⟩
      simp at p0 p1 p2
      have hlp := D1.out.lt
      refine hK.out _ _ (by exact ⟨x0, x1, x2, p1⟩) (fun hHeld => ?_)
      clear hK K
      try simp only [Act.put]
      try simp only [List.setIfInBounds_toArray]
      try simp only [List.set_cons_succ]
      try simp only [List.set_cons_zero]
      refine wpAnyH_take (i := 6) (oi := _) (v := ?_) (by simp only [List.getElem?_toArray, List.getElem?_cons_succ, List.getElem?_cons_zero]; rfl) (by kernel_rfl) (by kernel_rfl) (by kernel_rfl) (by exact fun _ _ _ h => h) (Or.inl ⟨by rfl, ?_⟩) (by assumption) ?_
      rotate_left 1
      · (intro w hSw; (try dsimp only at hSw); go_simp; try with_reducible rfl)
      all_goals try simp only [Act.put]
      all_goals try simp only [List.setIfInBounds_toArray]
      all_goals try simp only [List.set_cons_succ]
      all_goals try simp only [List.set_cons_zero]
      refine wpAnyH_ready (rs := [7, 11]) (by kernel_rfl) (by simp) ?_
      refine (AllReadyH.cons (by simp only [List.getElem?_toArray, List.getElem?_cons_succ, List.getElem?_cons_zero]; rfl) (fun K hK => ?_) (AllReadyH.cons (by simp only [List.getElem?_toArray, List.getElem?_cons_succ, List.getElem?_cons_zero]; rfl) (fun K hK => ?_) AllReadyH.nil))
      · rw [if_pos (by rfl)]
        go_simp
        refine (refLater_any A n c f.per f.inc (D : Int) f.vals w5 (by exact (E.out.get 0 rfl).inn.ints) (by omega) HNC.out).mono ?_
        rintro e w6 ⟨l, er, A6, n6, c6, hSS, hc6, rfl, hI, hA, hb⟩
        obtain ⟨rfl, hlo, hlat⟩ := later_made HD.out.ok (by have := HFL.out; omega) hSS
        have hps := E.out.s.lt
        try (have hZl := ZB.out.lt)
        try (have ZB := Lib.hid (ZB.out.below hb ZB.out.lt))
        have E := Lib.hid (E.out.below hb)
        have D1 := Lib.hid (D1.out.below hb D1.out.lt)
        have X6 := Lib.hid (show (CR.mk A6 n6 c6 l).In w.heap.size w6 from CR.In.new hI hA hps)
        try (have XO := Lib.hid (show CR.Off ⟨A6, n6, c6, l⟩ Z from CR.Off.of_ge hA (by omega)))
        have HLO := Lib.hid hlo; have HLAT := Lib.hid hlat
        clear hI hA hb hps hc6 hSS hHeld hlo hlat
        clear x0 x1 x2 hlx p0 p1 p2 hlp
        obtain ⟨x0, x1, x2, hlx⟩ := (E.out.get 0 rfl).cells
        obtain ⟨p0, p1, p2⟩ : _ ∧ _ ∧ _ := ⟨D1.out.cell 0, D1.out.cell 1, D1.out.cell 2⟩
        simp at p0 p1 p2
        have hlp := D1.out.lt
        refine hK.out _ _ (by exact ⟨x0, x1, x2, p1⟩) (fun hHeld => ?_)
        clear hK K
        try simp only [Act.put]
        try simp only [List.setIfInBounds_toArray]
        try simp only [List.set_cons_succ]
        try simp only [List.set_cons_zero]
        refine wpAnyH_take (i := 8) (oi := _) (v := ?_) (by simp only [List.getElem?_toArray, List.getElem?_cons_succ, List.getElem?_cons_zero]; rfl) (by kernel_rfl) (by kernel_rfl) (by kernel_rfl) (by exact fun _ _ _ h => h) (Or.inl ⟨by rfl, ?_⟩) (by assumption) ?_
        rotate_left 1
        · (intro w hSw; (try dsimp only at hSw); go_simp; try with_reducible rfl)
        all_goals try simp only [Act.put]
        all_goals try simp only [List.setIfInBounds_toArray]
        all_goals try simp only [List.set_cons_succ]
        all_goals try simp only [List.set_cons_zero]
        refine wpAnyH_take (i := 9) (oi := _) (v := ?_) (by simp only [List.getElem?_toArray, List.getElem?_cons_succ, List.getElem?_cons_zero]; rfl) (by kernel_rfl) (by kernel_rfl) (by kernel_rfl) (by exact fun _ _ _ h => h) (Or.inl ⟨by rfl, ?_⟩) (by assumption) ?_
        rotate_left 1
        · (intro w hSw; (try dsimp only at hSw); go_simp; try with_reducible rfl)
        all_goals try simp only [Act.put]
        all_goals try simp only [List.setIfInBounds_toArray]
        all_goals try simp only [List.set_cons_succ]
        all_goals try simp only [List.set_cons_zero]
        refine wpAnyH_take (i := 10) (oi := _) (v := ?_) (by simp only [List.getElem?_toArray, List.getElem?_cons_succ, List.getElem?_cons_zero]; rfl) (by kernel_rfl) (by kernel_rfl) (by kernel_rfl) (by exact fun _ _ _ h => h) (Or.inl ⟨by rfl, ?_⟩) (by assumption) ?_
        rotate_left 1
        · (intro w hSw; (try dsimp only at hSw); go_simp; try with_reducible rfl)
        all_goals try simp only [Act.put]
        all_goals try simp only [List.setIfInBounds_toArray]
        all_goals try simp only [List.set_cons_succ]
        all_goals try simp only [List.set_cons_zero]
        refine wpAnyH_ready (rs := [11]) (by kernel_rfl) (by simp) ?_
        refine (AllReadyH.cons (by simp only [List.getElem?_toArray, List.getElem?_cons_succ, List.getElem?_cons_zero]; rfl) (fun K hK => ?_) AllReadyH.nil)
        rw [if_pos (by rfl)]
        go_simp
        have hZp := E.out.s.lt
        have ZB := Lib.hid (Blk.new w6 24 #[.slice none 0 0, .int .i64 0, .int .i64 0])
        have ZA := Lib.hid E.out.apart
        have hdZ := D1.out.lt
        try (have XO := Lib.hid X6.out.off)
        try (have X6 := Lib.hid (X6.out.alloc (.cells #[.slice none 0 0, .int .i64 0, .int .i64 0] 24)))
        have D1 := Lib.hid (D1.out.alloc (.cells #[.slice none 0 0, .int .i64 0, .int .i64 0] 24))
        have E := Lib.hid (E.out.alloc (.cells #[.slice none 0 0, .int .i64 0, .int .i64 0] 24))
        generalize hzz : w6.alloc (.cells #[.slice none 0 0, .int .i64 0, .int .i64 0] 24) = w8 at *
        clear hzz
        generalize w6.heap.size = Z at *
        clear hHeld
        clear x0 x1 x2 hlx p0 p1 p2 hlp
        obtain ⟨x0, x1, x2, hlx⟩ := (E.out.get 0 rfl).cells
        obtain ⟨p0, p1, p2⟩ : _ ∧ _ ∧ _ := ⟨D1.out.cell 0, D1.out.cell 1, D1.out.cell 2⟩
        simp at p0 p1 p2
        have hlp := D1.out.lt
        have hZl := ZB.out.lt
        refine hK.out _ _ (by exact ⟨x0, x1, x2, p1⟩) (fun hHeld => ?_)
        clear hK K
        try simp only [Act.put]
        try simp only [List.setIfInBounds_toArray]
        try simp only [List.set_cons_succ]
        try simp only [List.set_cons_zero]
        have z0 := ZB.out.cell 0; have z1 := ZB.out.cell 1; have z2 := ZB.out.cell 2; have v0 := ZB.out.frozen 0; have v1 := ZB.out.frozen 1; have v2 := ZB.out.frozen 2
        simp at z0 z1 z2
        refine wpAnyH_ready (rs := [12]) (by kernel_rfl) (by simp) ?_
        refine (AllReadyH.cons (by simp only [List.getElem?_toArray, List.getElem?_cons_succ, List.getElem?_cons_zero]; rfl) (fun K hK => ?_) AllReadyH.nil)
        rw [if_pos (by rfl)]
        go_simp
        have E := Lib.hid (E.out.sto ZB.out (by omega) hZp ZA.out X6.out XO.out)
        have D1 := Lib.hid (((D1.out.far (p := ⟨Z, 0, none⟩) (by show d1 ≠ Z; omega) (.slice A6 n6 c6)).far (p := ⟨Z, 1, none⟩) (by show d1 ≠ Z; omega) (.int .i64 l.per)).far (p := ⟨Z, 2, none⟩) (by show d1 ≠ Z; omega) (.int .i64 l.inc))
        dsimp only [List.cons_append, List.nil_append] at E
        clear hHeld z0 z1 z2 v0 v1 v2
        clear x0 x1 x2 hlx p0 p1 p2 hlp
        obtain ⟨x0, x1, x2, hlx⟩ := (E.out.get 0 rfl).cells
        obtain ⟨p0, p1, p2⟩ : _ ∧ _ ∧ _ := ⟨D1.out.cell 0, D1.out.cell 1, D1.out.cell 2⟩
        simp at p0 p1 p2
        have hlp := D1.out.lt
        refine hK.out _ _ (by exact ⟨x0, x1, x2, p1⟩) (fun hHeld => ?_)
        clear hK K
        try simp only [Act.put]
        try simp only [List.setIfInBounds_toArray]
        try simp only [List.set_cons_succ]
        try simp only [List.set_cons_zero]
        refine wpAnyH_take (i := 13) (oi := _) (v := ?_) (by simp only [List.getElem?_toArray, List.getElem?_cons_succ, List.getElem?_cons_zero]; rfl) (by kernel_rfl) (by kernel_rfl) (by kernel_rfl) (by exact fun _ _ _ h => h) (Or.inl ⟨by rfl, ?_⟩) (by assumption) ?_
        rotate_left 1
        · (intro w hSw; (try dsimp only at hSw); go_simp; try with_reducible rfl)
        all_goals try simp only [Act.put]
        all_goals try simp only [List.setIfInBounds_toArray]
        all_goals try simp only [List.set_cons_succ]
        all_goals try simp only [List.set_cons_zero]
        refine wpAnyH_done (by kernel_rfl) ?_ _
        go_wp2_with fail
        go_meet
        exact ⟨Z, D, l, A6, n6, c6, rfl, rfl, hDm, hDb, HLO.out, HLAT.out, E.out, D1.out⟩
      · rw [if_pos (by rfl)]
        go_simp
        have hZp := E.out.s.lt
        have ZB := Lib.hid (Blk.new w5 24 #[.slice none 0 0, .int .i64 0, .int .i64 0])
        have ZA := Lib.hid E.out.apart
        have hdZ := D1.out.lt
        try (have XO := Lib.hid X6.out.off)
        try (have X6 := Lib.hid (X6.out.alloc (.cells #[.slice none 0 0, .int .i64 0, .int .i64 0] 24)))
        have D1 := Lib.hid (D1.out.alloc (.cells #[.slice none 0 0, .int .i64 0, .int .i64 0] 24))
        have E := Lib.hid (E.out.alloc (.cells #[.slice none 0 0, .int .i64 0, .int .i64 0] 24))
        generalize hzz : w5.alloc (.cells #[.slice none 0 0, .int .i64 0, .int .i64 0] 24) = w6 at *
        clear hzz
        generalize w5.heap.size = Z at *
        clear hHeld
        clear x0 x1 x2 hlx p0 p1 p2 hlp
        obtain ⟨x0, x1, x2, hlx⟩ := (E.out.get 0 rfl).cells
        obtain ⟨p0, p1, p2⟩ : _ ∧ _ ∧ _ := ⟨D1.out.cell 0, D1.out.cell 1, D1.out.cell 2⟩
        simp at p0 p1 p2
        have hlp := D1.out.lt
        have hZl := ZB.out.lt
        refine hK.out _ _ (by exact ⟨x0, x1, x2, p1⟩) (fun hHeld => ?_)
        clear hK K
        try simp only [Act.put]
        try simp only [List.setIfInBounds_toArray]
        try simp only [List.set_cons_succ]
        try simp only [List.set_cons_zero]
        refine wpAnyH_ready (rs := [7]) (by kernel_rfl) (by simp) ?_
        refine (AllReadyH.cons (by simp only [List.getElem?_toArray, List.getElem?_cons_succ, List.getElem?_cons_zero]; rfl) (fun K hK => ?_) AllReadyH.nil)
        rw [if_pos (by rfl)]
        go_simp
        refine (refLater_any A n c f.per f.inc (D : Int) f.vals w6 (by exact (E.out.get 0 rfl).inn.ints) (by omega) HNC.out).mono ?_
        rintro e w8 ⟨l, er, A6, n6, c6, hSS, hc6, rfl, hI, hA, hb⟩
        obtain ⟨rfl, hlo, hlat⟩ := later_made HD.out.ok (by have := HFL.out; omega) hSS
        have hps := E.out.s.lt
        try (have hZl := ZB.out.lt)
        try (have ZB := Lib.hid (ZB.out.below hb ZB.out.lt))
        have E := Lib.hid (E.out.below hb)
        have D1 := Lib.hid (D1.out.below hb D1.out.lt)
        have X6 := Lib.hid (show (CR.mk A6 n6 c6 l).In w.heap.size w8 from CR.In.new hI hA hps)
        try (have XO := Lib.hid (show CR.Off ⟨A6, n6, c6, l⟩ Z from CR.Off.of_ge hA (by omega)))
        have HLO := Lib.hid hlo; have HLAT := Lib.hid hlat
        clear hI hA hb hps hc6 hSS hHeld hlo hlat
        clear x0 x1 x2 hlx p0 p1 p2 hlp
        obtain ⟨x0, x1, x2, hlx⟩ := (E.out.get 0 rfl).cells
        obtain ⟨p0, p1, p2⟩ : _ ∧ _ ∧ _ := ⟨D1.out.cell 0, D1.out.cell 1, D1.out.cell 2⟩
        simp at p0 p1 p2
        have hlp := D1.out.lt
        refine hK.out _ _ (by exact ⟨x0, x1, x2, p1⟩) (fun hHeld => ?_)
        clear hK K
        try simp only [Act.put]
        try simp only [List.setIfInBounds_toArray]
        try simp only [List.set_cons_succ]
        try simp only [List.set_cons_zero]
        refine wpAnyH_take (i := 8) (oi := _) (v := ?_) (by simp only [List.getElem?_toArray, List.getElem?_cons_succ, List.getElem?_cons_zero]; rfl) (by kernel_rfl) (by kernel_rfl) (by kernel_rfl) (by exact fun _ _ _ h => h) (Or.inl ⟨by rfl, ?_⟩) (by assumption) ?_
        rotate_left 1
        · (intro w hSw; (try dsimp only at hSw); go_simp; try with_reducible rfl)
        all_goals try simp only [Act.put]
        all_goals try simp only [List.setIfInBounds_toArray]
        all_goals try simp only [List.set_cons_succ]
        all_goals try simp only [List.set_cons_zero]
        refine wpAnyH_take (i := 9) (oi := _) (v := ?_) (by simp only [List.getElem?_toArray, List.getElem?_cons_succ, List.getElem?_cons_zero]; rfl) (by kernel_rfl) (by kernel_rfl) (by kernel_rfl) (by exact fun _ _ _ h => h) (Or.inl ⟨by rfl, ?_⟩) (by assumption) ?_
        rotate_left 1
        · (intro w hSw; (try dsimp only at hSw); go_simp; try with_reducible rfl)
        all_goals try simp only [Act.put]
        all_goals try simp only [List.setIfInBounds_toArray]
        all_goals try simp only [List.set_cons_succ]
        all_goals try simp only [List.set_cons_zero]
        refine wpAnyH_take (i := 10) (oi := _) (v := ?_) (by simp only [List.getElem?_toArray, List.getElem?_cons_succ, List.getElem?_cons_zero]; rfl) (by kernel_rfl) (by kernel_rfl) (by kernel_rfl) (by exact fun _ _ _ h => h) (Or.inl ⟨by rfl, ?_⟩) (by assumption) ?_
        rotate_left 1
        · (intro w hSw; (try dsimp only at hSw); go_simp; try with_reducible rfl)
        all_goals try simp only [Act.put]
        all_goals try simp only [List.setIfInBounds_toArray]
        all_goals try simp only [List.set_cons_succ]
        all_goals try simp only [List.set_cons_zero]
        have z0 := ZB.out.cell 0; have z1 := ZB.out.cell 1; have z2 := ZB.out.cell 2; have v0 := ZB.out.frozen 0; have v1 := ZB.out.frozen 1; have v2 := ZB.out.frozen 2
        simp at z0 z1 z2
        refine wpAnyH_ready (rs := [12]) (by kernel_rfl) (by simp) ?_
        refine (AllReadyH.cons (by simp only [List.getElem?_toArray, List.getElem?_cons_succ, List.getElem?_cons_zero]; rfl) (fun K hK => ?_) AllReadyH.nil)
        rw [if_pos (by rfl)]
        go_simp
        have E := Lib.hid (E.out.sto ZB.out (by omega) hZp ZA.out X6.out XO.out)
        have D1 := Lib.hid (((D1.out.far (p := ⟨Z, 0, none⟩) (by show d1 ≠ Z; omega) (.slice A6 n6 c6)).far (p := ⟨Z, 1, none⟩) (by show d1 ≠ Z; omega) (.int .i64 l.per)).far (p := ⟨Z, 2, none⟩) (by show d1 ≠ Z; omega) (.int .i64 l.inc))
        dsimp only [List.cons_append, List.nil_append] at E
        clear hHeld z0 z1 z2 v0 v1 v2
        clear x0 x1 x2 hlx p0 p1 p2 hlp
        obtain ⟨x0, x1, x2, hlx⟩ := (E.out.get 0 rfl).cells
        obtain ⟨p0, p1, p2⟩ : _ ∧ _ ∧ _ := ⟨D1.out.cell 0, D1.out.cell 1, D1.out.cell 2⟩
        simp at p0 p1 p2
        have hlp := D1.out.lt
        refine hK.out _ _ (by exact ⟨x0, x1, x2, p1⟩) (fun hHeld => ?_)
        clear hK K
        try simp only [Act.put]
        try simp only [List.setIfInBounds_toArray]
        try simp only [List.set_cons_succ]
        try simp only [List.set_cons_zero]
        refine wpAnyH_take (i := 13) (oi := _) (v := ?_) (by simp only [List.getElem?_toArray, List.getElem?_cons_succ, List.getElem?_cons_zero]; rfl) (by kernel_rfl) (by kernel_rfl) (by kernel_rfl) (by exact fun _ _ _ h => h) (Or.inl ⟨by rfl, ?_⟩) (by assumption) ?_
        rotate_left 1
        · (intro w hSw; (try dsimp only at hSw); go_simp; try with_reducible rfl)
        all_goals try simp only [Act.put]
        all_goals try simp only [List.setIfInBounds_toArray]
        all_goals try simp only [List.set_cons_succ]
        all_goals try simp only [List.set_cons_zero]
        refine wpAnyH_done (by kernel_rfl) ?_ _
        go_wp2_with fail
        go_meet
        exact ⟨Z, D, l, A6, n6, c6, rfl, rfl, hDm, hDb, HLO.out, HLAT.out, E.out, D1.out⟩
    · rw [if_pos (by rfl)]
      go_simp
      have hZp := E.out.s.lt
      have ZB := Lib.hid (Blk.new wd 24 #[.slice none 0 0, .int .i64 0, .int .i64 0])
      have ZA := Lib.hid E.out.apart
      have hdZ := D1.out.lt
      try (have XO := Lib.hid X6.out.off)
      try (have X6 := Lib.hid (X6.out.alloc (.cells #[.slice none 0 0, .int .i64 0, .int .i64 0] 24)))
      have D1 := Lib.hid (D1.out.alloc (.cells #[.slice none 0 0, .int .i64 0, .int .i64 0] 24))
      have E := Lib.hid (E.out.alloc (.cells #[.slice none 0 0, .int .i64 0, .int .i64 0] 24))
      generalize hzz : wd.alloc (.cells #[.slice none 0 0, .int .i64 0, .int .i64 0] 24) = w5 at *
      clear hzz
      generalize wd.heap.size = Z at *
      clear hHeld
      clear x0 x1 x2 hlx p0 p1 p2 hlp
      obtain ⟨x0, x1, x2, hlx⟩ := (E.out.get 0 rfl).cells
      obtain ⟨p0, p1, p2⟩ : _ ∧ _ ∧ _ := ⟨D1.out.cell 0, D1.out.cell 1, D1.out.cell 2⟩
      simp at p0 p1 p2
      have hlp := D1.out.lt
      have hZl := ZB.out.lt
      refine hK.out _ _ (by exact ⟨x0, x1, x2, p1⟩) (fun hHeld => ?_)
      clear hK K
      try simp only [Act.put]
      try simp only [List.setIfInBounds_toArray]
      try simp only [List.set_cons_succ]
      try simp only [List.set_cons_zero]
      refine wpAnyH_ready (rs := [5]) (by kernel_rfl) (by simp) ?_
      refine (AllReadyH.cons (by simp only [List.getElem?_toArray, List.getElem?_cons_succ, List.getElem?_cons_zero]; rfl) (fun K hK => ?_) AllReadyH.nil)
      rw [if_pos (by rfl)]
      go_simp
      refine (n_any w.heap.size 20 w5 (by exact E.out.s) (by omega) (by omega)).mono ?_
      rintro e w6 ⟨z, hz0, hz1, rfl, hS, hk⟩
      obtain ⟨Nz, rfl⟩ := Int.eq_ofNat_of_zero_le hz0
      try (have ZB := Lib.hid (ZB.out.kept (by omega) hk))
      have D1 := Lib.hid (D1.out.kept (by omega) hk)
      have E := Lib.hid (E.out.kept hS hk)
      have hNz : Nz ≤ 19 := by omega
      obtain ⟨D, hDD⟩ : ∃ D, D = Mn + Nz := ⟨_, rfl⟩
      have e8 : IntKind.i64.wrap ((Mn : Int) + (Nz : Int)) = (D : Int) := by rw [hDD, Int.natCast_add]; exact IntWalk.i64_in _ (by omega)
      have hDb : D ≤ 319 := by omega
      have hDm : Mn ≤ D := by omega
      clear hDD
      clear hS hk hHeld hz0 hz1
      clear x0 x1 x2 hlx p0 p1 p2 hlp
      obtain ⟨x0, x1, x2, hlx⟩ := (E.out.get 0 rfl).cells
      obtain ⟨p0, p1, p2⟩ : _ ∧ _ ∧ _ := ⟨D1.out.cell 0, D1.out.cell 1, D1.out.cell 2⟩
      simp at p0 p1 p2
      have hlp := D1.out.lt
      refine hK.out _ _ (by exact ⟨x0, x1, x2, p1⟩) (fun hHeld => ?_)
      clear hK K
      try simp only [Act.put]
      try simp only [List.setIfInBounds_toArray]
      try simp only [List.set_cons_succ]
      try simp only [List.set_cons_zero]
      refine wpAnyH_take (i := 6) (oi := _) (v := ?_) (by simp only [List.getElem?_toArray, List.getElem?_cons_succ, List.getElem?_cons_zero]; rfl) (by kernel_rfl) (by kernel_rfl) (by kernel_rfl) (by exact fun _ _ _ h => h) (Or.inl ⟨by rfl, ?_⟩) (by assumption) ?_
      rotate_left 1
      · (intro w hSw; (try dsimp only at hSw); go_simp; try with_reducible rfl)
      all_goals try simp only [Act.put]
      all_goals try simp only [List.setIfInBounds_toArray]
      all_goals try simp only [List.set_cons_succ]
      all_goals try simp only [List.set_cons_zero]
      refine wpAnyH_ready (rs := [7]) (by kernel_rfl) (by simp) ?_
      refine (AllReadyH.cons (by simp only [List.getElem?_toArray, List.getElem?_cons_succ, List.getElem?_cons_zero]; rfl) (fun K hK => ?_) AllReadyH.nil)
      rw [if_pos (by rfl)]
      go_simp
      refine (refLater_any A n c f.per f.inc (D : Int) f.vals w6 (by exact (E.out.get 0 rfl).inn.ints) (by omega) HNC.out).mono ?_
      rintro e w8 ⟨l, er, A6, n6, c6, hSS, hc6, rfl, hI, hA, hb⟩
      obtain ⟨rfl, hlo, hlat⟩ := later_made HD.out.ok (by have := HFL.out; omega) hSS
      have hps := E.out.s.lt
      try (have hZl := ZB.out.lt)
      try (have ZB := Lib.hid (ZB.out.below hb ZB.out.lt))
      have E := Lib.hid (E.out.below hb)
      have D1 := Lib.hid (D1.out.below hb D1.out.lt)
      have X6 := Lib.hid (show (CR.mk A6 n6 c6 l).In w.heap.size w8 from CR.In.new hI hA hps)
      try (have XO := Lib.hid (show CR.Off ⟨A6, n6, c6, l⟩ Z from CR.Off.of_ge hA (by omega)))
      have HLO := Lib.hid hlo; have HLAT := Lib.hid hlat
      clear hI hA hb hps hc6 hSS hHeld hlo hlat
      clear x0 x1 x2 hlx p0 p1 p2 hlp
      obtain ⟨x0, x1, x2, hlx⟩ := (E.out.get 0 rfl).cells
      obtain ⟨p0, p1, p2⟩ : _ ∧ _ ∧ _ := ⟨D1.out.cell 0, D1.out.cell 1, D1.out.cell 2⟩
      simp at p0 p1 p2
      have hlp := D1.out.lt
      refine hK.out _ _ (by exact ⟨x0, x1, x2, p1⟩) (fun hHeld => ?_)
      clear hK K
      try simp only [Act.put]
      try simp only [List.setIfInBounds_toArray]
      try simp only [List.set_cons_succ]
      try simp only [List.set_cons_zero]
      refine wpAnyH_take (i := 8) (oi := _) (v := ?_) (by simp only [List.getElem?_toArray, List.getElem?_cons_succ, List.getElem?_cons_zero]; rfl) (by kernel_rfl) (by kernel_rfl) (by kernel_rfl) (by exact fun _ _ _ h => h) (Or.inl ⟨by rfl, ?_⟩) (by assumption) ?_
      rotate_left 1
      · (intro w hSw; (try dsimp only at hSw); go_simp; try with_reducible rfl)
      all_goals try simp only [Act.put]
      all_goals try simp only [List.setIfInBounds_toArray]
      all_goals try simp only [List.set_cons_succ]
      all_goals try simp only [List.set_cons_zero]
      refine wpAnyH_take (i := 9) (oi := _) (v := ?_) (by simp only [List.getElem?_toArray, List.getElem?_cons_succ, List.getElem?_cons_zero]; rfl) (by kernel_rfl) (by kernel_rfl) (by kernel_rfl) (by exact fun _ _ _ h => h) (Or.inl ⟨by rfl, ?_⟩) (by assumption) ?_
      rotate_left 1
      · (intro w hSw; (try dsimp only at hSw); go_simp; try with_reducible rfl)
      all_goals try simp only [Act.put]
      all_goals try simp only [List.setIfInBounds_toArray]
      all_goals try simp only [List.set_cons_succ]
      all_goals try simp only [List.set_cons_zero]
      refine wpAnyH_take (i := 10) (oi := _) (v := ?_) (by simp only [List.getElem?_toArray, List.getElem?_cons_succ, List.getElem?_cons_zero]; rfl) (by kernel_rfl) (by kernel_rfl) (by kernel_rfl) (by exact fun _ _ _ h => h) (Or.inl ⟨by rfl, ?_⟩) (by assumption) ?_
      rotate_left 1
      · (intro w hSw; (try dsimp only at hSw); go_simp; try with_reducible rfl)
      all_goals try simp only [Act.put]
      all_goals try simp only [List.setIfInBounds_toArray]
      all_goals try simp only [List.set_cons_succ]
      all_goals try simp only [List.set_cons_zero]
      have z0 := ZB.out.cell 0; have z1 := ZB.out.cell 1; have z2 := ZB.out.cell 2; have v0 := ZB.out.frozen 0; have v1 := ZB.out.frozen 1; have v2 := ZB.out.frozen 2
      simp at z0 z1 z2
      refine wpAnyH_ready (rs := [12]) (by kernel_rfl) (by simp) ?_
      refine (AllReadyH.cons (by simp only [List.getElem?_toArray, List.getElem?_cons_succ, List.getElem?_cons_zero]; rfl) (fun K hK => ?_) AllReadyH.nil)
      rw [if_pos (by rfl)]
      go_simp
      have E := Lib.hid (E.out.sto ZB.out (by omega) hZp ZA.out X6.out XO.out)
      have D1 := Lib.hid (((D1.out.far (p := ⟨Z, 0, none⟩) (by show d1 ≠ Z; omega) (.slice A6 n6 c6)).far (p := ⟨Z, 1, none⟩) (by show d1 ≠ Z; omega) (.int .i64 l.per)).far (p := ⟨Z, 2, none⟩) (by show d1 ≠ Z; omega) (.int .i64 l.inc))
      dsimp only [List.cons_append, List.nil_append] at E
      clear hHeld z0 z1 z2 v0 v1 v2
      clear x0 x1 x2 hlx p0 p1 p2 hlp
      obtain ⟨x0, x1, x2, hlx⟩ := (E.out.get 0 rfl).cells
      obtain ⟨p0, p1, p2⟩ : _ ∧ _ ∧ _ := ⟨D1.out.cell 0, D1.out.cell 1, D1.out.cell 2⟩
      simp at p0 p1 p2
      have hlp := D1.out.lt
      refine hK.out _ _ (by exact ⟨x0, x1, x2, p1⟩) (fun hHeld => ?_)
      clear hK K
      try simp only [Act.put]
      try simp only [List.setIfInBounds_toArray]
      try simp only [List.set_cons_succ]
      try simp only [List.set_cons_zero]
      refine wpAnyH_take (i := 13) (oi := _) (v := ?_) (by simp only [List.getElem?_toArray, List.getElem?_cons_succ, List.getElem?_cons_zero]; rfl) (by kernel_rfl) (by kernel_rfl) (by kernel_rfl) (by exact fun _ _ _ h => h) (Or.inl ⟨by rfl, ?_⟩) (by assumption) ?_
      rotate_left 1
      · (intro w hSw; (try dsimp only at hSw); go_simp; try with_reducible rfl)
      all_goals try simp only [Act.put]
      all_goals try simp only [List.setIfInBounds_toArray]
      all_goals try simp only [List.set_cons_succ]
      all_goals try simp only [List.set_cons_zero]
      refine wpAnyH_done (by kernel_rfl) ?_ _
      go_wp2_with fail
      go_meet
      exact ⟨Z, D, l, A6, n6, c6, rfl, rfl, hDm, hDb, HLO.out, HLAT.out, E.out, D1.out⟩
  case rest =>
    obtain ⟨Z, D, l, A6, n6, c6, rfl, rfl, hDm, hDb, hlo, hlat, he, hd⟩ := hcut
    have E := Lib.hid (show EnvL w.heap.size w _ [(F, ⟨A, n, c, f⟩), (G, ⟨B, m, d, g⟩), (Z, ⟨A6, n6, c6, l⟩)] from he)
    have D1 := Lib.hid hd
    have hn6 : n6 ≤ 400 := by have h1 := hlo.n2; have h2 : l.vals.length = n6 := (E.out.get 2 rfl).inn.ints.1; omega
    clear x0 x1 x2 hlx p0 p1 p2 hlp
    clear he hd hmn
    cases i1
    · obtain ⟨v, a, hv, ha, hS⟩ := HSH.out
      have hA1 : Av ≤ 14800 := by rw [ha]; have := hS.at_lt HD.out.ok HD2.out.ok; omega
      by_cases hV : V ≤ 300
      · have hVM := HMN.out hV
        have HAM := Lib.hid (show AtM l g true from .inl ⟨hlo, HD2.out.ok, by simp only [true_iff]; exact shift_le HD.out.ok HD2.out.ok hlo (by omega) hlat (DB.mono HD2.out.ok (DelayS.db (i := false) hS) (by omega))⟩)
        obtain ⟨T, hT⟩ : ∃ T, T = Av + V := ⟨_, rfl⟩
        obtain ⟨T1, hT1⟩ : ∃ T1, T1 = T - 1 := ⟨_, rfl⟩
        obtain ⟨X, hX⟩ : ∃ X, X = f.at Av.toNat := ⟨_, rfl⟩
        obtain ⟨Y, hY⟩ : ∃ Y, Y = g.at T.toNat := ⟨_, rfl⟩
        obtain ⟨Y2, hY2⟩ : ∃ Y2, Y2 = g.at T1.toNat := ⟨_, rfl⟩
        have eA : Av.toNat = a := by omega
        have eT : T.toNat = a + v := by omega
        have hxy : ¬ Y < X := by rw [hX, hY, eA, eT]; exact hS.at_le HD.out.ok HD2.out.ok (by omega)
        have hy2 : 0 < V → Y2 < X := fun h0 => by
          obtain ⟨u, rfl⟩ : ∃ u, v = u + 1 := ⟨v - 1, by omega⟩
          rw [hX, hY2, eA, show T1.toNat = a + u by omega]
          exact hS.at_gt HD.out.ok HD2.out.ok (by omega)
        have HY2 := Lib.hid hy2
        have d11 : decide (Y < X) = false := by simpa using hxy
        have e9 : IntKind.i64.wrap (Av + V) = T := by rw [hT]; exact IntWalk.i64_in _ (by omega)
        have e10 : IntKind.i64.wrap (T - 1) = T1 := by rw [hT1]; exact IntWalk.i64_in _ (by omega)
        have hTb : 0 ≤ T ∧ T ≤ 20000 := by omega
        have hT1b : 0 < V → 0 ≤ T1 ∧ T1 ≤ 20000 := fun h => by omega
        have HT1B := Lib.hid hT1b
        have HX := Lib.hid hX; have HY := Lib.hid hY; have HYY := Lib.hid hY2
        have fp1 := HD.out.ok.p1; have fpn : f.per ≤ (n : Int) := by have := HD.out.ok.pn; rw [HFN.out] at this; exact this
        have fi := HD.out.ok.i1; have fi2 := HD.out.ok.i2
        have gp1 := HD2.out.ok.p1; have gpn : g.per ≤ (m : Int) := by have := HD2.out.ok.pn; rw [HGL.out] at this; exact this
        have gi := HD2.out.ok.i1; have gi2 := HD2.out.ok.i2
        clear hT hT1 hX hY hY2 eA eT hxy hy2 hv ha hS hlo hlat hT1b hVM hDm hDb HMN HSH
        obtain ⟨x0, x1, x2, hlx⟩ := (E.out.get 0 rfl).cells
        obtain ⟨p0, p1, p2⟩ : _ ∧ _ ∧ _ := ⟨D1.out.cell 0, D1.out.cell 1, D1.out.cell 2⟩
        simp at p0 p1 p2
        have hlp := D1.out.lt
        obtain ⟨y0, y1, y2, hly⟩ := (E.out.get 1 rfl).cells
        obtain ⟨l0, l1, l2, hll⟩ := (E.out.get 2 rfl).cells
        go_wp2_with fail
        refine (refAtMost_any A6 B n6 m c6 d l.per l.inc g.per g.inc l.vals g.vals _ (by exact (E.out.get 2 rfl).inn.ints) (by exact (E.out.get 1 rfl).inn.ints) (by omega) (by omega)).mono ?_
        intro e wq hr
        obtain ⟨rfl, hb⟩ := RetM.of HAM.out hr
        clear hr
        have E := Lib.hid (E.out.below hb)
        have D1 := Lib.hid (D1.out.below hb D1.out.lt)
        clear hb
        clear x0 x1 x2 hlx p0 p1 p2 hlp
        clear y0 y1 y2 hly
        clear l0 l1 l2 hll
        obtain ⟨x0, x1, x2, hlx⟩ := (E.out.get 0 rfl).cells
        obtain ⟨p0, p1, p2⟩ : _ ∧ _ ∧ _ := ⟨D1.out.cell 0, D1.out.cell 1, D1.out.cell 2⟩
        simp at p0 p1 p2
        have hlp := D1.out.lt
        obtain ⟨y0, y1, y2, hly⟩ := (E.out.get 1 rfl).cells
        obtain ⟨l0, l1, l2, hll⟩ := (E.out.get 2 rfl).cells
        by_cases hv0 : 0 < V
        · have d15 : decide (0 < V) = true := by simpa using hv0
          have hyy := HY2.out hv0
          have hT1b := HT1B.out hv0
          have d29 : decide (X ≤ Y2) = false := by simp; omega
          go_upto_region 13 with fail
          refine wp_region_held_drew (S := (fun w' => w'.cell? ⟨F, 0, none⟩ = some (.slice A n c) ∧ w'.cell? ⟨F, 1, none⟩ = some (.int .i64 f.per) ∧ w'.cell? ⟨F, 2, none⟩ = some (.int .i64 f.inc) ∧ w'.cell? ⟨G, 0, none⟩ = some (.slice B m d) ∧ w'.cell? ⟨G, 1, none⟩ = some (.int .i64 g.per) ∧ w'.cell? ⟨G, 2, none⟩ = some (.int .i64 g.inc) ∧ w'.cell? ⟨d1, 1, none⟩ = some (.int .i64 V) ∧ w'.cell? ⟨d1, 2, none⟩ = some (.int .i64 Av))) (by kernel_rfl) ⟨x0, x1, x2, y0, y1, y2, p1, p2⟩ (fun hHeld => ?_)
          have E := Lib.hid E.out.drew
          have D1 := Lib.hid (Blk.drew D1.out)
          clear x0 x1 x2 hlx p0 p1 p2 hlp
          clear y0 y1 y2 hly
          clear l0 l1 l2 hll
          generalize wq.drew = wd at *
          obtain ⟨x0, x1, x2, hlx⟩ := (E.out.get 0 rfl).cells
          obtain ⟨p0, p1, p2⟩ : _ ∧ _ ∧ _ := ⟨D1.out.cell 0, D1.out.cell 1, D1.out.cell 2⟩
          simp at p0 p1 p2
          have hlp := D1.out.lt
          obtain ⟨y0, y1, y2, hly⟩ := (E.out.get 1 rfl).cells
          obtain ⟨l0, l1, l2, hll⟩ := (E.out.get 2 rfl).cells
          refine wpAnyH_take (i := 0) (oi := _) (v := ?_) (by simp only [List.getElem?_toArray, List.getElem?_cons_zero]; rfl) (by kernel_rfl) (by kernel_rfl) (by kernel_rfl) (by exact fun _ _ _ h => h) (Or.inl ⟨by rfl, ?_⟩) (by assumption) ?_
          rotate_left 1
          · (intro w hSw; (try dsimp only at hSw); go_simp; try with_reducible rfl)
          all_goals try simp only [Act.put]
          all_goals try simp only [List.setIfInBounds_toArray]
          all_goals try simp only [List.set_cons_succ]
          all_goals try simp only [List.set_cons_zero]
          refine wpAnyH_take (i := 1) (oi := _) (v := ?_) (by simp only [List.getElem?_toArray, List.getElem?_cons_succ, List.getElem?_cons_zero]; rfl) (by kernel_rfl) (by kernel_rfl) (by kernel_rfl) (by exact fun _ _ _ h => h) (Or.inl ⟨by rfl, ?_⟩) (by assumption) ?_
          rotate_left 1
          · (intro w hSw; (try dsimp only at hSw); go_simp; try with_reducible rfl)
          all_goals try simp only [Act.put]
          all_goals try simp only [List.setIfInBounds_toArray]
          all_goals try simp only [List.set_cons_succ]
          all_goals try simp only [List.set_cons_zero]
          refine wpAnyH_take (i := 2) (oi := _) (v := ?_) (by simp only [List.getElem?_toArray, List.getElem?_cons_succ, List.getElem?_cons_zero]; rfl) (by kernel_rfl) (by kernel_rfl) (by kernel_rfl) (by exact fun _ _ _ h => h) (Or.inl ⟨by rfl, ?_⟩) (by assumption) ?_
          rotate_left 1
          · (intro w hSw; (try dsimp only at hSw); go_simp; try with_reducible rfl)
          all_goals try simp only [Act.put]
          all_goals try simp only [List.setIfInBounds_toArray]
          all_goals try simp only [List.set_cons_succ]
          all_goals try simp only [List.set_cons_zero]
          refine wpAnyH_take (i := 4) (oi := _) (v := ?_) (by simp only [List.getElem?_toArray, List.getElem?_cons_succ, List.getElem?_cons_zero]; rfl) (by kernel_rfl) (by kernel_rfl) (by kernel_rfl) (by exact fun _ _ _ h => h) (Or.inl ⟨by rfl, ?_⟩) (by assumption) ?_
          rotate_left 1
          · (intro w hSw; (try dsimp only at hSw); go_simp; try with_reducible rfl)
          all_goals try simp only [Act.put]
          all_goals try simp only [List.setIfInBounds_toArray]
          all_goals try simp only [List.set_cons_succ]
          all_goals try simp only [List.set_cons_zero]
          refine wpAnyH_take (i := 5) (oi := _) (v := ?_) (by simp only [List.getElem?_toArray, List.getElem?_cons_succ, List.getElem?_cons_zero]; rfl) (by kernel_rfl) (by kernel_rfl) (by kernel_rfl) (by exact fun _ _ _ h => h) (Or.inl ⟨by rfl, ?_⟩) (by assumption) ?_
          rotate_left 1
          · (intro w hSw; (try dsimp only at hSw); go_simp; try with_reducible rfl)
          all_goals try simp only [Act.put]
          all_goals try simp only [List.setIfInBounds_toArray]
          all_goals try simp only [List.set_cons_succ]
          all_goals try simp only [List.set_cons_zero]
          refine wpAnyH_take (i := 6) (oi := _) (v := ?_) (by simp only [List.getElem?_toArray, List.getElem?_cons_succ, List.getElem?_cons_zero]; rfl) (by kernel_rfl) (by kernel_rfl) (by kernel_rfl) (by exact fun _ _ _ h => h) (Or.inl ⟨by rfl, ?_⟩) (by assumption) ?_
          rotate_left 1
          · (intro w hSw; (try dsimp only at hSw); go_simp; try with_reducible rfl)
          all_goals try simp only [Act.put]
          all_goals try simp only [List.setIfInBounds_toArray]
          all_goals try simp only [List.set_cons_succ]
          all_goals try simp only [List.set_cons_zero]
          refine wpAnyH_take (i := 7) (oi := _) (v := ?_) (by simp only [List.getElem?_toArray, List.getElem?_cons_succ, List.getElem?_cons_zero]; rfl) (by kernel_rfl) (by kernel_rfl) (by kernel_rfl) (by exact fun _ _ _ h => h) (Or.inl ⟨by rfl, ?_⟩) (by assumption) ?_
          rotate_left 1
          · (intro w hSw; (try dsimp only at hSw); go_simp; try with_reducible rfl)
          all_goals try simp only [Act.put]
          all_goals try simp only [List.setIfInBounds_toArray]
          all_goals try simp only [List.set_cons_succ]
          all_goals try simp only [List.set_cons_zero]
          refine wpAnyH_take (i := 8) (oi := _) (v := ?_) (by simp only [List.getElem?_toArray, List.getElem?_cons_succ, List.getElem?_cons_zero]; rfl) (by kernel_rfl) (by kernel_rfl) (by kernel_rfl) (by exact fun _ _ _ h => h) (Or.inl ⟨by rfl, ?_⟩) (by assumption) ?_
          rotate_left 1
          · (intro w hSw; (try dsimp only at hSw); go_simp; try with_reducible rfl)
          all_goals try simp only [Act.put]
          all_goals try simp only [List.setIfInBounds_toArray]
          all_goals try simp only [List.set_cons_succ]
          all_goals try simp only [List.set_cons_zero]
          refine wpAnyH_take (i := 9) (oi := _) (v := ?_) (by simp only [List.getElem?_toArray, List.getElem?_cons_succ, List.getElem?_cons_zero]; rfl) (by kernel_rfl) (by kernel_rfl) (by kernel_rfl) (by exact fun _ _ _ h => h) (Or.inl ⟨by rfl, ?_⟩) (by assumption) ?_
          rotate_left 1
          · (intro w hSw; (try dsimp only at hSw); go_simp; try with_reducible rfl)
          all_goals try simp only [Act.put]
          all_goals try simp only [List.setIfInBounds_toArray]
          all_goals try simp only [List.set_cons_succ]
          all_goals try simp only [List.set_cons_zero]
          refine wpAnyH_ready (rs := [3]) (by kernel_rfl) (by simp) ?_
          refine (AllReadyH.cons (by simp only [List.getElem?_toArray, List.getElem?_cons_succ, List.getElem?_cons_zero]; rfl) (fun K hK => ?_) AllReadyH.nil)
          rw [if_pos (by rfl)]
          go_simp
          refine (refAt_any A n c f.per f.inc Av f.vals _ (by exact (E.out.get 0 rfl).inn.ints) (by omega) (by omega) (by omega) (by omega) (by omega) HD.out.ok.nn (by omega) (by omega)).mono ?_
          rw [show Cv.at ⟨f.vals, f.per, f.inc⟩ (Av).toNat = X from HX.out.symm]
          rintro e wa ⟨rfl, hb⟩
          clear hHeld
          have E := Lib.hid (E.out.below hb)
          have D1 := Lib.hid (D1.out.below hb D1.out.lt)
          clear hb
          clear x0 x1 x2 hlx p0 p1 p2 hlp
          clear y0 y1 y2 hly
          clear l0 l1 l2 hll
          obtain ⟨x0, x1, x2, hlx⟩ := (E.out.get 0 rfl).cells
          obtain ⟨p0, p1, p2⟩ : _ ∧ _ ∧ _ := ⟨D1.out.cell 0, D1.out.cell 1, D1.out.cell 2⟩
          simp at p0 p1 p2
          have hlp := D1.out.lt
          obtain ⟨y0, y1, y2, hly⟩ := (E.out.get 1 rfl).cells
          obtain ⟨l0, l1, l2, hll⟩ := (E.out.get 2 rfl).cells
          refine hK.out _ _ (by exact ⟨x0, x1, x2, y0, y1, y2, p1, p2⟩) (fun hHeld => ?_)
          clear hK K
          try simp only [Act.put]
          try simp only [List.setIfInBounds_toArray]
          try simp only [List.set_cons_succ]
          try simp only [List.set_cons_zero]
          refine wpAnyH_ready (rs := [10]) (by kernel_rfl) (by simp) ?_
          refine (AllReadyH.cons (by simp only [List.getElem?_toArray, List.getElem?_cons_succ, List.getElem?_cons_zero]; rfl) (fun K hK => ?_) AllReadyH.nil)
          rw [if_pos (by rfl)]
          go_simp
          refine (refAt_any B m d g.per g.inc T g.vals _ (by exact (E.out.get 1 rfl).inn.ints) (by omega) (by omega) (by omega) (by omega) (by omega) HD2.out.ok.nn (by omega) (by omega)).mono ?_
          rw [show Cv.at ⟨g.vals, g.per, g.inc⟩ (T).toNat = Y from HY.out.symm]
          rintro e wb ⟨rfl, hb⟩
          clear hHeld
          have E := Lib.hid (E.out.below hb)
          have D1 := Lib.hid (D1.out.below hb D1.out.lt)
          clear hb
          clear x0 x1 x2 hlx p0 p1 p2 hlp
          clear y0 y1 y2 hly
          clear l0 l1 l2 hll
          obtain ⟨x0, x1, x2, hlx⟩ := (E.out.get 0 rfl).cells
          obtain ⟨p0, p1, p2⟩ : _ ∧ _ ∧ _ := ⟨D1.out.cell 0, D1.out.cell 1, D1.out.cell 2⟩
          simp at p0 p1 p2
          have hlp := D1.out.lt
          obtain ⟨y0, y1, y2, hly⟩ := (E.out.get 1 rfl).cells
          obtain ⟨l0, l1, l2, hll⟩ := (E.out.get 2 rfl).cells
          refine hK.out _ _ (by exact ⟨x0, x1, x2, y0, y1, y2, p1, p2⟩) (fun hHeld => ?_)
          clear hK K
          try simp only [Act.put]
          try simp only [List.setIfInBounds_toArray]
          try simp only [List.set_cons_succ]
          try simp only [List.set_cons_zero]
          refine wpAnyH_take (i := 11) (oi := _) (v := ?_) (by simp only [List.getElem?_toArray, List.getElem?_cons_succ, List.getElem?_cons_zero]; rfl) (by kernel_rfl) (by kernel_rfl) (by kernel_rfl) (by exact fun _ _ _ h => h) (Or.inl ⟨by rfl, ?_⟩) (by assumption) ?_
          rotate_left 1
          · (intro w hSw; (try dsimp only at hSw); go_simp; try with_reducible rfl)
          all_goals try simp only [Act.put]
          all_goals try simp only [List.setIfInBounds_toArray]
          all_goals try simp only [List.set_cons_succ]
          all_goals try simp only [List.set_cons_zero]
          refine wpAnyH_take (i := 12) (oi := _) (v := ?_) (by simp only [List.getElem?_toArray, List.getElem?_cons_succ, List.getElem?_cons_zero]; rfl) (by kernel_rfl) (by kernel_rfl) (by kernel_rfl) (by exact fun _ _ _ h => h) (Or.inl ⟨by rfl, ?_⟩) (by assumption) ?_
          rotate_left 1
          · (intro w hSw; (try dsimp only at hSw); go_simp; try with_reducible rfl)
          all_goals try simp only [Act.put]
          all_goals try simp only [List.setIfInBounds_toArray]
          all_goals try simp only [List.set_cons_succ]
          all_goals try simp only [List.set_cons_zero]
          refine wpAnyH_take (i := 13) (oi := _) (v := ?_) (by simp only [List.getElem?_toArray, List.getElem?_cons_succ, List.getElem?_cons_zero]; rfl) (by kernel_rfl) (by kernel_rfl) (by kernel_rfl) (by exact fun _ _ _ h => h) (Or.inl ⟨by rfl, ?_⟩) (by assumption) ?_
          rotate_left 1
          · (intro w hSw; (try dsimp only at hSw); go_simp; try with_reducible rfl)
          all_goals try simp only [Act.put]
          all_goals try simp only [List.setIfInBounds_toArray]
          all_goals try simp only [List.set_cons_succ]
          all_goals try simp only [List.set_cons_zero]
          refine wpAnyH_take (i := 14) (oi := _) (v := ?_) (by simp only [List.getElem?_toArray, List.getElem?_cons_succ, List.getElem?_cons_zero]; rfl) (by kernel_rfl) (by kernel_rfl) (by kernel_rfl) (by exact fun _ _ _ h => h) (Or.inl ⟨by rfl, ?_⟩) (by assumption) ?_
          rotate_left 1
          · (intro w hSw; (try dsimp only at hSw); go_simp; try with_reducible rfl)
          all_goals try simp only [Act.put]
          all_goals try simp only [List.setIfInBounds_toArray]
          all_goals try simp only [List.set_cons_succ]
          all_goals try simp only [List.set_cons_zero]
          refine wpAnyH_take (i := 15) (oi := _) (v := ?_) (by simp only [List.getElem?_toArray, List.getElem?_cons_succ, List.getElem?_cons_zero]; rfl) (by kernel_rfl) (by kernel_rfl) (by kernel_rfl) (by exact fun _ _ _ h => h) (Or.inl ⟨by rfl, ?_⟩) (by assumption) ?_
          rotate_left 1
          · (intro w hSw; (try dsimp only at hSw); go_simp; try with_reducible rfl)
          all_goals try simp only [Act.put]
          all_goals try simp only [List.setIfInBounds_toArray]
          all_goals try simp only [List.set_cons_succ]
          all_goals try simp only [List.set_cons_zero]
          refine wpAnyH_take (i := 16) (oi := _) (v := ?_) (by simp only [List.getElem?_toArray, List.getElem?_cons_succ, List.getElem?_cons_zero]; rfl) (by kernel_rfl) (by kernel_rfl) (by kernel_rfl) (by exact fun _ _ _ h => h) (Or.inl ⟨by rfl, ?_⟩) (by assumption) ?_
          rotate_left 1
          · (intro w hSw; (try dsimp only at hSw); go_simp; try with_reducible rfl)
          all_goals try simp only [Act.put]
          all_goals try simp only [List.setIfInBounds_toArray]
          all_goals try simp only [List.set_cons_succ]
          all_goals try simp only [List.set_cons_zero]
          refine wpAnyH_take (i := 17) (oi := _) (v := ?_) (by simp only [List.getElem?_toArray, List.getElem?_cons_succ, List.getElem?_cons_zero]; rfl) (by kernel_rfl) (by kernel_rfl) (by kernel_rfl) (by exact fun _ _ _ h => h) (Or.inl ⟨by rfl, ?_⟩) (by assumption) ?_
          rotate_left 1
          · (intro w hSw; (try dsimp only at hSw); go_simp; try with_reducible rfl)
          all_goals try simp only [Act.put]
          all_goals try simp only [List.setIfInBounds_toArray]
          all_goals try simp only [List.set_cons_succ]
          all_goals try simp only [List.set_cons_zero]
          refine wpAnyH_take (i := 18) (oi := _) (v := ?_) (by simp only [List.getElem?_toArray, List.getElem?_cons_succ, List.getElem?_cons_zero]; rfl) (by kernel_rfl) (by kernel_rfl) (by kernel_rfl) (by exact fun _ _ _ h => h) (Or.inl ⟨by rfl, ?_⟩) (by assumption) ?_
          rotate_left 1
          · (intro w hSw; (try dsimp only at hSw); go_simp; try with_reducible rfl)
          all_goals try simp only [Act.put]
          all_goals try simp only [List.setIfInBounds_toArray]
          all_goals try simp only [List.set_cons_succ]
          all_goals try simp only [List.set_cons_zero]
          refine wpAnyH_take (i := 19) (oi := _) (v := ?_) (by simp only [List.getElem?_toArray, List.getElem?_cons_succ, List.getElem?_cons_zero]; rfl) (by kernel_rfl) (by kernel_rfl) (by kernel_rfl) (by exact fun _ _ _ h => h) (Or.inl ⟨by rfl, ?_⟩) (by assumption) ?_
          rotate_left 1
          · (intro w hSw; (try dsimp only at hSw); go_simp; try with_reducible rfl)
          all_goals try simp only [Act.put]
          all_goals try simp only [List.setIfInBounds_toArray]
          all_goals try simp only [List.set_cons_succ]
          all_goals try simp only [List.set_cons_zero]
          refine wpAnyH_take (i := 21) (oi := _) (v := ?_) (by simp only [List.getElem?_toArray, List.getElem?_cons_succ, List.getElem?_cons_zero]; rfl) (by kernel_rfl) (by kernel_rfl) (by kernel_rfl) (by exact fun _ _ _ h => h) (Or.inl ⟨by rfl, ?_⟩) (by assumption) ?_
          rotate_left 1
          · (intro w hSw; (try dsimp only at hSw); go_simp; try with_reducible rfl)
          all_goals try simp only [Act.put]
          all_goals try simp only [List.setIfInBounds_toArray]
          all_goals try simp only [List.set_cons_succ]
          all_goals try simp only [List.set_cons_zero]
          refine wpAnyH_take (i := 22) (oi := _) (v := ?_) (by simp only [List.getElem?_toArray, List.getElem?_cons_succ, List.getElem?_cons_zero]; rfl) (by kernel_rfl) (by kernel_rfl) (by kernel_rfl) (by exact fun _ _ _ h => h) (Or.inl ⟨by rfl, ?_⟩) (by assumption) ?_
          rotate_left 1
          · (intro w hSw; (try dsimp only at hSw); go_simp; try with_reducible rfl)
          all_goals try simp only [Act.put]
          all_goals try simp only [List.setIfInBounds_toArray]
          all_goals try simp only [List.set_cons_succ]
          all_goals try simp only [List.set_cons_zero]
          refine wpAnyH_take (i := 23) (oi := _) (v := ?_) (by simp only [List.getElem?_toArray, List.getElem?_cons_succ, List.getElem?_cons_zero]; rfl) (by kernel_rfl) (by kernel_rfl) (by kernel_rfl) (by exact fun _ _ _ h => h) (Or.inl ⟨by rfl, ?_⟩) (by assumption) ?_
          rotate_left 1
          · (intro w hSw; (try dsimp only at hSw); go_simp; try with_reducible rfl)
          all_goals try simp only [Act.put]
          all_goals try simp only [List.setIfInBounds_toArray]
          all_goals try simp only [List.set_cons_succ]
          all_goals try simp only [List.set_cons_zero]
          refine wpAnyH_take (i := 24) (oi := _) (v := ?_) (by simp only [List.getElem?_toArray, List.getElem?_cons_succ, List.getElem?_cons_zero]; rfl) (by kernel_rfl) (by kernel_rfl) (by kernel_rfl) (by exact fun _ _ _ h => h) (Or.inl ⟨by rfl, ?_⟩) (by assumption) ?_
          rotate_left 1
          · (intro w hSw; (try dsimp only at hSw); go_simp; try with_reducible rfl)
          all_goals try simp only [Act.put]
          all_goals try simp only [List.setIfInBounds_toArray]
          all_goals try simp only [List.set_cons_succ]
          all_goals try simp only [List.set_cons_zero]
          refine wpAnyH_take (i := 25) (oi := _) (v := ?_) (by simp only [List.getElem?_toArray, List.getElem?_cons_succ, List.getElem?_cons_zero]; rfl) (by kernel_rfl) (by kernel_rfl) (by kernel_rfl) (by exact fun _ _ _ h => h) (Or.inl ⟨by rfl, ?_⟩) (by assumption) ?_
          rotate_left 1
          · (intro w hSw; (try dsimp only at hSw); go_simp; try with_reducible rfl)
          all_goals try simp only [Act.put]
          all_goals try simp only [List.setIfInBounds_toArray]
          all_goals try simp only [List.set_cons_succ]
          all_goals try simp only [List.set_cons_zero]
          refine wpAnyH_take (i := 26) (oi := _) (v := ?_) (by simp only [List.getElem?_toArray, List.getElem?_cons_succ, List.getElem?_cons_zero]; rfl) (by kernel_rfl) (by kernel_rfl) (by kernel_rfl) (by exact fun _ _ _ h => h) (Or.inl ⟨by rfl, ?_⟩) (by assumption) ?_
          rotate_left 1
          · (intro w hSw; (try dsimp only at hSw); go_simp; try with_reducible rfl)
          all_goals try simp only [Act.put]
          all_goals try simp only [List.setIfInBounds_toArray]
          all_goals try simp only [List.set_cons_succ]
          all_goals try simp only [List.set_cons_zero]
          refine wpAnyH_take (i := 27) (oi := _) (v := ?_) (by simp only [List.getElem?_toArray, List.getElem?_cons_succ, List.getElem?_cons_zero]; rfl) (by kernel_rfl) (by kernel_rfl) (by kernel_rfl) (by exact fun _ _ _ h => h) (Or.inl ⟨by rfl, ?_⟩) (by assumption) ?_
          rotate_left 1
          · (intro w hSw; (try dsimp only at hSw); go_simp; try with_reducible rfl)
          all_goals try simp only [Act.put]
          all_goals try simp only [List.setIfInBounds_toArray]
          all_goals try simp only [List.set_cons_succ]
          all_goals try simp only [List.set_cons_zero]
          refine wpAnyH_ready (rs := [20]) (by kernel_rfl) (by simp) ?_
          refine (AllReadyH.cons (by simp only [List.getElem?_toArray, List.getElem?_cons_succ, List.getElem?_cons_zero]; rfl) (fun K hK => ?_) AllReadyH.nil)
          rw [if_pos (by rfl)]
          go_simp
          refine (refAt_any A n c f.per f.inc Av f.vals _ (by exact (E.out.get 0 rfl).inn.ints) (by omega) (by omega) (by omega) (by omega) (by omega) HD.out.ok.nn (by omega) (by omega)).mono ?_
          rw [show Cv.at ⟨f.vals, f.per, f.inc⟩ (Av).toNat = X from HX.out.symm]
          rintro e wc2 ⟨rfl, hb⟩
          clear hHeld
          have E := Lib.hid (E.out.below hb)
          have D1 := Lib.hid (D1.out.below hb D1.out.lt)
          clear hb
          clear x0 x1 x2 hlx p0 p1 p2 hlp
          clear y0 y1 y2 hly
          clear l0 l1 l2 hll
          obtain ⟨x0, x1, x2, hlx⟩ := (E.out.get 0 rfl).cells
          obtain ⟨p0, p1, p2⟩ : _ ∧ _ ∧ _ := ⟨D1.out.cell 0, D1.out.cell 1, D1.out.cell 2⟩
          simp at p0 p1 p2
          have hlp := D1.out.lt
          obtain ⟨y0, y1, y2, hly⟩ := (E.out.get 1 rfl).cells
          obtain ⟨l0, l1, l2, hll⟩ := (E.out.get 2 rfl).cells
          refine hK.out _ _ (by exact ⟨x0, x1, x2, y0, y1, y2, p1, p2⟩) (fun hHeld => ?_)
          clear hK K
          try simp only [Act.put]
          try simp only [List.setIfInBounds_toArray]
          try simp only [List.set_cons_succ]
          try simp only [List.set_cons_zero]
          refine wpAnyH_ready (rs := [28]) (by kernel_rfl) (by simp) ?_
          refine (AllReadyH.cons (by simp only [List.getElem?_toArray, List.getElem?_cons_succ, List.getElem?_cons_zero]; rfl) (fun K hK => ?_) AllReadyH.nil)
          rw [if_pos (by rfl)]
          go_simp
          refine (refAt_any B m d g.per g.inc T1 g.vals _ (by exact (E.out.get 1 rfl).inn.ints) (by omega) (by omega) (by omega) (by omega) (by omega) HD2.out.ok.nn (by omega) (by omega)).mono ?_
          rw [show Cv.at ⟨g.vals, g.per, g.inc⟩ (T1).toNat = Y2 from HYY.out.symm]
          rintro e wd2 ⟨rfl, hb⟩
          clear hHeld
          have E := Lib.hid (E.out.below hb)
          have D1 := Lib.hid (D1.out.below hb D1.out.lt)
          clear hb
          clear x0 x1 x2 hlx p0 p1 p2 hlp
          clear y0 y1 y2 hly
          clear l0 l1 l2 hll
          obtain ⟨x0, x1, x2, hlx⟩ := (E.out.get 0 rfl).cells
          obtain ⟨p0, p1, p2⟩ : _ ∧ _ ∧ _ := ⟨D1.out.cell 0, D1.out.cell 1, D1.out.cell 2⟩
          simp at p0 p1 p2
          have hlp := D1.out.lt
          obtain ⟨y0, y1, y2, hly⟩ := (E.out.get 1 rfl).cells
          obtain ⟨l0, l1, l2, hll⟩ := (E.out.get 2 rfl).cells
          refine hK.out _ _ (by exact ⟨x0, x1, x2, y0, y1, y2, p1, p2⟩) (fun hHeld => ?_)
          clear hK K
          try simp only [Act.put]
          try simp only [List.setIfInBounds_toArray]
          try simp only [List.set_cons_succ]
          try simp only [List.set_cons_zero]
          refine wpAnyH_take (i := 29) (oi := _) (v := ?_) (by simp only [List.getElem?_toArray, List.getElem?_cons_succ, List.getElem?_cons_zero]; rfl) (by kernel_rfl) (by kernel_rfl) (by kernel_rfl) (by exact fun _ _ _ h => h) (Or.inl ⟨by rfl, ?_⟩) (by assumption) ?_
          rotate_left 1
          · (intro w hSw; (try dsimp only at hSw); go_simp; try with_reducible rfl)
          all_goals try simp only [Act.put]
          all_goals try simp only [List.setIfInBounds_toArray]
          all_goals try simp only [List.set_cons_succ]
          all_goals try simp only [List.set_cons_zero]
          refine wpAnyH_take (i := 30) (oi := _) (v := ?_) (by simp only [List.getElem?_toArray, List.getElem?_cons_succ, List.getElem?_cons_zero]; rfl) (by kernel_rfl) (by kernel_rfl) (by kernel_rfl) (by exact fun _ _ _ h => h) (Or.inl ⟨by rfl, ?_⟩) (by assumption) ?_
          rotate_left 1
          · (intro w hSw; (try dsimp only at hSw); go_simp; try with_reducible rfl)
          all_goals try simp only [Act.put]
          all_goals try simp only [List.setIfInBounds_toArray]
          all_goals try simp only [List.set_cons_succ]
          all_goals try simp only [List.set_cons_zero]
          refine wpAnyH_take (i := 31) (oi := _) (v := ?_) (by simp only [List.getElem?_toArray, List.getElem?_cons_succ, List.getElem?_cons_zero]; rfl) (by kernel_rfl) (by kernel_rfl) (by kernel_rfl) (by exact fun _ _ _ h => h) (Or.inl ⟨by rfl, ?_⟩) (by assumption) ?_
          rotate_left 1
          · (intro w hSw; (try dsimp only at hSw); go_simp; try with_reducible rfl)
          all_goals try simp only [Act.put]
          all_goals try simp only [List.setIfInBounds_toArray]
          all_goals try simp only [List.set_cons_succ]
          all_goals try simp only [List.set_cons_zero]
          refine wpAnyH_done (by kernel_rfl) ?_ _
          clear hHeld
          go_wp2_with fail
          refine (awake10_any _).mono ?_
          rintro e wq ⟨rfl, hb⟩
          have bw := (E.out.below hb).fin
          go_wp2_with fail
          go_ret
          exact ⟨rfl, bw⟩
        · have d15 : decide (0 < V) = false := by simpa using hv0
          go_upto_region 13 with fail
          refine wp_region_held_drew (S := (fun w' => w'.cell? ⟨F, 0, none⟩ = some (.slice A n c) ∧ w'.cell? ⟨F, 1, none⟩ = some (.int .i64 f.per) ∧ w'.cell? ⟨F, 2, none⟩ = some (.int .i64 f.inc) ∧ w'.cell? ⟨G, 0, none⟩ = some (.slice B m d) ∧ w'.cell? ⟨G, 1, none⟩ = some (.int .i64 g.per) ∧ w'.cell? ⟨G, 2, none⟩ = some (.int .i64 g.inc) ∧ w'.cell? ⟨d1, 1, none⟩ = some (.int .i64 V) ∧ w'.cell? ⟨d1, 2, none⟩ = some (.int .i64 Av))) (by kernel_rfl) ⟨x0, x1, x2, y0, y1, y2, p1, p2⟩ (fun hHeld => ?_)
          have E := Lib.hid E.out.drew
          have D1 := Lib.hid (Blk.drew D1.out)
          clear x0 x1 x2 hlx p0 p1 p2 hlp
          clear y0 y1 y2 hly
          clear l0 l1 l2 hll
          generalize wq.drew = wd at *
          obtain ⟨x0, x1, x2, hlx⟩ := (E.out.get 0 rfl).cells
          obtain ⟨p0, p1, p2⟩ : _ ∧ _ ∧ _ := ⟨D1.out.cell 0, D1.out.cell 1, D1.out.cell 2⟩
          simp at p0 p1 p2
          have hlp := D1.out.lt
          obtain ⟨y0, y1, y2, hly⟩ := (E.out.get 1 rfl).cells
          obtain ⟨l0, l1, l2, hll⟩ := (E.out.get 2 rfl).cells
          refine wpAnyH_take (i := 0) (oi := _) (v := ?_) (by simp only [List.getElem?_toArray, List.getElem?_cons_zero]; rfl) (by kernel_rfl) (by kernel_rfl) (by kernel_rfl) (by exact fun _ _ _ h => h) (Or.inl ⟨by rfl, ?_⟩) (by assumption) ?_
          rotate_left 1
          · (intro w hSw; (try dsimp only at hSw); go_simp; try with_reducible rfl)
          all_goals try simp only [Act.put]
          all_goals try simp only [List.setIfInBounds_toArray]
          all_goals try simp only [List.set_cons_succ]
          all_goals try simp only [List.set_cons_zero]
          refine wpAnyH_take (i := 1) (oi := _) (v := ?_) (by simp only [List.getElem?_toArray, List.getElem?_cons_succ, List.getElem?_cons_zero]; rfl) (by kernel_rfl) (by kernel_rfl) (by kernel_rfl) (by exact fun _ _ _ h => h) (Or.inl ⟨by rfl, ?_⟩) (by assumption) ?_
          rotate_left 1
          · (intro w hSw; (try dsimp only at hSw); go_simp; try with_reducible rfl)
          all_goals try simp only [Act.put]
          all_goals try simp only [List.setIfInBounds_toArray]
          all_goals try simp only [List.set_cons_succ]
          all_goals try simp only [List.set_cons_zero]
          refine wpAnyH_take (i := 2) (oi := _) (v := ?_) (by simp only [List.getElem?_toArray, List.getElem?_cons_succ, List.getElem?_cons_zero]; rfl) (by kernel_rfl) (by kernel_rfl) (by kernel_rfl) (by exact fun _ _ _ h => h) (Or.inl ⟨by rfl, ?_⟩) (by assumption) ?_
          rotate_left 1
          · (intro w hSw; (try dsimp only at hSw); go_simp; try with_reducible rfl)
          all_goals try simp only [Act.put]
          all_goals try simp only [List.setIfInBounds_toArray]
          all_goals try simp only [List.set_cons_succ]
          all_goals try simp only [List.set_cons_zero]
          refine wpAnyH_take (i := 4) (oi := _) (v := ?_) (by simp only [List.getElem?_toArray, List.getElem?_cons_succ, List.getElem?_cons_zero]; rfl) (by kernel_rfl) (by kernel_rfl) (by kernel_rfl) (by exact fun _ _ _ h => h) (Or.inl ⟨by rfl, ?_⟩) (by assumption) ?_
          rotate_left 1
          · (intro w hSw; (try dsimp only at hSw); go_simp; try with_reducible rfl)
          all_goals try simp only [Act.put]
          all_goals try simp only [List.setIfInBounds_toArray]
          all_goals try simp only [List.set_cons_succ]
          all_goals try simp only [List.set_cons_zero]
          refine wpAnyH_take (i := 5) (oi := _) (v := ?_) (by simp only [List.getElem?_toArray, List.getElem?_cons_succ, List.getElem?_cons_zero]; rfl) (by kernel_rfl) (by kernel_rfl) (by kernel_rfl) (by exact fun _ _ _ h => h) (Or.inl ⟨by rfl, ?_⟩) (by assumption) ?_
          rotate_left 1
          · (intro w hSw; (try dsimp only at hSw); go_simp; try with_reducible rfl)
          all_goals try simp only [Act.put]
          all_goals try simp only [List.setIfInBounds_toArray]
          all_goals try simp only [List.set_cons_succ]
          all_goals try simp only [List.set_cons_zero]
          refine wpAnyH_take (i := 6) (oi := _) (v := ?_) (by simp only [List.getElem?_toArray, List.getElem?_cons_succ, List.getElem?_cons_zero]; rfl) (by kernel_rfl) (by kernel_rfl) (by kernel_rfl) (by exact fun _ _ _ h => h) (Or.inl ⟨by rfl, ?_⟩) (by assumption) ?_
          rotate_left 1
          · (intro w hSw; (try dsimp only at hSw); go_simp; try with_reducible rfl)
          all_goals try simp only [Act.put]
          all_goals try simp only [List.setIfInBounds_toArray]
          all_goals try simp only [List.set_cons_succ]
          all_goals try simp only [List.set_cons_zero]
          refine wpAnyH_take (i := 7) (oi := _) (v := ?_) (by simp only [List.getElem?_toArray, List.getElem?_cons_succ, List.getElem?_cons_zero]; rfl) (by kernel_rfl) (by kernel_rfl) (by kernel_rfl) (by exact fun _ _ _ h => h) (Or.inl ⟨by rfl, ?_⟩) (by assumption) ?_
          rotate_left 1
          · (intro w hSw; (try dsimp only at hSw); go_simp; try with_reducible rfl)
          all_goals try simp only [Act.put]
          all_goals try simp only [List.setIfInBounds_toArray]
          all_goals try simp only [List.set_cons_succ]
          all_goals try simp only [List.set_cons_zero]
          refine wpAnyH_take (i := 8) (oi := _) (v := ?_) (by simp only [List.getElem?_toArray, List.getElem?_cons_succ, List.getElem?_cons_zero]; rfl) (by kernel_rfl) (by kernel_rfl) (by kernel_rfl) (by exact fun _ _ _ h => h) (Or.inl ⟨by rfl, ?_⟩) (by assumption) ?_
          rotate_left 1
          · (intro w hSw; (try dsimp only at hSw); go_simp; try with_reducible rfl)
          all_goals try simp only [Act.put]
          all_goals try simp only [List.setIfInBounds_toArray]
          all_goals try simp only [List.set_cons_succ]
          all_goals try simp only [List.set_cons_zero]
          refine wpAnyH_take (i := 9) (oi := _) (v := ?_) (by simp only [List.getElem?_toArray, List.getElem?_cons_succ, List.getElem?_cons_zero]; rfl) (by kernel_rfl) (by kernel_rfl) (by kernel_rfl) (by exact fun _ _ _ h => h) (Or.inl ⟨by rfl, ?_⟩) (by assumption) ?_
          rotate_left 1
          · (intro w hSw; (try dsimp only at hSw); go_simp; try with_reducible rfl)
          all_goals try simp only [Act.put]
          all_goals try simp only [List.setIfInBounds_toArray]
          all_goals try simp only [List.set_cons_succ]
          all_goals try simp only [List.set_cons_zero]
          refine wpAnyH_ready (rs := [3]) (by kernel_rfl) (by simp) ?_
          refine (AllReadyH.cons (by simp only [List.getElem?_toArray, List.getElem?_cons_succ, List.getElem?_cons_zero]; rfl) (fun K hK => ?_) AllReadyH.nil)
          rw [if_pos (by rfl)]
          go_simp
          refine (refAt_any A n c f.per f.inc Av f.vals _ (by exact (E.out.get 0 rfl).inn.ints) (by omega) (by omega) (by omega) (by omega) (by omega) HD.out.ok.nn (by omega) (by omega)).mono ?_
          rw [show Cv.at ⟨f.vals, f.per, f.inc⟩ (Av).toNat = X from HX.out.symm]
          rintro e wa ⟨rfl, hb⟩
          clear hHeld
          have E := Lib.hid (E.out.below hb)
          have D1 := Lib.hid (D1.out.below hb D1.out.lt)
          clear hb
          clear x0 x1 x2 hlx p0 p1 p2 hlp
          clear y0 y1 y2 hly
          clear l0 l1 l2 hll
          obtain ⟨x0, x1, x2, hlx⟩ := (E.out.get 0 rfl).cells
          obtain ⟨p0, p1, p2⟩ : _ ∧ _ ∧ _ := ⟨D1.out.cell 0, D1.out.cell 1, D1.out.cell 2⟩
          simp at p0 p1 p2
          have hlp := D1.out.lt
          obtain ⟨y0, y1, y2, hly⟩ := (E.out.get 1 rfl).cells
          obtain ⟨l0, l1, l2, hll⟩ := (E.out.get 2 rfl).cells
          refine hK.out _ _ (by exact ⟨x0, x1, x2, y0, y1, y2, p1, p2⟩) (fun hHeld => ?_)
          clear hK K
          try simp only [Act.put]
          try simp only [List.setIfInBounds_toArray]
          try simp only [List.set_cons_succ]
          try simp only [List.set_cons_zero]
          refine wpAnyH_ready (rs := [10]) (by kernel_rfl) (by simp) ?_
          refine (AllReadyH.cons (by simp only [List.getElem?_toArray, List.getElem?_cons_succ, List.getElem?_cons_zero]; rfl) (fun K hK => ?_) AllReadyH.nil)
          rw [if_pos (by rfl)]
          go_simp
          refine (refAt_any B m d g.per g.inc T g.vals _ (by exact (E.out.get 1 rfl).inn.ints) (by omega) (by omega) (by omega) (by omega) (by omega) HD2.out.ok.nn (by omega) (by omega)).mono ?_
          rw [show Cv.at ⟨g.vals, g.per, g.inc⟩ (T).toNat = Y from HY.out.symm]
          rintro e wb ⟨rfl, hb⟩
          clear hHeld
          have E := Lib.hid (E.out.below hb)
          have D1 := Lib.hid (D1.out.below hb D1.out.lt)
          clear hb
          clear x0 x1 x2 hlx p0 p1 p2 hlp
          clear y0 y1 y2 hly
          clear l0 l1 l2 hll
          obtain ⟨x0, x1, x2, hlx⟩ := (E.out.get 0 rfl).cells
          obtain ⟨p0, p1, p2⟩ : _ ∧ _ ∧ _ := ⟨D1.out.cell 0, D1.out.cell 1, D1.out.cell 2⟩
          simp at p0 p1 p2
          have hlp := D1.out.lt
          obtain ⟨y0, y1, y2, hly⟩ := (E.out.get 1 rfl).cells
          obtain ⟨l0, l1, l2, hll⟩ := (E.out.get 2 rfl).cells
          refine hK.out _ _ (by exact ⟨x0, x1, x2, y0, y1, y2, p1, p2⟩) (fun hHeld => ?_)
          clear hK K
          try simp only [Act.put]
          try simp only [List.setIfInBounds_toArray]
          try simp only [List.set_cons_succ]
          try simp only [List.set_cons_zero]
          refine wpAnyH_take (i := 11) (oi := _) (v := ?_) (by simp only [List.getElem?_toArray, List.getElem?_cons_succ, List.getElem?_cons_zero]; rfl) (by kernel_rfl) (by kernel_rfl) (by kernel_rfl) (by exact fun _ _ _ h => h) (Or.inl ⟨by rfl, ?_⟩) (by assumption) ?_
          rotate_left 1
          · (intro w hSw; (try dsimp only at hSw); go_simp; try with_reducible rfl)
          all_goals try simp only [Act.put]
          all_goals try simp only [List.setIfInBounds_toArray]
          all_goals try simp only [List.set_cons_succ]
          all_goals try simp only [List.set_cons_zero]
          refine wpAnyH_take (i := 12) (oi := _) (v := ?_) (by simp only [List.getElem?_toArray, List.getElem?_cons_succ, List.getElem?_cons_zero]; rfl) (by kernel_rfl) (by kernel_rfl) (by kernel_rfl) (by exact fun _ _ _ h => h) (Or.inl ⟨by rfl, ?_⟩) (by assumption) ?_
          rotate_left 1
          · (intro w hSw; (try dsimp only at hSw); go_simp; try with_reducible rfl)
          all_goals try simp only [Act.put]
          all_goals try simp only [List.setIfInBounds_toArray]
          all_goals try simp only [List.set_cons_succ]
          all_goals try simp only [List.set_cons_zero]
          refine wpAnyH_take (i := 13) (oi := _) (v := ?_) (by simp only [List.getElem?_toArray, List.getElem?_cons_succ, List.getElem?_cons_zero]; rfl) (by kernel_rfl) (by kernel_rfl) (by kernel_rfl) (by exact fun _ _ _ h => h) (Or.inl ⟨by rfl, ?_⟩) (by assumption) ?_
          rotate_left 1
          · (intro w hSw; (try dsimp only at hSw); go_simp; try with_reducible rfl)
          all_goals try simp only [Act.put]
          all_goals try simp only [List.setIfInBounds_toArray]
          all_goals try simp only [List.set_cons_succ]
          all_goals try simp only [List.set_cons_zero]
          refine wpAnyH_take (i := 14) (oi := _) (v := ?_) (by simp only [List.getElem?_toArray, List.getElem?_cons_succ, List.getElem?_cons_zero]; rfl) (by kernel_rfl) (by kernel_rfl) (by kernel_rfl) (by exact fun _ _ _ h => h) (Or.inl ⟨by rfl, ?_⟩) (by assumption) ?_
          rotate_left 1
          · (intro w hSw; (try dsimp only at hSw); go_simp; try with_reducible rfl)
          all_goals try simp only [Act.put]
          all_goals try simp only [List.setIfInBounds_toArray]
          all_goals try simp only [List.set_cons_succ]
          all_goals try simp only [List.set_cons_zero]
          refine wpAnyH_take (i := 15) (oi := _) (v := ?_) (by simp only [List.getElem?_toArray, List.getElem?_cons_succ, List.getElem?_cons_zero]; rfl) (by kernel_rfl) (by kernel_rfl) (by kernel_rfl) (by exact fun _ _ _ h => h) (Or.inl ⟨by rfl, ?_⟩) (by assumption) ?_
          rotate_left 1
          · (intro w hSw; (try dsimp only at hSw); go_simp; try with_reducible rfl)
          all_goals try simp only [Act.put]
          all_goals try simp only [List.setIfInBounds_toArray]
          all_goals try simp only [List.set_cons_succ]
          all_goals try simp only [List.set_cons_zero]
          refine wpAnyH_take (i := 16) (oi := _) (v := ?_) (by simp only [List.getElem?_toArray, List.getElem?_cons_succ, List.getElem?_cons_zero]; rfl) (by kernel_rfl) (by kernel_rfl) (by kernel_rfl) (by exact fun _ _ _ h => h) (Or.inl ⟨by rfl, ?_⟩) (by assumption) ?_
          rotate_left 1
          · (intro w hSw; (try dsimp only at hSw); go_simp; try with_reducible rfl)
          all_goals try simp only [Act.put]
          all_goals try simp only [List.setIfInBounds_toArray]
          all_goals try simp only [List.set_cons_succ]
          all_goals try simp only [List.set_cons_zero]
          refine wpAnyH_take (i := 17) (oi := _) (v := undef) (by simp only [List.getElem?_toArray, List.getElem?_cons_succ, List.getElem?_cons_zero]; rfl) (by kernel_rfl) (by kernel_rfl) (by kernel_rfl) (by exact fun _ _ _ h => h) (Or.inr ⟨by rfl, rfl⟩) (by assumption) ?_
          try simp only [Act.put]
          try simp only [List.setIfInBounds_toArray]
          try simp only [List.set_cons_succ]
          try simp only [List.set_cons_zero]
          refine wpAnyH_take (i := 18) (oi := _) (v := undef) (by simp only [List.getElem?_toArray, List.getElem?_cons_succ, List.getElem?_cons_zero]; rfl) (by kernel_rfl) (by kernel_rfl) (by kernel_rfl) (by exact fun _ _ _ h => h) (Or.inr ⟨by rfl, rfl⟩) (by assumption) ?_
          try simp only [Act.put]
          try simp only [List.setIfInBounds_toArray]
          try simp only [List.set_cons_succ]
          try simp only [List.set_cons_zero]
          refine wpAnyH_take (i := 19) (oi := _) (v := undef) (by simp only [List.getElem?_toArray, List.getElem?_cons_succ, List.getElem?_cons_zero]; rfl) (by kernel_rfl) (by kernel_rfl) (by kernel_rfl) (by exact fun _ _ _ h => h) (Or.inr ⟨by rfl, rfl⟩) (by assumption) ?_
          try simp only [Act.put]
          try simp only [List.setIfInBounds_toArray]
          try simp only [List.set_cons_succ]
          try simp only [List.set_cons_zero]
          refine wpAnyH_take (i := 20) (oi := _) (v := undef) (by simp only [List.getElem?_toArray, List.getElem?_cons_succ, List.getElem?_cons_zero]; rfl) (by kernel_rfl) (by kernel_rfl) (by kernel_rfl) (by exact fun _ _ _ h => h) (Or.inr ⟨by rfl, rfl⟩) (by assumption) ?_
          try simp only [Act.put]
          try simp only [List.setIfInBounds_toArray]
          try simp only [List.set_cons_succ]
          try simp only [List.set_cons_zero]
          refine wpAnyH_take (i := 21) (oi := _) (v := undef) (by simp only [List.getElem?_toArray, List.getElem?_cons_succ, List.getElem?_cons_zero]; rfl) (by kernel_rfl) (by kernel_rfl) (by kernel_rfl) (by exact fun _ _ _ h => h) (Or.inr ⟨by rfl, rfl⟩) (by assumption) ?_
          try simp only [Act.put]
          try simp only [List.setIfInBounds_toArray]
          try simp only [List.set_cons_succ]
          try simp only [List.set_cons_zero]
          refine wpAnyH_take (i := 22) (oi := _) (v := undef) (by simp only [List.getElem?_toArray, List.getElem?_cons_succ, List.getElem?_cons_zero]; rfl) (by kernel_rfl) (by kernel_rfl) (by kernel_rfl) (by exact fun _ _ _ h => h) (Or.inr ⟨by rfl, rfl⟩) (by assumption) ?_
          try simp only [Act.put]
          try simp only [List.setIfInBounds_toArray]
          try simp only [List.set_cons_succ]
          try simp only [List.set_cons_zero]
          refine wpAnyH_take (i := 23) (oi := _) (v := undef) (by simp only [List.getElem?_toArray, List.getElem?_cons_succ, List.getElem?_cons_zero]; rfl) (by kernel_rfl) (by kernel_rfl) (by kernel_rfl) (by exact fun _ _ _ h => h) (Or.inr ⟨by rfl, rfl⟩) (by assumption) ?_
          try simp only [Act.put]
          try simp only [List.setIfInBounds_toArray]
          try simp only [List.set_cons_succ]
          try simp only [List.set_cons_zero]
          refine wpAnyH_take (i := 24) (oi := _) (v := undef) (by simp only [List.getElem?_toArray, List.getElem?_cons_succ, List.getElem?_cons_zero]; rfl) (by kernel_rfl) (by kernel_rfl) (by kernel_rfl) (by exact fun _ _ _ h => h) (Or.inr ⟨by rfl, rfl⟩) (by assumption) ?_
          try simp only [Act.put]
          try simp only [List.setIfInBounds_toArray]
          try simp only [List.set_cons_succ]
          try simp only [List.set_cons_zero]
          refine wpAnyH_take (i := 25) (oi := _) (v := undef) (by simp only [List.getElem?_toArray, List.getElem?_cons_succ, List.getElem?_cons_zero]; rfl) (by kernel_rfl) (by kernel_rfl) (by kernel_rfl) (by exact fun _ _ _ h => h) (Or.inr ⟨by rfl, rfl⟩) (by assumption) ?_
          try simp only [Act.put]
          try simp only [List.setIfInBounds_toArray]
          try simp only [List.set_cons_succ]
          try simp only [List.set_cons_zero]
          refine wpAnyH_take (i := 26) (oi := _) (v := undef) (by simp only [List.getElem?_toArray, List.getElem?_cons_succ, List.getElem?_cons_zero]; rfl) (by kernel_rfl) (by kernel_rfl) (by kernel_rfl) (by exact fun _ _ _ h => h) (Or.inr ⟨by rfl, rfl⟩) (by assumption) ?_
          try simp only [Act.put]
          try simp only [List.setIfInBounds_toArray]
          try simp only [List.set_cons_succ]
          try simp only [List.set_cons_zero]
          refine wpAnyH_take (i := 27) (oi := _) (v := undef) (by simp only [List.getElem?_toArray, List.getElem?_cons_succ, List.getElem?_cons_zero]; rfl) (by kernel_rfl) (by kernel_rfl) (by kernel_rfl) (by exact fun _ _ _ h => h) (Or.inr ⟨by rfl, rfl⟩) (by assumption) ?_
          try simp only [Act.put]
          try simp only [List.setIfInBounds_toArray]
          try simp only [List.set_cons_succ]
          try simp only [List.set_cons_zero]
          refine wpAnyH_take (i := 28) (oi := _) (v := undef) (by simp only [List.getElem?_toArray, List.getElem?_cons_succ, List.getElem?_cons_zero]; rfl) (by kernel_rfl) (by kernel_rfl) (by kernel_rfl) (by exact fun _ _ _ h => h) (Or.inr ⟨by rfl, rfl⟩) (by assumption) ?_
          try simp only [Act.put]
          try simp only [List.setIfInBounds_toArray]
          try simp only [List.set_cons_succ]
          try simp only [List.set_cons_zero]
          refine wpAnyH_take (i := 29) (oi := _) (v := undef) (by simp only [List.getElem?_toArray, List.getElem?_cons_succ, List.getElem?_cons_zero]; rfl) (by kernel_rfl) (by kernel_rfl) (by kernel_rfl) (by exact fun _ _ _ h => h) (Or.inr ⟨by rfl, rfl⟩) (by assumption) ?_
          try simp only [Act.put]
          try simp only [List.setIfInBounds_toArray]
          try simp only [List.set_cons_succ]
          try simp only [List.set_cons_zero]
          refine wpAnyH_take (i := 30) (oi := _) (v := ?_) (by simp only [List.getElem?_toArray, List.getElem?_cons_succ, List.getElem?_cons_zero]; rfl) (by kernel_rfl) (by kernel_rfl) (by kernel_rfl) (by exact fun _ _ _ h => h) (Or.inl ⟨by rfl, ?_⟩) (by assumption) ?_
          rotate_left 1
          · (intro w hSw; (try dsimp only at hSw); go_simp; try with_reducible rfl)
          all_goals try simp only [Act.put]
          all_goals try simp only [List.setIfInBounds_toArray]
          all_goals try simp only [List.set_cons_succ]
          all_goals try simp only [List.set_cons_zero]
          refine wpAnyH_take (i := 31) (oi := _) (v := ?_) (by simp only [List.getElem?_toArray, List.getElem?_cons_succ, List.getElem?_cons_zero]; rfl) (by kernel_rfl) (by kernel_rfl) (by kernel_rfl) (by exact fun _ _ _ h => h) (Or.inl ⟨by rfl, ?_⟩) (by assumption) ?_
          rotate_left 1
          · (intro w hSw; (try dsimp only at hSw); go_simp; try with_reducible rfl)
          all_goals try simp only [Act.put]
          all_goals try simp only [List.setIfInBounds_toArray]
          all_goals try simp only [List.set_cons_succ]
          all_goals try simp only [List.set_cons_zero]
          refine wpAnyH_done (by kernel_rfl) ?_ _
          clear hHeld
          go_wp2_with fail
          refine (awake10_any _).mono ?_
          rintro e wq ⟨rfl, hb⟩
          have bw := (E.out.below hb).fin
          go_wp2_with fail
          go_ret
          exact ⟨rfl, bw⟩
      · clear hv ha hS hlo hlat hDm hDb HMN HSH
        obtain ⟨x0, x1, x2, hlx⟩ := (E.out.get 0 rfl).cells
        obtain ⟨p0, p1, p2⟩ : _ ∧ _ ∧ _ := ⟨D1.out.cell 0, D1.out.cell 1, D1.out.cell 2⟩
        simp at p0 p1 p2
        have hlp := D1.out.lt
        obtain ⟨y0, y1, y2, hly⟩ := (E.out.get 1 rfl).cells
        obtain ⟨l0, l1, l2, hll⟩ := (E.out.get 2 rfl).cells
        go_wp2_with fail
        refine (awake10_any _).mono ?_
        rintro e wq ⟨rfl, hb⟩
        have bw := (E.out.below hb).fin
        go_wp2_with fail
        go_ret
        exact ⟨rfl, bw⟩
    · obtain ⟨v, a, hv, ha, hS⟩ := HSH.out
      rcases hS with ⟨_, rfl, rfl, hS⟩ | ⟨h, _⟩
      · have HAM := Lib.hid (show AtM l g false from .inl ⟨hlo, HD2.out.ok, by simp only [Bool.false_eq_true, false_iff]; exact fun h => hS D (le_shift HD.out.ok hlo (by omega) hlat h)⟩)
        obtain rfl : V = 0 := hv
        obtain rfl : Av = 0 := ha
        clear hS hlo hlat hDm hDb HMN HSH
        obtain ⟨x0, x1, x2, hlx⟩ := (E.out.get 0 rfl).cells
        obtain ⟨p0, p1, p2⟩ : _ ∧ _ ∧ _ := ⟨D1.out.cell 0, D1.out.cell 1, D1.out.cell 2⟩
        simp at p0 p1 p2
        have hlp := D1.out.lt
        obtain ⟨y0, y1, y2, hly⟩ := (E.out.get 1 rfl).cells
        obtain ⟨l0, l1, l2, hll⟩ := (E.out.get 2 rfl).cells
        go_wp2_with fail
        refine (refAtMost_any A6 B n6 m c6 d l.per l.inc g.per g.inc l.vals g.vals _ (by exact (E.out.get 2 rfl).inn.ints) (by exact (E.out.get 1 rfl).inn.ints) (by omega) (by omega)).mono ?_
        intro e wq hr
        obtain ⟨rfl, hb⟩ := RetM.of HAM.out hr
        clear hr
        have E := Lib.hid (E.out.below hb)
        have D1 := Lib.hid (D1.out.below hb D1.out.lt)
        clear hb
        clear x0 x1 x2 hlx p0 p1 p2 hlp
        clear y0 y1 y2 hly
        clear l0 l1 l2 hll
        obtain ⟨x0, x1, x2, hlx⟩ := (E.out.get 0 rfl).cells
        obtain ⟨p0, p1, p2⟩ : _ ∧ _ ∧ _ := ⟨D1.out.cell 0, D1.out.cell 1, D1.out.cell 2⟩
        simp at p0 p1 p2
        have hlp := D1.out.lt
        obtain ⟨y0, y1, y2, hly⟩ := (E.out.get 1 rfl).cells
        obtain ⟨l0, l1, l2, hll⟩ := (E.out.get 2 rfl).cells
        go_wp2_with fail
        refine (awake10_any _).mono ?_
        rintro e wq ⟨rfl, hb⟩
        have bw := (E.out.below hb).fin
        go_wp2_with fail
        go_ret
        exact ⟨rfl, bw⟩
      · cases h
end Go.Proofs.Ytjlinbmjgijpiaa
