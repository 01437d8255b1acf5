/- The statement DeviationMonotone: the walk. -/
import Derived.Test.YtjlinbmjgijpiaaAwake10
import Derived.Test.YtjlinbmjgijpiaaEnvL2
import Derived.Test.YtjlinbmjgijpiaaRefSum
import Derived.Test.YtjlinbmjgijpiaaMonoLaw
namespace Go.Proofs.Ytjlinbmjgijpiaa
open Go.RowKit
set_option linter.unusedVariables false

theorem less_any (i j : Bool) (v a u b : Int) (w : World) :
    Calls Try.prog 38 #[.agg #[.bool i, .int .i64 v, .int .i64 a], .agg #[.bool j, .int .i64 u, .int .i64 b]] w fun e w' => e = .returned (.bool (lessB i j v u)) ∧ Below w.heap.size w w' := by
  have bw := bthen (balloc w (.cells #[.bool i, .int .i64 v, .int .i64 a] 35)) (balloc _ (.cells #[.bool j, .int .i64 u, .int .i64 b] 35))
  have P1 := (Blk.new w 35 #[.bool i, .int .i64 v, .int .i64 a]).alloc (.cells #[.bool j, .int .i64 u, .int .i64 b] 35)
  have P2 := Blk.new (w.alloc (.cells #[.bool i, .int .i64 v, .int .i64 a] 35)) 35 #[.bool j, .int .i64 u, .int .i64 b]
  have a0 := P1.cell 0; have a1 := P1.cell 1; have b0 := P2.cell 0; have b1 := P2.cell 1
  simp at a0 a1 b0 b1
  clear P1 P2
  go_enter Try.func38, Try.ntmps38
  cases j
  · cases i
    · by_cases hvu : v ≤ u
      · have e : lessB false false v u = true := by simp [lessB, hvu]
        rw [e]
        clear e
        go_wp2_with fail
        go_ret
        exact ⟨rfl, bw⟩
      · have e : lessB false false v u = false := by simp [lessB]; omega
        rw [e]
        clear e
        go_wp2_with fail
        go_ret
        exact ⟨rfl, bw⟩
    · go_wp2_with fail
      go_ret
      exact ⟨rfl, bw⟩
  · go_wp2_with fail
    go_ret
    exact ⟨by simp [lessB], bw⟩


theorem Blk.far3 {w : World} {g h : Nat} {t : TypeId} {cs : Array Value} (H : Blk w h t cs) (hne : h ≠ g) (x y z : Value) : Blk (((w.setCell ⟨g, 0, none⟩ x).setCell ⟨g, 1, none⟩ y).setCell ⟨g, 2, none⟩ z) h t cs :=
  ((H.far (p := ⟨g, 0, none⟩) hne x).far (p := ⟨g, 1, none⟩) hne y).far (p := ⟨g, 2, none⟩) hne z
/-- normal forms' periods divide 12 -/
def D12 (f : Cv) : Prop := f.Ok ∧ ∀ a, NF f.at a → a.per.toNat ∣ 12
theorem DevE.get {S : Bool → Nat → Nat → Prop} {f g : Cv} {i : Bool} {v A er : Int} (hf : D12 f) (hg : D12 g) (h : DevE S f g i v A er) : er = 0 ∧ ∃ v' A' : Nat, v = v' ∧ S i v' A' := by
  rcases h with ⟨h, _⟩ | ⟨_, _, _, h1, v', A', h2, h3, h4⟩
  · exact absurd (nf_pair hf.1 hg.1 (n := 12) (by omega) (by omega) hf.2 hg.2) (h.not hf.1 hg.1)
  · exact ⟨h1, v', A', h2, h4⟩
def LeastI (B : Nat → Prop) (i : Bool) (v : Int) : Prop := ∃ v' : Nat, v = v' ∧ LeastB B i v'
theorem DevE.del {f g : Cv} {i : Bool} {v A er : Int} (hf : D12 f) (hg : D12 g) (h : DevE (DelayS f g) f g i v A er) : er = 0 ∧ LeastI (DB f g) i v := by
  obtain ⟨h1, v', A', h2, h3⟩ := h.get hf hg
  exact ⟨h1, v', h2, h3.leastB hg.1⟩
theorem DevE.bck {f g : Cv} {k : Nat} {i : Bool} {v A er : Int} (hf : D12 f) (hg : D12 g) (h : DevE (AheadS f g k) f g i v A er) : er = 0 ∧ LeastI (AB f g k) i v := by
  obtain ⟨h1, v', A', h2, h3⟩ := h.get hf hg
  exact ⟨h1, v', h2, h3.leastB⟩
theorem LeastI.less {B C : Nat → Prop} {i j : Bool} {v w : Int} (h : LeastI B i v) (k : LeastI C j w) (hBC : ∀ M, C M → B M) : lessB i j v w = true := by
  obtain ⟨v', rfl, h⟩ := h
  obtain ⟨w', rfl, k⟩ := k
  exact h.less k hBC

set_option maxHeartbeats 4000000 in
set_option maxRecDepth 100000 in
theorem monoLaw_any (A0 : Option Addr) (n0 c0 : Nat) (L : List Int) (w : World) (hL : Ints w w.heap.size A0 n0 L) (hc0 : n0 ≤ c0) (hn0 : (n0 : Int) ≤ 9223372036854775807) :
    Calls Try.prog 5 #[.slice A0 n0 c0] w fun e w' => e = .returned (.bool true) ∧ Below w.heap.size w w' := by
  go_enter Try.func5, Try.ntmps5
  go_wp2_with fail
  refine (new_any A0 n0 c0 L w hL hc0 hn0).mono ?_
  rintro e w1 ⟨rfl, hS1, hb1⟩
  have E := Lib.hid (EnvL.start hS1 hb1)
  clear hL hS1 hb1
  go_wp2_with fail
  refine (srcCurve2_any w.heap.size 5 w1 (by exact E.out.s) (by omega) (by omega)).mono ?_
  rintro e w2 ⟨f, A, n, c, hD, hcf, rfl, hI, hA, hS, hk⟩
  have hps := E.out.s.lt
  have E := Lib.hid (E.out.kept hS hk)
  have F1 := Lib.hid (show (CR.mk A n c f).In w.heap.size w2 from CR.In.new hI hA hps)
  have HD := Lib.hid (show DrawC 5 f from hD)
  have HNC := Lib.hid hcf
  have hnl : n ≤ 13 := by have h1 := HD.out.len; have h2 : f.vals.length = n := hI.1; omega
  clear hD hI hA hS hk hps hcf
  go_wp2_with fail
  refine (srcCurve2_any w.heap.size 5 w2 (by exact E.out.s) (by omega) (by omega)).mono ?_
  rintro e w3 ⟨g, B, m, d, hD, hcf, rfl, hI, hA, hS, hk⟩
  have hps := E.out.s.lt
  have E := Lib.hid (E.out.kept hS hk)
  have F1 := Lib.hid (F1.out.kept hk)
  have G1 := Lib.hid (show (CR.mk B m d g).In w.heap.size w3 from CR.In.new hI hA hps)
  have HD2 := Lib.hid (show DrawC 5 g from hD)
  have HMD := Lib.hid hcf
  have hml : m ≤ 13 := by have h1 := HD2.out.len; have h2 : g.vals.length = m := hI.1; omega
  clear hD hI hA hS hk hps hcf
  have E := Lib.hid (show EnvL w.heap.size w _ [(w3.heap.size, ⟨A, n, c, f⟩)] from E.out.push F1.out)
  have G1 := Lib.hid (G1.out.alloc (.cells #[.slice A n c, .int .i64 f.per, .int .i64 f.inc] 24))
  have E := Lib.hid (show EnvL w.heap.size w ((w3.alloc (.cells #[.slice A n c, .int .i64 f.per, .int .i64 f.inc] 24)).alloc (.cells #[.slice B m d, .int .i64 g.per, .int .i64 g.inc] 24)) [(w3.heap.size, ⟨A, n, c, f⟩), (w3.heap.size + 1, ⟨B, m, d, g⟩)] from by
    have := E.out.push G1.out
    simpa using this)
  clear F1 G1
  go_upto_region 3 with fail
  generalize hwz : (w3.alloc (.cells #[.slice A n c, .int .i64 f.per, .int .i64 f.inc] 24)).alloc (.cells #[.slice B m d, .int .i64 g.per, .int .i64 g.inc] 24) = wz at *
  clear hwz
  generalize hGe : w3.heap.size + 1 = G at *
  generalize hFe : w3.heap.size = F at *
  clear hGe hFe
  obtain ⟨x0, x1, x2, hlx⟩ := (E.out.get 0 rfl).cells
  go_cut [6, 7] (fun s6 s7 wx => ∃ (Z : Nat) (h r : Cv) (er : Int) (A6 : Option Addr) (n6 c6 : Nat), s6 = .pointer (some ⟨Z, 0, none⟩) ∧ s7 = .int .i64 er ∧ SumS f h r er ∧ DrawC 3 h ∧ n6 ≤ c6 ∧ EnvL w.heap.size w wx ([(F, ⟨A, n, c, f⟩), (G, ⟨B, m, d, g⟩)] ++ [(Z, ⟨A6, n6, c6, r⟩)]))
  case first =>
    refine wp_region_held_drew (S := (fun w' => w'.cell? ⟨F, 0, none⟩ = some (.slice A n c) ∧ w'.cell? ⟨F, 1, none⟩ = some (.int .i64 f.per) ∧ w'.cell? ⟨F, 2, none⟩ = some (.int .i64 f.inc))) (by kernel_rfl) ⟨x0, x1, x2⟩ (fun hHeld => ?_)
    have E := Lib.hid E.out.drew
    clear x0 x1 x2 hlx
    generalize wz.drew = wd at *
    obtain ⟨x0, x1, x2, hlx⟩ := (E.out.get 0 rfl).cells
    refine wpAnyH_take (i := 0) (oi := _) (v := ?_) (by simp only [List.getElem?_toArray, List.getElem?_cons_zero]; rfl) (by kernel_rfl) (by kernel_rfl) (by kernel_rfl) (by exact fun _ _ _ h => h) (Or.inl ⟨by rfl, ?_⟩) (by assumption) ?_
    rotate_left 1
    · (intro w hSw; (try dsimp only at hSw); go_simp; try with_reducible rfl)
    all_goals try simp only [Act.put]
    all_goals try simp only [List.setIfInBounds_toArray]
    all_goals try simp only [List.set_cons_succ]
    all_goals try simp only [List.set_cons_zero]
    refine wpAnyH_take (i := 1) (oi := _) (v := ?_) (by simp only [List.getElem?_toArray, List.getElem?_cons_succ, List.getElem?_cons_zero]; rfl) (by kernel_rfl) (by kernel_rfl) (by kernel_rfl) (by exact fun _ _ _ h => h) (Or.inl ⟨by rfl, ?_⟩) (by assumption) ?_
    rotate_left 1
    · (intro w hSw; (try dsimp only at hSw); go_simp; try with_reducible rfl)
    all_goals try simp only [Act.put]
    all_goals try simp only [List.setIfInBounds_toArray]
    all_goals try simp only [List.set_cons_succ]
    all_goals try simp only [List.set_cons_zero]
    refine wpAnyH_ready (rs := [2, 7]) (by kernel_rfl) (by simp) ?_
    refine (AllReadyH.cons (by simp only [List.getElem?_toArray, List.getElem?_cons_succ, List.getElem?_cons_zero]; rfl) (fun K hK => ?_) (AllReadyH.cons (by simp only [List.getElem?_toArray, List.getElem?_cons_succ, List.getElem?_cons_zero]; rfl) (fun K hK => ?_) AllReadyH.nil))
    · rw [if_pos (by rfl)]
      go_simp
      refine (srcCurve2_any w.heap.size 3 wd (by exact E.out.s) (by omega) (by omega)).mono ?_
      rintro e w5 ⟨h, A5, n5, c5, hD, hc5, rfl, hI, hA, hS, hk⟩
      have hps := E.out.s.lt
      try (have ZB := Lib.hid (ZB.out.kept (by omega) hk))
      have E := Lib.hid (E.out.kept hS hk)
      have H5 := Lib.hid (show (CR.mk A5 n5 c5 h).In w.heap.size w5 from CR.In.new hI hA hps)
      have HD5 := Lib.hid (show DrawC 3 h from hD)
      have HC5 := Lib.hid hc5
      have hn5 : n5 ≤ 11 := by have h1 := HD5.out.len; have h2 : h.vals.length = n5 := hI.1; omega
      clear hD hI hA hS hk hps hc5 hHeld
      clear x0 x1 x2 hlx
      obtain ⟨x0, x1, x2, hlx⟩ := (E.out.get 0 rfl).cells
      refine hK.out _ _ (by exact ⟨x0, x1, x2⟩) (fun hHeld => ?_)
      clear hK K
      try simp only [Act.put]
      try simp only [List.setIfInBounds_toArray]
      try simp only [List.set_cons_succ]
      try simp only [List.set_cons_zero]
      refine wpAnyH_ready (rs := [3, 7]) (by kernel_rfl) (by simp) ?_
      refine (AllReadyH.cons (by simp only [List.getElem?_toArray, List.getElem?_cons_succ, List.getElem?_cons_zero]; rfl) (fun K hK => ?_) (AllReadyH.cons (by simp only [List.getElem?_toArray, List.getElem?_cons_succ, List.getElem?_cons_zero]; rfl) (fun K hK => ?_) AllReadyH.nil))
      · rw [if_pos (by rfl)]
        go_simp
        refine (refSum_any A A5 n n5 c c5 f.per f.inc h.per h.inc f.vals h.vals w5 (by exact (E.out.get 0 rfl).inn.ints) (by exact H5.out.ints) (by omega) (by omega) HNC.out HC5.out).mono ?_
        rintro e w6 ⟨r, er, A6, n6, c6, hSS, hc6, rfl, hI, hA, hb⟩
        have hps := E.out.s.lt
        try (have hZl := ZB.out.lt)
        try (have ZB := Lib.hid (ZB.out.below hb ZB.out.lt))
        have E := Lib.hid (E.out.below hb)
        have X6 := Lib.hid (show (CR.mk A6 n6 c6 r).In w.heap.size w6 from CR.In.new hI hA hps)
        try (have XO := Lib.hid (show CR.Off ⟨A6, n6, c6, r⟩ Z from CR.Off.of_ge hA (by omega)))
        have HS6 := Lib.hid hSS
        have HC6 := Lib.hid hc6
        clear hI hA hb hps hc6 hSS hHeld
        clear x0 x1 x2 hlx
        obtain ⟨x0, x1, x2, hlx⟩ := (E.out.get 0 rfl).cells
        refine hK.out _ _ (by exact ⟨x0, x1, x2⟩) (fun hHeld => ?_)
        clear hK K
        try simp only [Act.put]
        try simp only [List.setIfInBounds_toArray]
        try simp only [List.set_cons_succ]
        try simp only [List.set_cons_zero]
        refine wpAnyH_take (i := 4) (oi := _) (v := ?_) (by simp only [List.getElem?_toArray, List.getElem?_cons_succ, List.getElem?_cons_zero]; rfl) (by kernel_rfl) (by kernel_rfl) (by kernel_rfl) (by exact fun _ _ _ h => h) (Or.inl ⟨by rfl, ?_⟩) (by assumption) ?_
        rotate_left 1
        · (intro w hSw; (try dsimp only at hSw); go_simp; try with_reducible rfl)
        all_goals try simp only [Act.put]
        all_goals try simp only [List.setIfInBounds_toArray]
        all_goals try simp only [List.set_cons_succ]
        all_goals try simp only [List.set_cons_zero]
        refine wpAnyH_take (i := 5) (oi := _) (v := ?_) (by simp only [List.getElem?_toArray, List.getElem?_cons_succ, List.getElem?_cons_zero]; rfl) (by kernel_rfl) (by kernel_rfl) (by kernel_rfl) (by exact fun _ _ _ h => h) (Or.inl ⟨by rfl, ?_⟩) (by assumption) ?_
        rotate_left 1
        · (intro w hSw; (try dsimp only at hSw); go_simp; try with_reducible rfl)
        all_goals try simp only [Act.put]
        all_goals try simp only [List.setIfInBounds_toArray]
        all_goals try simp only [List.set_cons_succ]
        all_goals try simp only [List.set_cons_zero]
        refine wpAnyH_take (i := 6) (oi := _) (v := ?_) (by simp only [List.getElem?_toArray, List.getElem?_cons_succ, List.getElem?_cons_zero]; rfl) (by kernel_rfl) (by kernel_rfl) (by kernel_rfl) (by exact fun _ _ _ h => h) (Or.inl ⟨by rfl, ?_⟩) (by assumption) ?_
        rotate_left 1
        · (intro w hSw; (try dsimp only at hSw); go_simp; try with_reducible rfl)
        all_goals try simp only [Act.put]
        all_goals try simp only [List.setIfInBounds_toArray]
        all_goals try simp only [List.set_cons_succ]
        all_goals try simp only [List.set_cons_zero]
        refine wpAnyH_ready (rs := [7]) (by kernel_rfl) (by simp) ?_
        refine (AllReadyH.cons (by simp only [List.getElem?_toArray, List.getElem?_cons_succ, List.getElem?_cons_zero]; rfl) (fun K hK => ?_) AllReadyH.nil)
        rw [if_pos (by rfl)]
        go_simp
        have hZp := E.out.s.lt
        have ZB := Lib.hid (Blk.new w6 24 #[.slice none 0 0, .int .i64 0, .int .i64 0])
        have ZA := Lib.hid E.out.apart
        try (have XO := Lib.hid X6.out.off)
        try (have X6 := Lib.hid (X6.out.alloc (.cells #[.slice none 0 0, .int .i64 0, .int .i64 0] 24)))
        try (have H5 := Lib.hid (H5.out.alloc (.cells #[.slice none 0 0, .int .i64 0, .int .i64 0] 24)))
        have E := Lib.hid (E.out.alloc (.cells #[.slice none 0 0, .int .i64 0, .int .i64 0] 24))
        generalize hzz : w6.alloc (.cells #[.slice none 0 0, .int .i64 0, .int .i64 0] 24) = w7 at *
        clear hzz
        generalize w6.heap.size = Z at *
        clear hHeld
        clear x0 x1 x2 hlx
        obtain ⟨x0, x1, x2, hlx⟩ := (E.out.get 0 rfl).cells
        have hZl := ZB.out.lt
        refine hK.out _ _ (by exact ⟨x0, x1, x2⟩) (fun hHeld => ?_)
        clear hK K
        try simp only [Act.put]
        try simp only [List.setIfInBounds_toArray]
        try simp only [List.set_cons_succ]
        try simp only [List.set_cons_zero]
        have z0 := ZB.out.cell 0; have z1 := ZB.out.cell 1; have z2 := ZB.out.cell 2; have v0 := ZB.out.frozen 0; have v1 := ZB.out.frozen 1; have v2 := ZB.out.frozen 2
        simp at z0 z1 z2
        refine wpAnyH_ready (rs := [8]) (by kernel_rfl) (by simp) ?_
        refine (AllReadyH.cons (by simp only [List.getElem?_toArray, List.getElem?_cons_succ, List.getElem?_cons_zero]; rfl) (fun K hK => ?_) AllReadyH.nil)
        rw [if_pos (by rfl)]
        go_simp
        have E := Lib.hid (E.out.sto ZB.out (by omega) hZp ZA.out X6.out XO.out)
        dsimp only [List.cons_append, List.nil_append] at E
        clear hHeld z0 z1 z2 v0 v1 v2
        clear x0 x1 x2 hlx
        obtain ⟨x0, x1, x2, hlx⟩ := (E.out.get 0 rfl).cells
        refine hK.out _ _ (by exact ⟨x0, x1, x2⟩) (fun hHeld => ?_)
        clear hK K
        try simp only [Act.put]
        try simp only [List.setIfInBounds_toArray]
        try simp only [List.set_cons_succ]
        try simp only [List.set_cons_zero]
        refine wpAnyH_take (i := 9) (oi := _) (v := ?_) (by simp only [List.getElem?_toArray, List.getElem?_cons_succ, List.getElem?_cons_zero]; rfl) (by kernel_rfl) (by kernel_rfl) (by kernel_rfl) (by exact fun _ _ _ h => h) (Or.inl ⟨by rfl, ?_⟩) (by assumption) ?_
        rotate_left 1
        · (intro w hSw; (try dsimp only at hSw); go_simp; try with_reducible rfl)
        all_goals try simp only [Act.put]
        all_goals try simp only [List.setIfInBounds_toArray]
        all_goals try simp only [List.set_cons_succ]
        all_goals try simp only [List.set_cons_zero]
        refine wpAnyH_done (by kernel_rfl) ?_ _
        go_wp2_with fail
        go_meet
        exact ⟨Z, h, r, er, A6, n6, c6, rfl, rfl, HS6.out, HD5.out, HC6.out, E.out⟩
      · rw [if_pos (by rfl)]
        go_simp
        have hZp := E.out.s.lt
        have ZB := Lib.hid (Blk.new w5 24 #[.slice none 0 0, .int .i64 0, .int .i64 0])
        have ZA := Lib.hid E.out.apart
        try (have XO := Lib.hid X6.out.off)
        try (have X6 := Lib.hid (X6.out.alloc (.cells #[.slice none 0 0, .int .i64 0, .int .i64 0] 24)))
        try (have H5 := Lib.hid (H5.out.alloc (.cells #[.slice none 0 0, .int .i64 0, .int .i64 0] 24)))
        have E := Lib.hid (E.out.alloc (.cells #[.slice none 0 0, .int .i64 0, .int .i64 0] 24))
        generalize hzz : w5.alloc (.cells #[.slice none 0 0, .int .i64 0, .int .i64 0] 24) = w6 at *
        clear hzz
        generalize w5.heap.size = Z at *
        clear hHeld
        clear x0 x1 x2 hlx
        obtain ⟨x0, x1, x2, hlx⟩ := (E.out.get 0 rfl).cells
        have hZl := ZB.out.lt
        refine hK.out _ _ (by exact ⟨x0, x1, x2⟩) (fun hHeld => ?_)
        clear hK K
        try simp only [Act.put]
        try simp only [List.setIfInBounds_toArray]
        try simp only [List.set_cons_succ]
        try simp only [List.set_cons_zero]
        refine wpAnyH_ready (rs := [3]) (by kernel_rfl) (by simp) ?_
        refine (AllReadyH.cons (by simp only [List.getElem?_toArray, List.getElem?_cons_succ, List.getElem?_cons_zero]; rfl) (fun K hK => ?_) AllReadyH.nil)
        rw [if_pos (by rfl)]
        go_simp
        refine (refSum_any A A5 n n5 c c5 f.per f.inc h.per h.inc f.vals h.vals w6 (by exact (E.out.get 0 rfl).inn.ints) (by exact H5.out.ints) (by omega) (by omega) HNC.out HC5.out).mono ?_
        rintro e w7 ⟨r, er, A6, n6, c6, hSS, hc6, rfl, hI, hA, hb⟩
        have hps := E.out.s.lt
        try (have hZl := ZB.out.lt)
        try (have ZB := Lib.hid (ZB.out.below hb ZB.out.lt))
        have E := Lib.hid (E.out.below hb)
        have X6 := Lib.hid (show (CR.mk A6 n6 c6 r).In w.heap.size w7 from CR.In.new hI hA hps)
        try (have XO := Lib.hid (show CR.Off ⟨A6, n6, c6, r⟩ Z from CR.Off.of_ge hA (by omega)))
        have HS6 := Lib.hid hSS
        have HC6 := Lib.hid hc6
        clear hI hA hb hps hc6 hSS hHeld
        clear x0 x1 x2 hlx
        obtain ⟨x0, x1, x2, hlx⟩ := (E.out.get 0 rfl).cells
        refine hK.out _ _ (by exact ⟨x0, x1, x2⟩) (fun hHeld => ?_)
        clear hK K
        try simp only [Act.put]
        try simp only [List.setIfInBounds_toArray]
        try simp only [List.set_cons_succ]
        try simp only [List.set_cons_zero]
        refine wpAnyH_take (i := 4) (oi := _) (v := ?_) (by simp only [List.getElem?_toArray, List.getElem?_cons_succ, List.getElem?_cons_zero]; rfl) (by kernel_rfl) (by kernel_rfl) (by kernel_rfl) (by exact fun _ _ _ h => h) (Or.inl ⟨by rfl, ?_⟩) (by assumption) ?_
        rotate_left 1
        · (intro w hSw; (try dsimp only at hSw); go_simp; try with_reducible rfl)
        all_goals try simp only [Act.put]
        all_goals try simp only [List.setIfInBounds_toArray]
        all_goals try simp only [List.set_cons_succ]
        all_goals try simp only [List.set_cons_zero]
        refine wpAnyH_take (i := 5) (oi := _) (v := ?_) (by simp only [List.getElem?_toArray, List.getElem?_cons_succ, List.getElem?_cons_zero]; rfl) (by kernel_rfl) (by kernel_rfl) (by kernel_rfl) (by exact fun _ _ _ h => h) (Or.inl ⟨by rfl, ?_⟩) (by assumption) ?_
        rotate_left 1
        · (intro w hSw; (try dsimp only at hSw); go_simp; try with_reducible rfl)
        all_goals try simp only [Act.put]
        all_goals try simp only [List.setIfInBounds_toArray]
        all_goals try simp only [List.set_cons_succ]
        all_goals try simp only [List.set_cons_zero]
        refine wpAnyH_take (i := 6) (oi := _) (v := ?_) (by simp only [List.getElem?_toArray, List.getElem?_cons_succ, List.getElem?_cons_zero]; rfl) (by kernel_rfl) (by kernel_rfl) (by kernel_rfl) (by exact fun _ _ _ h => h) (Or.inl ⟨by rfl, ?_⟩) (by assumption) ?_
        rotate_left 1
        · (intro w hSw; (try dsimp only at hSw); go_simp; try with_reducible rfl)
        all_goals try simp only [Act.put]
        all_goals try simp only [List.setIfInBounds_toArray]
        all_goals try simp only [List.set_cons_succ]
        all_goals try simp only [List.set_cons_zero]
        have z0 := ZB.out.cell 0; have z1 := ZB.out.cell 1; have z2 := ZB.out.cell 2; have v0 := ZB.out.frozen 0; have v1 := ZB.out.frozen 1; have v2 := ZB.out.frozen 2
        simp at z0 z1 z2
        refine wpAnyH_ready (rs := [8]) (by kernel_rfl) (by simp) ?_
        refine (AllReadyH.cons (by simp only [List.getElem?_toArray, List.getElem?_cons_succ, List.getElem?_cons_zero]; rfl) (fun K hK => ?_) AllReadyH.nil)
        rw [if_pos (by rfl)]
        go_simp
        have E := Lib.hid (E.out.sto ZB.out (by omega) hZp ZA.out X6.out XO.out)
        dsimp only [List.cons_append, List.nil_append] at E
        clear hHeld z0 z1 z2 v0 v1 v2
        clear x0 x1 x2 hlx
        obtain ⟨x0, x1, x2, hlx⟩ := (E.out.get 0 rfl).cells
        refine hK.out _ _ (by exact ⟨x0, x1, x2⟩) (fun hHeld => ?_)
        clear hK K
        try simp only [Act.put]
        try simp only [List.setIfInBounds_toArray]
        try simp only [List.set_cons_succ]
        try simp only [List.set_cons_zero]
        refine wpAnyH_take (i := 9) (oi := _) (v := ?_) (by simp only [List.getElem?_toArray, List.getElem?_cons_succ, List.getElem?_cons_zero]; rfl) (by kernel_rfl) (by kernel_rfl) (by kernel_rfl) (by exact fun _ _ _ h => h) (Or.inl ⟨by rfl, ?_⟩) (by assumption) ?_
        rotate_left 1
        · (intro w hSw; (try dsimp only at hSw); go_simp; try with_reducible rfl)
        all_goals try simp only [Act.put]
        all_goals try simp only [List.setIfInBounds_toArray]
        all_goals try simp only [List.set_cons_succ]
        all_goals try simp only [List.set_cons_zero]
        refine wpAnyH_done (by kernel_rfl) ?_ _
        go_wp2_with fail
        go_meet
        exact ⟨Z, h, r, er, A6, n6, c6, rfl, rfl, HS6.out, HD5.out, HC6.out, E.out⟩
    · rw [if_pos (by rfl)]
      go_simp
      have hZp := E.out.s.lt
      have ZB := Lib.hid (Blk.new wd 24 #[.slice none 0 0, .int .i64 0, .int .i64 0])
      have ZA := Lib.hid E.out.apart
      try (have XO := Lib.hid X6.out.off)
      try (have X6 := Lib.hid (X6.out.alloc (.cells #[.slice none 0 0, .int .i64 0, .int .i64 0] 24)))
      try (have H5 := Lib.hid (H5.out.alloc (.cells #[.slice none 0 0, .int .i64 0, .int .i64 0] 24)))
      have E := Lib.hid (E.out.alloc (.cells #[.slice none 0 0, .int .i64 0, .int .i64 0] 24))
      generalize hzz : wd.alloc (.cells #[.slice none 0 0, .int .i64 0, .int .i64 0] 24) = w5 at *
      clear hzz
      generalize wd.heap.size = Z at *
      clear hHeld
      clear x0 x1 x2 hlx
      obtain ⟨x0, x1, x2, hlx⟩ := (E.out.get 0 rfl).cells
      have hZl := ZB.out.lt
      refine hK.out _ _ (by exact ⟨x0, x1, x2⟩) (fun hHeld => ?_)
      clear hK K
      try simp only [Act.put]
      try simp only [List.setIfInBounds_toArray]
      try simp only [List.set_cons_succ]
      try simp only [List.set_cons_zero]
      refine wpAnyH_ready (rs := [2]) (by kernel_rfl) (by simp) ?_
      refine (AllReadyH.cons (by simp only [List.getElem?_toArray, List.getElem?_cons_succ, List.getElem?_cons_zero]; rfl) (fun K hK => ?_) AllReadyH.nil)
      rw [if_pos (by rfl)]
      go_simp
      refine (srcCurve2_any w.heap.size 3 w5 (by exact E.out.s) (by omega) (by omega)).mono ?_
      rintro e w6 ⟨h, A5, n5, c5, hD, hc5, rfl, hI, hA, hS, hk⟩
      have hps := E.out.s.lt
      try (have ZB := Lib.hid (ZB.out.kept (by omega) hk))
      have E := Lib.hid (E.out.kept hS hk)
      have H5 := Lib.hid (show (CR.mk A5 n5 c5 h).In w.heap.size w6 from CR.In.new hI hA hps)
      have HD5 := Lib.hid (show DrawC 3 h from hD)
      have HC5 := Lib.hid hc5
      have hn5 : n5 ≤ 11 := by have h1 := HD5.out.len; have h2 : h.vals.length = n5 := hI.1; omega
      clear hD hI hA hS hk hps hc5 hHeld
      clear x0 x1 x2 hlx
      obtain ⟨x0, x1, x2, hlx⟩ := (E.out.get 0 rfl).cells
      refine hK.out _ _ (by exact ⟨x0, x1, x2⟩) (fun hHeld => ?_)
      clear hK K
      try simp only [Act.put]
      try simp only [List.setIfInBounds_toArray]
      try simp only [List.set_cons_succ]
      try simp only [List.set_cons_zero]
      refine wpAnyH_ready (rs := [3]) (by kernel_rfl) (by simp) ?_
      refine (AllReadyH.cons (by simp only [List.getElem?_toArray, List.getElem?_cons_succ, List.getElem?_cons_zero]; rfl) (fun K hK => ?_) AllReadyH.nil)
      rw [if_pos (by rfl)]
      go_simp
      refine (refSum_any A A5 n n5 c c5 f.per f.inc h.per h.inc f.vals h.vals w6 (by exact (E.out.get 0 rfl).inn.ints) (by exact H5.out.ints) (by omega) (by omega) HNC.out HC5.out).mono ?_
      rintro e w7 ⟨r, er, A6, n6, c6, hSS, hc6, rfl, hI, hA, hb⟩
      have hps := E.out.s.lt
      try (have hZl := ZB.out.lt)
      try (have ZB := Lib.hid (ZB.out.below hb ZB.out.lt))
      have E := Lib.hid (E.out.below hb)
      have X6 := Lib.hid (show (CR.mk A6 n6 c6 r).In w.heap.size w7 from CR.In.new hI hA hps)
      try (have XO := Lib.hid (show CR.Off ⟨A6, n6, c6, r⟩ Z from CR.Off.of_ge hA (by omega)))
      have HS6 := Lib.hid hSS
      have HC6 := Lib.hid hc6
      clear hI hA hb hps hc6 hSS hHeld
      clear x0 x1 x2 hlx
      obtain ⟨x0, x1, x2, hlx⟩ := (E.out.get 0 rfl).cells
      refine hK.out _ _ (by exact ⟨x0, x1, x2⟩) (fun hHeld => ?_)
      clear hK K
      try simp only [Act.put]
      try simp only [List.setIfInBounds_toArray]
      try simp only [List.set_cons_succ]
      try simp only [List.set_cons_zero]
      refine wpAnyH_take (i := 4) (oi := _) (v := ?_) (by simp only [List.getElem?_toArray, List.getElem?_cons_succ, List.getElem?_cons_zero]; rfl) (by kernel_rfl) (by kernel_rfl) (by kernel_rfl) (by exact fun _ _ _ h => h) (Or.inl ⟨by rfl, ?_⟩) (by assumption) ?_
      rotate_left 1
      · (intro w hSw; (try dsimp only at hSw); go_simp; try with_reducible rfl)
      all_goals try simp only [Act.put]
      all_goals try simp only [List.setIfInBounds_toArray]
      all_goals try simp only [List.set_cons_succ]
      all_goals try simp only [List.set_cons_zero]
      refine wpAnyH_take (i := 5) (oi := _) (v := ?_) (by simp only [List.getElem?_toArray, List.getElem?_cons_succ, List.getElem?_cons_zero]; rfl) (by kernel_rfl) (by kernel_rfl) (by kernel_rfl) (by exact fun _ _ _ h => h) (Or.inl ⟨by rfl, ?_⟩) (by assumption) ?_
      rotate_left 1
      · (intro w hSw; (try dsimp only at hSw); go_simp; try with_reducible rfl)
      all_goals try simp only [Act.put]
      all_goals try simp only [List.setIfInBounds_toArray]
      all_goals try simp only [List.set_cons_succ]
      all_goals try simp only [List.set_cons_zero]
      refine wpAnyH_take (i := 6) (oi := _) (v := ?_) (by simp only [List.getElem?_toArray, List.getElem?_cons_succ, List.getElem?_cons_zero]; rfl) (by kernel_rfl) (by kernel_rfl) (by kernel_rfl) (by exact fun _ _ _ h => h) (Or.inl ⟨by rfl, ?_⟩) (by assumption) ?_
      rotate_left 1
      · (intro w hSw; (try dsimp only at hSw); go_simp; try with_reducible rfl)
      all_goals try simp only [Act.put]
      all_goals try simp only [List.setIfInBounds_toArray]
      all_goals try simp only [List.set_cons_succ]
      all_goals try simp only [List.set_cons_zero]
      have z0 := ZB.out.cell 0; have z1 := ZB.out.cell 1; have z2 := ZB.out.cell 2; have v0 := ZB.out.frozen 0; have v1 := ZB.out.frozen 1; have v2 := ZB.out.frozen 2
      simp at z0 z1 z2
      refine wpAnyH_ready (rs := [8]) (by kernel_rfl) (by simp) ?_
      refine (AllReadyH.cons (by simp only [List.getElem?_toArray, List.getElem?_cons_succ, List.getElem?_cons_zero]; rfl) (fun K hK => ?_) AllReadyH.nil)
      rw [if_pos (by rfl)]
      go_simp
      have E := Lib.hid (E.out.sto ZB.out (by omega) hZp ZA.out X6.out XO.out)
      dsimp only [List.cons_append, List.nil_append] at E
      clear hHeld z0 z1 z2 v0 v1 v2
      clear x0 x1 x2 hlx
      obtain ⟨x0, x1, x2, hlx⟩ := (E.out.get 0 rfl).cells
      refine hK.out _ _ (by exact ⟨x0, x1, x2⟩) (fun hHeld => ?_)
      clear hK K
      try simp only [Act.put]
      try simp only [List.setIfInBounds_toArray]
      try simp only [List.set_cons_succ]
      try simp only [List.set_cons_zero]
      refine wpAnyH_take (i := 9) (oi := _) (v := ?_) (by simp only [List.getElem?_toArray, List.getElem?_cons_succ, List.getElem?_cons_zero]; rfl) (by kernel_rfl) (by kernel_rfl) (by kernel_rfl) (by exact fun _ _ _ h => h) (Or.inl ⟨by rfl, ?_⟩) (by assumption) ?_
      rotate_left 1
      · (intro w hSw; (try dsimp only at hSw); go_simp; try with_reducible rfl)
      all_goals try simp only [Act.put]
      all_goals try simp only [List.setIfInBounds_toArray]
      all_goals try simp only [List.set_cons_succ]
      all_goals try simp only [List.set_cons_zero]
      refine wpAnyH_done (by kernel_rfl) ?_ _
      go_wp2_with fail
      go_meet
      exact ⟨Z, h, r, er, A6, n6, c6, rfl, rfl, HS6.out, HD5.out, HC6.out, E.out⟩
  case rest =>
    obtain ⟨Z1, h1, r1, er1, A1, n1, c1, rfl, rfl, hSS, hD, hc1, he⟩ := hcut
    have E := Lib.hid (show EnvL w.heap.size w _ [(F, ⟨A, n, c, f⟩), (G, ⟨B, m, d, g⟩), (Z1, ⟨A1, n1, c1, r1⟩)] from he)
    have HDH := Lib.hid hD
    obtain ⟨rfl, hro, hrat⟩ := sum_made (by omega) (by omega) HD.out hD hSS
    have HO1 := Lib.hid hro; have HAT1 := Lib.hid hrat
    have hn1 : n1 ≤ 400 := by have h1 := hro.n2; have h2 : r1.vals.length = n1 := (E.out.get 2 rfl).inn.ints.1; omega
    clear hSS hD hc1 he hro hrat
    go_upto_region 4 with fail
    obtain ⟨x0, x1, x2, hlx⟩ := (E.out.get 1 rfl).cells
    go_cut [8, 9] (fun s6 s7 wx => ∃ (Z : Nat) (h r : Cv) (er : Int) (A6 : Option Addr) (n6 c6 : Nat), s6 = .pointer (some ⟨Z, 0, none⟩) ∧ s7 = .int .i64 er ∧ SumS g h r er ∧ DrawC 3 h ∧ n6 ≤ c6 ∧ EnvL w.heap.size w wx ([(F, ⟨A, n, c, f⟩), (G, ⟨B, m, d, g⟩), (Z1, ⟨A1, n1, c1, r1⟩)] ++ [(Z, ⟨A6, n6, c6, r⟩)]))
    case first =>
      refine wp_region_held_drew (S := (fun w' => w'.cell? ⟨G, 0, none⟩ = some (.slice B m d) ∧ w'.cell? ⟨G, 1, none⟩ = some (.int .i64 g.per) ∧ w'.cell? ⟨G, 2, none⟩ = some (.int .i64 g.inc))) (by kernel_rfl) ⟨x0, x1, x2⟩ (fun hHeld => ?_)
      have E := Lib.hid E.out.drew
      clear x0 x1 x2 hlx
      generalize wc.drew = wd at *
      obtain ⟨x0, x1, x2, hlx⟩ := (E.out.get 1 rfl).cells
      refine wpAnyH_take (i := 0) (oi := _) (v := ?_) (by simp only [List.getElem?_toArray, List.getElem?_cons_zero]; rfl) (by kernel_rfl) (by kernel_rfl) (by kernel_rfl) (by exact fun _ _ _ h => h) (Or.inl ⟨by rfl, ?_⟩) (by assumption) ?_
      rotate_left 1
      · (intro w hSw; (try dsimp only at hSw); go_simp; try with_reducible rfl)
      all_goals try simp only [Act.put]
      all_goals try simp only [List.setIfInBounds_toArray]
      all_goals try simp only [List.set_cons_succ]
      all_goals try simp only [List.set_cons_zero]
      refine wpAnyH_take (i := 1) (oi := _) (v := ?_) (by simp only [List.getElem?_toArray, List.getElem?_cons_succ, List.getElem?_cons_zero]; rfl) (by kernel_rfl) (by kernel_rfl) (by kernel_rfl) (by exact fun _ _ _ h => h) (Or.inl ⟨by rfl, ?_⟩) (by assumption) ?_
      rotate_left 1
      · (intro w hSw; (try dsimp only at hSw); go_simp; try with_reducible rfl)
      all_goals try simp only [Act.put]
      all_goals try simp only [List.setIfInBounds_toArray]
      all_goals try simp only [List.set_cons_succ]
      all_goals try simp only [List.set_cons_zero]
      refine wpAnyH_ready (rs := [2, 7]) (by kernel_rfl) (by simp) ?_
      refine (AllReadyH.cons (by simp only [List.getElem?_toArray, List.getElem?_cons_succ, List.getElem?_cons_zero]; rfl) (fun K hK => ?_) (AllReadyH.cons (by simp only [List.getElem?_toArray, List.getElem?_cons_succ, List.getElem?_cons_zero]; rfl) (fun K hK => ?_) AllReadyH.nil))
      · rw [if_pos (by rfl)]
        go_simp
        refine (srcCurve2_any w.heap.size 3 wd (by exact E.out.s) (by omega) (by omega)).mono ?_
        rintro e w5 ⟨h, A5, n5, c5, hD, hc5, rfl, hI, hA, hS, hk⟩
        have hps := E.out.s.lt
        try (have ZB := Lib.hid (ZB.out.kept (by omega) hk))
        have E := Lib.hid (E.out.kept hS hk)
        have H5 := Lib.hid (show (CR.mk A5 n5 c5 h).In w.heap.size w5 from CR.In.new hI hA hps)
        have HD5 := Lib.hid (show DrawC 3 h from hD)
        have HC5 := Lib.hid hc5
        have hn5 : n5 ≤ 11 := by have h1 := HD5.out.len; have h2 : h.vals.length = n5 := hI.1; omega
        clear hD hI hA hS hk hps hc5 hHeld
        clear x0 x1 x2 hlx
        obtain ⟨x0, x1, x2, hlx⟩ := (E.out.get 1 rfl).cells
        refine hK.out _ _ (by exact ⟨x0, x1, x2⟩) (fun hHeld => ?_)
        clear hK K
        try simp only [Act.put]
        try simp only [List.setIfInBounds_toArray]
        try simp only [List.set_cons_succ]
        try simp only [List.set_cons_zero]
        refine wpAnyH_ready (rs := [3, 7]) (by kernel_rfl) (by simp) ?_
        refine (AllReadyH.cons (by simp only [List.getElem?_toArray, List.getElem?_cons_succ, List.getElem?_cons_zero]; rfl) (fun K hK => ?_) (AllReadyH.cons (by simp only [List.getElem?_toArray, List.getElem?_cons_succ, List.getElem?_cons_zero]; rfl) (fun K hK => ?_) AllReadyH.nil))
        · rw [if_pos (by rfl)]
          go_simp
          refine (refSum_any B A5 m n5 d c5 g.per g.inc h.per h.inc g.vals h.vals w5 (by exact (E.out.get 1 rfl).inn.ints) (by exact H5.out.ints) (by omega) (by omega) HMD.out HC5.out).mono ?_
          rintro e w6 ⟨r, er, A6, n6, c6, hSS, hc6, rfl, hI, hA, hb⟩
          have hps := E.out.s.lt
          try (have hZl := ZB.out.lt)
          try (have ZB := Lib.hid (ZB.out.below hb ZB.out.lt))
          have E := Lib.hid (E.out.below hb)
          have X6 := Lib.hid (show (CR.mk A6 n6 c6 r).In w.heap.size w6 from CR.In.new hI hA hps)
          try (have XO := Lib.hid (show CR.Off ⟨A6, n6, c6, r⟩ Z from CR.Off.of_ge hA (by omega)))
          have HS6 := Lib.hid hSS
          have HC6 := Lib.hid hc6
          clear hI hA hb hps hc6 hSS hHeld
          clear x0 x1 x2 hlx
          obtain ⟨x0, x1, x2, hlx⟩ := (E.out.get 1 rfl).cells
          refine hK.out _ _ (by exact ⟨x0, x1, x2⟩) (fun hHeld => ?_)
          clear hK K
          try simp only [Act.put]
          try simp only [List.setIfInBounds_toArray]
          try simp only [List.set_cons_succ]
          try simp only [List.set_cons_zero]
          refine wpAnyH_take (i := 4) (oi := _) (v := ?_) (by simp only [List.getElem?_toArray, List.getElem?_cons_succ, List.getElem?_cons_zero]; rfl) (by kernel_rfl) (by kernel_rfl) (by kernel_rfl) (by exact fun _ _ _ h => h) (Or.inl ⟨by rfl, ?_⟩) (by assumption) ?_
          rotate_left 1
          · (intro w hSw; (try dsimp only at hSw); go_simp; try with_reducible rfl)
          all_goals try simp only [Act.put]
          all_goals try simp only [List.setIfInBounds_toArray]
          all_goals try simp only [List.set_cons_succ]
          all_goals try simp only [List.set_cons_zero]
          refine wpAnyH_take (i := 5) (oi := _) (v := ?_) (by simp only [List.getElem?_toArray, List.getElem?_cons_succ, List.getElem?_cons_zero]; rfl) (by kernel_rfl) (by kernel_rfl) (by kernel_rfl) (by exact fun _ _ _ h => h) (Or.inl ⟨by rfl, ?_⟩) (by assumption) ?_
          rotate_left 1
          · (intro w hSw; (try dsimp only at hSw); go_simp; try with_reducible rfl)
          all_goals try simp only [Act.put]
          all_goals try simp only [List.setIfInBounds_toArray]
          all_goals try simp only [List.set_cons_succ]
          all_goals try simp only [List.set_cons_zero]
          refine wpAnyH_take (i := 6) (oi := _) (v := ?_) (by simp only [List.getElem?_toArray, List.getElem?_cons_succ, List.getElem?_cons_zero]; rfl) (by kernel_rfl) (by kernel_rfl) (by kernel_rfl) (by exact fun _ _ _ h => h) (Or.inl ⟨by rfl, ?_⟩) (by assumption) ?_
          rotate_left 1
          · (intro w hSw; (try dsimp only at hSw); go_simp; try with_reducible rfl)
          all_goals try simp only [Act.put]
          all_goals try simp only [List.setIfInBounds_toArray]
          all_goals try simp only [List.set_cons_succ]
          all_goals try simp only [List.set_cons_zero]
          refine wpAnyH_ready (rs := [7]) (by kernel_rfl) (by simp) ?_
          refine (AllReadyH.cons (by simp only [List.getElem?_toArray, List.getElem?_cons_succ, List.getElem?_cons_zero]; rfl) (fun K hK => ?_) AllReadyH.nil)
          rw [if_pos (by rfl)]
          go_simp
          have hZp := E.out.s.lt
          have ZB := Lib.hid (Blk.new w6 24 #[.slice none 0 0, .int .i64 0, .int .i64 0])
          have ZA := Lib.hid E.out.apart
          try (have XO := Lib.hid X6.out.off)
          try (have X6 := Lib.hid (X6.out.alloc (.cells #[.slice none 0 0, .int .i64 0, .int .i64 0] 24)))
          try (have H5 := Lib.hid (H5.out.alloc (.cells #[.slice none 0 0, .int .i64 0, .int .i64 0] 24)))
          have E := Lib.hid (E.out.alloc (.cells #[.slice none 0 0, .int .i64 0, .int .i64 0] 24))
          generalize hzz : w6.alloc (.cells #[.slice none 0 0, .int .i64 0, .int .i64 0] 24) = w7 at *
          clear hzz
          generalize w6.heap.size = Z at *
          clear hHeld
          clear x0 x1 x2 hlx
          obtain ⟨x0, x1, x2, hlx⟩ := (E.out.get 1 rfl).cells
          have hZl := ZB.out.lt
          refine hK.out _ _ (by exact ⟨x0, x1, x2⟩) (fun hHeld => ?_)
          clear hK K
          try simp only [Act.put]
          try simp only [List.setIfInBounds_toArray]
          try simp only [List.set_cons_succ]
          try simp only [List.set_cons_zero]
          have z0 := ZB.out.cell 0; have z1 := ZB.out.cell 1; have z2 := ZB.out.cell 2; have v0 := ZB.out.frozen 0; have v1 := ZB.out.frozen 1; have v2 := ZB.out.frozen 2
          simp at z0 z1 z2
          refine wpAnyH_ready (rs := [8]) (by kernel_rfl) (by simp) ?_
          refine (AllReadyH.cons (by simp only [List.getElem?_toArray, List.getElem?_cons_succ, List.getElem?_cons_zero]; rfl) (fun K hK => ?_) AllReadyH.nil)
          rw [if_pos (by rfl)]
          go_simp
          have E := Lib.hid (E.out.sto ZB.out (by omega) hZp ZA.out X6.out XO.out)
          dsimp only [List.cons_append, List.nil_append] at E
          clear hHeld z0 z1 z2 v0 v1 v2
          clear x0 x1 x2 hlx
          obtain ⟨x0, x1, x2, hlx⟩ := (E.out.get 1 rfl).cells
          refine hK.out _ _ (by exact ⟨x0, x1, x2⟩) (fun hHeld => ?_)
          clear hK K
          try simp only [Act.put]
          try simp only [List.setIfInBounds_toArray]
          try simp only [List.set_cons_succ]
          try simp only [List.set_cons_zero]
          refine wpAnyH_take (i := 9) (oi := _) (v := ?_) (by simp only [List.getElem?_toArray, List.getElem?_cons_succ, List.getElem?_cons_zero]; rfl) (by kernel_rfl) (by kernel_rfl) (by kernel_rfl) (by exact fun _ _ _ h => h) (Or.inl ⟨by rfl, ?_⟩) (by assumption) ?_
          rotate_left 1
          · (intro w hSw; (try dsimp only at hSw); go_simp; try with_reducible rfl)
          all_goals try simp only [Act.put]
          all_goals try simp only [List.setIfInBounds_toArray]
          all_goals try simp only [List.set_cons_succ]
          all_goals try simp only [List.set_cons_zero]
          refine wpAnyH_done (by kernel_rfl) ?_ _
          go_wp2_with fail
          go_meet
          exact ⟨Z, h, r, er, A6, n6, c6, rfl, rfl, HS6.out, HD5.out, HC6.out, E.out⟩
        · rw [if_pos (by rfl)]
          go_simp
          have hZp := E.out.s.lt
          have ZB := Lib.hid (Blk.new w5 24 #[.slice none 0 0, .int .i64 0, .int .i64 0])
          have ZA := Lib.hid E.out.apart
          try (have XO := Lib.hid X6.out.off)
          try (have X6 := Lib.hid (X6.out.alloc (.cells #[.slice none 0 0, .int .i64 0, .int .i64 0] 24)))
          try (have H5 := Lib.hid (H5.out.alloc (.cells #[.slice none 0 0, .int .i64 0, .int .i64 0] 24)))
          have E := Lib.hid (E.out.alloc (.cells #[.slice none 0 0, .int .i64 0, .int .i64 0] 24))
          generalize hzz : w5.alloc (.cells #[.slice none 0 0, .int .i64 0, .int .i64 0] 24) = w6 at *
          clear hzz
          generalize w5.heap.size = Z at *
          clear hHeld
          clear x0 x1 x2 hlx
          obtain ⟨x0, x1, x2, hlx⟩ := (E.out.get 1 rfl).cells
          have hZl := ZB.out.lt
          refine hK.out _ _ (by exact ⟨x0, x1, x2⟩) (fun hHeld => ?_)
          clear hK K
          try simp only [Act.put]
          try simp only [List.setIfInBounds_toArray]
          try simp only [List.set_cons_succ]
          try simp only [List.set_cons_zero]
          refine wpAnyH_ready (rs := [3]) (by kernel_rfl) (by simp) ?_
          refine (AllReadyH.cons (by simp only [List.getElem?_toArray, List.getElem?_cons_succ, List.getElem?_cons_zero]; rfl) (fun K hK => ?_) AllReadyH.nil)
          rw [if_pos (by rfl)]
          go_simp
          refine (refSum_any B A5 m n5 d c5 g.per g.inc h.per h.inc g.vals h.vals w6 (by exact (E.out.get 1 rfl).inn.ints) (by exact H5.out.ints) (by omega) (by omega) HMD.out HC5.out).mono ?_
          rintro e w7 ⟨r, er, A6, n6, c6, hSS, hc6, rfl, hI, hA, hb⟩
          have hps := E.out.s.lt
          try (have hZl := ZB.out.lt)
          try (have ZB := Lib.hid (ZB.out.below hb ZB.out.lt))
          have E := Lib.hid (E.out.below hb)
          have X6 := Lib.hid (show (CR.mk A6 n6 c6 r).In w.heap.size w7 from CR.In.new hI hA hps)
          try (have XO := Lib.hid (show CR.Off ⟨A6, n6, c6, r⟩ Z from CR.Off.of_ge hA (by omega)))
          have HS6 := Lib.hid hSS
          have HC6 := Lib.hid hc6
          clear hI hA hb hps hc6 hSS hHeld
          clear x0 x1 x2 hlx
          obtain ⟨x0, x1, x2, hlx⟩ := (E.out.get 1 rfl).cells
          refine hK.out _ _ (by exact ⟨x0, x1, x2⟩) (fun hHeld => ?_)
          clear hK K
          try simp only [Act.put]
          try simp only [List.setIfInBounds_toArray]
          try simp only [List.set_cons_succ]
          try simp only [List.set_cons_zero]
          refine wpAnyH_take (i := 4) (oi := _) (v := ?_) (by simp only [List.getElem?_toArray, List.getElem?_cons_succ, List.getElem?_cons_zero]; rfl) (by kernel_rfl) (by kernel_rfl) (by kernel_rfl) (by exact fun _ _ _ h => h) (Or.inl ⟨by rfl, ?_⟩) (by assumption) ?_
          rotate_left 1
          · (intro w hSw; (try dsimp only at hSw); go_simp; try with_reducible rfl)
          all_goals try simp only [Act.put]
          all_goals try simp only [List.setIfInBounds_toArray]
          all_goals try simp only [List.set_cons_succ]
          all_goals try simp only [List.set_cons_zero]
          refine wpAnyH_take (i := 5) (oi := _) (v := ?_) (by simp only [List.getElem?_toArray, List.getElem?_cons_succ, List.getElem?_cons_zero]; rfl) (by kernel_rfl) (by kernel_rfl) (by kernel_rfl) (by exact fun _ _ _ h => h) (Or.inl ⟨by rfl, ?_⟩) (by assumption) ?_
          rotate_left 1
          · (intro w hSw; (try dsimp only at hSw); go_simp; try with_reducible rfl)
          all_goals try simp only [Act.put]
          all_goals try simp only [List.setIfInBounds_toArray]
          all_goals try simp only [List.set_cons_succ]
          all_goals try simp only [List.set_cons_zero]
          refine wpAnyH_take (i := 6) (oi := _) (v := ?_) (by simp only [List.getElem?_toArray, List.getElem?_cons_succ, List.getElem?_cons_zero]; rfl) (by kernel_rfl) (by kernel_rfl) (by kernel_rfl) (by exact fun _ _ _ h => h) (Or.inl ⟨by rfl, ?_⟩) (by assumption) ?_
          rotate_left 1
          · (intro w hSw; (try dsimp only at hSw); go_simp; try with_reducible rfl)
          all_goals try simp only [Act.put]
          all_goals try simp only [List.setIfInBounds_toArray]
          all_goals try simp only [List.set_cons_succ]
          all_goals try simp only [List.set_cons_zero]
          have z0 := ZB.out.cell 0; have z1 := ZB.out.cell 1; have z2 := ZB.out.cell 2; have v0 := ZB.out.frozen 0; have v1 := ZB.out.frozen 1; have v2 := ZB.out.frozen 2
          simp at z0 z1 z2
          refine wpAnyH_ready (rs := [8]) (by kernel_rfl) (by simp) ?_
          refine (AllReadyH.cons (by simp only [List.getElem?_toArray, List.getElem?_cons_succ, List.getElem?_cons_zero]; rfl) (fun K hK => ?_) AllReadyH.nil)
          rw [if_pos (by rfl)]
          go_simp
          have E := Lib.hid (E.out.sto ZB.out (by omega) hZp ZA.out X6.out XO.out)
          dsimp only [List.cons_append, List.nil_append] at E
          clear hHeld z0 z1 z2 v0 v1 v2
          clear x0 x1 x2 hlx
          obtain ⟨x0, x1, x2, hlx⟩ := (E.out.get 1 rfl).cells
          refine hK.out _ _ (by exact ⟨x0, x1, x2⟩) (fun hHeld => ?_)
          clear hK K
          try simp only [Act.put]
          try simp only [List.setIfInBounds_toArray]
          try simp only [List.set_cons_succ]
          try simp only [List.set_cons_zero]
          refine wpAnyH_take (i := 9) (oi := _) (v := ?_) (by simp only [List.getElem?_toArray, List.getElem?_cons_succ, List.getElem?_cons_zero]; rfl) (by kernel_rfl) (by kernel_rfl) (by kernel_rfl) (by exact fun _ _ _ h => h) (Or.inl ⟨by rfl, ?_⟩) (by assumption) ?_
          rotate_left 1
          · (intro w hSw; (try dsimp only at hSw); go_simp; try with_reducible rfl)
          all_goals try simp only [Act.put]
          all_goals try simp only [List.setIfInBounds_toArray]
          all_goals try simp only [List.set_cons_succ]
          all_goals try simp only [List.set_cons_zero]
          refine wpAnyH_done (by kernel_rfl) ?_ _
          go_wp2_with fail
          go_meet
          exact ⟨Z, h, r, er, A6, n6, c6, rfl, rfl, HS6.out, HD5.out, HC6.out, E.out⟩
      · rw [if_pos (by rfl)]
        go_simp
        have hZp := E.out.s.lt
        have ZB := Lib.hid (Blk.new wd 24 #[.slice none 0 0, .int .i64 0, .int .i64 0])
        have ZA := Lib.hid E.out.apart
        try (have XO := Lib.hid X6.out.off)
        try (have X6 := Lib.hid (X6.out.alloc (.cells #[.slice none 0 0, .int .i64 0, .int .i64 0] 24)))
        try (have H5 := Lib.hid (H5.out.alloc (.cells #[.slice none 0 0, .int .i64 0, .int .i64 0] 24)))
        have E := Lib.hid (E.out.alloc (.cells #[.slice none 0 0, .int .i64 0, .int .i64 0] 24))
        generalize hzz : wd.alloc (.cells #[.slice none 0 0, .int .i64 0, .int .i64 0] 24) = w5 at *
        clear hzz
        generalize wd.heap.size = Z at *
        clear hHeld
        clear x0 x1 x2 hlx
        obtain ⟨x0, x1, x2, hlx⟩ := (E.out.get 1 rfl).cells
        have hZl := ZB.out.lt
        refine hK.out _ _ (by exact ⟨x0, x1, x2⟩) (fun hHeld => ?_)
        clear hK K
        try simp only [Act.put]
        try simp only [List.setIfInBounds_toArray]
        try simp only [List.set_cons_succ]
        try simp only [List.set_cons_zero]
        refine wpAnyH_ready (rs := [2]) (by kernel_rfl) (by simp) ?_
        refine (AllReadyH.cons (by simp only [List.getElem?_toArray, List.getElem?_cons_succ, List.getElem?_cons_zero]; rfl) (fun K hK => ?_) AllReadyH.nil)
        rw [if_pos (by rfl)]
        go_simp
        refine (srcCurve2_any w.heap.size 3 w5 (by exact E.out.s) (by omega) (by omega)).mono ?_
        rintro e w6 ⟨h, A5, n5, c5, hD, hc5, rfl, hI, hA, hS, hk⟩
        have hps := E.out.s.lt
        try (have ZB := Lib.hid (ZB.out.kept (by omega) hk))
        have E := Lib.hid (E.out.kept hS hk)
        have H5 := Lib.hid (show (CR.mk A5 n5 c5 h).In w.heap.size w6 from CR.In.new hI hA hps)
        have HD5 := Lib.hid (show DrawC 3 h from hD)
        have HC5 := Lib.hid hc5
        have hn5 : n5 ≤ 11 := by have h1 := HD5.out.len; have h2 : h.vals.length = n5 := hI.1; omega
        clear hD hI hA hS hk hps hc5 hHeld
        clear x0 x1 x2 hlx
        obtain ⟨x0, x1, x2, hlx⟩ := (E.out.get 1 rfl).cells
        refine hK.out _ _ (by exact ⟨x0, x1, x2⟩) (fun hHeld => ?_)
        clear hK K
        try simp only [Act.put]
        try simp only [List.setIfInBounds_toArray]
        try simp only [List.set_cons_succ]
        try simp only [List.set_cons_zero]
        refine wpAnyH_ready (rs := [3]) (by kernel_rfl) (by simp) ?_
        refine (AllReadyH.cons (by simp only [List.getElem?_toArray, List.getElem?_cons_succ, List.getElem?_cons_zero]; rfl) (fun K hK => ?_) AllReadyH.nil)
        rw [if_pos (by rfl)]
        go_simp
        refine (refSum_any B A5 m n5 d c5 g.per g.inc h.per h.inc g.vals h.vals w6 (by exact (E.out.get 1 rfl).inn.ints) (by exact H5.out.ints) (by omega) (by omega) HMD.out HC5.out).mono ?_
        rintro e w7 ⟨r, er, A6, n6, c6, hSS, hc6, rfl, hI, hA, hb⟩
        have hps := E.out.s.lt
        try (have hZl := ZB.out.lt)
        try (have ZB := Lib.hid (ZB.out.below hb ZB.out.lt))
        have E := Lib.hid (E.out.below hb)
        have X6 := Lib.hid (show (CR.mk A6 n6 c6 r).In w.heap.size w7 from CR.In.new hI hA hps)
        try (have XO := Lib.hid (show CR.Off ⟨A6, n6, c6, r⟩ Z from CR.Off.of_ge hA (by omega)))
        have HS6 := Lib.hid hSS
        have HC6 := Lib.hid hc6
        clear hI hA hb hps hc6 hSS hHeld
        clear x0 x1 x2 hlx
        obtain ⟨x0, x1, x2, hlx⟩ := (E.out.get 1 rfl).cells
        refine hK.out _ _ (by exact ⟨x0, x1, x2⟩) (fun hHeld => ?_)
        clear hK K
        try simp only [Act.put]
        try simp only [List.setIfInBounds_toArray]
        try simp only [List.set_cons_succ]
        try simp only [List.set_cons_zero]
        refine wpAnyH_take (i := 4) (oi := _) (v := ?_) (by simp only [List.getElem?_toArray, List.getElem?_cons_succ, List.getElem?_cons_zero]; rfl) (by kernel_rfl) (by kernel_rfl) (by kernel_rfl) (by exact fun _ _ _ h => h) (Or.inl ⟨by rfl, ?_⟩) (by assumption) ?_
        rotate_left 1
        · (intro w hSw; (try dsimp only at hSw); go_simp; try with_reducible rfl)
        all_goals try simp only [Act.put]
        all_goals try simp only [List.setIfInBounds_toArray]
        all_goals try simp only [List.set_cons_succ]
        all_goals try simp only [List.set_cons_zero]
        refine wpAnyH_take (i := 5) (oi := _) (v := ?_) (by simp only [List.getElem?_toArray, List.getElem?_cons_succ, List.getElem?_cons_zero]; rfl) (by kernel_rfl) (by kernel_rfl) (by kernel_rfl) (by exact fun _ _ _ h => h) (Or.inl ⟨by rfl, ?_⟩) (by assumption) ?_
        rotate_left 1
        · (intro w hSw; (try dsimp only at hSw); go_simp; try with_reducible rfl)
        all_goals try simp only [Act.put]
        all_goals try simp only [List.setIfInBounds_toArray]
        all_goals try simp only [List.set_cons_succ]
        all_goals try simp only [List.set_cons_zero]
        refine wpAnyH_take (i := 6) (oi := _) (v := ?_) (by simp only [List.getElem?_toArray, List.getElem?_cons_succ, List.getElem?_cons_zero]; rfl) (by kernel_rfl) (by kernel_rfl) (by kernel_rfl) (by exact fun _ _ _ h => h) (Or.inl ⟨by rfl, ?_⟩) (by assumption) ?_
        rotate_left 1
        · (intro w hSw; (try dsimp only at hSw); go_simp; try with_reducible rfl)
        all_goals try simp only [Act.put]
        all_goals try simp only [List.setIfInBounds_toArray]
        all_goals try simp only [List.set_cons_succ]
        all_goals try simp only [List.set_cons_zero]
        have z0 := ZB.out.cell 0; have z1 := ZB.out.cell 1; have z2 := ZB.out.cell 2; have v0 := ZB.out.frozen 0; have v1 := ZB.out.frozen 1; have v2 := ZB.out.frozen 2
        simp at z0 z1 z2
        refine wpAnyH_ready (rs := [8]) (by kernel_rfl) (by simp) ?_
        refine (AllReadyH.cons (by simp only [List.getElem?_toArray, List.getElem?_cons_succ, List.getElem?_cons_zero]; rfl) (fun K hK => ?_) AllReadyH.nil)
        rw [if_pos (by rfl)]
        go_simp
        have E := Lib.hid (E.out.sto ZB.out (by omega) hZp ZA.out X6.out XO.out)
        dsimp only [List.cons_append, List.nil_append] at E
        clear hHeld z0 z1 z2 v0 v1 v2
        clear x0 x1 x2 hlx
        obtain ⟨x0, x1, x2, hlx⟩ := (E.out.get 1 rfl).cells
        refine hK.out _ _ (by exact ⟨x0, x1, x2⟩) (fun hHeld => ?_)
        clear hK K
        try simp only [Act.put]
        try simp only [List.setIfInBounds_toArray]
        try simp only [List.set_cons_succ]
        try simp only [List.set_cons_zero]
        refine wpAnyH_take (i := 9) (oi := _) (v := ?_) (by simp only [List.getElem?_toArray, List.getElem?_cons_succ, List.getElem?_cons_zero]; rfl) (by kernel_rfl) (by kernel_rfl) (by kernel_rfl) (by exact fun _ _ _ h => h) (Or.inl ⟨by rfl, ?_⟩) (by assumption) ?_
        rotate_left 1
        · (intro w hSw; (try dsimp only at hSw); go_simp; try with_reducible rfl)
        all_goals try simp only [Act.put]
        all_goals try simp only [List.setIfInBounds_toArray]
        all_goals try simp only [List.set_cons_succ]
        all_goals try simp only [List.set_cons_zero]
        refine wpAnyH_done (by kernel_rfl) ?_ _
        go_wp2_with fail
        go_meet
        exact ⟨Z, h, r, er, A6, n6, c6, rfl, rfl, HS6.out, HD5.out, HC6.out, E.out⟩
    case rest =>
      obtain ⟨Z2, h2, r2, er2, A2, n2, c2, rfl, rfl, hSS, hD, hc2, he⟩ := hcut
      have E := Lib.hid (show EnvL w.heap.size w _ [(F, ⟨A, n, c, f⟩), (G, ⟨B, m, d, g⟩), (Z1, ⟨A1, n1, c1, r1⟩), (Z2, ⟨A2, n2, c2, r2⟩)] from he)
      have HDG := Lib.hid hD
      obtain ⟨rfl, hro, hrat⟩ := sum_made (by omega) (by omega) HD2.out hD hSS
      have HO2 := Lib.hid hro; have HAT2 := Lib.hid hrat
      have hn2 : n2 ≤ 400 := by have h1 := hro.n2; have h2 : r2.vals.length = n2 := (E.out.get 3 rfl).inn.ints.1; omega
      clear hSS hD hc2 he hro hrat
      have PF := Lib.hid (show D12 f from ⟨HD.out.ok, fun a ha => HD.out.dvd ha⟩)
      have PG := Lib.hid (show D12 g from ⟨HD2.out.ok, fun a ha => HD2.out.dvd ha⟩)
      have PM := Lib.hid (show D12 r1 from ⟨HO1.out, fun a ha => sum_dvd HD.out HDH.out HO1.out HAT1.out ha⟩)
      have PS := Lib.hid (show D12 r2 from ⟨HO2.out, fun a ha => sum_dvd HD2.out HDG.out HO2.out HAT2.out ha⟩)
      have Q1 := Lib.hid (show ∀ M, DB r1 g M → DB f g M from fun M h t => le_more HD.out.ok HDH.out.ok HO1.out HAT1.out (h t))
      have Q2 := Lib.hid (show ∀ M, DB f g M → DB f r2 M from fun M h t => le_fast HD2.out.ok HDG.out.ok HO2.out HAT2.out (h t))
      have Q3 := Lib.hid (show ∀ M, AB r1 g 0 M → AB f g 0 M from fun M h => ab_more HD.out.ok HDH.out.ok HO1.out HAT1.out h)
      have Q4 := Lib.hid (show ∀ M, AB f g 0 M → AB f r2 0 M from fun M h => ab_fast HD2.out.ok HDG.out.ok HO2.out HAT2.out h)
      clear HD HD2 HDH HDG HO1 HO2 HAT1 HAT2 HNC HMD
      clear x0 x1 x2 hlx
      obtain ⟨x0, x1, x2, hlx⟩ := (E.out.get 0 rfl).cells
      obtain ⟨y0, y1, y2, hly⟩ := (E.out.get 1 rfl).cells
      obtain ⟨u0, u1, u2, hlu⟩ := (E.out.get 2 rfl).cells
      obtain ⟨t0, t1, t2, hlt⟩ := (E.out.get 3 rfl).cells
      go_wp2_with fail
      refine (delay_any A B n m c d f.per f.inc g.per g.inc f.vals g.vals _ (by exact (E.out.get 0 rfl).inn.ints) (by exact (E.out.get 1 rfl).inn.ints) (by omega) (by omega)).mono ?_
      rintro e w6 ⟨i1, v1, a1, er, hE, rfl, hb⟩
      go_upto_region 8 with fail
      obtain ⟨rfl, hL⟩ := hE.del PF.out PG.out
      have L1 := Lib.hid hL
      have E0 := E.out.below hb
      have hz1 := E0.s.lt
      have HA1 := Lib.hid E0.apart
      have E := Lib.hid (E0.alloc (.cells #[.bool i1, .int .i64 v1, .int .i64 a1] 35))
      have D1 := Lib.hid (Blk.new w6 35 #[.bool i1, .int .i64 v1, .int .i64 a1])
      generalize hwe : w6.alloc (.cells #[.bool i1, .int .i64 v1, .int .i64 a1] 35) = we at *
      clear hwe
      generalize w6.heap.size = d1 at *
      clear hE hL hb E0
      clear x0 x1 x2 hlx y0 y1 y2 hly u0 u1 u2 hlu t0 t1 t2 hlt
      obtain ⟨x0, x1, x2, hlx⟩ := (E.out.get 0 rfl).cells
      obtain ⟨y0, y1, y2, hly⟩ := (E.out.get 1 rfl).cells
      obtain ⟨u0, u1, u2, hlu⟩ := (E.out.get 2 rfl).cells
      obtain ⟨t0, t1, t2, hlt⟩ := (E.out.get 3 rfl).cells
      go_wp2_with fail
      refine (delay_any A1 B n1 m c1 d r1.per r1.inc g.per g.inc r1.vals g.vals _ (by exact (E.out.get 2 rfl).inn.ints) (by exact (E.out.get 1 rfl).inn.ints) (by omega) (by omega)).mono ?_
      rintro e w7 ⟨i2, v2, a2, er, hE, rfl, hb⟩
      have hzz1w7 := (D1.out.below hb D1.out.lt).lt
      have D1 := Lib.hid ((D1.out.below hb D1.out.lt).alloc (.cells #[.bool i2, .int .i64 v2, .int .i64 a2] 35))
      go_upto_region 9 with fail
      obtain ⟨rfl, hL⟩ := hE.del PM.out PG.out
      have L2 := Lib.hid hL
      have E0 := E.out.below hb
      have hz2 := E0.s.lt
      have HA2 := Lib.hid E0.apart
      have E := Lib.hid (E0.alloc (.cells #[.bool i2, .int .i64 v2, .int .i64 a2] 35))
      have D2 := Lib.hid (Blk.new w7 35 #[.bool i2, .int .i64 v2, .int .i64 a2])
      generalize hwe : w7.alloc (.cells #[.bool i2, .int .i64 v2, .int .i64 a2] 35) = we at *
      clear hwe
      generalize w7.heap.size = d2 at *
      clear hE hL hb E0
      clear x0 x1 x2 hlx y0 y1 y2 hly u0 u1 u2 hlu t0 t1 t2 hlt
      obtain ⟨x0, x1, x2, hlx⟩ := (E.out.get 0 rfl).cells
      obtain ⟨y0, y1, y2, hly⟩ := (E.out.get 1 rfl).cells
      obtain ⟨u0, u1, u2, hlu⟩ := (E.out.get 2 rfl).cells
      obtain ⟨t0, t1, t2, hlt⟩ := (E.out.get 3 rfl).cells
      go_wp2_with fail
      refine (delay_any A A2 n n2 c c2 f.per f.inc r2.per r2.inc f.vals r2.vals _ (by exact (E.out.get 0 rfl).inn.ints) (by exact (E.out.get 3 rfl).inn.ints) (by omega) (by omega)).mono ?_
      rintro e w8 ⟨i3, v3, a3, er, hE, rfl, hb⟩
      have hzz1w8 := (D1.out.below hb D1.out.lt).lt
      have D1 := Lib.hid ((D1.out.below hb D1.out.lt).alloc (.cells #[.bool i3, .int .i64 v3, .int .i64 a3] 35))
      have hzz2w8 := (D2.out.below hb D2.out.lt).lt
      have D2 := Lib.hid ((D2.out.below hb D2.out.lt).alloc (.cells #[.bool i3, .int .i64 v3, .int .i64 a3] 35))
      go_upto_region 10 with fail
      obtain ⟨rfl, hL⟩ := hE.del PF.out PS.out
      have L3 := Lib.hid hL
      have E0 := E.out.below hb
      have hz3 := E0.s.lt
      have HA3 := Lib.hid E0.apart
      have E := Lib.hid (E0.alloc (.cells #[.bool i3, .int .i64 v3, .int .i64 a3] 35))
      have D3 := Lib.hid (Blk.new w8 35 #[.bool i3, .int .i64 v3, .int .i64 a3])
      generalize hwe : w8.alloc (.cells #[.bool i3, .int .i64 v3, .int .i64 a3] 35) = we at *
      clear hwe
      generalize w8.heap.size = d3 at *
      clear hE hL hb E0
      clear x0 x1 x2 hlx y0 y1 y2 hly u0 u1 u2 hlu t0 t1 t2 hlt
      obtain ⟨x0, x1, x2, hlx⟩ := (E.out.get 0 rfl).cells
      obtain ⟨y0, y1, y2, hly⟩ := (E.out.get 1 rfl).cells
      obtain ⟨u0, u1, u2, hlu⟩ := (E.out.get 2 rfl).cells
      obtain ⟨t0, t1, t2, hlt⟩ := (E.out.get 3 rfl).cells
      have p0 := D1.out.cell 0; have p1 := D1.out.cell 1; have p2 := D1.out.cell 2
      have q0 := D2.out.cell 0; have q1 := D2.out.cell 1; have q2 := D2.out.cell 2
      have r0 := D3.out.cell 0; have r1' := D3.out.cell 1; have r2' := D3.out.cell 2
      have hv0 := D1.out.frozen 0; have hv1 := D1.out.frozen 1; have hv2 := D1.out.frozen 2
      have hq0 := D2.out.frozen 0; have hq1 := D2.out.frozen 1; have hq2 := D2.out.frozen 2
      have hr0 := D3.out.frozen 0; have hr1 := D3.out.frozen 1; have hr2 := D3.out.frozen 2
      simp at p0 p1 p2 q0 q1 q2 r0 r1' r2'
      go_wp2_with fail
      refine (less_any i1 i2 v1 a1 v2 a2 _).mono ?_
      rw [show lessB i1 i2 v1 v2 = true from L1.out.less L2.out Q1.out]
      rintro e wq ⟨rfl, hb⟩
      have E := Lib.hid (E.out.below hb)
      have D1 := Lib.hid (D1.out.below hb D1.out.lt); have D2 := Lib.hid (D2.out.below hb D2.out.lt); have D3 := Lib.hid (D3.out.below hb D3.out.lt)
      clear hb
      clear p0 p1 p2 q0 q1 q2 r0 r1' r2' hv0 hv1 hv2 hq0 hq1 hq2 hr0 hr1 hr2
      have p0 := D1.out.cell 0; have p1 := D1.out.cell 1; have p2 := D1.out.cell 2
      have q0 := D2.out.cell 0; have q1 := D2.out.cell 1; have q2 := D2.out.cell 2
      have r0 := D3.out.cell 0; have r1' := D3.out.cell 1; have r2' := D3.out.cell 2
      have hv0 := D1.out.frozen 0; have hv1 := D1.out.frozen 1; have hv2 := D1.out.frozen 2
      have hq0 := D2.out.frozen 0; have hq1 := D2.out.frozen 1; have hq2 := D2.out.frozen 2
      have hr0 := D3.out.frozen 0; have hr1 := D3.out.frozen 1; have hr2 := D3.out.frozen 2
      simp at p0 p1 p2 q0 q1 q2 r0 r1' r2'
      clear x0 x1 x2 hlx y0 y1 y2 hly u0 u1 u2 hlu t0 t1 t2 hlt
      obtain ⟨x0, x1, x2, hlx⟩ := (E.out.get 0 rfl).cells
      obtain ⟨y0, y1, y2, hly⟩ := (E.out.get 1 rfl).cells
      obtain ⟨u0, u1, u2, hlu⟩ := (E.out.get 2 rfl).cells
      obtain ⟨t0, t1, t2, hlt⟩ := (E.out.get 3 rfl).cells
      go_wp2_with fail
      refine (less_any i3 i1 v3 a3 v1 a1 _).mono ?_
      rw [show lessB i3 i1 v3 v1 = true from L3.out.less L1.out Q2.out]
      rintro e wq ⟨rfl, hb⟩
      have E := Lib.hid (E.out.below hb)
      have D1 := Lib.hid (D1.out.below hb D1.out.lt); have D2 := Lib.hid (D2.out.below hb D2.out.lt); have D3 := Lib.hid (D3.out.below hb D3.out.lt)
      clear hb
      clear p0 p1 p2 q0 q1 q2 r0 r1' r2' hv0 hv1 hv2 hq0 hq1 hq2 hr0 hr1 hr2
      have p0 := D1.out.cell 0; have p1 := D1.out.cell 1; have p2 := D1.out.cell 2
      have q0 := D2.out.cell 0; have q1 := D2.out.cell 1; have q2 := D2.out.cell 2
      have r0 := D3.out.cell 0; have r1' := D3.out.cell 1; have r2' := D3.out.cell 2
      have hv0 := D1.out.frozen 0; have hv1 := D1.out.frozen 1; have hv2 := D1.out.frozen 2
      have hq0 := D2.out.frozen 0; have hq1 := D2.out.frozen 1; have hq2 := D2.out.frozen 2
      have hr0 := D3.out.frozen 0; have hr1 := D3.out.frozen 1; have hr2 := D3.out.frozen 2
      simp at p0 p1 p2 q0 q1 q2 r0 r1' r2'
      clear x0 x1 x2 hlx y0 y1 y2 hly u0 u1 u2 hlu t0 t1 t2 hlt
      obtain ⟨x0, x1, x2, hlx⟩ := (E.out.get 0 rfl).cells
      obtain ⟨y0, y1, y2, hly⟩ := (E.out.get 1 rfl).cells
      obtain ⟨u0, u1, u2, hlu⟩ := (E.out.get 2 rfl).cells
      obtain ⟨t0, t1, t2, hlt⟩ := (E.out.get 3 rfl).cells
      go_wp2_with fail
      refine (backlog_any A B n m c d f.per f.inc g.per g.inc f.vals g.vals _ (by exact (E.out.get 0 rfl).inn.ints) (by exact (E.out.get 1 rfl).inn.ints) (by omega) (by omega)).mono ?_
      rintro e w9 ⟨i4, v4, a4, er, hE, rfl, hb⟩
      obtain ⟨rfl, hL⟩ := hE.bck PF.out PG.out
      have L4 := Lib.hid hL
      have E := Lib.hid (E.out.below hb)
      have D1 := Lib.hid (D1.out.below hb D1.out.lt); have D2 := Lib.hid (D2.out.below hb D2.out.lt); have D3 := Lib.hid (D3.out.below hb D3.out.lt)
      clear hE hL hb
      clear p0 p1 p2 q0 q1 q2 r0 r1' r2' hv0 hv1 hv2 hq0 hq1 hq2 hr0 hr1 hr2
      have p0 := D1.out.cell 0; have p1 := D1.out.cell 1; have p2 := D1.out.cell 2
      have q0 := D2.out.cell 0; have q1 := D2.out.cell 1; have q2 := D2.out.cell 2
      have r0 := D3.out.cell 0; have r1' := D3.out.cell 1; have r2' := D3.out.cell 2
      have hv0 := D1.out.frozen 0; have hv1 := D1.out.frozen 1; have hv2 := D1.out.frozen 2
      have hq0 := D2.out.frozen 0; have hq1 := D2.out.frozen 1; have hq2 := D2.out.frozen 2
      have hr0 := D3.out.frozen 0; have hr1 := D3.out.frozen 1; have hr2 := D3.out.frozen 2
      simp at p0 p1 p2 q0 q1 q2 r0 r1' r2'
      clear x0 x1 x2 hlx y0 y1 y2 hly u0 u1 u2 hlu t0 t1 t2 hlt
      obtain ⟨x0, x1, x2, hlx⟩ := (E.out.get 0 rfl).cells
      obtain ⟨y0, y1, y2, hly⟩ := (E.out.get 1 rfl).cells
      obtain ⟨u0, u1, u2, hlu⟩ := (E.out.get 2 rfl).cells
      obtain ⟨t0, t1, t2, hlt⟩ := (E.out.get 3 rfl).cells
      go_upto_region 13 with fail
      clear p0 p1 p2 q0 q1 q2 r0 r1' r2' hv0 hv1 hv2 hq0 hq1 hq2 hr0 hr1 hr2
      clear x0 x1 x2 hlx y0 y1 y2 hly u0 u1 u2 hlu t0 t1 t2 hlt
      have E := Lib.hid (E.out.far3 (Nat.le_of_lt hz1) hz1 HA1.out (.bool i4) (.int .i64 v4) (.int .i64 a4))
      have D1 := Lib.hid (D1.out.store3 (.bool i4) (.int .i64 v4) (.int .i64 a4))
      have D2 := Lib.hid (D2.out.far3 (g := d1) (by omega) (.bool i4) (.int .i64 v4) (.int .i64 a4))
      have D3 := Lib.hid (D3.out.far3 (g := d1) (by omega) (.bool i4) (.int .i64 v4) (.int .i64 a4))
      generalize hws : ((w9.setCell ⟨d1, 0, none⟩ (.bool i4)).setCell ⟨d1, 1, none⟩ (.int .i64 v4)).setCell ⟨d1, 2, none⟩ (.int .i64 a4) = ws at *
      clear hws
      have p0 := D1.out.cell 0; have p1 := D1.out.cell 1; have p2 := D1.out.cell 2
      have q0 := D2.out.cell 0; have q1 := D2.out.cell 1; have q2 := D2.out.cell 2
      have r0 := D3.out.cell 0; have r1' := D3.out.cell 1; have r2' := D3.out.cell 2
      have hv0 := D1.out.frozen 0; have hv1 := D1.out.frozen 1; have hv2 := D1.out.frozen 2
      have hq0 := D2.out.frozen 0; have hq1 := D2.out.frozen 1; have hq2 := D2.out.frozen 2
      have hr0 := D3.out.frozen 0; have hr1 := D3.out.frozen 1; have hr2 := D3.out.frozen 2
      simp at p0 p1 p2 q0 q1 q2 r0 r1' r2'
      obtain ⟨x0, x1, x2, hlx⟩ := (E.out.get 0 rfl).cells
      obtain ⟨y0, y1, y2, hly⟩ := (E.out.get 1 rfl).cells
      obtain ⟨u0, u1, u2, hlu⟩ := (E.out.get 2 rfl).cells
      obtain ⟨t0, t1, t2, hlt⟩ := (E.out.get 3 rfl).cells
      go_wp2_with fail
      refine (backlog_any A1 B n1 m c1 d r1.per r1.inc g.per g.inc r1.vals g.vals _ (by exact (E.out.get 2 rfl).inn.ints) (by exact (E.out.get 1 rfl).inn.ints) (by omega) (by omega)).mono ?_
      rintro e w9 ⟨i5, v5, a5, er, hE, rfl, hb⟩
      obtain ⟨rfl, hL⟩ := hE.bck PM.out PG.out
      have L5 := Lib.hid hL
      have E := Lib.hid (E.out.below hb)
      have D1 := Lib.hid (D1.out.below hb D1.out.lt); have D2 := Lib.hid (D2.out.below hb D2.out.lt); have D3 := Lib.hid (D3.out.below hb D3.out.lt)
      clear hE hL hb
      clear p0 p1 p2 q0 q1 q2 r0 r1' r2' hv0 hv1 hv2 hq0 hq1 hq2 hr0 hr1 hr2
      have p0 := D1.out.cell 0; have p1 := D1.out.cell 1; have p2 := D1.out.cell 2
      have q0 := D2.out.cell 0; have q1 := D2.out.cell 1; have q2 := D2.out.cell 2
      have r0 := D3.out.cell 0; have r1' := D3.out.cell 1; have r2' := D3.out.cell 2
      have hv0 := D1.out.frozen 0; have hv1 := D1.out.frozen 1; have hv2 := D1.out.frozen 2
      have hq0 := D2.out.frozen 0; have hq1 := D2.out.frozen 1; have hq2 := D2.out.frozen 2
      have hr0 := D3.out.frozen 0; have hr1 := D3.out.frozen 1; have hr2 := D3.out.frozen 2
      simp at p0 p1 p2 q0 q1 q2 r0 r1' r2'
      clear x0 x1 x2 hlx y0 y1 y2 hly u0 u1 u2 hlu t0 t1 t2 hlt
      obtain ⟨x0, x1, x2, hlx⟩ := (E.out.get 0 rfl).cells
      obtain ⟨y0, y1, y2, hly⟩ := (E.out.get 1 rfl).cells
      obtain ⟨u0, u1, u2, hlu⟩ := (E.out.get 2 rfl).cells
      obtain ⟨t0, t1, t2, hlt⟩ := (E.out.get 3 rfl).cells
      go_upto_region 14 with fail
      clear p0 p1 p2 q0 q1 q2 r0 r1' r2' hv0 hv1 hv2 hq0 hq1 hq2 hr0 hr1 hr2
      clear x0 x1 x2 hlx y0 y1 y2 hly u0 u1 u2 hlu t0 t1 t2 hlt
      have E := Lib.hid (E.out.far3 (Nat.le_of_lt hz2) hz2 HA2.out (.bool i5) (.int .i64 v5) (.int .i64 a5))
      have D2 := Lib.hid (D2.out.store3 (.bool i5) (.int .i64 v5) (.int .i64 a5))
      have D1 := Lib.hid (D1.out.far3 (g := d2) (by omega) (.bool i5) (.int .i64 v5) (.int .i64 a5))
      have D3 := Lib.hid (D3.out.far3 (g := d2) (by omega) (.bool i5) (.int .i64 v5) (.int .i64 a5))
      generalize hws : ((w9.setCell ⟨d2, 0, none⟩ (.bool i5)).setCell ⟨d2, 1, none⟩ (.int .i64 v5)).setCell ⟨d2, 2, none⟩ (.int .i64 a5) = ws at *
      clear hws
      have p0 := D1.out.cell 0; have p1 := D1.out.cell 1; have p2 := D1.out.cell 2
      have q0 := D2.out.cell 0; have q1 := D2.out.cell 1; have q2 := D2.out.cell 2
      have r0 := D3.out.cell 0; have r1' := D3.out.cell 1; have r2' := D3.out.cell 2
      have hv0 := D1.out.frozen 0; have hv1 := D1.out.frozen 1; have hv2 := D1.out.frozen 2
      have hq0 := D2.out.frozen 0; have hq1 := D2.out.frozen 1; have hq2 := D2.out.frozen 2
      have hr0 := D3.out.frozen 0; have hr1 := D3.out.frozen 1; have hr2 := D3.out.frozen 2
      simp at p0 p1 p2 q0 q1 q2 r0 r1' r2'
      obtain ⟨x0, x1, x2, hlx⟩ := (E.out.get 0 rfl).cells
      obtain ⟨y0, y1, y2, hly⟩ := (E.out.get 1 rfl).cells
      obtain ⟨u0, u1, u2, hlu⟩ := (E.out.get 2 rfl).cells
      obtain ⟨t0, t1, t2, hlt⟩ := (E.out.get 3 rfl).cells
      go_wp2_with fail
      refine (backlog_any A A2 n n2 c c2 f.per f.inc r2.per r2.inc f.vals r2.vals _ (by exact (E.out.get 0 rfl).inn.ints) (by exact (E.out.get 3 rfl).inn.ints) (by omega) (by omega)).mono ?_
      rintro e w9 ⟨i6, v6, a6, er, hE, rfl, hb⟩
      obtain ⟨rfl, hL⟩ := hE.bck PF.out PS.out
      have L6 := Lib.hid hL
      have E := Lib.hid (E.out.below hb)
      have D1 := Lib.hid (D1.out.below hb D1.out.lt); have D2 := Lib.hid (D2.out.below hb D2.out.lt); have D3 := Lib.hid (D3.out.below hb D3.out.lt)
      clear hE hL hb
      clear p0 p1 p2 q0 q1 q2 r0 r1' r2' hv0 hv1 hv2 hq0 hq1 hq2 hr0 hr1 hr2
      have p0 := D1.out.cell 0; have p1 := D1.out.cell 1; have p2 := D1.out.cell 2
      have q0 := D2.out.cell 0; have q1 := D2.out.cell 1; have q2 := D2.out.cell 2
      have r0 := D3.out.cell 0; have r1' := D3.out.cell 1; have r2' := D3.out.cell 2
      have hv0 := D1.out.frozen 0; have hv1 := D1.out.frozen 1; have hv2 := D1.out.frozen 2
      have hq0 := D2.out.frozen 0; have hq1 := D2.out.frozen 1; have hq2 := D2.out.frozen 2
      have hr0 := D3.out.frozen 0; have hr1 := D3.out.frozen 1; have hr2 := D3.out.frozen 2
      simp at p0 p1 p2 q0 q1 q2 r0 r1' r2'
      clear x0 x1 x2 hlx y0 y1 y2 hly u0 u1 u2 hlu t0 t1 t2 hlt
      obtain ⟨x0, x1, x2, hlx⟩ := (E.out.get 0 rfl).cells
      obtain ⟨y0, y1, y2, hly⟩ := (E.out.get 1 rfl).cells
      obtain ⟨u0, u1, u2, hlu⟩ := (E.out.get 2 rfl).cells
      obtain ⟨t0, t1, t2, hlt⟩ := (E.out.get 3 rfl).cells
      go_upto_region 15 with fail
      clear p0 p1 p2 q0 q1 q2 r0 r1' r2' hv0 hv1 hv2 hq0 hq1 hq2 hr0 hr1 hr2
      clear x0 x1 x2 hlx y0 y1 y2 hly u0 u1 u2 hlu t0 t1 t2 hlt
      have E := Lib.hid (E.out.far3 (Nat.le_of_lt hz3) hz3 HA3.out (.bool i6) (.int .i64 v6) (.int .i64 a6))
      have D3 := Lib.hid (D3.out.store3 (.bool i6) (.int .i64 v6) (.int .i64 a6))
      have D1 := Lib.hid (D1.out.far3 (g := d3) (by omega) (.bool i6) (.int .i64 v6) (.int .i64 a6))
      have D2 := Lib.hid (D2.out.far3 (g := d3) (by omega) (.bool i6) (.int .i64 v6) (.int .i64 a6))
      generalize hws : ((w9.setCell ⟨d3, 0, none⟩ (.bool i6)).setCell ⟨d3, 1, none⟩ (.int .i64 v6)).setCell ⟨d3, 2, none⟩ (.int .i64 a6) = ws at *
      clear hws
      have p0 := D1.out.cell 0; have p1 := D1.out.cell 1; have p2 := D1.out.cell 2
      have q0 := D2.out.cell 0; have q1 := D2.out.cell 1; have q2 := D2.out.cell 2
      have r0 := D3.out.cell 0; have r1' := D3.out.cell 1; have r2' := D3.out.cell 2
      have hv0 := D1.out.frozen 0; have hv1 := D1.out.frozen 1; have hv2 := D1.out.frozen 2
      have hq0 := D2.out.frozen 0; have hq1 := D2.out.frozen 1; have hq2 := D2.out.frozen 2
      have hr0 := D3.out.frozen 0; have hr1 := D3.out.frozen 1; have hr2 := D3.out.frozen 2
      simp at p0 p1 p2 q0 q1 q2 r0 r1' r2'
      obtain ⟨x0, x1, x2, hlx⟩ := (E.out.get 0 rfl).cells
      obtain ⟨y0, y1, y2, hly⟩ := (E.out.get 1 rfl).cells
      obtain ⟨u0, u1, u2, hlu⟩ := (E.out.get 2 rfl).cells
      obtain ⟨t0, t1, t2, hlt⟩ := (E.out.get 3 rfl).cells
      go_wp2_with fail
      refine (less_any i4 i5 v4 a4 v5 a5 _).mono ?_
      rw [show lessB i4 i5 v4 v5 = true from L4.out.less L5.out Q3.out]
      rintro e wq ⟨rfl, hb⟩
      have E := Lib.hid (E.out.below hb)
      have D1 := Lib.hid (D1.out.below hb D1.out.lt); have D2 := Lib.hid (D2.out.below hb D2.out.lt); have D3 := Lib.hid (D3.out.below hb D3.out.lt)
      clear hb
      clear p0 p1 p2 q0 q1 q2 r0 r1' r2' hv0 hv1 hv2 hq0 hq1 hq2 hr0 hr1 hr2
      have p0 := D1.out.cell 0; have p1 := D1.out.cell 1; have p2 := D1.out.cell 2
      have q0 := D2.out.cell 0; have q1 := D2.out.cell 1; have q2 := D2.out.cell 2
      have r0 := D3.out.cell 0; have r1' := D3.out.cell 1; have r2' := D3.out.cell 2
      have hv0 := D1.out.frozen 0; have hv1 := D1.out.frozen 1; have hv2 := D1.out.frozen 2
      have hq0 := D2.out.frozen 0; have hq1 := D2.out.frozen 1; have hq2 := D2.out.frozen 2
      have hr0 := D3.out.frozen 0; have hr1 := D3.out.frozen 1; have hr2 := D3.out.frozen 2
      simp at p0 p1 p2 q0 q1 q2 r0 r1' r2'
      clear x0 x1 x2 hlx y0 y1 y2 hly u0 u1 u2 hlu t0 t1 t2 hlt
      obtain ⟨x0, x1, x2, hlx⟩ := (E.out.get 0 rfl).cells
      obtain ⟨y0, y1, y2, hly⟩ := (E.out.get 1 rfl).cells
      obtain ⟨u0, u1, u2, hlu⟩ := (E.out.get 2 rfl).cells
      obtain ⟨t0, t1, t2, hlt⟩ := (E.out.get 3 rfl).cells
      go_wp2_with fail
      refine (less_any i6 i4 v6 a6 v4 a4 _).mono ?_
      rw [show lessB i6 i4 v6 v4 = true from L6.out.less L4.out Q4.out]
      rintro e wq ⟨rfl, hb⟩
      have E := Lib.hid (E.out.below hb)
      have D1 := Lib.hid (D1.out.below hb D1.out.lt); have D2 := Lib.hid (D2.out.below hb D2.out.lt); have D3 := Lib.hid (D3.out.below hb D3.out.lt)
      clear hb
      clear p0 p1 p2 q0 q1 q2 r0 r1' r2' hv0 hv1 hv2 hq0 hq1 hq2 hr0 hr1 hr2
      have p0 := D1.out.cell 0; have p1 := D1.out.cell 1; have p2 := D1.out.cell 2
      have q0 := D2.out.cell 0; have q1 := D2.out.cell 1; have q2 := D2.out.cell 2
      have r0 := D3.out.cell 0; have r1' := D3.out.cell 1; have r2' := D3.out.cell 2
      have hv0 := D1.out.frozen 0; have hv1 := D1.out.frozen 1; have hv2 := D1.out.frozen 2
      have hq0 := D2.out.frozen 0; have hq1 := D2.out.frozen 1; have hq2 := D2.out.frozen 2
      have hr0 := D3.out.frozen 0; have hr1 := D3.out.frozen 1; have hr2 := D3.out.frozen 2
      simp at p0 p1 p2 q0 q1 q2 r0 r1' r2'
      clear x0 x1 x2 hlx y0 y1 y2 hly u0 u1 u2 hlu t0 t1 t2 hlt
      obtain ⟨x0, x1, x2, hlx⟩ := (E.out.get 0 rfl).cells
      obtain ⟨y0, y1, y2, hly⟩ := (E.out.get 1 rfl).cells
      obtain ⟨u0, u1, u2, hlu⟩ := (E.out.get 2 rfl).cells
      obtain ⟨t0, t1, t2, hlt⟩ := (E.out.get 3 rfl).cells
      go_wp2_with fail
      refine (awake10_any _).mono ?_
      rintro e wq ⟨rfl, hb⟩
      have bw := (E.out.below hb).fin
      go_wp2_with fail
      go_ret
      exact ⟨rfl, bw⟩
end Go.Proofs.Ytjlinbmjgijpiaa
