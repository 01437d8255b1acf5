/- service.Wait and netcalculusref12.Wait of wrong numbers; netcalculusref12.Chain. -/
import Derived.Test.YthdibkmjoiipgaaRef12
import Derived.Test.YthdibkmjoiipgaaSvChain
import Derived.Test.YthdibkmjoiipgaaHeldT
import Derived.Deep.LoopGhost
namespace Go.Proofs.Ythdibkmjoiipgaa
open Go.RowKit
set_option linter.unusedVariables false
set_option linter.unusedSimpArgs false
theorem waitB_any (B b R r P p L l : Int) (w : World) (h : ¬ (GOk B b ∧ GOk R r ∧ GOk P p ∧ GOk L l)) :
    Calls Try.prog 19 #[.agg #[.int .i64 B, .int .i64 b, .int .i64 R, .int .i64 r], .agg #[.int .i64 P, .int .i64 p, .int .i64 L, .int .i64 l]] w (RetF 0 0 2 w) := by
  have E := Lib.hid (WE.new w B b R r P p L l)
  go_enter Try.func19, Try.ntmps19
  obtain ⟨⟨f0, f1, f2, f3⟩, ⟨g0, g1, g2, g3⟩, hlf⟩ := E.out.cells
  go_wp2_with fail
  refine (right_any B b _).mono ?_
  by_cases h1 : GOk B b
  case neg =>
    rw [gokB_f h1]
    rintro e w1 ⟨rfl, hb⟩
    replace E := Lib.hid (E.out.below hb)
    clear hb h h1
    clear f0 f1 f2 f3 g0 g1 g2 g3 hlf
    obtain ⟨⟨f0, f1, f2, f3⟩, ⟨g0, g1, g2, g3⟩, hlf⟩ := E.out.cells
    -- error 2: netcalculus/service.Wait the function
    obtain ⟨z0, z1⟩ : _ ∧ _ := ⟨E.out.z.cell 0, E.out.z.cell 1⟩
    simp at z0 z1
    have v0 := E.out.z.frozen 0; have v1 := E.out.z.frozen 1
    go_wp2_with fail
    have rb := (E.out.z.set_ 0 (.int .i64 0)).set_ 1 (.int .i64 0)
    exact bodyPost_ret (v := .tuple #[.agg #[.int .i64 0, .int .i64 0], .int .i64 2]) (by simp [results, Try.results19, go_sem, rb.cell]) rfl ⟨rfl, (E.out.bw.setCell (by simp; omega) _).setCell (by simp; omega) _⟩
  case pos =>
  rw [gokB_t h1]
  rintro e w1 ⟨rfl, hb⟩
  replace E := Lib.hid (E.out.below hb)
  clear hb
  clear f0 f1 f2 f3 g0 g1 g2 g3 hlf
  obtain ⟨⟨f0, f1, f2, f3⟩, ⟨g0, g1, g2, g3⟩, hlf⟩ := E.out.cells
  go_wp2_with fail
  refine (right_any R r _).mono ?_
  by_cases h2 : GOk R r
  case neg =>
    rw [gokB_f h2]
    rintro e w1 ⟨rfl, hb⟩
    replace E := Lib.hid (E.out.below hb)
    clear hb h h1 h2
    clear f0 f1 f2 f3 g0 g1 g2 g3 hlf
    obtain ⟨⟨f0, f1, f2, f3⟩, ⟨g0, g1, g2, g3⟩, hlf⟩ := E.out.cells
    -- error 2: netcalculus/service.Wait the function
    obtain ⟨z0, z1⟩ : _ ∧ _ := ⟨E.out.z.cell 0, E.out.z.cell 1⟩
    simp at z0 z1
    have v0 := E.out.z.frozen 0; have v1 := E.out.z.frozen 1
    go_wp2_with fail
    have rb := (E.out.z.set_ 0 (.int .i64 0)).set_ 1 (.int .i64 0)
    exact bodyPost_ret (v := .tuple #[.agg #[.int .i64 0, .int .i64 0], .int .i64 2]) (by simp [results, Try.results19, go_sem, rb.cell]) rfl ⟨rfl, (E.out.bw.setCell (by simp; omega) _).setCell (by simp; omega) _⟩
  case pos =>
  rw [gokB_t h2]
  rintro e w1 ⟨rfl, hb⟩
  replace E := Lib.hid (E.out.below hb)
  clear hb
  clear f0 f1 f2 f3 g0 g1 g2 g3 hlf
  obtain ⟨⟨f0, f1, f2, f3⟩, ⟨g0, g1, g2, g3⟩, hlf⟩ := E.out.cells
  go_wp2_with fail
  refine (svalid_any P p L l _).mono ?_
  rw [bokB_f (fun k => h ⟨h1, h2, k.1, k.2⟩)]
  rintro e w1 ⟨rfl, hb⟩
  replace E := Lib.hid (E.out.below hb)
  clear hb h h1 h2
  clear f0 f1 f2 f3 g0 g1 g2 g3 hlf
  obtain ⟨⟨f0, f1, f2, f3⟩, ⟨g0, g1, g2, g3⟩, hlf⟩ := E.out.cells
  -- error 2: netcalculus/service.Wait the function
  obtain ⟨z0, z1⟩ : _ ∧ _ := ⟨E.out.z.cell 0, E.out.z.cell 1⟩
  simp at z0 z1
  have v0 := E.out.z.frozen 0; have v1 := E.out.z.frozen 1
  go_wp2_with fail
  have rb := (E.out.z.set_ 0 (.int .i64 0)).set_ 1 (.int .i64 0)
  exact bodyPost_ret (v := .tuple #[.agg #[.int .i64 0, .int .i64 0], .int .i64 2]) (by simp [results, Try.results19, go_sem, rb.cell]) rfl ⟨rfl, (E.out.bw.setCell (by simp; omega) _).setCell (by simp; omega) _⟩
theorem rwaitB_any (B b R r P p L l : Int) (w : World) (h : ¬ (GOk B b ∧ GOk R r ∧ GOk P p ∧ GOk L l)) :
    Calls Try.prog 20 #[.agg #[.int .i64 B, .int .i64 b, .int .i64 R, .int .i64 r], .agg #[.int .i64 P, .int .i64 p, .int .i64 L, .int .i64 l]] w (RetF 0 0 2 w) := by
  have E := Lib.hid (WE.new w B b R r P p L l)
  go_enter Try.func20, Try.ntmps20
  obtain ⟨⟨f0, f1, f2, f3⟩, ⟨g0, g1, g2, g3⟩, hlf⟩ := E.out.cells
  go_wp2_with fail
  refine (good12_any B b R r _).mono ?_
  by_cases h1 : GOk B b ∧ GOk R r
  case neg =>
    rw [show (gokB B b && gokB R r) = false from by
      by_cases k1 : GOk B b
      · rw [gokB_f (fun k2 => h1 ⟨k1, k2⟩), Bool.and_false]
      · rw [gokB_f k1, Bool.false_and]]
    rintro e w1 ⟨rfl, hb⟩
    replace E := Lib.hid (E.out.below hb)
    clear hb h h1
    clear f0 f1 f2 f3 g0 g1 g2 g3 hlf
    obtain ⟨⟨f0, f1, f2, f3⟩, ⟨g0, g1, g2, g3⟩, hlf⟩ := E.out.cells
    -- error 2: netcalculus/netcalculusref12.Wait the function
    obtain ⟨z0, z1⟩ : _ ∧ _ := ⟨E.out.z.cell 0, E.out.z.cell 1⟩
    simp at z0 z1
    have v0 := E.out.z.frozen 0; have v1 := E.out.z.frozen 1
    go_wp2_with fail
    have rb := (E.out.z.set_ 0 (.int .i64 0)).set_ 1 (.int .i64 0)
    exact bodyPost_ret (v := .tuple #[.agg #[.int .i64 0, .int .i64 0], .int .i64 2]) (by simp [results, Try.results20, go_sem, rb.cell]) rfl ⟨rfl, (E.out.bw.setCell (by simp; omega) _).setCell (by simp; omega) _⟩
  case pos =>
  rw [gokB_t h1.1, gokB_t h1.2]
  rintro e w1 ⟨rfl, hb⟩
  replace E := Lib.hid (E.out.below hb)
  clear hb
  clear f0 f1 f2 f3 g0 g1 g2 g3 hlf
  obtain ⟨⟨f0, f1, f2, f3⟩, ⟨g0, g1, g2, g3⟩, hlf⟩ := E.out.cells
  go_wp2_with fail
  refine (good12_any P p L l _).mono ?_
  rw [show (gokB P p && gokB L l) = false from by
    by_cases k1 : GOk P p
    · rw [gokB_f (fun k2 => h ⟨h1.1, h1.2, k1, k2⟩), Bool.and_false]
    · rw [gokB_f k1, Bool.false_and]]
  rintro e w1 ⟨rfl, hb⟩
  replace E := Lib.hid (E.out.below hb)
  clear hb h h1
  clear f0 f1 f2 f3 g0 g1 g2 g3 hlf
  obtain ⟨⟨f0, f1, f2, f3⟩, ⟨g0, g1, g2, g3⟩, hlf⟩ := E.out.cells
  -- error 2: netcalculus/netcalculusref12.Wait the function
  obtain ⟨z0, z1⟩ : _ ∧ _ := ⟨E.out.z.cell 0, E.out.z.cell 1⟩
  simp at z0 z1
  have v0 := E.out.z.frozen 0; have v1 := E.out.z.frozen 1
  go_wp2_with fail
  have rb := (E.out.z.set_ 0 (.int .i64 0)).set_ 1 (.int .i64 0)
  exact bodyPost_ret (v := .tuple #[.agg #[.int .i64 0, .int .i64 0], .int .i64 2]) (by simp [results, Try.results20, go_sem, rb.cell]) rfl ⟨rfl, (E.out.bw.setCell (by simp; omega) _).setCell (by simp; omega) _⟩
theorem rq4 {w : World} {b o k : Nat} {ps : List PN} {x : PN} (h : RowQ w b o ps) (hx : ps[k]? = some x) : (w.cell? ⟨b, o + k * 4, none⟩ = some (.int .i64 x.R) ∧ w.cell? ⟨b, o + k * 4 + 1, none⟩ = some (.int .i64 x.r) ∧ w.cell? ⟨b, o + k * 4 + 2, none⟩ = some (.int .i64 x.L) ∧ w.cell? ⟨b, o + k * 4 + 3, none⟩ = some (.int .i64 x.l)) ∧ b < w.heap.size :=
  ⟨⟨h.cell k 0 x hx (by omega), h.cell k 1 x hx (by omega), h.cell k 2 x hx (by omega), h.cell k 3 x hx (by omega)⟩, h.lt⟩
theorem bq4 {w : World} {g : Nat} {t : TypeId} {x y z u : Value} (h : Blk w g t #[x, y, z, u]) : (w.cell? ⟨g, 0, none⟩ = some x ∧ w.cell? ⟨g, 1, none⟩ = some y ∧ w.cell? ⟨g, 2, none⟩ = some z ∧ w.cell? ⟨g, 3, none⟩ = some u) ∧
    (w.frozen? ⟨g, 0, none⟩ = false ∧ w.frozen? ⟨g, 1, none⟩ = false ∧ w.frozen? ⟨g, 2, none⟩ = false ∧ w.frozen? ⟨g, 3, none⟩ = false) ∧ g < w.heap.size :=
  ⟨⟨h.cell 0, h.cell 1, h.cell 2, h.cell 3⟩, ⟨h.frozen 0, h.frozen 1, h.frozen 2, h.frozen 3⟩, h.lt⟩
set_option maxHeartbeats 4000000 in
set_option maxRecDepth 100000 in
theorem rchain_any (A : Option Addr) (n c : Nat) (ps : List PN) (w : World) (hl : ps.length = n) (hn9 : (n : Int) ≤ 9223372036854775807) (hnc : n ≤ c) (hrow : 0 < n → ∃ g o, A = some ⟨g, o, none⟩ ∧ RowQ w g o ps) :
    Calls Try.prog 18 #[.slice A n c] w (RetP (ChS ps) w) := by
  have RB := Lib.hid (Blk.new w 25 #[.int .i64 0, .int .i64 0, .int .i64 0, .int .i64 0])
  have BW := Lib.hid (balloc w (.cells #[.int .i64 0, .int .i64 0, .int .i64 0, .int .i64 0] 25))
  have HL := Lib.hid hl; have HROW := Lib.hid hrow
  clear hl hrow
  go_enter Try.func18, Try.ntmps18
  go_upto_region 1 with fail
  generalize hwe : w.alloc (.cells #[.int .i64 0, .int .i64 0, .int .i64 0, .int .i64 0] 25) = w1 at *
  clear hwe
  go_wp2_with fail
  go_loopg [4] n (fun gg s4 wx => ∃ k : Nat, k + gg = n ∧ s4 = .int .i64 k ∧ Hid (∀ (j : Nat) (x : PN), j < k → ps[j]? = some x → x.Good) ∧ Blk wx w.heap.size 25 #[.int .i64 0, .int .i64 0, .int .i64 0, .int .i64 0] ∧ Below w.heap.size w wx)
  case atStart => exact ⟨0, by omega, rfl, Lib.hid (fun j x hj => by omega), RB.out, BW.out⟩
  case round =>
    clear RB BW
    obtain ⟨k, hkg, rfl, HG, hRB, hBW⟩ := hrel
    have RB := Lib.hid hRB; have BW := Lib.hid hBW
    clear hRB hBW
    by_cases hk : k < n
    case pos =>
      have hki : (k : Int) < n := by omega
      obtain ⟨g, o, hg, hrow⟩ := HROW.out (by omega)
      subst hg
      have ROW := Lib.hid hrow
      clear hrow
      obtain ⟨x, hx, x0, x1, x2, x3⟩ := (ROW.out.below BW.out).get (k := k) (by rw [HL.out]; exact hk)
      have hgl := (ROW.out.below BW.out).lt
      have HX := Lib.hid hx
      clear hx
      have X0 := Lib.hid x0; have X1 := Lib.hid x1; have X2 := Lib.hid x2; have X3 := Lib.hid x3; have HGL := Lib.hid hgl
      go_upto_region 4 with fail
      replace RB := Lib.hid (Blk.drew RB.out); replace BW := Lib.hid (Below.drew BW.out)
      refine wp_region_held_drew (S := (fun w' => w'.cell? ⟨g, o + k * 4, none⟩ = some (.int .i64 x.R) ∧ w'.cell? ⟨g, o + k * 4 + 1, none⟩ = some (.int .i64 x.r) ∧ w'.cell? ⟨g, o + k * 4 + 2, none⟩ = some (.int .i64 x.L) ∧ w'.cell? ⟨g, o + k * 4 + 3, none⟩ = some (.int .i64 x.l))) (by kernel_rfl) (by exact ⟨x0, x1, x2, x3⟩) (fun hHeld => ?_)
      clear x0 x1 x2 x3 hgl
      have x0 : wr.drew.cell? ⟨g, o + k * 4, none⟩ = some (.int .i64 x.R) := X0.out
      have x1 : wr.drew.cell? ⟨g, o + k * 4 + 1, none⟩ = some (.int .i64 x.r) := X1.out
      have x2 : wr.drew.cell? ⟨g, o + k * 4 + 2, none⟩ = some (.int .i64 x.L) := X2.out
      have x3 : wr.drew.cell? ⟨g, o + k * 4 + 3, none⟩ = some (.int .i64 x.l) := X3.out
      have hgl : g < wr.drew.heap.size := HGL.out
      clear X0 X1 X2 X3 HGL
      generalize hwd : wr.drew = wd at *
      clear hwd
      refine wpAnyH_take (i := 0) (oi := _) (v := ?_) (by simp only [List.getElem?_toArray, List.getElem?_cons_zero]; rfl) (by kernel_rfl) (by kernel_rfl) (by kernel_rfl) (by exact fun _ _ _ h => h) (Or.inl ⟨by rfl, ?_⟩) (by assumption) ?_
      rotate_left 1
      · (intro w hSw; (try dsimp only at hSw); go_simp; try with_reducible rfl)
      all_goals try simp only [Act.put]
      all_goals try simp only [List.setIfInBounds_toArray]
      all_goals try simp only [List.set_cons_succ]
      all_goals try simp only [List.set_cons_zero]
      refine wpAnyH_take (i := 1) (oi := _) (v := ?_) (by simp only [List.getElem?_toArray, List.getElem?_cons_succ, List.getElem?_cons_zero]; rfl) (by kernel_rfl) (by kernel_rfl) (by kernel_rfl) (by exact fun _ _ _ h => h) (Or.inl ⟨by rfl, ?_⟩) (by assumption) ?_
      rotate_left 1
      · (intro w hSw; (try dsimp only at hSw); go_simp; try with_reducible rfl)
      all_goals try simp only [Act.put]
      all_goals try simp only [List.setIfInBounds_toArray]
      all_goals try simp only [List.set_cons_succ]
      all_goals try simp only [List.set_cons_zero]
      refine wpAnyH_take (i := 2) (oi := _) (v := ?_) (by simp only [List.getElem?_toArray, List.getElem?_cons_succ, List.getElem?_cons_zero]; rfl) (by kernel_rfl) (by kernel_rfl) (by kernel_rfl) (by exact fun _ _ _ h => h) (Or.inl ⟨by rfl, ?_⟩) (by assumption) ?_
      rotate_left 1
      · (intro w hSw; (try dsimp only at hSw); go_simp; try with_reducible rfl)
      all_goals try simp only [Act.put]
      all_goals try simp only [List.setIfInBounds_toArray]
      all_goals try simp only [List.set_cons_succ]
      all_goals try simp only [List.set_cons_zero]
      refine wpAnyH_take (i := 3) (oi := _) (v := ?_) (by simp only [List.getElem?_toArray, List.getElem?_cons_succ, List.getElem?_cons_zero]; rfl) (by kernel_rfl) (by kernel_rfl) (by kernel_rfl) (by exact fun _ _ _ h => h) (Or.inl ⟨by rfl, ?_⟩) (by assumption) ?_
      rotate_left 1
      · (intro w hSw; (try dsimp only at hSw); go_simp; try with_reducible rfl)
      all_goals try simp only [Act.put]
      all_goals try simp only [List.setIfInBounds_toArray]
      all_goals try simp only [List.set_cons_succ]
      all_goals try simp only [List.set_cons_zero]
      refine wpAnyH_take (i := 4) (oi := _) (v := ?_) (by simp only [List.getElem?_toArray, List.getElem?_cons_succ, List.getElem?_cons_zero]; rfl) (by kernel_rfl) (by kernel_rfl) (by kernel_rfl) (by exact fun _ _ _ h => h) (Or.inl ⟨by rfl, ?_⟩) (by assumption) ?_
      rotate_left 1
      · (intro w hSw; (try dsimp only at hSw); go_simp; try with_reducible rfl)
      all_goals try simp only [Act.put]
      all_goals try simp only [List.setIfInBounds_toArray]
      all_goals try simp only [List.set_cons_succ]
      all_goals try simp only [List.set_cons_zero]
      refine wpAnyH_take (i := 5) (oi := _) (v := ?_) (by simp only [List.getElem?_toArray, List.getElem?_cons_succ, List.getElem?_cons_zero]; rfl) (by kernel_rfl) (by kernel_rfl) (by kernel_rfl) (by exact fun _ _ _ h => h) (Or.inl ⟨by rfl, ?_⟩) (by assumption) ?_
      rotate_left 1
      · (intro w hSw; (try dsimp only at hSw); go_simp; try with_reducible rfl)
      all_goals try simp only [Act.put]
      all_goals try simp only [List.setIfInBounds_toArray]
      all_goals try simp only [List.set_cons_succ]
      all_goals try simp only [List.set_cons_zero]
      refine wpAnyH_take (i := 6) (oi := _) (v := ?_) (by simp only [List.getElem?_toArray, List.getElem?_cons_succ, List.getElem?_cons_zero]; rfl) (by kernel_rfl) (by kernel_rfl) (by kernel_rfl) (by exact fun _ _ _ h => h) (Or.inl ⟨by rfl, ?_⟩) (by assumption) ?_
      rotate_left 1
      · (intro w hSw; (try dsimp only at hSw); go_simp; try with_reducible rfl)
      all_goals try simp only [Act.put]
      all_goals try simp only [List.setIfInBounds_toArray]
      all_goals try simp only [List.set_cons_succ]
      all_goals try simp only [List.set_cons_zero]
      refine wpAnyH_take (i := 7) (oi := _) (v := ?_) (by simp only [List.getElem?_toArray, List.getElem?_cons_succ, List.getElem?_cons_zero]; rfl) (by kernel_rfl) (by kernel_rfl) (by kernel_rfl) (by exact fun _ _ _ h => h) (Or.inl ⟨by rfl, ?_⟩) (by assumption) ?_
      rotate_left 1
      · (intro w hSw; (try dsimp only at hSw); go_simp; try with_reducible rfl)
      all_goals try simp only [Act.put]
      all_goals try simp only [List.setIfInBounds_toArray]
      all_goals try simp only [List.set_cons_succ]
      all_goals try simp only [List.set_cons_zero]
      refine wpAnyH_take (i := 8) (oi := _) (v := ?_) (by simp only [List.getElem?_toArray, List.getElem?_cons_succ, List.getElem?_cons_zero]; rfl) (by kernel_rfl) (by kernel_rfl) (by kernel_rfl) (by exact fun _ _ _ h => h) (Or.inl ⟨by rfl, ?_⟩) (by assumption) ?_
      rotate_left 1
      · (intro w hSw; (try dsimp only at hSw); go_simp; try with_reducible rfl)
      all_goals try simp only [Act.put]
      all_goals try simp only [List.setIfInBounds_toArray]
      all_goals try simp only [List.set_cons_succ]
      all_goals try simp only [List.set_cons_zero]
      refine wpAnyH_take (i := 9) (oi := _) (v := ?_) (by simp only [List.getElem?_toArray, List.getElem?_cons_succ, List.getElem?_cons_zero]; rfl) (by kernel_rfl) (by kernel_rfl) (by kernel_rfl) (by exact fun _ _ _ h => h) (Or.inl ⟨by rfl, ?_⟩) (by assumption) ?_
      rotate_left 1
      · (intro w hSw; (try dsimp only at hSw); go_simp; try with_reducible rfl)
      all_goals try simp only [Act.put]
      all_goals try simp only [List.setIfInBounds_toArray]
      all_goals try simp only [List.set_cons_succ]
      all_goals try simp only [List.set_cons_zero]
      refine wpAnyH_ready (rs := [10]) (by kernel_rfl) (by simp) ?_
      refine (AllReadyH.cons (by simp only [List.getElem?_toArray, List.getElem?_cons_succ, List.getElem?_cons_zero]; rfl) (fun K hK => ?_) AllReadyH.nil)
      rw [if_pos (by rfl)]
      go_simp
      refine (good12_any x.R x.r x.L x.l _).mono ?_
      rintro e w2 ⟨rfl, hb⟩
      have y0 := (hb.cell (p := ⟨g, o + k * 4, none⟩) hgl).trans x0; have y1 := (hb.cell (p := ⟨g, o + k * 4 + 1, none⟩) hgl).trans x1; have y2 := (hb.cell (p := ⟨g, o + k * 4 + 2, none⟩) hgl).trans x2; have y3 := (hb.cell (p := ⟨g, o + k * 4 + 3, none⟩) hgl).trans x3
      replace RB := Lib.hid (RB.out.below hb RB.out.lt); replace BW := Lib.hid (bthen BW.out hb)
      clear hb x0 x1 x2 x3 hgl hHeld
      refine hK.out _ _ (by exact ⟨y0, y1, y2, y3⟩) (fun hHeld => ?_)
      clear hK K
      try simp only [Act.put]
      try simp only [List.setIfInBounds_toArray]
      try simp only [List.set_cons_succ]
      try simp only [List.set_cons_zero]
      clear y0 y1 y2 y3
      by_cases hgd : x.Good
      case pos =>
        have d1 : (gokB x.R x.r && gokB x.L x.l) = true := by rw [gokB_t hgd.1, gokB_t hgd.2]; rfl
        have G2 := Lib.hid (show ∀ (j : Nat) (y : PN), j < k + 1 → ps[j]? = some y → y.Good from fun j y hj hy => by
          rcases Nat.lt_or_ge j k with h1 | h1
          · exact HG.out j y h1 hy
          · obtain rfl : j = k := by omega
            rw [HX.out] at hy
            injection hy with hy
            subst hy
            exact hgd)
        clear hgd
        refine wpAnyH_take (i := 11) (oi := _) (v := ?_) (by simp only [List.getElem?_toArray, List.getElem?_cons_succ, List.getElem?_cons_zero]; rfl) (by kernel_rfl) (by kernel_rfl) (by kernel_rfl) (by exact fun _ _ _ h => h) (Or.inl ⟨by rfl, ?_⟩) (by assumption) ?_
        rotate_left 1
        · (intro w hSw; (try dsimp only at hSw); go_simp; try with_reducible rfl)
        all_goals try simp only [Act.put]
        all_goals try simp only [List.setIfInBounds_toArray]
        all_goals try simp only [List.set_cons_succ]
        all_goals try simp only [List.set_cons_zero]
        refine wpAnyH_done (by kernel_rfl) ?_ _
        clear hHeld
        go_wp2_with fail
        go_roundg (gk - 1)
        case measure => omega
        case rel => exact ⟨k + 1, by omega, by go_num, G2, RB.out, BW.out⟩
      case neg =>
        have d1 : (gokB x.R x.r && gokB x.L x.l) = false := by
          by_cases k1 : GOk x.R x.r
          · rw [gokB_f (fun k2 => hgd ⟨k1, k2⟩), Bool.and_false]
          · rw [gokB_f k1, Bool.false_and]
        have NB := Lib.hid (show ∃ x ∈ ps, ¬ x.Good from ⟨x, List.mem_of_getElem? HX.out, hgd⟩)
        clear hgd
        refine wpAnyH_take (i := 11) (oi := _) (v := ?_) (by simp only [List.getElem?_toArray, List.getElem?_cons_succ, List.getElem?_cons_zero]; rfl) (by kernel_rfl) (by kernel_rfl) (by kernel_rfl) (by exact fun _ _ _ h => h) (Or.inl ⟨by rfl, ?_⟩) (by assumption) ?_
        rotate_left 1
        · (intro w hSw; (try dsimp only at hSw); go_simp; try with_reducible rfl)
        all_goals try simp only [Act.put]
        all_goals try simp only [List.setIfInBounds_toArray]
        all_goals try simp only [List.set_cons_succ]
        all_goals try simp only [List.set_cons_zero]
        refine wpAnyH_done (by kernel_rfl) ?_ _
        clear hHeld
        -- nothing is returned: 2 the error, .inl ⟨.inr NB.out, rfl, rfl⟩ shows ChS
        have FN := Lib.hid (show ChS ps ⟨0, 0, 0, 0⟩ 2 from .inl ⟨.inr NB.out, rfl, rfl⟩)
        obtain ⟨r0, r1, r2, r3⟩ : _ ∧ _ ∧ _ ∧ _ := ⟨RB.out.cell 0, RB.out.cell 1, RB.out.cell 2, RB.out.cell 3⟩
        obtain ⟨r4, r5, r6, r7⟩ : _ ∧ _ ∧ _ ∧ _ := ⟨RB.out.frozen 0, RB.out.frozen 1, RB.out.frozen 2, RB.out.frozen 3⟩
        simp at r0 r1 r2 r3
        have hlr := RB.out.lt
        go_wp2_with fail
        have rb := (((RB.out.set_ 0 (.int .i64 0)).set_ 1 (.int .i64 0)).set_ 2 (.int .i64 0)).set_ 3 (.int .i64 0)
        refine bodyPost_ret (v := .tuple #[.agg #[.int .i64 0, .int .i64 0, .int .i64 0, .int .i64 0], .int .i64 2]) (by simp [results, Try.results18, go_sem, rb.cell]) rfl ?_
        exact ⟨⟨0, 0, 0, 0⟩, 2, FN.out, rfl, (((BW.out.setCell (by simp) _).setCell (by simp) _).setCell (by simp) _).setCell (by simp) _⟩
    case neg =>
      have hki : ¬ (k : Int) < n := by omega
      have ALL := Lib.hid (show ∀ x ∈ ps, x.Good from fun x hx => by
        obtain ⟨j, hj, he⟩ := List.getElem_of_mem hx
        exact HG.out j x (by have := HL.out; omega) (by rw [List.getElem?_eq_getElem hj, he]))
      clear HG hk hkg
      by_cases h0 : n = 0
      case pos =>
        subst h0
        -- nothing is returned: 2 the error, .inl ⟨.inl (List.eq_nil_of_length_eq_zero HL.out), rfl, rfl⟩ shows ChS
        have FN := Lib.hid (show ChS ps ⟨0, 0, 0, 0⟩ 2 from .inl ⟨.inl (List.eq_nil_of_length_eq_zero HL.out), rfl, rfl⟩)
        obtain ⟨r0, r1, r2, r3⟩ : _ ∧ _ ∧ _ ∧ _ := ⟨RB.out.cell 0, RB.out.cell 1, RB.out.cell 2, RB.out.cell 3⟩
        obtain ⟨r4, r5, r6, r7⟩ : _ ∧ _ ∧ _ ∧ _ := ⟨RB.out.frozen 0, RB.out.frozen 1, RB.out.frozen 2, RB.out.frozen 3⟩
        simp at r0 r1 r2 r3
        have hlr := RB.out.lt
        go_wp2_with fail
        have rb := (((RB.out.set_ 0 (.int .i64 0)).set_ 1 (.int .i64 0)).set_ 2 (.int .i64 0)).set_ 3 (.int .i64 0)
        refine bodyPost_ret (v := .tuple #[.agg #[.int .i64 0, .int .i64 0, .int .i64 0, .int .i64 0], .int .i64 2]) (by simp [results, Try.results18, go_sem, rb.cell]) rfl ?_
        exact ⟨⟨0, 0, 0, 0⟩, 2, FN.out, rfl, (((BW.out.setCell (by simp) _).setCell (by simp) _).setCell (by simp) _).setCell (by simp) _⟩
      case neg =>
      have d0 : ((n : Int) == 0) = false := by simp; omega
      obtain ⟨g, o, hg, hrow⟩ := HROW.out (by omega)
      subst hg
      have ROW := Lib.hid hrow
      clear hrow HROW
      have hn0 : 0 < n := by omega
      obtain ⟨x, hx, x0, x1, x2, x3⟩ := (ROW.out.below BW.out).get (k := 0) (by rw [HL.out]; exact hn0)
      simp only [Nat.zero_mul, Nat.add_zero] at x0 x1 x2 x3
      have hgl := (ROW.out.below BW.out).lt
      have START := Lib.hid (show ∃ tl, ps = x :: tl from by
        cases hps : ps with
        | nil => rw [hps] at hx; simp at hx
        | cons y ys =>
          rw [hps] at hx
          simp at hx
          exact ⟨ys, by rw [hx]⟩)
      have XG := Lib.hid (ALL.out x (List.mem_of_getElem? hx))
      clear hx h0
      go_upto_region 9 with fail
      clear x0 x1 x2 x3 hgl d0
      have OB := Lib.hid (Blk.new wr 25 #[.int .i64 x.R, .int .i64 x.r, .int .i64 x.L, .int .i64 x.l])
      have hO : w.heap.size < wr.heap.size := RB.out.lt
      replace RB := Lib.hid (RB.out.alloc (.cells #[.int .i64 x.R, .int .i64 x.r, .int .i64 x.L, .int .i64 x.l] 25)); replace BW := Lib.hid (bthen BW.out (balloc wr (.cells #[.int .i64 x.R, .int .i64 x.r, .int .i64 x.L, .int .i64 x.l] 25)))
      generalize hwe : wr.alloc (.cells #[.int .i64 x.R, .int .i64 x.r, .int .i64 x.L, .int .i64 x.l] 25) = we at *
      clear hwe
      generalize wr.heap.size = O at *
      obtain ⟨tl, htl⟩ := START.out
      have FOLD := Lib.hid (show ∀ r er, foldP x (ps.drop 1) = (r, er) → ChS ps r er from fun r er h => .inr ⟨ALL.out, x, tl, htl, by rw [htl] at h; exact h⟩)
      clear START htl
      go_wp2_with fail
      go_loopg [6, 7] (n - 1) (fun gg s6 s7 wx => ∃ (i : Nat) (s : PN), i + gg = n ∧ 1 ≤ i ∧ s6 = .int .i64 i ∧ Hid s.Good ∧ Hid (∀ r er, foldP s (ps.drop i) = (r, er) → ChS ps r er) ∧ Blk wx O 25 #[.int .i64 s.R, .int .i64 s.r, .int .i64 s.L, .int .i64 s.l] ∧ Blk wx w.heap.size 25 #[.int .i64 0, .int .i64 0, .int .i64 0, .int .i64 0] ∧ Below w.heap.size w wx)
      case atStart => exact ⟨1, x, by omega, by omega, rfl, XG, FOLD, OB.out, RB.out, BW.out⟩
      case round =>
        clear OB RB BW FOLD XG
        obtain ⟨i, s, hig, hi1, rfl, SG, FOLD, hOB, hRB, hBW⟩ := hrel
        have OB := Lib.hid hOB; have RB := Lib.hid hRB; have BW := Lib.hid hBW
        clear hOB hRB hBW
        by_cases hi : i < n
        case neg =>
          have hii : ¬ (i : Int) < n := by omega
          have FN := Lib.hid (FOLD.out s 0 (by rw [List.drop_eq_nil_of_le (by have := HL.out; omega)]; rfl))
          obtain ⟨⟨o0, o1, o2, o3⟩, _, hlo⟩ := bq4 OB.out
          obtain ⟨⟨r0, r1, r2, r3⟩, ⟨r4, r5, r6, r7⟩, hlr⟩ := bq4 RB.out
          go_wp2_with fail
          have rb := (((RB.out.set_ 0 (.int .i64 s.R)).set_ 1 (.int .i64 s.r)).set_ 2 (.int .i64 s.L)).set_ 3 (.int .i64 s.l)
          refine bodyPost_ret (v := .tuple #[.agg #[.int .i64 s.R, .int .i64 s.r, .int .i64 s.L, .int .i64 s.l], .int .i64 0]) (by simp [results, Try.results18, go_sem, rb.cell]) rfl ?_
          exact ⟨s, 0, FN.out, rfl, (((BW.out.setCell (by simp) _).setCell (by simp) _).setCell (by simp) _).setCell (by simp) _⟩
        case pos =>
        have hii : (i : Int) < n := by omega
        have hix : i < ps.length := by rw [HL.out]; exact hi
        obtain ⟨x, hx⟩ : ∃ x, x = ps[i] := ⟨_, rfl⟩
        have HX := Lib.hid (show ps[i]? = some x from by rw [hx]; exact List.getElem?_eq_getElem hix)
        have DROP := Lib.hid (show ps.drop i = x :: ps.drop (i + 1) from by rw [hx]; exact List.drop_eq_getElem_cons hix)
        have XG := Lib.hid (ALL.out x (List.mem_of_getElem? HX.out))
        clear hx hix
        obtain ⟨cm, hcm⟩ : ∃ cm, cm = fcmp x.R x.r s.R s.r := ⟨_, rfl⟩
        have HCM := Lib.hid hcm
        obtain ⟨aL, al, ae, hfa⟩ : ∃ aL al ae, fadd s.L s.l x.L x.l = (aL, al, ae) := ⟨_, _, _, rfl⟩
        have HFA := Lib.hid hfa
        clear hcm hfa
        replace OB := Lib.hid (Blk.drew OB.out); replace RB := Lib.hid (Blk.drew RB.out); replace BW := Lib.hid (Below.drew BW.out)
        have BW0 := BW
        obtain ⟨⟨x0, x1, x2, x3⟩, hgl⟩ := rq4 (ROW.out.below BW.out) HX.out
        obtain ⟨⟨o0, o1, o2, o3⟩, ⟨v0, v1, v2, v3⟩, hlo⟩ := bq4 OB.out
        have x0' : wr.cell? ⟨g, o + i * 4, none⟩ = some (.int .i64 x.R) := x0
        have x1' : wr.cell? ⟨g, o + i * 4 + 1, none⟩ = some (.int .i64 x.r) := x1
        have x2' : wr.cell? ⟨g, o + i * 4 + 2, none⟩ = some (.int .i64 x.L) := x2
        have x3' : wr.cell? ⟨g, o + i * 4 + 3, none⟩ = some (.int .i64 x.l) := x3
        have hgl' : g < wr.heap.size := hgl
        have hlo' : O < wr.heap.size := hlo
        clear x0 x1 x2 x3 hgl o0 o1 o2 o3 v0 v1 v2 v3 hlo
        go_upto_region 12 with fail
        clear x0' x1' x2' x3' hgl' hlo'
        obtain ⟨⟨x0, x1, x2, x3⟩, hgl⟩ := rq4 (ROW.out.below BW.out) HX.out
        obtain ⟨⟨o0, o1, o2, o3⟩, ⟨v0, v1, v2, v3⟩, hlo⟩ := bq4 OB.out
        have hGG := And.intro (And.intro x0 (And.intro x1 (And.intro x2 x3))) (And.intro o0 (And.intro o1 (And.intro o2 o3)))
        refine wp_region_held_drew (S := (fun w' => (w'.cell? ⟨g, o + i * 4, none⟩ = some (.int .i64 x.R) ∧ w'.cell? ⟨g, o + i * 4 + 1, none⟩ = some (.int .i64 x.r) ∧ w'.cell? ⟨g, o + i * 4 + 2, none⟩ = some (.int .i64 x.L) ∧ w'.cell? ⟨g, o + i * 4 + 3, none⟩ = some (.int .i64 x.l)) ∧ w'.cell? ⟨O, 0, none⟩ = some (.int .i64 s.R) ∧ w'.cell? ⟨O, 1, none⟩ = some (.int .i64 s.r) ∧ w'.cell? ⟨O, 2, none⟩ = some (.int .i64 s.L) ∧ w'.cell? ⟨O, 3, none⟩ = some (.int .i64 s.l))) (by kernel_rfl) (by exact hGG) (fun hHeld => ?_)
        clear hGG BW0
        clear x0 x1 x2 x3 hgl o0 o1 o2 o3 v0 v1 v2 v3 hlo
        generalize hwd : wr.drew = wd at *
        clear hwd
        obtain ⟨⟨x0, x1, x2, x3⟩, hgl⟩ := rq4 (ROW.out.below BW.out) HX.out
        obtain ⟨⟨o0, o1, o2, o3⟩, ⟨v0, v1, v2, v3⟩, hlo⟩ := bq4 OB.out
        refine wpAnyH_take (i := 0) (oi := _) (v := ?_) (by simp only [List.getElem?_toArray, List.getElem?_cons_zero]; rfl) (by kernel_rfl) (by kernel_rfl) (by kernel_rfl) (by exact fun _ _ _ h => h) (Or.inl ⟨by rfl, ?_⟩) (by assumption) ?_
        rotate_left 1
        · (intro w hSw; (try dsimp only at hSw); go_simp; try with_reducible rfl)
        all_goals try simp only [Act.put]
        all_goals try simp only [List.setIfInBounds_toArray]
        all_goals try simp only [List.set_cons_succ]
        all_goals try simp only [List.set_cons_zero]
        refine wpAnyH_take (i := 1) (oi := _) (v := ?_) (by simp only [List.getElem?_toArray, List.getElem?_cons_succ, List.getElem?_cons_zero]; rfl) (by kernel_rfl) (by kernel_rfl) (by kernel_rfl) (by exact fun _ _ _ h => h) (Or.inl ⟨by rfl, ?_⟩) (by assumption) ?_
        rotate_left 1
        · (intro w hSw; (try dsimp only at hSw); go_simp; try with_reducible rfl)
        all_goals try simp only [Act.put]
        all_goals try simp only [List.setIfInBounds_toArray]
        all_goals try simp only [List.set_cons_succ]
        all_goals try simp only [List.set_cons_zero]
        refine wpAnyH_take (i := 2) (oi := _) (v := ?_) (by simp only [List.getElem?_toArray, List.getElem?_cons_succ, List.getElem?_cons_zero]; rfl) (by kernel_rfl) (by kernel_rfl) (by kernel_rfl) (by exact fun _ _ _ h => h) (Or.inl ⟨by rfl, ?_⟩) (by assumption) ?_
        rotate_left 1
        · (intro w hSw; (try dsimp only at hSw); go_simp; try with_reducible rfl)
        all_goals try simp only [Act.put]
        all_goals try simp only [List.setIfInBounds_toArray]
        all_goals try simp only [List.set_cons_succ]
        all_goals try simp only [List.set_cons_zero]
        refine wpAnyH_take (i := 3) (oi := _) (v := ?_) (by simp only [List.getElem?_toArray, List.getElem?_cons_succ, List.getElem?_cons_zero]; rfl) (by kernel_rfl) (by kernel_rfl) (by kernel_rfl) (by exact fun _ _ _ h => h) (Or.inl ⟨by rfl, ?_⟩) (by assumption) ?_
        rotate_left 1
        · (intro w hSw; (try dsimp only at hSw); go_simp; try with_reducible rfl)
        all_goals try simp only [Act.put]
        all_goals try simp only [List.setIfInBounds_toArray]
        all_goals try simp only [List.set_cons_succ]
        all_goals try simp only [List.set_cons_zero]
        refine wpAnyH_take (i := 4) (oi := _) (v := ?_) (by simp only [List.getElem?_toArray, List.getElem?_cons_succ, List.getElem?_cons_zero]; rfl) (by kernel_rfl) (by kernel_rfl) (by kernel_rfl) (by exact fun _ _ _ h => h) (Or.inl ⟨by rfl, ?_⟩) (by assumption) ?_
        rotate_left 1
        · (intro w hSw; (try dsimp only at hSw); go_simp; try with_reducible rfl)
        all_goals try simp only [Act.put]
        all_goals try simp only [List.setIfInBounds_toArray]
        all_goals try simp only [List.set_cons_succ]
        all_goals try simp only [List.set_cons_zero]
        refine wpAnyH_take (i := 5) (oi := _) (v := ?_) (by simp only [List.getElem?_toArray, List.getElem?_cons_succ, List.getElem?_cons_zero]; rfl) (by kernel_rfl) (by kernel_rfl) (by kernel_rfl) (by exact fun _ _ _ h => h) (Or.inl ⟨by rfl, ?_⟩) (by assumption) ?_
        rotate_left 1
        · (intro w hSw; (try dsimp only at hSw); go_simp; try with_reducible rfl)
        all_goals try simp only [Act.put]
        all_goals try simp only [List.setIfInBounds_toArray]
        all_goals try simp only [List.set_cons_succ]
        all_goals try simp only [List.set_cons_zero]
        refine wpAnyH_take (i := 6) (oi := _) (v := ?_) (by simp only [List.getElem?_toArray, List.getElem?_cons_succ, List.getElem?_cons_zero]; rfl) (by kernel_rfl) (by kernel_rfl) (by kernel_rfl) (by exact fun _ _ _ h => h) (Or.inl ⟨by rfl, ?_⟩) (by assumption) ?_
        rotate_left 1
        · (intro w hSw; (try dsimp only at hSw); go_simp; try with_reducible rfl)
        all_goals try simp only [Act.put]
        all_goals try simp only [List.setIfInBounds_toArray]
        all_goals try simp only [List.set_cons_succ]
        all_goals try simp only [List.set_cons_zero]
        refine wpAnyH_ready (rs := [7]) (by kernel_rfl) (by simp) ?_
        refine (AllReadyH.cons (by simp only [List.getElem?_toArray, List.getElem?_cons_succ, List.getElem?_cons_zero]; rfl) (fun K hK => ?_) AllReadyH.nil)
        rw [if_pos (by rfl)]
        go_simp
        refine (rcmp_any x.R x.r s.R s.r _ XG.out.1.1 SG.out.1.1).mono ?_
        rw [← HCM.out]
        rintro e w4 ⟨rfl, hb⟩
        clear hHeld
        clear x0 x1 x2 x3 hgl o0 o1 o2 o3 v0 v1 v2 v3 hlo
        replace OB := Lib.hid (OB.out.below hb OB.out.lt); replace RB := Lib.hid (RB.out.below hb RB.out.lt); replace BW := Lib.hid (bthen BW.out hb)
        clear hb
        obtain ⟨⟨x0, x1, x2, x3⟩, hgl⟩ := rq4 (ROW.out.below BW.out) HX.out
        obtain ⟨⟨o0, o1, o2, o3⟩, ⟨v0, v1, v2, v3⟩, hlo⟩ := bq4 OB.out
        refine hK.out _ _ (by exact ⟨⟨x0, x1, x2, x3⟩, o0, o1, o2, o3⟩) (fun hHeld => ?_)
        clear hK K
        try simp only [Act.put]
        try simp only [List.setIfInBounds_toArray]
        try simp only [List.set_cons_succ]
        try simp only [List.set_cons_zero]
        by_cases hc0 : cm < 0
        case neg =>
          have dc : decide (cm < 0) = false := by simpa using hc0
          have CJ := Lib.hid (show chJ s x = ⟨s.R, s.r, aL, al⟩ from by unfold chJ; rw [← HCM.out, HFA.out, if_neg hc0, if_neg hc0])
          clear hc0
          refine wpAnyH_take (i := 8) (oi := _) (v := ?_) (by simp only [List.getElem?_toArray, List.getElem?_cons_succ, List.getElem?_cons_zero]; rfl) (by kernel_rfl) (by kernel_rfl) (by kernel_rfl) (by exact fun _ _ _ h => h) (Or.inl ⟨by rfl, ?_⟩) (by assumption) ?_
          rotate_left 1
          · (intro w hSw; (try dsimp only at hSw); go_simp; try with_reducible rfl)
          all_goals try simp only [Act.put]
          all_goals try simp only [List.setIfInBounds_toArray]
          all_goals try simp only [List.set_cons_succ]
          all_goals try simp only [List.set_cons_zero]
          refine wpAnyH_done (by kernel_rfl) ?_ _
          clear hHeld
          clear x0 x1 x2 x3 hgl o0 o1 o2 o3 v0 v1 v2 v3 hlo
          -- the latencies are added: w4 the world, s.R s.r the rate
          obtain ⟨⟨x0, x1, x2, x3⟩, hgl⟩ := rq4 (ROW.out.below BW.out) HX.out
          obtain ⟨⟨o0, o1, o2, o3⟩, ⟨v0, v1, v2, v3⟩, hlo⟩ := bq4 OB.out
          go_upto_region 15 with fail
          clear x0 x1 x2 x3 hgl o0 o1 o2 o3 v0 v1 v2 v3 hlo
          replace OB := Lib.hid (Blk.drew OB.out); replace RB := Lib.hid (Blk.drew RB.out); replace BW := Lib.hid (Below.drew BW.out)
          obtain ⟨⟨x0, x1, x2, x3⟩, hgl⟩ := rq4 (ROW.out.below BW.out) HX.out
          obtain ⟨⟨o0, o1, o2, o3⟩, ⟨v0, v1, v2, v3⟩, hlo⟩ := bq4 OB.out
          have hF : True := trivial
          have hG := And.intro (And.intro x0 (And.intro x1 (And.intro x2 x3))) (And.intro o0 (And.intro o1 (And.intro o2 o3)))
          refine wp_region_T (fun _ => True) (fun w' => (w'.cell? ⟨g, o + i * 4, none⟩ = some (.int .i64 x.R) ∧ w'.cell? ⟨g, o + i * 4 + 1, none⟩ = some (.int .i64 x.r) ∧ w'.cell? ⟨g, o + i * 4 + 2, none⟩ = some (.int .i64 x.L) ∧ w'.cell? ⟨g, o + i * 4 + 3, none⟩ = some (.int .i64 x.l)) ∧ w'.cell? ⟨O, 0, none⟩ = some (.int .i64 s.R) ∧ w'.cell? ⟨O, 1, none⟩ = some (.int .i64 s.r) ∧ w'.cell? ⟨O, 2, none⟩ = some (.int .i64 s.L) ∧ w'.cell? ⟨O, 3, none⟩ = some (.int .i64 s.l)) 12 (by kernel_rfl) (by exact hF) (by exact hG) (fun _ => ?_)
          clear hG
          clear x0 x1 x2 x3 hgl o0 o1 o2 o3 v0 v1 v2 v3 hlo
          generalize hwd : w4.drew = wd at *
          clear hwd
          obtain ⟨⟨x0, x1, x2, x3⟩, hgl⟩ := rq4 (ROW.out.below BW.out) HX.out
          obtain ⟨⟨o0, o1, o2, o3⟩, ⟨v0, v1, v2, v3⟩, hlo⟩ := bq4 OB.out
          have hG := And.intro (And.intro x0 (And.intro x1 (And.intro x2 x3))) (And.intro o0 (And.intro o1 (And.intro o2 o3)))
          refine wpAnyT_take (i := 0) (oi := _) (v := ?_) (by simp only [List.getElem?_toArray, List.getElem?_cons_zero]; rfl) (by kernel_rfl) (by kernel_rfl) (by kernel_rfl) (by rfl) (by exact fun _ _ _ h => h) (Or.inl ⟨by rfl, ?_⟩) ⟨(by exact hF), fun _ => (by exact hG)⟩ (fun _ => ?_)
          rotate_left 1
          · (intro w hSw; (try dsimp only at hSw); go_simp; try with_reducible rfl)
          all_goals try simp only [Act.put]
          all_goals try simp only [List.setIfInBounds_toArray]
          all_goals try simp only [List.set_cons_succ]
          all_goals try simp only [List.set_cons_zero]
          refine wpAnyT_takeG (i := 1) (oi := _) (v := ?_) (by simp only [List.getElem?_toArray, List.getElem?_cons_succ, List.getElem?_cons_zero]; rfl) (by kernel_rfl) (by kernel_rfl) (by kernel_rfl) (by rfl) (by kernel_rfl) (by kernel_rfl) (by exact fun _ _ _ h => h) (Or.inl ⟨by rfl, ?_⟩) ⟨(by exact hF), fun _ => (by exact hG)⟩ (fun _ => ?_)
          rotate_left 1
          · (intro w hSw; (try dsimp only at hSw); go_simp; try with_reducible rfl)
          all_goals try simp only [Act.put]
          all_goals try simp only [List.setIfInBounds_toArray]
          all_goals try simp only [List.set_cons_succ]
          all_goals try simp only [List.set_cons_zero]
          refine wpAnyT_take (i := 2) (oi := _) (v := ?_) (by simp only [List.getElem?_toArray, List.getElem?_cons_succ, List.getElem?_cons_zero]; rfl) (by kernel_rfl) (by kernel_rfl) (by kernel_rfl) (by rfl) (by exact fun _ _ _ h => h) (Or.inl ⟨by rfl, ?_⟩) ⟨(by exact hF), fun _ => (by exact hG)⟩ (fun _ => ?_)
          rotate_left 1
          · (intro w hSw; (try dsimp only at hSw); go_simp; try with_reducible rfl)
          all_goals try simp only [Act.put]
          all_goals try simp only [List.setIfInBounds_toArray]
          all_goals try simp only [List.set_cons_succ]
          all_goals try simp only [List.set_cons_zero]
          refine wpAnyT_take (i := 3) (oi := _) (v := ?_) (by simp only [List.getElem?_toArray, List.getElem?_cons_succ, List.getElem?_cons_zero]; rfl) (by kernel_rfl) (by kernel_rfl) (by kernel_rfl) (by rfl) (by exact fun _ _ _ h => h) (Or.inl ⟨by rfl, ?_⟩) ⟨(by exact hF), fun _ => (by exact hG)⟩ (fun _ => ?_)
          rotate_left 1
          · (intro w hSw; (try dsimp only at hSw); go_simp; try with_reducible rfl)
          all_goals try simp only [Act.put]
          all_goals try simp only [List.setIfInBounds_toArray]
          all_goals try simp only [List.set_cons_succ]
          all_goals try simp only [List.set_cons_zero]
          refine wpAnyT_take (i := 4) (oi := _) (v := ?_) (by simp only [List.getElem?_toArray, List.getElem?_cons_succ, List.getElem?_cons_zero]; rfl) (by kernel_rfl) (by kernel_rfl) (by kernel_rfl) (by rfl) (by exact fun _ _ _ h => h) (Or.inl ⟨by rfl, ?_⟩) ⟨(by exact hF), fun _ => (by exact hG)⟩ (fun _ => ?_)
          rotate_left 1
          · (intro w hSw; (try dsimp only at hSw); go_simp; try with_reducible rfl)
          all_goals try simp only [Act.put]
          all_goals try simp only [List.setIfInBounds_toArray]
          all_goals try simp only [List.set_cons_succ]
          all_goals try simp only [List.set_cons_zero]
          refine wpAnyT_take (i := 5) (oi := _) (v := ?_) (by simp only [List.getElem?_toArray, List.getElem?_cons_succ, List.getElem?_cons_zero]; rfl) (by kernel_rfl) (by kernel_rfl) (by kernel_rfl) (by rfl) (by exact fun _ _ _ h => h) (Or.inl ⟨by rfl, ?_⟩) ⟨(by exact hF), fun _ => (by exact hG)⟩ (fun _ => ?_)
          rotate_left 1
          · (intro w hSw; (try dsimp only at hSw); go_simp; try with_reducible rfl)
          all_goals try simp only [Act.put]
          all_goals try simp only [List.setIfInBounds_toArray]
          all_goals try simp only [List.set_cons_succ]
          all_goals try simp only [List.set_cons_zero]
          refine wpAnyT_takeG (i := 6) (oi := _) (v := ?_) (by simp only [List.getElem?_toArray, List.getElem?_cons_succ, List.getElem?_cons_zero]; rfl) (by kernel_rfl) (by kernel_rfl) (by kernel_rfl) (by rfl) (by kernel_rfl) (by kernel_rfl) (by exact fun _ _ _ h => h) (Or.inl ⟨by rfl, ?_⟩) ⟨(by exact hF), fun _ => (by exact hG)⟩ (fun _ => ?_)
          rotate_left 1
          · (intro w hSw; (try dsimp only at hSw); go_simp; try with_reducible rfl)
          all_goals try simp only [Act.put]
          all_goals try simp only [List.setIfInBounds_toArray]
          all_goals try simp only [List.set_cons_succ]
          all_goals try simp only [List.set_cons_zero]
          refine wpAnyT_ready (rs := [7]) (by kernel_rfl) (by simp) ?_
          refine (AllReadyT.cons (by simp only [List.getElem?_toArray, List.getElem?_cons_succ, List.getElem?_cons_zero]; rfl) (fun K hK => ?_) AllReadyT.nil)
          rw [if_pos (by rfl)]
          go_simp
          refine (radd_any s.L s.l x.L x.l _).mono ?_
          rw [HFA.out]
          rintro e w5 ⟨rfl, hb⟩
          clear hG
          clear x0 x1 x2 x3 hgl o0 o1 o2 o3 v0 v1 v2 v3 hlo
          replace OB := Lib.hid (OB.out.below hb OB.out.lt); replace RB := Lib.hid (RB.out.below hb RB.out.lt); replace BW := Lib.hid (bthen BW.out hb)
          clear hb
          obtain ⟨⟨x0, x1, x2, x3⟩, hgl⟩ := rq4 (ROW.out.below BW.out) HX.out
          obtain ⟨⟨o0, o1, o2, o3⟩, ⟨v0, v1, v2, v3⟩, hlo⟩ := bq4 OB.out
          have hG := And.intro (And.intro x0 (And.intro x1 (And.intro x2 x3))) (And.intro o0 (And.intro o1 (And.intro o2 o3)))
          refine hK.out _ _ ⟨(by exact hF), fun _ => (by exact hG)⟩ (fun _ => ?_)
          clear hK K
          try simp only [Act.put]
          try simp only [List.setIfInBounds_toArray]
          try simp only [List.set_cons_succ]
          try simp only [List.set_cons_zero]
          refine wpAnyT_take (i := 8) (oi := _) (v := ?_) (by simp only [List.getElem?_toArray, List.getElem?_cons_succ, List.getElem?_cons_zero]; rfl) (by kernel_rfl) (by kernel_rfl) (by kernel_rfl) (by rfl) (by exact fun _ _ _ h => h) (Or.inl ⟨by rfl, ?_⟩) ⟨(by exact hF), fun _ => (by exact hG)⟩ (fun _ => ?_)
          rotate_left 1
          · (intro w hSw; (try dsimp only at hSw); go_simp; try with_reducible rfl)
          all_goals try simp only [Act.put]
          all_goals try simp only [List.setIfInBounds_toArray]
          all_goals try simp only [List.set_cons_succ]
          all_goals try simp only [List.set_cons_zero]
          refine wpAnyT_take (i := 9) (oi := _) (v := ?_) (by simp only [List.getElem?_toArray, List.getElem?_cons_succ, List.getElem?_cons_zero]; rfl) (by kernel_rfl) (by kernel_rfl) (by kernel_rfl) (by rfl) (by exact fun _ _ _ h => h) (Or.inl ⟨by rfl, ?_⟩) ⟨(by exact hF), fun _ => (by exact hG)⟩ (fun _ => ?_)
          rotate_left 1
          · (intro w hSw; (try dsimp only at hSw); go_simp; try with_reducible rfl)
          all_goals try simp only [Act.put]
          all_goals try simp only [List.setIfInBounds_toArray]
          all_goals try simp only [List.set_cons_succ]
          all_goals try simp only [List.set_cons_zero]
          refine wpAnyT_take (i := 10) (oi := _) (v := ?_) (by simp only [List.getElem?_toArray, List.getElem?_cons_succ, List.getElem?_cons_zero]; rfl) (by kernel_rfl) (by kernel_rfl) (by kernel_rfl) (by rfl) (by exact fun _ _ _ h => h) (Or.inl ⟨by rfl, ?_⟩) ⟨(by exact hF), fun _ => (by exact hG)⟩ (fun _ => ?_)
          rotate_left 1
          · (intro w hSw; (try dsimp only at hSw); go_simp; try with_reducible rfl)
          all_goals try simp only [Act.put]
          all_goals try simp only [List.setIfInBounds_toArray]
          all_goals try simp only [List.set_cons_succ]
          all_goals try simp only [List.set_cons_zero]
          refine wpAnyT_take (i := 11) (oi := _) (v := ?_) (by simp only [List.getElem?_toArray, List.getElem?_cons_succ, List.getElem?_cons_zero]; rfl) (by kernel_rfl) (by kernel_rfl) (by kernel_rfl) (by rfl) (by exact fun _ _ _ h => h) (Or.inl ⟨by rfl, ?_⟩) ⟨(by exact hF), fun _ => (by exact hG)⟩ (fun _ => ?_)
          rotate_left 1
          · (intro w hSw; (try dsimp only at hSw); go_simp; try with_reducible rfl)
          all_goals try simp only [Act.put]
          all_goals try simp only [List.setIfInBounds_toArray]
          all_goals try simp only [List.set_cons_succ]
          all_goals try simp only [List.set_cons_zero]
          refine wpAnyT_ready (rs := [12]) (by kernel_rfl) (by simp) ?_
          refine (AllReadyT.cons (by simp only [List.getElem?_toArray, List.getElem?_cons_succ, List.getElem?_cons_zero]; rfl) (fun K hK => ?_) AllReadyT.nil)
          rw [if_pos (by rfl)]
          go_simp
          clear hG
          clear x0 x1 x2 x3 hgl o0 o1 o2 o3 v0 v1 v2 v3 hlo
          replace OB := Lib.hid ((OB.out.set_ 2 (.int .i64 aL)).set_ 3 (.int .i64 al)); replace RB := Lib.hid ((RB.out.far (p := ⟨O, 2, none⟩) (by show w.heap.size ≠ O; omega) (.int .i64 aL)).far (p := ⟨O, 3, none⟩) (by show w.heap.size ≠ O; omega) (.int .i64 al)); replace BW := Lib.hid ((BW.out.setCell (p := ⟨O, 2, none⟩) (by show w.heap.size ≤ O; omega) (.int .i64 aL)).setCell (p := ⟨O, 3, none⟩) (by show w.heap.size ≤ O; omega) (.int .i64 al))
          generalize hwe : (w5.setCell ⟨O, 2, none⟩ (.int .i64 aL)).setCell ⟨O, 3, none⟩ (.int .i64 al) = w6 at *
          clear hwe
          refine hK.out _ _ ⟨(by exact hF), fun h => Bool.noConfusion (show true = false from h)⟩ (fun _ => ?_)
          clear hK K
          try simp only [Act.put]
          try simp only [List.setIfInBounds_toArray]
          try simp only [List.set_cons_succ]
          try simp only [List.set_cons_zero]
          refine wpAnyT_take (i := 13) (oi := _) (v := ?_) (by simp only [List.getElem?_toArray, List.getElem?_cons_succ, List.getElem?_cons_zero]; rfl) (by kernel_rfl) (by kernel_rfl) (by kernel_rfl) (by rfl) (by exact fun _ _ _ h => h) (Or.inl ⟨by rfl, ?_⟩) ⟨(by exact hF), fun h => Bool.noConfusion (show true = false from h)⟩ (fun _ => ?_)
          rotate_left 1
          · (intro w hSw; (try dsimp only at hSw); go_simp; try with_reducible rfl)
          all_goals try simp only [Act.put]
          all_goals try simp only [List.setIfInBounds_toArray]
          all_goals try simp only [List.set_cons_succ]
          all_goals try simp only [List.set_cons_zero]
          refine wpAnyT_done (by kernel_rfl) ?_ _
          by_cases he : ae = 0
          case neg =>
            have d5 : (ae != 0) = true := by simpa using he
            have CHE := Lib.hid (show chE s x ≠ 0 from by unfold chE; rw [HFA.out]; exact he)
            have AE := Lib.hid (show chE s x = ae from by unfold chE; rw [HFA.out])
            clear he
            -- nothing is returned: ae the error, (FOLD.out ⟨0, 0, 0, 0⟩ ae (by rw [DROP.out]; unfold foldP; rw [if_neg CHE.out, AE.out])) shows ChS
            have FN := Lib.hid (show ChS ps ⟨0, 0, 0, 0⟩ ae from (FOLD.out ⟨0, 0, 0, 0⟩ ae (by rw [DROP.out]; unfold foldP; rw [if_neg CHE.out, AE.out])))
            obtain ⟨r0, r1, r2, r3⟩ : _ ∧ _ ∧ _ ∧ _ := ⟨RB.out.cell 0, RB.out.cell 1, RB.out.cell 2, RB.out.cell 3⟩
            obtain ⟨r4, r5, r6, r7⟩ : _ ∧ _ ∧ _ ∧ _ := ⟨RB.out.frozen 0, RB.out.frozen 1, RB.out.frozen 2, RB.out.frozen 3⟩
            simp at r0 r1 r2 r3
            have hlr := RB.out.lt
            go_wp2_with fail
            have rb := (((RB.out.set_ 0 (.int .i64 0)).set_ 1 (.int .i64 0)).set_ 2 (.int .i64 0)).set_ 3 (.int .i64 0)
            refine bodyPost_ret (v := .tuple #[.agg #[.int .i64 0, .int .i64 0, .int .i64 0, .int .i64 0], .int .i64 ae]) (by simp [results, Try.results18, go_sem, rb.cell]) rfl ?_
            exact ⟨⟨0, 0, 0, 0⟩, ae, FN.out, rfl, (((BW.out.setCell (by simp) _).setCell (by simp) _).setCell (by simp) _).setCell (by simp) _⟩
          case pos =>
            subst he
            have d5 : ((0 : Int) != 0) = false := by simp
            have CHE := Lib.hid (show chE s x = 0 from by unfold chE; rw [HFA.out])
            go_wp2_with fail
            go_roundg (gk - 1)
            case measure => omega
            case rel => exact ⟨i + 1, chJ s x, by omega, by omega, by go_num, Lib.hid (chJ_good SG.out XG.out CHE.out), Lib.hid (fun r er h => FOLD.out r er (by rw [DROP.out]; unfold foldP; rw [if_pos CHE.out]; exact h)), (by rw [CJ.out]; exact OB.out), RB.out, BW.out⟩
        case pos =>
          have dc : decide (cm < 0) = true := by simpa using hc0
          have CJ := Lib.hid (show chJ s x = ⟨x.R, x.r, aL, al⟩ from by unfold chJ; rw [← HCM.out, HFA.out, if_pos hc0, if_pos hc0])
          clear hc0
          refine wpAnyH_take (i := 8) (oi := _) (v := ?_) (by simp only [List.getElem?_toArray, List.getElem?_cons_succ, List.getElem?_cons_zero]; rfl) (by kernel_rfl) (by kernel_rfl) (by kernel_rfl) (by exact fun _ _ _ h => h) (Or.inl ⟨by rfl, ?_⟩) (by assumption) ?_
          rotate_left 1
          · (intro w hSw; (try dsimp only at hSw); go_simp; try with_reducible rfl)
          all_goals try simp only [Act.put]
          all_goals try simp only [List.setIfInBounds_toArray]
          all_goals try simp only [List.set_cons_succ]
          all_goals try simp only [List.set_cons_zero]
          refine wpAnyH_done (by kernel_rfl) ?_ _
          clear hHeld
          go_upto_region 14 with fail
          clear x0 x1 x2 x3 hgl o0 o1 o2 o3 v0 v1 v2 v3 hlo
          replace OB := Lib.hid ((OB.out.set_ 0 (.int .i64 x.R)).set_ 1 (.int .i64 x.r)); replace RB := Lib.hid ((RB.out.far (p := ⟨O, 0, none⟩) (by show w.heap.size ≠ O; omega) (.int .i64 x.R)).far (p := ⟨O, 1, none⟩) (by show w.heap.size ≠ O; omega) (.int .i64 x.r)); replace BW := Lib.hid ((BW.out.setCell (p := ⟨O, 0, none⟩) (by show w.heap.size ≤ O; omega) (.int .i64 x.R)).setCell (p := ⟨O, 1, none⟩) (by show w.heap.size ≤ O; omega) (.int .i64 x.r))
          generalize hwe : (w4.setCell ⟨O, 0, none⟩ (.int .i64 x.R)).setCell ⟨O, 1, none⟩ (.int .i64 x.r) = wk at *
          clear hwe
          try simp only [List.setIfInBounds_toArray, List.set_cons_succ, List.set_cons_zero] at OB
          -- the latencies are added: wk the world, x.R x.r the rate
          obtain ⟨⟨x0, x1, x2, x3⟩, hgl⟩ := rq4 (ROW.out.below BW.out) HX.out
          obtain ⟨⟨o0, o1, o2, o3⟩, ⟨v0, v1, v2, v3⟩, hlo⟩ := bq4 OB.out
          go_upto_region 15 with fail
          clear x0 x1 x2 x3 hgl o0 o1 o2 o3 v0 v1 v2 v3 hlo
          replace OB := Lib.hid (Blk.drew OB.out); replace RB := Lib.hid (Blk.drew RB.out); replace BW := Lib.hid (Below.drew BW.out)
          obtain ⟨⟨x0, x1, x2, x3⟩, hgl⟩ := rq4 (ROW.out.below BW.out) HX.out
          obtain ⟨⟨o0, o1, o2, o3⟩, ⟨v0, v1, v2, v3⟩, hlo⟩ := bq4 OB.out
          have hF : True := trivial
          have hG := And.intro (And.intro x0 (And.intro x1 (And.intro x2 x3))) (And.intro o0 (And.intro o1 (And.intro o2 o3)))
          refine wp_region_T (fun _ => True) (fun w' => (w'.cell? ⟨g, o + i * 4, none⟩ = some (.int .i64 x.R) ∧ w'.cell? ⟨g, o + i * 4 + 1, none⟩ = some (.int .i64 x.r) ∧ w'.cell? ⟨g, o + i * 4 + 2, none⟩ = some (.int .i64 x.L) ∧ w'.cell? ⟨g, o + i * 4 + 3, none⟩ = some (.int .i64 x.l)) ∧ w'.cell? ⟨O, 0, none⟩ = some (.int .i64 x.R) ∧ w'.cell? ⟨O, 1, none⟩ = some (.int .i64 x.r) ∧ w'.cell? ⟨O, 2, none⟩ = some (.int .i64 s.L) ∧ w'.cell? ⟨O, 3, none⟩ = some (.int .i64 s.l)) 12 (by kernel_rfl) (by exact hF) (by exact hG) (fun _ => ?_)
          clear hG
          clear x0 x1 x2 x3 hgl o0 o1 o2 o3 v0 v1 v2 v3 hlo
          generalize hwd : wk.drew = wd at *
          clear hwd
          obtain ⟨⟨x0, x1, x2, x3⟩, hgl⟩ := rq4 (ROW.out.below BW.out) HX.out
          obtain ⟨⟨o0, o1, o2, o3⟩, ⟨v0, v1, v2, v3⟩, hlo⟩ := bq4 OB.out
          have hG := And.intro (And.intro x0 (And.intro x1 (And.intro x2 x3))) (And.intro o0 (And.intro o1 (And.intro o2 o3)))
          refine wpAnyT_take (i := 0) (oi := _) (v := ?_) (by simp only [List.getElem?_toArray, List.getElem?_cons_zero]; rfl) (by kernel_rfl) (by kernel_rfl) (by kernel_rfl) (by rfl) (by exact fun _ _ _ h => h) (Or.inl ⟨by rfl, ?_⟩) ⟨(by exact hF), fun _ => (by exact hG)⟩ (fun _ => ?_)
          rotate_left 1
          · (intro w hSw; (try dsimp only at hSw); go_simp; try with_reducible rfl)
          all_goals try simp only [Act.put]
          all_goals try simp only [List.setIfInBounds_toArray]
          all_goals try simp only [List.set_cons_succ]
          all_goals try simp only [List.set_cons_zero]
          refine wpAnyT_takeG (i := 1) (oi := _) (v := ?_) (by simp only [List.getElem?_toArray, List.getElem?_cons_succ, List.getElem?_cons_zero]; rfl) (by kernel_rfl) (by kernel_rfl) (by kernel_rfl) (by rfl) (by kernel_rfl) (by kernel_rfl) (by exact fun _ _ _ h => h) (Or.inl ⟨by rfl, ?_⟩) ⟨(by exact hF), fun _ => (by exact hG)⟩ (fun _ => ?_)
          rotate_left 1
          · (intro w hSw; (try dsimp only at hSw); go_simp; try with_reducible rfl)
          all_goals try simp only [Act.put]
          all_goals try simp only [List.setIfInBounds_toArray]
          all_goals try simp only [List.set_cons_succ]
          all_goals try simp only [List.set_cons_zero]
          refine wpAnyT_take (i := 2) (oi := _) (v := ?_) (by simp only [List.getElem?_toArray, List.getElem?_cons_succ, List.getElem?_cons_zero]; rfl) (by kernel_rfl) (by kernel_rfl) (by kernel_rfl) (by rfl) (by exact fun _ _ _ h => h) (Or.inl ⟨by rfl, ?_⟩) ⟨(by exact hF), fun _ => (by exact hG)⟩ (fun _ => ?_)
          rotate_left 1
          · (intro w hSw; (try dsimp only at hSw); go_simp; try with_reducible rfl)
          all_goals try simp only [Act.put]
          all_goals try simp only [List.setIfInBounds_toArray]
          all_goals try simp only [List.set_cons_succ]
          all_goals try simp only [List.set_cons_zero]
          refine wpAnyT_take (i := 3) (oi := _) (v := ?_) (by simp only [List.getElem?_toArray, List.getElem?_cons_succ, List.getElem?_cons_zero]; rfl) (by kernel_rfl) (by kernel_rfl) (by kernel_rfl) (by rfl) (by exact fun _ _ _ h => h) (Or.inl ⟨by rfl, ?_⟩) ⟨(by exact hF), fun _ => (by exact hG)⟩ (fun _ => ?_)
          rotate_left 1
          · (intro w hSw; (try dsimp only at hSw); go_simp; try with_reducible rfl)
          all_goals try simp only [Act.put]
          all_goals try simp only [List.setIfInBounds_toArray]
          all_goals try simp only [List.set_cons_succ]
          all_goals try simp only [List.set_cons_zero]
          refine wpAnyT_take (i := 4) (oi := _) (v := ?_) (by simp only [List.getElem?_toArray, List.getElem?_cons_succ, List.getElem?_cons_zero]; rfl) (by kernel_rfl) (by kernel_rfl) (by kernel_rfl) (by rfl) (by exact fun _ _ _ h => h) (Or.inl ⟨by rfl, ?_⟩) ⟨(by exact hF), fun _ => (by exact hG)⟩ (fun _ => ?_)
          rotate_left 1
          · (intro w hSw; (try dsimp only at hSw); go_simp; try with_reducible rfl)
          all_goals try simp only [Act.put]
          all_goals try simp only [List.setIfInBounds_toArray]
          all_goals try simp only [List.set_cons_succ]
          all_goals try simp only [List.set_cons_zero]
          refine wpAnyT_take (i := 5) (oi := _) (v := ?_) (by simp only [List.getElem?_toArray, List.getElem?_cons_succ, List.getElem?_cons_zero]; rfl) (by kernel_rfl) (by kernel_rfl) (by kernel_rfl) (by rfl) (by exact fun _ _ _ h => h) (Or.inl ⟨by rfl, ?_⟩) ⟨(by exact hF), fun _ => (by exact hG)⟩ (fun _ => ?_)
          rotate_left 1
          · (intro w hSw; (try dsimp only at hSw); go_simp; try with_reducible rfl)
          all_goals try simp only [Act.put]
          all_goals try simp only [List.setIfInBounds_toArray]
          all_goals try simp only [List.set_cons_succ]
          all_goals try simp only [List.set_cons_zero]
          refine wpAnyT_takeG (i := 6) (oi := _) (v := ?_) (by simp only [List.getElem?_toArray, List.getElem?_cons_succ, List.getElem?_cons_zero]; rfl) (by kernel_rfl) (by kernel_rfl) (by kernel_rfl) (by rfl) (by kernel_rfl) (by kernel_rfl) (by exact fun _ _ _ h => h) (Or.inl ⟨by rfl, ?_⟩) ⟨(by exact hF), fun _ => (by exact hG)⟩ (fun _ => ?_)
          rotate_left 1
          · (intro w hSw; (try dsimp only at hSw); go_simp; try with_reducible rfl)
          all_goals try simp only [Act.put]
          all_goals try simp only [List.setIfInBounds_toArray]
          all_goals try simp only [List.set_cons_succ]
          all_goals try simp only [List.set_cons_zero]
          refine wpAnyT_ready (rs := [7]) (by kernel_rfl) (by simp) ?_
          refine (AllReadyT.cons (by simp only [List.getElem?_toArray, List.getElem?_cons_succ, List.getElem?_cons_zero]; rfl) (fun K hK => ?_) AllReadyT.nil)
          rw [if_pos (by rfl)]
          go_simp
          refine (radd_any s.L s.l x.L x.l _).mono ?_
          rw [HFA.out]
          rintro e w5 ⟨rfl, hb⟩
          clear hG
          clear x0 x1 x2 x3 hgl o0 o1 o2 o3 v0 v1 v2 v3 hlo
          replace OB := Lib.hid (OB.out.below hb OB.out.lt); replace RB := Lib.hid (RB.out.below hb RB.out.lt); replace BW := Lib.hid (bthen BW.out hb)
          clear hb
          obtain ⟨⟨x0, x1, x2, x3⟩, hgl⟩ := rq4 (ROW.out.below BW.out) HX.out
          obtain ⟨⟨o0, o1, o2, o3⟩, ⟨v0, v1, v2, v3⟩, hlo⟩ := bq4 OB.out
          have hG := And.intro (And.intro x0 (And.intro x1 (And.intro x2 x3))) (And.intro o0 (And.intro o1 (And.intro o2 o3)))
          refine hK.out _ _ ⟨(by exact hF), fun _ => (by exact hG)⟩ (fun _ => ?_)
          clear hK K
          try simp only [Act.put]
          try simp only [List.setIfInBounds_toArray]
          try simp only [List.set_cons_succ]
          try simp only [List.set_cons_zero]
          refine wpAnyT_take (i := 8) (oi := _) (v := ?_) (by simp only [List.getElem?_toArray, List.getElem?_cons_succ, List.getElem?_cons_zero]; rfl) (by kernel_rfl) (by kernel_rfl) (by kernel_rfl) (by rfl) (by exact fun _ _ _ h => h) (Or.inl ⟨by rfl, ?_⟩) ⟨(by exact hF), fun _ => (by exact hG)⟩ (fun _ => ?_)
          rotate_left 1
          · (intro w hSw; (try dsimp only at hSw); go_simp; try with_reducible rfl)
          all_goals try simp only [Act.put]
          all_goals try simp only [List.setIfInBounds_toArray]
          all_goals try simp only [List.set_cons_succ]
          all_goals try simp only [List.set_cons_zero]
          refine wpAnyT_take (i := 9) (oi := _) (v := ?_) (by simp only [List.getElem?_toArray, List.getElem?_cons_succ, List.getElem?_cons_zero]; rfl) (by kernel_rfl) (by kernel_rfl) (by kernel_rfl) (by rfl) (by exact fun _ _ _ h => h) (Or.inl ⟨by rfl, ?_⟩) ⟨(by exact hF), fun _ => (by exact hG)⟩ (fun _ => ?_)
          rotate_left 1
          · (intro w hSw; (try dsimp only at hSw); go_simp; try with_reducible rfl)
          all_goals try simp only [Act.put]
          all_goals try simp only [List.setIfInBounds_toArray]
          all_goals try simp only [List.set_cons_succ]
          all_goals try simp only [List.set_cons_zero]
          refine wpAnyT_take (i := 10) (oi := _) (v := ?_) (by simp only [List.getElem?_toArray, List.getElem?_cons_succ, List.getElem?_cons_zero]; rfl) (by kernel_rfl) (by kernel_rfl) (by kernel_rfl) (by rfl) (by exact fun _ _ _ h => h) (Or.inl ⟨by rfl, ?_⟩) ⟨(by exact hF), fun _ => (by exact hG)⟩ (fun _ => ?_)
          rotate_left 1
          · (intro w hSw; (try dsimp only at hSw); go_simp; try with_reducible rfl)
          all_goals try simp only [Act.put]
          all_goals try simp only [List.setIfInBounds_toArray]
          all_goals try simp only [List.set_cons_succ]
          all_goals try simp only [List.set_cons_zero]
          refine wpAnyT_take (i := 11) (oi := _) (v := ?_) (by simp only [List.getElem?_toArray, List.getElem?_cons_succ, List.getElem?_cons_zero]; rfl) (by kernel_rfl) (by kernel_rfl) (by kernel_rfl) (by rfl) (by exact fun _ _ _ h => h) (Or.inl ⟨by rfl, ?_⟩) ⟨(by exact hF), fun _ => (by exact hG)⟩ (fun _ => ?_)
          rotate_left 1
          · (intro w hSw; (try dsimp only at hSw); go_simp; try with_reducible rfl)
          all_goals try simp only [Act.put]
          all_goals try simp only [List.setIfInBounds_toArray]
          all_goals try simp only [List.set_cons_succ]
          all_goals try simp only [List.set_cons_zero]
          refine wpAnyT_ready (rs := [12]) (by kernel_rfl) (by simp) ?_
          refine (AllReadyT.cons (by simp only [List.getElem?_toArray, List.getElem?_cons_succ, List.getElem?_cons_zero]; rfl) (fun K hK => ?_) AllReadyT.nil)
          rw [if_pos (by rfl)]
          go_simp
          clear hG
          clear x0 x1 x2 x3 hgl o0 o1 o2 o3 v0 v1 v2 v3 hlo
          replace OB := Lib.hid ((OB.out.set_ 2 (.int .i64 aL)).set_ 3 (.int .i64 al)); replace RB := Lib.hid ((RB.out.far (p := ⟨O, 2, none⟩) (by show w.heap.size ≠ O; omega) (.int .i64 aL)).far (p := ⟨O, 3, none⟩) (by show w.heap.size ≠ O; omega) (.int .i64 al)); replace BW := Lib.hid ((BW.out.setCell (p := ⟨O, 2, none⟩) (by show w.heap.size ≤ O; omega) (.int .i64 aL)).setCell (p := ⟨O, 3, none⟩) (by show w.heap.size ≤ O; omega) (.int .i64 al))
          generalize hwe : (w5.setCell ⟨O, 2, none⟩ (.int .i64 aL)).setCell ⟨O, 3, none⟩ (.int .i64 al) = w6 at *
          clear hwe
          refine hK.out _ _ ⟨(by exact hF), fun h => Bool.noConfusion (show true = false from h)⟩ (fun _ => ?_)
          clear hK K
          try simp only [Act.put]
          try simp only [List.setIfInBounds_toArray]
          try simp only [List.set_cons_succ]
          try simp only [List.set_cons_zero]
          refine wpAnyT_take (i := 13) (oi := _) (v := ?_) (by simp only [List.getElem?_toArray, List.getElem?_cons_succ, List.getElem?_cons_zero]; rfl) (by kernel_rfl) (by kernel_rfl) (by kernel_rfl) (by rfl) (by exact fun _ _ _ h => h) (Or.inl ⟨by rfl, ?_⟩) ⟨(by exact hF), fun h => Bool.noConfusion (show true = false from h)⟩ (fun _ => ?_)
          rotate_left 1
          · (intro w hSw; (try dsimp only at hSw); go_simp; try with_reducible rfl)
          all_goals try simp only [Act.put]
          all_goals try simp only [List.setIfInBounds_toArray]
          all_goals try simp only [List.set_cons_succ]
          all_goals try simp only [List.set_cons_zero]
          refine wpAnyT_done (by kernel_rfl) ?_ _
          by_cases he : ae = 0
          case neg =>
            have d5 : (ae != 0) = true := by simpa using he
            have CHE := Lib.hid (show chE s x ≠ 0 from by unfold chE; rw [HFA.out]; exact he)
            have AE := Lib.hid (show chE s x = ae from by unfold chE; rw [HFA.out])
            clear he
            -- nothing is returned: ae the error, (FOLD.out ⟨0, 0, 0, 0⟩ ae (by rw [DROP.out]; unfold foldP; rw [if_neg CHE.out, AE.out])) shows ChS
            have FN := Lib.hid (show ChS ps ⟨0, 0, 0, 0⟩ ae from (FOLD.out ⟨0, 0, 0, 0⟩ ae (by rw [DROP.out]; unfold foldP; rw [if_neg CHE.out, AE.out])))
            obtain ⟨r0, r1, r2, r3⟩ : _ ∧ _ ∧ _ ∧ _ := ⟨RB.out.cell 0, RB.out.cell 1, RB.out.cell 2, RB.out.cell 3⟩
            obtain ⟨r4, r5, r6, r7⟩ : _ ∧ _ ∧ _ ∧ _ := ⟨RB.out.frozen 0, RB.out.frozen 1, RB.out.frozen 2, RB.out.frozen 3⟩
            simp at r0 r1 r2 r3
            have hlr := RB.out.lt
            go_wp2_with fail
            have rb := (((RB.out.set_ 0 (.int .i64 0)).set_ 1 (.int .i64 0)).set_ 2 (.int .i64 0)).set_ 3 (.int .i64 0)
            refine bodyPost_ret (v := .tuple #[.agg #[.int .i64 0, .int .i64 0, .int .i64 0, .int .i64 0], .int .i64 ae]) (by simp [results, Try.results18, go_sem, rb.cell]) rfl ?_
            exact ⟨⟨0, 0, 0, 0⟩, ae, FN.out, rfl, (((BW.out.setCell (by simp) _).setCell (by simp) _).setCell (by simp) _).setCell (by simp) _⟩
          case pos =>
            subst he
            have d5 : ((0 : Int) != 0) = false := by simp
            have CHE := Lib.hid (show chE s x = 0 from by unfold chE; rw [HFA.out])
            go_wp2_with fail
            go_roundg (gk - 1)
            case measure => omega
            case rel => exact ⟨i + 1, chJ s x, by omega, by omega, by go_num, Lib.hid (chJ_good SG.out XG.out CHE.out), Lib.hid (fun r er h => FOLD.out r er (by rw [DROP.out]; unfold foldP; rw [if_pos CHE.out]; exact h)), (by rw [CJ.out]; exact OB.out), RB.out, BW.out⟩
end Go.Proofs.Ythdibkmjoiipgaa
