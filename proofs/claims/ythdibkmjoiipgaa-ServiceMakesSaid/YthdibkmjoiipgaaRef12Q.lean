/- Best of paces, as the reference reckons it, and that service.Best agrees. -/
import Derived.Test.YthdibkmjoiipgaaSvBest
import Derived.Test.YthdibkmjoiipgaaRef12P
import Derived.Test.YthdibkmjoiipgaaRefMx
import Derived.Deep.LoopGhost
namespace Go.Proofs.Ythdibkmjoiipgaa
set_option linter.unusedVariables false

/-- the greatest of a curve s, if there is no error e, and the curves of more paces -/
def LeP : Cv → Int → List PN → Cv → Int → Prop
  | s, e, [], r, er => (e = 0 ∧ r = s ∧ er = 0) ∨ (e ≠ 0 ∧ r = Cv.none ∧ er = e)
  | s, e, x :: xs, r, er => (e ≠ 0 ∧ r = Cv.none ∧ er = e) ∨ (e = 0 ∧ ∃ f i, PcS x.R x.r x.L x.l f i ∧ ((i ≠ 0 ∧ LeP s i xs r er) ∨ (i = 0 ∧ ∃ t j, ExtS false s f t j ∧ LeP t j xs r er)))
theorem LeP.bad {s : Cv} {e : Int} (he : e ≠ 0) : ∀ xs, LeP s e xs Cv.none e
  | [] => .inr ⟨he, rfl, rfl⟩
  | _ :: _ => .inl ⟨he, rfl, rfl⟩
theorem LeP.of_bad {s : Cv} {e : Int} (he : e ≠ 0) {xs : List PN} {r : Cv} {er : Int} (h : LeP s e xs r er) : r = Cv.none ∧ er = e := by
  cases xs
  · rcases h with ⟨h, _⟩ | ⟨_, h⟩
    · exact absurd h he
    · exact h
  · rcases h with ⟨_, h⟩ | ⟨h, _⟩
    · exact h
    · exact absurd h he
/-- what the reference's Best returns -/
def RBestS (ps : List PN) (r : Cv) (er : Int) : Prop :=
  (ps.length = 0 ∧ r = Cv.none ∧ er = 2) ∨ (20 < ps.length ∧ r = Cv.none ∧ er = 3) ∨ (0 < ps.length ∧ ps.length ≤ 20 ∧ (∃ x ∈ ps, ¬ x.Good) ∧ r = Cv.none ∧ er = 2) ∨
  (ps.length ≤ 20 ∧ (∀ x ∈ ps, x.Good) ∧ ∃ p qs, ps = p :: qs ∧ ∃ s e, PcS p.R p.r p.L p.l s e ∧ LeP s e qs r er)
theorem pcS_good {x : PN} (hx : x.Good) {f : Cv} {er : Int} (h : PcS x.R x.r x.L x.l f er) : (er = 0 ∧ f.Ok) ∨ (er = 3 ∧ f = Cv.none) := by
  rcases h with ⟨h, _⟩ | ⟨_, _, _, _, rfl, rfl⟩ | ⟨h1, h2, _, h⟩
  · exact absurd hx h
  · exact .inr ⟨rfl, rfl⟩
  · rcases h.get (pc_up h1.2 h1.1.1 h2.1.1) with ⟨h, k, _⟩ | h
    · exact .inl ⟨h, k⟩
    · exact .inr h
theorem ext_er {f g r : Cv} {er : Int} (hf : f.Ok) (hg : g.Ok) (h : ExtS false f g r er) : (er = 0 ∧ r.Ok) ∨ er = 3 := by
  rcases h with ⟨h, _, _⟩ | ⟨_, _, a, b, ha, hb, ⟨_, _, h⟩ | ⟨_, h⟩⟩
  · exact absurd ⟨hf, hg⟩ h
  · exact .inr h
  · have h' : MadeL (exV false a b) r er := h
    rw [exV_nf hf hg ha hb] at h'
    rcases h'.get (exV_up hf hg) with ⟨h1, h2, _⟩ | ⟨h1, _⟩
    · exact .inl ⟨h1, h2⟩
    · exact .inr h1
theorem LeP.fold : ∀ {xs : List PN} {fs : List Cv} {s r : Cv} {er : Int}, AllP xs fs → LeP s 0 xs r er → FoldX false s fs r er
  | [], [], s, r, er, _, h => by
    rcases h with ⟨_, h1, h2⟩ | ⟨h, _⟩
    · exact ⟨h1, h2⟩
    · exact absurd rfl h
  | [], _ :: _, _, _, _, h, _ => by have := h.1; simp at this
  | _ :: _, [], _, _, _, h, _ => by have := h.1; simp at this
  | x :: xs, f :: fs, s, r, er, ha, h => by
    have hx := ha.2 0 x f rfl rfl
    have ht : AllP xs fs := ⟨by have := ha.1; simpa using this, fun k y g h1 h2 => ha.2 (k + 1) y g (by simpa using h1) (by simpa using h2)⟩
    rcases h with ⟨h, _⟩ | ⟨_, f', i, h1, h2⟩
    · exact absurd rfl h
    obtain ⟨rfl, rfl⟩ := hx.unique h1
    rcases h2 with ⟨h2, _⟩ | ⟨_, t, j, h3, h4⟩
    · exact absurd rfl h2
    refine ⟨t, j, h3, ?_⟩
    by_cases hj : j = 0
    · subst hj; exact .inl ⟨rfl, h4.fold ht⟩
    · exact .inr ⟨hj, h4.of_bad hj⟩
theorem LeP.lost : ∀ {xs : List PN} {s r : Cv} {e er : Int}, (∀ x ∈ xs, x.Good) → ((e = 0 ∧ s.Ok) ∨ e = 3) → (∃ x ∈ xs, ∃ f i, PcS x.R x.r x.L x.l f i ∧ i ≠ 0) → LeP s e xs r er → r = Cv.none ∧ er = 3
  | [], _, _, _, _, _, _, ⟨_, hx, _⟩, _ => by cases hx
  | x :: xs, s, r, e, er, hg, hs, ⟨y, hy, g, i, hp, hi⟩, h => by
    rcases hs with ⟨rfl, hs⟩ | rfl
    · rcases h with ⟨h, _⟩ | ⟨_, f, i', h1, h2⟩
      · exact absurd rfl h
      rcases pcS_good (hg x (List.mem_cons_self ..)) h1 with ⟨rfl, hf⟩ | ⟨rfl, _⟩
      · rcases h2 with ⟨h2, _⟩ | ⟨_, t, j, h3, h4⟩
        · exact absurd rfl h2
        refine h4.lost (fun z hz => hg z (List.mem_cons_of_mem _ hz)) (ext_er hs hf h3) ?_
        rcases List.mem_cons.1 hy with rfl | hy
        · exact absurd (hp.unique h1).2 hi
        · exact ⟨y, hy, g, i, hp, hi⟩
      · rcases h2 with ⟨h2, h4⟩ | ⟨h2, _⟩
        · exact h4.of_bad h2
        · exact absurd h2 (by decide)
    · exact h.of_bad (by decide)
theorem best_same {ps : List PN} {r r' : Cv} {e e' : Int} (h : BestS ps r e) (k : RBestS ps r' e') : r = r' ∧ e = e' := by
  rcases h with ⟨h0, rfl, rfl⟩ | ⟨h0, rfl, rfl⟩ | ⟨h0, h1, ⟨x, hx, hb⟩, rfl, rfl⟩ | ⟨h0, h1, h2, h3⟩ <;> rcases k with ⟨k0, rfl, rfl⟩ | ⟨k0, rfl, rfl⟩ | ⟨k0, k1, ⟨y, hy, kb⟩, rfl, rfl⟩ | ⟨k0, k1, p', qs', kp, s', i', k2, k3⟩
  all_goals try exact ⟨rfl, rfl⟩
  all_goals try omega
  · subst kp; simp at h0
  · exact absurd (k1 _ hx) hb
  · exact absurd (h2 _ hy) kb
  · subst kp
    have hp' := pcS_good (h2 _ (List.mem_cons_self ..)) k2
    have hq' : ∀ x ∈ qs', x.Good := fun z hz => h2 z (List.mem_cons_of_mem _ hz)
    rcases h3 with ⟨x, hx, f, h3, h4, rfl⟩ | ⟨f, fs, h3, h4⟩
    · have e3 : e = 3 := by
        rcases pcS_good (h2 _ hx) h3 with ⟨h, _⟩ | ⟨h, _⟩
        · exact absurd h h4
        · exact h
      subst e3
      rcases List.mem_cons.1 hx with rfl | hx
      · obtain ⟨rfl, rfl⟩ := h3.unique k2
        obtain ⟨rfl, rfl⟩ := k3.of_bad (by decide)
        exact ⟨rfl, rfl⟩
      · obtain ⟨rfl, rfl⟩ := k3.lost hq' (hp'.imp id (·.1)) ⟨x, hx, f, _, h3, h4⟩
        exact ⟨rfl, rfl⟩
    · have hx := h3.2 0 p' f rfl rfl
      have ht : AllP qs' fs := ⟨by have := h3.1; simpa using this, fun k y g h1 h2 => h3.2 (k + 1) y g (by simpa using h1) (by simpa using h2)⟩
      obtain ⟨rfl, rfl⟩ := hx.unique k2
      exact h4.unique (k3.fold ht)
end Go.Proofs.Ythdibkmjoiipgaa
namespace Go.Proofs.Ythdibkmjoiipgaa
open Go.RowKit
set_option linter.unusedVariables false

theorem Ints.blq {w : World} {B n : Nat} {A : Option Addr} {zs : List Int} (h : Ints w B A n zs) (hn : 0 < n) : ∀ b off t, A = some ⟨b, off, t⟩ → b < B := fun b off t e => by
  obtain ⟨b', off', e', hb, _⟩ := h.2 hn
  rw [e] at e'; cases e'; exact hb
set_option maxHeartbeats 4000000 in
set_option maxRecDepth 100000 in
theorem refBest_any (A : Option Addr) (n c : Nat) (ps : List PN) (w : World) (hl : ps.length = n) (hn9 : (n : Int) ≤ 9223372036854775807) (hnc : n ≤ c) (hrow : 0 < n → ∃ g o, A = some ⟨g, o, none⟩ ∧ RowQ w g o ps) :
    Calls Try.prog 59 #[.slice A n c] w (RetS2 (RBestS ps) w) := by
  have RB := Lib.hid (Blk.new w 46 #[.slice none 0 0, .int .i64 0, .int .i64 0])
  have BW := Lib.hid (balloc w (.cells #[.slice none 0 0, .int .i64 0, .int .i64 0] 46))
  have HL := Lib.hid hl; have HROW := Lib.hid hrow
  clear hl hrow
  go_enter Try.func59, Try.ntmps59
  go_upto_region 1 with fail
  generalize hwe : w.alloc (.cells #[.slice none 0 0, .int .i64 0, .int .i64 0] 46) = w1 at *
  clear hwe
  by_cases h0 : n = 0
  · subst h0
    have F := Lib.hid (show RBestS ps Cv.none 2 from .inl ⟨HL.out, rfl, rfl⟩)
    -- the error 2 is returned, F.out says so
    obtain ⟨⟨r0, r1, r2⟩, ⟨y0, y1, y2⟩, hlr⟩ := RB.out.c3
    go_wp2_with fail
    have rb := RB.out.store3 (.slice none 0 0) (.int .i64 0) (.int .i64 0)
    exact bodyPost_ret (v := .tuple #[.agg #[(.slice none 0 0), .int .i64 0, .int .i64 0], .int .i64 2]) (by simp [results, Try.results59, go_sem, rb.cell]) rfl (retS2_store0 F.out (Nat.le_refl _) BW.out)
  · have d0 : ((n : Int) == 0) = false := by simp; omega
    by_cases h20 : 20 < n
    · have d1 : decide ((20 : Int) < (n : Int)) = true := by simp; omega
      have d1' : decide (20 < n) = true := by simp; omega
      have F := Lib.hid (show RBestS ps Cv.none 3 from .inr (.inl ⟨by rw [HL.out]; exact h20, rfl, rfl⟩))
      clear h20
      -- the error 3 is returned, F.out says so
      obtain ⟨⟨r0, r1, r2⟩, ⟨y0, y1, y2⟩, hlr⟩ := RB.out.c3
      go_wp2_with fail
      have rb := RB.out.store3 (.slice none 0 0) (.int .i64 0) (.int .i64 0)
      exact bodyPost_ret (v := .tuple #[.agg #[(.slice none 0 0), .int .i64 0, .int .i64 0], .int .i64 3]) (by simp [results, Try.results59, go_sem, rb.cell]) rfl (retS2_store0 F.out (Nat.le_refl _) BW.out)
    · have d1 : decide ((20 : Int) < (n : Int)) = false := by simp; omega
      have d1' : decide (20 < n) = false := by simp; omega
      obtain ⟨g, o, hg, hrow⟩ := HROW.out (by omega)
      subst hg
      have ROW := Lib.hid hrow
      clear hrow HROW
      have hn1 : 1 ≤ n := by omega
      have hn20 : n ≤ 20 := by omega
      clear h0 h20
      go_wp2_with fail
      clear d0 d1 d1'
      go_loopg [4] n (fun gg s4 wx => ∃ k : Nat, k + gg = n ∧ s4 = .int .i64 k ∧ (∀ (j : Nat) (x : PN), j < k → ps[j]? = some x → x.Good) ∧ Blk wx w.heap.size 46 #[.slice none 0 0, .int .i64 0, .int .i64 0] ∧ Below w.heap.size w wx)
      case atStart => exact ⟨0, by omega, rfl, fun j x hj => by omega, RB.out, BW.out⟩
      case round =>
        clear RB BW
        obtain ⟨k, hkg, rfl, hG, hRB, hBW⟩ := hrel
        have RB := Lib.hid hRB; have BW := Lib.hid hBW; have HG := Lib.hid hG
        clear hRB hBW hG
        by_cases hk : k < n
        · have hki : (k : Int) < n := by omega
          obtain ⟨x, hx, x0, x1, x2, x3⟩ := (ROW.out.below BW.out).get (k := k) (by rw [HL.out]; exact hk)
          have hgl := (ROW.out.below BW.out).lt
          have HX := Lib.hid hx
          clear hx
          have X0 := Lib.hid x0; have X1 := Lib.hid x1; have X2 := Lib.hid x2; have X3 := Lib.hid x3; have HGL := Lib.hid hgl
          go_upto_region 8 with fail
          replace RB := Lib.hid (Blk.drew RB.out); replace BW := Lib.hid (Below.drew BW.out)
          refine wp_region_held_drew (S := (fun w' => w'.cell? ⟨g, o + k * 4, none⟩ = some (.int .i64 x.R) ∧ w'.cell? ⟨g, o + k * 4 + 1, none⟩ = some (.int .i64 x.r) ∧ w'.cell? ⟨g, o + k * 4 + 2, none⟩ = some (.int .i64 x.L) ∧ w'.cell? ⟨g, o + k * 4 + 3, none⟩ = some (.int .i64 x.l))) (by kernel_rfl) (by exact ⟨x0, x1, x2, x3⟩) (fun hHeld => ?_)
          clear x0 x1 x2 x3 hgl
          have x0 : wr.drew.cell? ⟨g, o + k * 4, none⟩ = some (.int .i64 x.R) := X0.out
          have x1 : wr.drew.cell? ⟨g, o + k * 4 + 1, none⟩ = some (.int .i64 x.r) := X1.out
          have x2 : wr.drew.cell? ⟨g, o + k * 4 + 2, none⟩ = some (.int .i64 x.L) := X2.out
          have x3 : wr.drew.cell? ⟨g, o + k * 4 + 3, none⟩ = some (.int .i64 x.l) := X3.out
          have hgl : g < wr.drew.heap.size := HGL.out
          clear X0 X1 X2 X3 HGL
          generalize hwd : wr.drew = wd at *
          clear hwd
          refine wpAnyH_take (i := 0) (oi := _) (v := ?_) (by simp only [List.getElem?_toArray, List.getElem?_cons_zero]; rfl) (by kernel_rfl) (by kernel_rfl) (by kernel_rfl) (by exact fun _ _ _ h => h) (Or.inl ⟨by rfl, ?_⟩) (by assumption) ?_
          rotate_left 1
          · (intro w hSw; (try dsimp only at hSw); go_simp; try with_reducible rfl)
          all_goals try simp only [Act.put]
          all_goals try simp only [List.setIfInBounds_toArray]
          all_goals try simp only [List.set_cons_succ]
          all_goals try simp only [List.set_cons_zero]
          refine wpAnyH_take (i := 1) (oi := _) (v := ?_) (by simp only [List.getElem?_toArray, List.getElem?_cons_succ, List.getElem?_cons_zero]; rfl) (by kernel_rfl) (by kernel_rfl) (by kernel_rfl) (by exact fun _ _ _ h => h) (Or.inl ⟨by rfl, ?_⟩) (by assumption) ?_
          rotate_left 1
          · (intro w hSw; (try dsimp only at hSw); go_simp; try with_reducible rfl)
          all_goals try simp only [Act.put]
          all_goals try simp only [List.setIfInBounds_toArray]
          all_goals try simp only [List.set_cons_succ]
          all_goals try simp only [List.set_cons_zero]
          refine wpAnyH_take (i := 2) (oi := _) (v := ?_) (by simp only [List.getElem?_toArray, List.getElem?_cons_succ, List.getElem?_cons_zero]; rfl) (by kernel_rfl) (by kernel_rfl) (by kernel_rfl) (by exact fun _ _ _ h => h) (Or.inl ⟨by rfl, ?_⟩) (by assumption) ?_
          rotate_left 1
          · (intro w hSw; (try dsimp only at hSw); go_simp; try with_reducible rfl)
          all_goals try simp only [Act.put]
          all_goals try simp only [List.setIfInBounds_toArray]
          all_goals try simp only [List.set_cons_succ]
          all_goals try simp only [List.set_cons_zero]
          refine wpAnyH_take (i := 3) (oi := _) (v := ?_) (by simp only [List.getElem?_toArray, List.getElem?_cons_succ, List.getElem?_cons_zero]; rfl) (by kernel_rfl) (by kernel_rfl) (by kernel_rfl) (by exact fun _ _ _ h => h) (Or.inl ⟨by rfl, ?_⟩) (by assumption) ?_
          rotate_left 1
          · (intro w hSw; (try dsimp only at hSw); go_simp; try with_reducible rfl)
          all_goals try simp only [Act.put]
          all_goals try simp only [List.setIfInBounds_toArray]
          all_goals try simp only [List.set_cons_succ]
          all_goals try simp only [List.set_cons_zero]
          refine wpAnyH_take (i := 4) (oi := _) (v := ?_) (by simp only [List.getElem?_toArray, List.getElem?_cons_succ, List.getElem?_cons_zero]; rfl) (by kernel_rfl) (by kernel_rfl) (by kernel_rfl) (by exact fun _ _ _ h => h) (Or.inl ⟨by rfl, ?_⟩) (by assumption) ?_
          rotate_left 1
          · (intro w hSw; (try dsimp only at hSw); go_simp; try with_reducible rfl)
          all_goals try simp only [Act.put]
          all_goals try simp only [List.setIfInBounds_toArray]
          all_goals try simp only [List.set_cons_succ]
          all_goals try simp only [List.set_cons_zero]
          refine wpAnyH_take (i := 5) (oi := _) (v := ?_) (by simp only [List.getElem?_toArray, List.getElem?_cons_succ, List.getElem?_cons_zero]; rfl) (by kernel_rfl) (by kernel_rfl) (by kernel_rfl) (by exact fun _ _ _ h => h) (Or.inl ⟨by rfl, ?_⟩) (by assumption) ?_
          rotate_left 1
          · (intro w hSw; (try dsimp only at hSw); go_simp; try with_reducible rfl)
          all_goals try simp only [Act.put]
          all_goals try simp only [List.setIfInBounds_toArray]
          all_goals try simp only [List.set_cons_succ]
          all_goals try simp only [List.set_cons_zero]
          refine wpAnyH_take (i := 6) (oi := _) (v := ?_) (by simp only [List.getElem?_toArray, List.getElem?_cons_succ, List.getElem?_cons_zero]; rfl) (by kernel_rfl) (by kernel_rfl) (by kernel_rfl) (by exact fun _ _ _ h => h) (Or.inl ⟨by rfl, ?_⟩) (by assumption) ?_
          rotate_left 1
          · (intro w hSw; (try dsimp only at hSw); go_simp; try with_reducible rfl)
          all_goals try simp only [Act.put]
          all_goals try simp only [List.setIfInBounds_toArray]
          all_goals try simp only [List.set_cons_succ]
          all_goals try simp only [List.set_cons_zero]
          refine wpAnyH_take (i := 7) (oi := _) (v := ?_) (by simp only [List.getElem?_toArray, List.getElem?_cons_succ, List.getElem?_cons_zero]; rfl) (by kernel_rfl) (by kernel_rfl) (by kernel_rfl) (by exact fun _ _ _ h => h) (Or.inl ⟨by rfl, ?_⟩) (by assumption) ?_
          rotate_left 1
          · (intro w hSw; (try dsimp only at hSw); go_simp; try with_reducible rfl)
          all_goals try simp only [Act.put]
          all_goals try simp only [List.setIfInBounds_toArray]
          all_goals try simp only [List.set_cons_succ]
          all_goals try simp only [List.set_cons_zero]
          refine wpAnyH_take (i := 8) (oi := _) (v := ?_) (by simp only [List.getElem?_toArray, List.getElem?_cons_succ, List.getElem?_cons_zero]; rfl) (by kernel_rfl) (by kernel_rfl) (by kernel_rfl) (by exact fun _ _ _ h => h) (Or.inl ⟨by rfl, ?_⟩) (by assumption) ?_
          rotate_left 1
          · (intro w hSw; (try dsimp only at hSw); go_simp; try with_reducible rfl)
          all_goals try simp only [Act.put]
          all_goals try simp only [List.setIfInBounds_toArray]
          all_goals try simp only [List.set_cons_succ]
          all_goals try simp only [List.set_cons_zero]
          refine wpAnyH_take (i := 9) (oi := _) (v := ?_) (by simp only [List.getElem?_toArray, List.getElem?_cons_succ, List.getElem?_cons_zero]; rfl) (by kernel_rfl) (by kernel_rfl) (by kernel_rfl) (by exact fun _ _ _ h => h) (Or.inl ⟨by rfl, ?_⟩) (by assumption) ?_
          rotate_left 1
          · (intro w hSw; (try dsimp only at hSw); go_simp; try with_reducible rfl)
          all_goals try simp only [Act.put]
          all_goals try simp only [List.setIfInBounds_toArray]
          all_goals try simp only [List.set_cons_succ]
          all_goals try simp only [List.set_cons_zero]
          refine wpAnyH_ready (rs := [10]) (by kernel_rfl) (by simp) ?_
          refine (AllReadyH.cons (by simp only [List.getElem?_toArray, List.getElem?_cons_succ, List.getElem?_cons_zero]; rfl) (fun K hK => ?_) AllReadyH.nil)
          rw [if_pos (by rfl)]
          go_simp
          refine (good12_any x.R x.r x.L x.l _).mono ?_
          rintro e w2 ⟨rfl, hb⟩
          have y0 := (hb.cell (p := ⟨g, o + k * 4, none⟩) hgl).trans x0; have y1 := (hb.cell (p := ⟨g, o + k * 4 + 1, none⟩) hgl).trans x1; have y2 := (hb.cell (p := ⟨g, o + k * 4 + 2, none⟩) hgl).trans x2; have y3 := (hb.cell (p := ⟨g, o + k * 4 + 3, none⟩) hgl).trans x3
          replace RB := Lib.hid (RB.out.below hb RB.out.lt); replace BW := Lib.hid (bthen BW.out hb)
          clear hb x0 x1 x2 x3 hgl hHeld
          refine hK.out _ _ (by exact ⟨y0, y1, y2, y3⟩) (fun hHeld => ?_)
          clear hK K
          try simp only [Act.put]
          try simp only [List.setIfInBounds_toArray]
          try simp only [List.set_cons_succ]
          try simp only [List.set_cons_zero]
          clear y0 y1 y2 y3
          by_cases hgd : x.Good
          · have d1 : (gokB x.R x.r && gokB x.L x.l) = true := by rw [gokB_t hgd.1, gokB_t hgd.2]; rfl
            have G2 := Lib.hid (show ∀ (j : Nat) (y : PN), j < k + 1 → ps[j]? = some y → y.Good from fun j y hj hy => by
              rcases Nat.lt_or_ge j k with h1 | h1
              · exact HG.out j y h1 hy
              · obtain rfl : j = k := by omega
                rw [HX.out] at hy
                injection hy with hy
                subst hy
                exact hgd)
            clear hgd
            refine wpAnyH_take (i := 11) (oi := _) (v := ?_) (by simp only [List.getElem?_toArray, List.getElem?_cons_succ, List.getElem?_cons_zero]; rfl) (by kernel_rfl) (by kernel_rfl) (by kernel_rfl) (by exact fun _ _ _ h => h) (Or.inl ⟨by rfl, ?_⟩) (by assumption) ?_
            rotate_left 1
            · (intro w hSw; (try dsimp only at hSw); go_simp; try with_reducible rfl)
            all_goals try simp only [Act.put]
            all_goals try simp only [List.setIfInBounds_toArray]
            all_goals try simp only [List.set_cons_succ]
            all_goals try simp only [List.set_cons_zero]
            refine wpAnyH_done (by kernel_rfl) ?_ _
            clear hHeld
            go_wp2_with fail
            go_roundg (gk - 1)
            case measure => omega
            case rel => exact ⟨k + 1, by omega, by go_num, G2.out, RB.out, BW.out⟩
          · have d1 : (gokB x.R x.r && gokB x.L x.l) = false := by
              by_cases k1 : GOk x.R x.r
              · rw [gokB_f (fun k2 => hgd ⟨k1, k2⟩), Bool.and_false]
              · rw [gokB_f k1, Bool.false_and]
            have F := Lib.hid (show RBestS ps Cv.none 2 from .inr (.inr (.inl ⟨by rw [HL.out]; exact hn1, by rw [HL.out]; exact hn20, ⟨x, List.mem_of_getElem? HX.out, hgd⟩, rfl, rfl⟩)))
            clear hgd
            refine wpAnyH_take (i := 11) (oi := _) (v := ?_) (by simp only [List.getElem?_toArray, List.getElem?_cons_succ, List.getElem?_cons_zero]; rfl) (by kernel_rfl) (by kernel_rfl) (by kernel_rfl) (by exact fun _ _ _ h => h) (Or.inl ⟨by rfl, ?_⟩) (by assumption) ?_
            rotate_left 1
            · (intro w hSw; (try dsimp only at hSw); go_simp; try with_reducible rfl)
            all_goals try simp only [Act.put]
            all_goals try simp only [List.setIfInBounds_toArray]
            all_goals try simp only [List.set_cons_succ]
            all_goals try simp only [List.set_cons_zero]
            refine wpAnyH_done (by kernel_rfl) ?_ _
            clear hHeld
            -- the error 2 is returned, F.out says so
            obtain ⟨⟨r0, r1, r2⟩, ⟨y0, y1, y2⟩, hlr⟩ := RB.out.c3
            go_wp2_with fail
            have rb := RB.out.store3 (.slice none 0 0) (.int .i64 0) (.int .i64 0)
            exact bodyPost_ret (v := .tuple #[.agg #[(.slice none 0 0), .int .i64 0, .int .i64 0], .int .i64 2]) (by simp [results, Try.results59, go_sem, rb.cell]) rfl (retS2_store0 F.out (Nat.le_refl _) BW.out)
        · have hkn : k = n := by omega
          have GD := Lib.hid (show ∀ x ∈ ps, x.Good from fun x hx => by
            obtain ⟨j, hj, he⟩ := List.getElem_of_mem hx
            exact HG.out j x (by rw [hkn, ← HL.out]; exact hj) (by rw [List.getElem?_eq_getElem hj, he]))
          have hki : ¬ (k : Int) < n := by omega
          clear HG hkn hk
          obtain ⟨p0, xs, rfl⟩ : ∃ p0 xs, ps = p0 :: xs := by
            cases ps with
            | nil => have := HL.out; simp at this; omega
            | cons p0 xs => exact ⟨p0, xs, rfl⟩
          have HXL := Lib.hid (show xs.length = n - 1 by have := HL.out; simp at this; omega)
          obtain ⟨x, hx, x0, x1, x2, x3⟩ := (ROW.out.below BW.out).get (k := 0) (by simp)
          simp only [List.getElem?_cons_zero, Option.some.injEq] at hx
          subst hx
          simp only [Nat.zero_mul, Nat.add_zero] at x0 x1 x2 x3
          have hgl := (ROW.out.below BW.out).lt
          have hrl := RB.out.lt
          have hn0i : (0 : Int) < n := by omega
          go_wp2_with fail
          refine (rpace_any p0.R p0.r p0.L p0.l _).mono ?_
          rintro e w5 ⟨s0, e0, A1, m1, d1, hS, hmd, rfl, hI1, hA1, hb1⟩
          have HS0 := Lib.hid hS
          have hm1 : m1 ≤ 400 := by have h1 := pcS_len hS; have h2 : s0.vals.length = m1 := hI1.1; omega
          have ZB := Lib.hid (Blk.new w5 46 #[.slice A1 m1 d1, .int .i64 s0.per, .int .i64 s0.inc])
          have IZ := Lib.hid (hI1.alloc' (.cells #[.slice A1 m1 d1, .int .i64 s0.per, .int .i64 s0.inc] 46))
          have OZ := Lib.hid (show (∀ b off t, A1 = some ⟨b, off, t⟩ → w.heap.size < b) ∧ (0 < m1 → ∀ b off t, A1 = some ⟨b, off, t⟩ → b ≠ w5.heap.size) from ⟨fun b off t e => by have h1 := hA1 b off t e; omega, fun h3 b off t e => by
            obtain ⟨b', off', e', hb', _⟩ := hI1.2 h3
            rw [e] at e'; cases e'; omega⟩)
          replace RB := Lib.hid ((RB.out.below hb1 RB.out.lt).alloc (.cells #[.slice A1 m1 d1, .int .i64 s0.per, .int .i64 s0.inc] 46)); replace BW := Lib.hid (bthen (bthen BW.out hb1) (balloc _ (.cells #[.slice A1 m1 d1, .int .i64 s0.per, .int .i64 s0.inc] 46)))
          have hsz := RB.out.lt
          have hzw : w.heap.size < w5.heap.size := by have := hb1.size; omega
          clear hS hI1 hA1 hb1 x0 x1 x2 x3 hgl hrl hsz
          go_upto_region 11 with fail
          generalize hwe : w5.alloc (.cells #[.slice A1 m1 d1, .int .i64 s0.per, .int .i64 s0.inc] 46) = we at *
          clear hwe
          generalize w5.heap.size = Z at *
          go_wp2_with fail
          go_loopg [7, 6] (n - 1) (fun gg s7 s6 wx => ∃ (k : Nat) (s : Cv) (e : Int) (A : Option Addr) (m d : Nat), 1 ≤ k ∧ k + gg = n ∧ s7 = .int .i64 k ∧ s6 = .int .i64 e ∧ m ≤ 400 ∧ m ≤ d ∧ Blk wx Z 46 #[.slice A m d, .int .i64 s.per, .int .i64 s.inc] ∧ Ints wx wx.heap.size A m s.vals ∧ ((∀ b off t, A = some ⟨b, off, t⟩ → w.heap.size < b) ∧ (0 < m → ∀ b off t, A = some ⟨b, off, t⟩ → b ≠ Z)) ∧ (∀ r er, LeP s e (xs.drop (k - 1)) r er → LeP s0 e0 xs r er) ∧ Blk wx w.heap.size 46 #[.slice none 0 0, .int .i64 0, .int .i64 0] ∧ Below w.heap.size w wx)
          case atStart => exact ⟨1, s0, e0, A1, m1, d1, by omega, by omega, rfl, rfl, hm1, hmd, ZB.out, IZ.out, OZ.out, fun r er h => by rw [Nat.sub_self, List.drop_zero] at h; exact h, RB.out, BW.out⟩
          case round =>
            clear ZB IZ OZ RB BW hm1
            obtain ⟨k, s, e, A, m, d, hk1, hkg, rfl, rfl, hm, hmd2, hZB, hIZ, hOZ, hT, hRB, hBW⟩ := hrel
            have ZB := Lib.hid hZB; have IZ := Lib.hid hIZ; have OZ := Lib.hid hOZ; have HT := Lib.hid hT; have RB := Lib.hid hRB; have BW := Lib.hid hBW
            clear hZB hIZ hOZ hT hRB hBW
            have HEZ := Lib.hid (fun he : e ≠ 0 => LeP.bad (s := s) (e := e) he (xs.drop (k - 1)))
            by_cases he : e = 0
            · subst he
              by_cases hk : k < n
              · have hki : (k : Int) < n := by omega
                obtain ⟨x, hx, x0, x1, x2, x3⟩ := (ROW.out.below BW.out).get (k := k) (by rw [HL.out]; exact hk)
                have hgl := (ROW.out.below BW.out).lt
                have HX := Lib.hid hx
                clear hx
                have hzl := ZB.out.lt
                have HAX := Lib.hid IZ.out.blq
                have YB := Lib.hid (Blk.new wr 46 #[.slice none 0 0, .int .i64 0, .int .i64 0])
                replace ZB := Lib.hid (ZB.out.alloc (.cells #[.slice none 0 0, .int .i64 0, .int .i64 0] 46)); replace IZ := Lib.hid (IZ.out.alloc' (.cells #[.slice none 0 0, .int .i64 0, .int .i64 0] 46)); replace RB := Lib.hid (RB.out.alloc (.cells #[.slice none 0 0, .int .i64 0, .int .i64 0] 46)); replace BW := Lib.hid (bthen BW.out (balloc _ (.cells #[.slice none 0 0, .int .i64 0, .int .i64 0] 46)))
                clear x0 x1 x2 x3 hgl
                go_upto_region 15 with fail
                generalize hwe : wr.alloc (.cells #[.slice none 0 0, .int .i64 0, .int .i64 0] 46) = wf at *
                clear hwe
                generalize wr.heap.size = Y at *
                obtain ⟨x', hx, x0, x1, x2, x3⟩ := (ROW.out.below BW.out).get (k := k) (by rw [HL.out]; exact hk)
                rw [HX.out] at hx
                injection hx with hx
                subst hx
                have hgl := (ROW.out.below BW.out).lt
                go_wp2_with fail
                refine (rpace_any x.R x.r x.L x.l _).mono ?_
                rintro e w6 ⟨f, i, A2, m2, d2, hS, hmd3, rfl, hI2, hA2, hb⟩
                have hk' : k - 1 < xs.length := by rw [HXL.out]; omega
                have hdr : xs.drop (k - 1) = x :: xs.drop k := by
                  rw [List.drop_eq_getElem_cons hk', show k - 1 + 1 = k by omega]
                  have h1 := HX.out
                  rw [show k = (k - 1) + 1 by omega, List.getElem?_cons_succ, List.getElem?_eq_getElem hk'] at h1
                  injection h1 with h1
                  rw [h1]
                have HTN := Lib.hid (show ∀ r er, ((i ≠ 0 ∧ LeP s i (xs.drop k) r er) ∨ (i = 0 ∧ ∃ t j, ExtS false s f t j ∧ LeP t j (xs.drop k) r er)) → LeP s0 e0 xs r er from fun r er h => HT.out r er (by rw [hdr]; exact .inr ⟨rfl, f, i, hS, h⟩))
                have hm2 : m2 ≤ 400 := by have h1 := pcS_len hS; have h2 : f.vals.length = m2 := hI2.1; omega
                have hyw := YB.out.lt
                replace ZB := Lib.hid (ZB.out.below hb ZB.out.lt); replace RB := Lib.hid (RB.out.below hb RB.out.lt); replace IZ := Lib.hid (IZ.out.ext hb); replace YB := Lib.hid (YB.out.below hb YB.out.lt); replace BW := Lib.hid (bthen BW.out hb)
                have hAY := Lib.hid (show ∀ b off t, A2 = some ⟨b, off, t⟩ → Y < b from fun b off t e => by have := hA2 b off t e; omega)
                have HI2 := Lib.hid hI2
                clear hdr hS HT hI2 hA2 hb x0 x1 x2 x3 hgl hk'
                have Z2 := Lib.hid (ZB.out.sto (Sto.three Y w6 (.slice A2 m2 d2) (.int .i64 f.per) (.int .i64 f.inc)) (by omega))
                have IZ2 := Lib.hid (IZ.out.sto0 (Sto.three Y w6 (.slice A2 m2 d2) (.int .i64 f.per) (.int .i64 f.inc)) (fun h0 b off t e => by have := HAX.out h0 b off t e; omega))
                have R2 := Lib.hid (RB.out.sto (Sto.three Y w6 (.slice A2 m2 d2) (.int .i64 f.per) (.int .i64 f.inc)) (by omega))
                have B2 := Lib.hid (bst3 BW.out (show w.heap.size ≤ Y by omega) (.slice A2 m2 d2) (.int .i64 f.per) (.int .i64 f.inc))
                have Y2 := Lib.hid (YB.out.store3 (.slice A2 m2 d2) (.int .i64 f.per) (.int .i64 f.inc))
                have I2 := Lib.hid (HI2.out.sto (Sto.three Y w6 (.slice A2 m2 d2) (.int .i64 f.per) (.int .i64 f.inc)) (fun b off t e => by have := hAY.out b off t e; omega))
                obtain ⟨⟨u0, u1, u2⟩, ⟨v0, v1, v2⟩, hlu⟩ := YB.out.c3
                by_cases hi : i = 0
                · subst hi
                  go_upto_region 17 with fail
                  clear ZB IZ RB BW YB HI2 u0 u1 u2 v0 v1 v2 hlu
                  generalize hws : ((w6.setCell ⟨Y, 0, none⟩ (.slice A2 m2 d2)).setCell ⟨Y, 1, none⟩ (.int .i64 f.per)).setCell ⟨Y, 2, none⟩ (.int .i64 f.inc) = ws at *
                  clear hws
                  obtain ⟨⟨q0, q1, q2⟩, ⟨k0, k1, k2⟩, hlq⟩ := Z2.out.c3
                  obtain ⟨⟨u0, u1, u2⟩, ⟨v0, v1, v2⟩, hlu⟩ := Y2.out.c3
                  go_wp2_with fail
                  refine (refMax_any A A2 m m2 d d2 s.per s.inc f.per f.inc s.vals f.vals _ (by exact IZ2.out) (by exact I2.out) (by omega) (by omega) hmd2 hmd3).mono ?_
                  rintro e w7 ⟨t, j, A3, m3, d3, hS, hmd4, rfl, hI3, hA3, hb⟩
                  have HTE := Lib.hid (show ∀ r er, LeP t j (xs.drop k) r er → LeP s0 e0 xs r er from fun r er h => HTN.out r er (.inr ⟨by trivial, t, j, hS, h⟩))
                  have hm3 : m3 ≤ 400 := by have h1 := ext_len hS; have h2 : t.vals.length = m3 := hI3.1; omega
                  replace Z2 := Lib.hid (Z2.out.below hb Z2.out.lt); replace R2 := Lib.hid (R2.out.below hb R2.out.lt); replace B2 := Lib.hid (bthen B2.out hb)
                  have HI3 := Lib.hid hI3
                  have HA3 := Lib.hid (show (∀ b off t, A3 = some ⟨b, off, t⟩ → w.heap.size < b) ∧ (0 < m3 → ∀ b off t, A3 = some ⟨b, off, t⟩ → b ≠ Z) from ⟨fun b off t e => by have := hA3 b off t e; omega, fun _ b off t e => by have := hA3 b off t e; omega⟩)
                  clear hS hI3 hA3 hb IZ2 I2 Y2 q0 q1 q2 k0 k1 k2 hlq u0 u1 u2 v0 v1 v2 hlu HTN
                  obtain ⟨⟨q0, q1, q2⟩, ⟨k0, k1, k2⟩, hlq⟩ := Z2.out.c3
                  have Z3 := Lib.hid (Z2.out.store3 (.slice A3 m3 d3) (.int .i64 t.per) (.int .i64 t.inc))
                  have I3 := Lib.hid (HI3.out.sto0 (Sto.three Z w7 (.slice A3 m3 d3) (.int .i64 t.per) (.int .i64 t.inc)) HA3.out.2)
                  have R3 := Lib.hid (R2.out.sto (Sto.three Z w7 (.slice A3 m3 d3) (.int .i64 t.per) (.int .i64 t.inc)) (by omega))
                  have B3 := Lib.hid (bst3 B2.out (show w.heap.size ≤ Z by omega) (.slice A3 m3 d3) (.int .i64 t.per) (.int .i64 t.inc))
                  clear R2 B2 HI3
                  go_wp2_with fail
                  go_roundg (gk - 1)
                  case measure => omega
                  case rel => exact ⟨k + 1, t, j, A3, m3, d3, by omega, by omega, by go_num, rfl, hm3, hmd4, Z3.out, I3.out, HA3.out, HTE.out, R3.out, B3.out⟩
                · have di : (i == 0) = false := by simpa using hi
                  have HTE := Lib.hid (show ∀ r er, LeP s i (xs.drop k) r er → LeP s0 e0 xs r er from fun r er h => HTN.out r er (.inl ⟨hi, h⟩))
                  clear hi HTN
                  go_wp2_with fail
                  go_roundg (gk - 1)
                  case measure => omega
                  case rel => exact ⟨k + 1, s, i, A, m, d, by omega, by omega, by go_num, rfl, hm, hmd2, Z2.out, IZ2.out, OZ.out, HTE.out, R2.out, B2.out⟩
              · have hki : ¬ (k : Int) < n := by omega
                have HDN := Lib.hid (show xs.drop (k - 1) = [] from List.drop_eq_nil_of_le (by rw [HXL.out]; omega))
                clear hk
                have F := Lib.hid (show RBestS (p0 :: xs) s 0 from .inr (.inr (.inr ⟨by rw [HL.out]; exact hn20, GD.out, p0, xs, rfl, s0, e0, HS0.out, HT.out _ _ (by rw [HDN.out]; exact .inl ⟨rfl, rfl, rfl⟩)⟩)))
                clear HT HEZ
                obtain ⟨⟨q0, q1, q2⟩, ⟨k0, k1, k2⟩, hlq⟩ := ZB.out.c3
                obtain ⟨⟨r0, r1, r2⟩, ⟨y0, y1, y2⟩, hlr⟩ := RB.out.c3
                go_wp2_with fail
                have rb := RB.out.store3 (.slice A m d) (.int .i64 s.per) (.int .i64 s.inc)
                refine bodyPost_ret (v := .tuple #[.agg #[(.slice A m d), .int .i64 s.per, .int .i64 s.inc], .int .i64 0]) (by simp [results, Try.results59, go_sem, rb.cell]) rfl ?_
                exact ⟨s, 0, A, m, d, F.out, hmd2, rfl, IZ.out.sto0 (Sto.three w.heap.size wr _ _ _) (fun _ b off t e => by have := OZ.out.1 b off t e; omega), (fun b off t e => by have := OZ.out.1 b off t e; omega), bst3 BW.out (Nat.le_refl _) _ _ _⟩
            · have de : (e == 0) = false := by simpa using he
              have de' : (e != 0) = true := by simpa using he
              have F := Lib.hid (show RBestS (p0 :: xs) Cv.none e from .inr (.inr (.inr ⟨by rw [HL.out]; exact hn20, GD.out, p0, xs, rfl, s0, e0, HS0.out, HT.out _ _ (HEZ.out he)⟩)))
              clear he HT ZB IZ OZ HEZ
              by_cases hk : k < n
              · have hki : (k : Int) < n := by omega
                -- the error e is returned, F.out says so
                obtain ⟨⟨r0, r1, r2⟩, ⟨y0, y1, y2⟩, hlr⟩ := RB.out.c3
                go_wp2_with fail
                have rb := RB.out.store3 (.slice none 0 0) (.int .i64 0) (.int .i64 0)
                exact bodyPost_ret (v := .tuple #[.agg #[(.slice none 0 0), .int .i64 0, .int .i64 0], .int .i64 e]) (by simp [results, Try.results59, go_sem, rb.cell]) rfl (retS2_store0 F.out (Nat.le_refl _) BW.out)
              · have hki : ¬ (k : Int) < n := by omega
                -- the error e is returned, F.out says so
                obtain ⟨⟨r0, r1, r2⟩, ⟨y0, y1, y2⟩, hlr⟩ := RB.out.c3
                go_wp2_with fail
                have rb := RB.out.store3 (.slice none 0 0) (.int .i64 0) (.int .i64 0)
                exact bodyPost_ret (v := .tuple #[.agg #[(.slice none 0 0), .int .i64 0, .int .i64 0], .int .i64 e]) (by simp [results, Try.results59, go_sem, rb.cell]) rfl (retS2_store0 F.out (Nat.le_refl _) BW.out)
end Go.Proofs.Ythdibkmjoiipgaa
