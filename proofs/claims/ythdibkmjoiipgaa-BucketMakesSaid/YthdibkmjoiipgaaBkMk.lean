/- The statement BucketMakes: the walk. -/
import Derived.Test.YthdibkmjoiipgaaRefLe11
import Derived.Test.YthdibkmjoiipgaaLsQ
import Derived.Test.YthdibkmjoiipgaaRegInv14
import Derived.Test.YthdibkmjoiipgaaSrcFr
import Derived.Test.YthdibkmjoiipgaaAwake11
import Derived.Deep.LoopGhost
import Derived.Deep.RegionHeld3
import Derived.Deep.DeepCutAuto
namespace Go.Proofs.Ythdibkmjoiipgaa
open Go.RowKit
set_option linter.unusedVariables false
set_option linter.unusedSimpArgs false
/-- the reader, the bucket and the staircase that were handed in, and a drawn bucket -/
structure MB (w0 w : World) (p Z1 Z2 ZC : Nat) (a la : PN) (S E A : Int) : Prop where
  s : SrcAt w p
  k : Kept w0.heap.size p w0 w
  va : Lq p w Z1 27 a
  vl : Lq p w ZC 27 la
  vs : Blk w Z2 44 #[.int .i64 S, .int .i64 E, .int .i64 A]
  ns : Z2 ≠ p
section
variable {w0 w w' : World} {p Z1 Z2 ZC G : Nat} {a la : PN} {S E A : Int}
theorem MB.below (h : MB w0 w p Z1 Z2 ZC a la S E A) (hb : Below w.heap.size w w') : MB w0 w' p Z1 Z2 ZC a la S E A := ⟨h.s.ext hb, kbel h.k hb, h.va.below hb, h.vl.below hb, h.vs.below hb h.vs.lt, h.ns⟩
theorem MB.kept (h : MB w0 w p Z1 Z2 ZC a la S E A) (hS : SrcAt w' p) (hk : Kept w.heap.size p w w') : MB w0 w' p Z1 Z2 ZC a la S E A := ⟨hS, kstep h.k hk, h.va.kept hk, h.vl.kept hk, h.vs.kept h.ns hk, h.ns⟩
theorem MB.drew (h : MB w0 w p Z1 Z2 ZC a la S E A) : MB w0 w.drew p Z1 Z2 ZC a la S E A := ⟨h.s, kdrw h.k, h.va.drew, h.vl.drew, h.vs, h.ns⟩
theorem MB.four {k : Nat} {x y z u : Value} (h : MB w0 w p Z1 Z2 ZC a la S E A) (h1 : Z1 < G) (h2 : ZC < G) (h3 : p < G) (h4 : w0.heap.size ≤ G) (h5 : Z2 < G) : MB w0 ((((w.setCell ⟨G, k * 4, none⟩ x).setCell ⟨G, k * 4 + 1, none⟩ y).setCell ⟨G, k * 4 + 2, none⟩ z).setCell ⟨G, k * 4 + 3, none⟩ u) p Z1 Z2 ZC a la S E A :=
  ⟨h.s.four h3, h.k.sto (Sto.four G w k x y z u) h4, h.va.sto (Sto.four G w k x y z u) (by omega), h.vl.sto (Sto.four G w k x y z u) (by omega), h.vs.sto (Sto.four G w k x y z u) (by omega), h.ns⟩
end
def IntV (u : Value) : Prop := ∃ z : Int, u = .int .i64 z
def IntB (u : Value) (b : Int) : Prop := ∃ z : Int, u = .int .i64 z ∧ 0 ≤ z ∧ z < b
def AggV (u : Value) : Prop := ∃ x y z : Int, u = .agg #[.int .i64 x, .int .i64 y, .int .i64 z]
def LitV (p : Nat) (w : World) (u : Value) (L : List Int) : Prop := ∃ g : Nat, u = .slice (some ⟨g, 0, none⟩) 5 5 ∧ g ≠ p ∧ Ints w w.heap.size (some ⟨g, 0, none⟩) 5 L
def StV (p : Nat) (w : World) (u : Value) (S E A : Int) : Prop := ∃ (g : Nat) (b1 b2 b3 b4 b5 b6 : Int), u = .slice (some ⟨g, 0, none⟩) 3 3 ∧ g ≠ p ∧ Blk w g 44 #[.int .i64 S, .int .i64 E, .int .i64 A, .int .i64 b1, .int .i64 b2, .int .i64 b3, .int .i64 b4, .int .i64 b5, .int .i64 b6]
theorem LitV.below {p : Nat} {w w' : World} {u : Value} {L : List Int} (h : LitV p w u L) (hb : Below w.heap.size w w') : LitV p w' u L := by
  obtain ⟨g, h1, h2, h3⟩ := h
  exact ⟨g, h1, h2, h3.ext hb⟩
theorem LitV.kept {p : Nat} {w w' : World} {u : Value} {L : List Int} (h : LitV p w u L) (hk : Kept w.heap.size p w w') : LitV p w' u L := by
  obtain ⟨g, h1, h2, h3⟩ := h
  exact ⟨g, h1, h2, h3.kept0 (fun _ b off s e => by cases e; exact h2) hk⟩
theorem StV.below {p : Nat} {w w' : World} {u : Value} {S E A : Int} (h : StV p w u S E A) (hb : Below w.heap.size w w') : StV p w' u S E A := by
  obtain ⟨g, b1, b2, b3, b4, b5, b6, h1, h2, h3⟩ := h
  exact ⟨g, b1, b2, b3, b4, b5, b6, h1, h2, h3.below hb h3.lt⟩
theorem StV.kept {p : Nat} {w w' : World} {u : Value} {S E A : Int} (h : StV p w u S E A) (hk : Kept w.heap.size p w w') : StV p w' u S E A := by
  obtain ⟨g, b1, b2, b3, b4, b5, b6, h1, h2, h3⟩ := h
  exact ⟨g, b1, b2, b3, b4, b5, b6, h1, h2, h3.kept h2 hk⟩
theorem getD_tf {l : Array Bool} {j : Nat} (h : l.getD j true = true) (hj : j < l.size) : l.getD j false = true := by
  simp [hj] at h ⊢; exact h
theorem no_tf {x : Bool} (h : x = true) (k : x = false) : False := by rw [h] at k; cases k
/-- what holds amid the orders of region 13 -/
structure I13 (w0 : World) (p Z1 Z2 ZL : Nat) (a la : PN) (S E A : Int) (A2 : Option Addr) (n2 c2 : Nat) (ps : List PN) (l : Array Bool) (u2 u4 u5 u7 u8 u10 u11 u13 u14 u16 u17 u18 u19 u20 : Value) (w : World) : Prop where
  sz : l.size = 22
  kq : ∀ i, i ∈ [0, 1, 3, 6, 9, 12, 15, 21] → l.getD i true = true
  e : MB w0 w p Z1 Z2 ZL a la S E A
  ls : LsQ p w A2 n2 c2 ps
  f2 : l.getD 2 false = true → IntV u2
  f4 : l.getD 4 false = true → IntB u4 12
  f5 : l.getD 5 false = true → IntV u5
  f7 : l.getD 7 false = true → IntV u7
  f8 : l.getD 8 false = true → AggV u8
  f10 : l.getD 10 false = true → LitV p w u10 [0, -1, 1073741824, 1073741825, 7]
  f11 : l.getD 11 false = true → IntV u11
  f13 : l.getD 13 false = true → LitV p w u13 [0, 1, 120, 121, 5]
  f14 : l.getD 14 false = true → IntV u14
  f16 : l.getD 16 false = true → LitV p w u16 [0, -1, 1048576, 1048577, 3]
  f17 : l.getD 17 false = true → IntV u17
  f18 : l.getD 18 false = true → AggV u18
  f19 : l.getD 19 false = true → StV p w u19 S E A
  f20 : l.getD 20 false = true → u20 = .int .i64 3
theorem stS_len {S E A : Int} {f : Cv} {er : Int} (h : StS S E A f er) : f.vals.length ≤ 400 := by
  rcases h with ⟨_, rfl, _⟩ | ⟨_, g, _, ⟨hl, rfl, _⟩ | ⟨_, rfl, _⟩⟩
  · decide
  · exact hl.1
  · decide
theorem leF_len : ∀ {xs : List PN} {s r : Cv} {e er : Int}, s.vals.length ≤ 400 → LeF s e xs r er → r.vals.length ≤ 400
  | [], _, _, _, _, hs, h => by
    rcases h with ⟨_, rfl, _⟩ | ⟨_, rfl, _⟩
    · exact hs
    · decide
  | _ :: _, _, _, _, _, hs, h => by
    rcases h with ⟨_, rfl, _⟩ | ⟨_, f, i, h1, ⟨_, h2⟩ | ⟨_, t, j, h2, h3⟩⟩
    · decide
    · exact leF_len hs h2
    · exact leF_len (extS_len h2) h3
theorem bLe_len {ps : List PN} {r : Cv} {er : Int} (h : BLeS ps r er) : r.vals.length ≤ 400 := by
  rcases h with ⟨_, rfl, _⟩ | ⟨_, rfl, _⟩ | ⟨_, _, _, rfl, _⟩ | ⟨_, _, p, qs, _, s, e, h1, h2⟩
  · decide
  · decide
  · decide
  · exact leF_len (tokS_len h1) h2
theorem info_bucket : (Try.prog.info? 27).map (fun i => (i.zero, i.size, i.bytes)) = some (some (.agg #[.int .i64 0, .int .i64 0, .int .i64 0, .int .i64 0]), 4, 32) := by kernel_rfl
set_option maxHeartbeats 4000000 in
set_option maxRecDepth 100000 in
theorem bkMk_any (R r L l : Int) (S E0 A : Int) (A2 : Option Addr) (n2 c2 : Nat) (ps : List PN) (A0 : Option Addr) (n0 c0 : Nat) (zs : List Int) (W : World)
    (hl2 : ps.length = n2) (hn2 : (n2 : Int) ≤ 9223372036854775807) (hc2 : n2 ≤ c2) (hr2 : 0 < n2 → ∃ g o, A2 = some ⟨g, o, none⟩ ∧ RowQ W g o ps) (hL0 : Ints W W.heap.size A0 n0 zs) (hc0 : n0 ≤ c0) (hn0 : (n0 : Int) ≤ 9223372036854775807) :
    Calls Try.prog 4 #[.agg #[.int .i64 R, .int .i64 r, .int .i64 L, .int .i64 l], .agg #[.int .i64 S, .int .i64 E0, .int .i64 A], .slice A2 n2 c2, .slice A0 n0 c0] W fun e w' => e = .returned (.bool true) ∧ Below W.heap.size W w' := by
  have bw := bthen (balloc W (.cells #[.int .i64 R, .int .i64 r, .int .i64 L, .int .i64 l] 27)) (balloc _ (.cells #[.int .i64 S, .int .i64 E0, .int .i64 A] 44))
  have B1 := Lib.hid ((Blk.new W 27 #[.int .i64 R, .int .i64 r, .int .i64 L, .int .i64 l]).alloc (.cells #[.int .i64 S, .int .i64 E0, .int .i64 A] 44))
  have b2 := Blk.new (W.alloc (.cells #[.int .i64 R, .int .i64 r, .int .i64 L, .int .i64 l] 27)) 44 #[.int .i64 S, .int .i64 E0, .int .i64 A]
  rw [World.size_alloc] at b2
  have B2 := Lib.hid b2
  have LI := Lib.hid (hL0.ext bw)
  have HR := Lib.hid (fun h => by
    obtain ⟨g, o, e, hr⟩ := hr2 h
    exact (⟨g, o, e, hr.below bw⟩ : ∃ g o, A2 = some ⟨g, o, none⟩ ∧ RowQ ((W.alloc (.cells #[.int .i64 R, .int .i64 r, .int .i64 L, .int .i64 l] 27)).alloc (.cells #[.int .i64 S, .int .i64 E0, .int .i64 A] 44)) g o ps))
  have BW := Lib.hid bw
  clear bw b2 hr2 hL0
  go_enter Try.func4, Try.ntmps4
  go_upto_region 1 with fail
  generalize hwe : (W.alloc (.cells #[.int .i64 R, .int .i64 r, .int .i64 L, .int .i64 l] 27)).alloc (.cells #[.int .i64 S, .int .i64 E0, .int .i64 A] 44) = w at *
  clear hwe
  by_cases h30 : 30 < n2
  case pos =>
    have d1 : decide ((30 : Int) < (n2 : Int)) = true := by simp; omega
    have d2 : decide (30 < n2) = true := by simp; omega
    go_wp2_with fail
    refine (awake11_any _).mono ?_
    rintro q wq ⟨rfl, hbq⟩
    have bw := bthen BW.out hbq
    go_wp2_with fail
    go_ret
    exact ⟨rfl, bw⟩
  case neg =>
  have d1 : decide ((30 : Int) < (n2 : Int)) = false := by simp; omega
  have d2 : decide (30 < n2) = false := by simp; omega
  have LS0 := Lib.hid (show LsQ w.heap.size w A2 n2 c2 ps from ⟨hl2, hc2, hn2, fun h => by
    obtain ⟨g, o, e, hr⟩ := HR.out h
    exact ⟨g, o, e, Nat.ne_of_lt hr.lt, hr⟩⟩)
  have hL := LI.out
  have V1 := Lib.hid (show Lq w.heap.size w W.heap.size 27 ⟨R, r, L, l⟩ from ⟨B1.out, Nat.ne_of_lt B1.out.lt⟩)
  have V2 := B2
  have hN2 : W.heap.size + 1 ≠ w.heap.size := Nat.ne_of_lt B2.out.lt
  clear HR LI B1 B2 hl2 hc2 hn2 h30
  go_wp2_with fail
  refine (new_any A0 n0 c0 zs w hL hc0 hn0).mono ?_
  rintro e w1 ⟨rfl, hS1, hb1⟩
  have SS := Lib.hid hS1
  have KK := Lib.hid (Kept.of (p := w.heap.size) hb1)
  replace V1 := Lib.hid (V1.out.below hb1); replace V2 := Lib.hid (V2.out.below hb1 V2.out.lt); replace LS0 := Lib.hid (LS0.out.below hb1)
  clear hL hS1 hb1 d1 d2
  go_wp2_with fail
  refine (ratio11_any w.heap.size _ (by exact SS.out)).mono ?_
  rintro e w2 ⟨y1, y2, _, rfl, hS, hk⟩
  replace V1 := Lib.hid (V1.out.kept hk); replace V2 := Lib.hid (V2.out.kept hN2 hk); replace LS0 := Lib.hid (LS0.out.kept hk); replace KK := Lib.hid (kstep KK.out hk); replace SS := Lib.hid hS
  clear hS hk
  go_wp2_with fail
  refine (ratio11_any w.heap.size _ (by exact SS.out)).mono ?_
  rintro e w3 ⟨y3, y4, _, rfl, hS, hk⟩
  replace V1 := Lib.hid (V1.out.kept hk); replace V2 := Lib.hid (V2.out.kept hN2 hk); replace LS0 := Lib.hid (LS0.out.kept hk); replace KK := Lib.hid (kstep KK.out hk); replace SS := Lib.hid hS
  clear hS hk
  have hps := SS.out.lt
  have hb := balloc w3 (.cells #[.int .i64 y1, .int .i64 y2, .int .i64 y3, .int .i64 y4] 27)
  have E := Lib.hid (show MB w (w3.alloc (.cells #[.int .i64 y1, .int .i64 y2, .int .i64 y3, .int .i64 y4] 27)) w.heap.size W.heap.size (W.heap.size + 1) w3.heap.size ⟨R, r, L, l⟩ ⟨y1, y2, y3, y4⟩ S E0 A from ⟨SS.out.ext hb, kbel KK.out hb, V1.out.below hb, ⟨Blk.new _ _ _, Nat.ne_of_gt hps⟩, V2.out.below hb V2.out.lt, hN2⟩)
  replace LS0 := Lib.hid (LS0.out.below hb)
  clear hb SS KK V1 V2
  go_upto_region 5 with fail
  generalize hwe : w3.alloc (.cells #[.int .i64 y1, .int .i64 y2, .int .i64 y3, .int .i64 y4] 27) = w4 at *
  clear hwe hps
  generalize w3.heap.size = ZL at *
  go_cut [49, 50, 51, 94, 95] (fun s49 s50 s51 s94 s95 wx => ∃ (G4 : Nat) (a1 a2 a3 a4 : Int), s49 = .slice (some ⟨G4, 0, none⟩) 3 3 ∧ s50 = .int .i64 3 ∧ s51 = .int .i64 0 ∧ MB w wx w.heap.size W.heap.size (W.heap.size + 1) ZL ⟨R, r, L, l⟩ ⟨y1, y2, y3, y4⟩ S E0 A ∧ LsQ w.heap.size wx A2 n2 c2 ps ∧ LsQ w.heap.size wx (some ⟨G4, 0, none⟩) 3 3 [⟨R, r, L, l⟩, ⟨y1, y2, y3, y4⟩, ⟨a1, a2, a3, a4⟩])
  case first =>
    replace E := Lib.hid (MB.drew E.out); replace LS0 := Lib.hid (LsQ.drew LS0.out)
    obtain ⟨f0, f1, f2, f3, hlf⟩ := E.out.va.q
    obtain ⟨g0, g1, g2, g3, hlg⟩ := E.out.vl.q
    dsimp only at f0 f1 f2 f3 g0 g1 g2 g3
    refine wp_region_held_drew (S := (fun w' => (w'.cell? ⟨W.heap.size, 0, none⟩ = some (.int .i64 R) ∧ w'.cell? ⟨W.heap.size, 1, none⟩ = some (.int .i64 r) ∧ w'.cell? ⟨W.heap.size, 2, none⟩ = some (.int .i64 L) ∧ w'.cell? ⟨W.heap.size, 3, none⟩ = some (.int .i64 l)) ∧ w'.cell? ⟨ZL, 0, none⟩ = some (.int .i64 y1) ∧ w'.cell? ⟨ZL, 1, none⟩ = some (.int .i64 y2) ∧ w'.cell? ⟨ZL, 2, none⟩ = some (.int .i64 y3) ∧ w'.cell? ⟨ZL, 3, none⟩ = some (.int .i64 y4))) (by kernel_rfl) (by exact ⟨⟨f0, f1, f2, f3⟩, g0, g1, g2, g3⟩) (fun hHeld => ?_)
    clear f0 f1 f2 f3 hlf g0 g1 g2 g3 hlg
    generalize hwd : w4.drew = wd at *
    clear hwd
    obtain ⟨f0, f1, f2, f3, hlf⟩ := E.out.va.q
    obtain ⟨g0, g1, g2, g3, hlg⟩ := E.out.vl.q
    dsimp only at f0 f1 f2 f3 g0 g1 g2 g3
    refine wpAnyH_take (i := 0) (oi := _) (v := ?_) (by simp only [List.getElem?_toArray, List.getElem?_cons_zero]; rfl) (by kernel_rfl) (by kernel_rfl) (by kernel_rfl) (by exact fun _ _ _ h => h) (Or.inl ⟨by rfl, ?_⟩) (by assumption) ?_
    rotate_left 1
    · (intro w hSw; (try dsimp only at hSw); go_simp; try with_reducible rfl)
    all_goals try simp only [Act.put]
    all_goals try simp only [List.setIfInBounds_toArray]
    all_goals try simp only [List.set_cons_succ]
    all_goals try simp only [List.set_cons_zero]
    refine wpAnyH_take (i := 1) (oi := _) (v := ?_) (by simp only [List.getElem?_toArray, List.getElem?_cons_succ, List.getElem?_cons_zero]; rfl) (by kernel_rfl) (by kernel_rfl) (by kernel_rfl) (by exact fun _ _ _ h => h) (Or.inl ⟨by rfl, ?_⟩) (by assumption) ?_
    rotate_left 1
    · (intro w hSw; (try dsimp only at hSw); go_simp; try with_reducible rfl)
    all_goals try simp only [Act.put]
    all_goals try simp only [List.setIfInBounds_toArray]
    all_goals try simp only [List.set_cons_succ]
    all_goals try simp only [List.set_cons_zero]
    refine wpAnyH_take (i := 2) (oi := _) (v := ?_) (by simp only [List.getElem?_toArray, List.getElem?_cons_succ, List.getElem?_cons_zero]; rfl) (by kernel_rfl) (by kernel_rfl) (by kernel_rfl) (by exact fun _ _ _ h => h) (Or.inl ⟨by rfl, ?_⟩) (by assumption) ?_
    rotate_left 1
    · (intro w hSw; (try dsimp only at hSw); go_simp; try with_reducible rfl)
    all_goals try simp only [Act.put]
    all_goals try simp only [List.setIfInBounds_toArray]
    all_goals try simp only [List.set_cons_succ]
    all_goals try simp only [List.set_cons_zero]
    refine wpAnyH_take (i := 4) (oi := _) (v := ?_) (by simp only [List.getElem?_toArray, List.getElem?_cons_succ, List.getElem?_cons_zero]; rfl) (by kernel_rfl) (by kernel_rfl) (by kernel_rfl) (by exact fun _ _ _ h => h) (Or.inl ⟨by rfl, ?_⟩) (by assumption) ?_
    rotate_left 1
    · (intro w hSw; (try dsimp only at hSw); go_simp; try with_reducible rfl)
    all_goals try simp only [Act.put]
    all_goals try simp only [List.setIfInBounds_toArray]
    all_goals try simp only [List.set_cons_succ]
    all_goals try simp only [List.set_cons_zero]
    refine wpAnyH_take (i := 9) (oi := _) (v := ?_) (by simp only [List.getElem?_toArray, List.getElem?_cons_succ, List.getElem?_cons_zero]; rfl) (by kernel_rfl) (by kernel_rfl) (by kernel_rfl) (by exact fun _ _ _ h => h) (Or.inl ⟨by rfl, ?_⟩) (by assumption) ?_
    rotate_left 1
    · (intro w hSw; (try dsimp only at hSw); go_simp; try with_reducible rfl)
    all_goals try simp only [Act.put]
    all_goals try simp only [List.setIfInBounds_toArray]
    all_goals try simp only [List.set_cons_succ]
    all_goals try simp only [List.set_cons_zero]
    refine wpAnyH_ready (rs := [3]) (by kernel_rfl) (by simp) ?_
    refine (AllReadyH.cons (by simp only [List.getElem?_toArray, List.getElem?_cons_succ, List.getElem?_cons_zero]; rfl) (fun K hK => ?_) AllReadyH.nil)
    -- a call of the region: ratio11_any w.heap.size _ (by exact E.out.s) the contract, wa the world behind, a1 a2 the numbers
    rw [if_pos (by rfl)]
    go_simp
    refine (ratio11_any w.heap.size _ (by exact E.out.s)).mono ?_
    rintro e wa ⟨a1, a2, _, rfl, hS, hk⟩
    replace E := Lib.hid (E.out.kept hS hk); replace LS0 := Lib.hid (LS0.out.kept hk)
    try (replace LS1 := Lib.hid (LS1.out.kept hk))
    try (replace LS3 := Lib.hid (LS3.out.kept hk))
    clear hS hk hHeld
    clear f0 f1 f2 f3 hlf g0 g1 g2 g3 hlg
    obtain ⟨f0, f1, f2, f3, hlf⟩ := E.out.va.q
    obtain ⟨g0, g1, g2, g3, hlg⟩ := E.out.vl.q
    dsimp only at f0 f1 f2 f3 g0 g1 g2 g3
    refine hK.out _ _ (by exact ⟨⟨f0, f1, f2, f3⟩, g0, g1, g2, g3⟩) (fun hHeld => ?_)
    clear hK K
    try simp only [Act.put]
    try simp only [List.setIfInBounds_toArray]
    try simp only [List.set_cons_succ]
    try simp only [List.set_cons_zero]
    refine wpAnyH_ready (rs := [5]) (by kernel_rfl) (by simp) ?_
    refine (AllReadyH.cons (by simp only [List.getElem?_toArray, List.getElem?_cons_succ, List.getElem?_cons_zero]; rfl) (fun K hK => ?_) AllReadyH.nil)
    -- a call of the region: ratio11_any w.heap.size _ (by exact E.out.s) the contract, wb the world behind, a3 a4 the numbers
    rw [if_pos (by rfl)]
    go_simp
    refine (ratio11_any w.heap.size _ (by exact E.out.s)).mono ?_
    rintro e wb ⟨a3, a4, _, rfl, hS, hk⟩
    replace E := Lib.hid (E.out.kept hS hk); replace LS0 := Lib.hid (LS0.out.kept hk)
    try (replace LS1 := Lib.hid (LS1.out.kept hk))
    try (replace LS3 := Lib.hid (LS3.out.kept hk))
    clear hS hk hHeld
    clear f0 f1 f2 f3 hlf g0 g1 g2 g3 hlg
    obtain ⟨f0, f1, f2, f3, hlf⟩ := E.out.va.q
    obtain ⟨g0, g1, g2, g3, hlg⟩ := E.out.vl.q
    dsimp only at f0 f1 f2 f3 g0 g1 g2 g3
    refine hK.out _ _ (by exact ⟨⟨f0, f1, f2, f3⟩, g0, g1, g2, g3⟩) (fun hHeld => ?_)
    clear hK K
    try simp only [Act.put]
    try simp only [List.setIfInBounds_toArray]
    try simp only [List.set_cons_succ]
    try simp only [List.set_cons_zero]
    refine wpAnyH_take (i := 6) (oi := _) (v := ?_) (by simp only [List.getElem?_toArray, List.getElem?_cons_succ, List.getElem?_cons_zero]; rfl) (by kernel_rfl) (by kernel_rfl) (by kernel_rfl) (by exact fun _ _ _ h => h) (Or.inl ⟨by rfl, ?_⟩) (by assumption) ?_
    rotate_left 1
    · (intro w hSw; (try dsimp only at hSw); go_simp; try with_reducible rfl)
    all_goals try simp only [Act.put]
    all_goals try simp only [List.setIfInBounds_toArray]
    all_goals try simp only [List.set_cons_succ]
    all_goals try simp only [List.set_cons_zero]
    refine wpAnyH_ready (rs := [7]) (by kernel_rfl) (by simp) ?_
    refine (AllReadyH.cons (by simp only [List.getElem?_toArray, List.getElem?_cons_succ, List.getElem?_cons_zero]; rfl) (fun K hK => ?_) AllReadyH.nil)
    rw [if_pos (by rfl)]
    go_simp
    have hps := E.out.s.lt
    have hb := balloc wb (.cells #[.int .i64 R, .int .i64 r, .int .i64 L, .int .i64 l, .int .i64 y1, .int .i64 y2, .int .i64 y3, .int .i64 y4, .int .i64 a1, .int .i64 a2, .int .i64 a3, .int .i64 a4] 27)
    have LN := Lib.hid (LsQ.lit (w := wb) hps 27 [⟨R, r, L, l⟩, ⟨y1, y2, y3, y4⟩, ⟨a1, a2, a3, a4⟩] 3 rfl (by omega))
    generalize hwa : wb.alloc (.cells #[.int .i64 R, .int .i64 r, .int .i64 L, .int .i64 l, .int .i64 y1, .int .i64 y2, .int .i64 y3, .int .i64 y4, .int .i64 a1, .int .i64 a2, .int .i64 a3, .int .i64 a4] 27) = wz at *
    replace LN := Lib.hid (show LsQ w.heap.size wz (some ⟨wb.heap.size, 0, none⟩) 3 3 [⟨R, r, L, l⟩, ⟨y1, y2, y3, y4⟩, ⟨a1, a2, a3, a4⟩] by rw [← hwa]; exact LN.out)
    clear hwa
    replace E := Lib.hid (E.out.below hb); replace LS0 := Lib.hid (LS0.out.below hb)
    generalize wb.heap.size = G4 at *
    clear hb hHeld hps
    clear f0 f1 f2 f3 hlf g0 g1 g2 g3 hlg
    obtain ⟨f0, f1, f2, f3, hlf⟩ := E.out.va.q
    obtain ⟨g0, g1, g2, g3, hlg⟩ := E.out.vl.q
    dsimp only at f0 f1 f2 f3 g0 g1 g2 g3
    refine hK.out _ _ (by exact ⟨⟨f0, f1, f2, f3⟩, g0, g1, g2, g3⟩) (fun hHeld => ?_)
    clear hK K
    try simp only [Act.put]
    try simp only [List.setIfInBounds_toArray]
    try simp only [List.set_cons_succ]
    try simp only [List.set_cons_zero]
    refine wpAnyH_take (i := 8) (oi := _) (v := ?_) (by simp only [List.getElem?_toArray, List.getElem?_cons_succ, List.getElem?_cons_zero]; rfl) (by kernel_rfl) (by kernel_rfl) (by kernel_rfl) (by exact fun _ _ _ h => h) (Or.inl ⟨by rfl, ?_⟩) (by assumption) ?_
    rotate_left 1
    · (intro w hSw; (try dsimp only at hSw); go_simp; try with_reducible rfl)
    all_goals try simp only [Act.put]
    all_goals try simp only [List.setIfInBounds_toArray]
    all_goals try simp only [List.set_cons_succ]
    all_goals try simp only [List.set_cons_zero]
    refine wpAnyH_done (by kernel_rfl) ?_ _
    clear hHeld
    clear f0 f1 f2 f3 hlf g0 g1 g2 g3 hlg
    go_wp2_with fail
    go_meet
    exact ⟨G4, a1, a2, a3, a4, rfl, rfl, rfl, E.out, LS0.out, LN.out⟩
  case rest =>
  clear E LS0
  obtain ⟨G4, a1, a2, a3, a4, rfl, rfl, rfl, hE, h0, h4⟩ := hcut
  have E := Lib.hid hE; have LS0 := Lib.hid h0; have LS4 := Lib.hid h4
  clear hE h0 h4
  go_wp2_with fail
  go_loopg [51] 3 (fun gg s51 wx => ∃ k : Nat, k + gg = 3 ∧ s51 = .int .i64 k ∧ MB w wx w.heap.size W.heap.size (W.heap.size + 1) ZL ⟨R, r, L, l⟩ ⟨y1, y2, y3, y4⟩ S E0 A ∧ LsQ w.heap.size wx A2 n2 c2 ps ∧ LsQ w.heap.size wx (some ⟨G4, 0, none⟩) 3 3 [⟨R, r, L, l⟩, ⟨y1, y2, y3, y4⟩, ⟨a1, a2, a3, a4⟩])
  case atStart => exact ⟨0, rfl, rfl, E.out, LS0.out, LS4.out⟩
  case round =>
    clear E LS0 LS4
    obtain ⟨k, hkg, rfl, hE, h0, h4⟩ := hrel
    have E := Lib.hid hE; have LS0 := Lib.hid h0; have LS4 := Lib.hid h4
    clear hE h0 h4
    by_cases hk : k < 3
    case pos =>
      have hki : (k : Int) < 3 := by omega
      obtain ⟨x, ⟨k0, k1, k2, k3⟩, hlk⟩ := LS4.out.at_ hk
      go_upto_region 8 with fail
      clear k0 k1 k2 k3 hlk
      have hb := balloc wr (.cells #[.int .i64 x.R, .int .i64 x.r, .int .i64 x.L, .int .i64 x.l] 27)
      -- hb the facts (Below) that all things are carried by
      replace E := Lib.hid (E.out.below hb); replace LS0 := Lib.hid (LS0.out.below hb)
      try (replace LS4 := Lib.hid (LS4.out.below hb))
      try (replace SB := Lib.hid (SB.out.below hb SB.out.lt))
      try (replace LB := Lib.hid (LB.out.below hb LB.out.lt))
      try (replace LS1 := Lib.hid (LS1.out.below hb))
      try (replace LS2 := Lib.hid (LS2.out.below hb))
      try (replace LS3 := Lib.hid (LS3.out.below hb))
      try (replace DX := Lib.hid (DX.out.below hb DX.out.lt))
      try (replace F1 := Lib.hid (F1.out.below hb F1.out.lt))
      try (replace I1 := Lib.hid (I1.out.ext hb))
      have DX := Lib.hid (Blk.new wr 27 #[.int .i64 x.R, .int .i64 x.r, .int .i64 x.L, .int .i64 x.l])
      generalize hwe : wr.alloc (.cells #[.int .i64 x.R, .int .i64 x.r, .int .i64 x.L, .int .i64 x.l] 27) = wh at *
      clear hwe hb
      generalize wr.heap.size = Zx at *
      obtain ⟨⟨d0, d1, d2, d4⟩, _, hld⟩ := bq4 DX.out
      go_wp2_with fail
      refine (tokenK_any x.R x.r x.L x.l _).mono ?_
      clear d0 d1 d2 d4 hld
      rintro e wa ⟨f, er, hS, A3, m3, d3, hmd, rfl, hI, hA, hb⟩
      -- the first result f er A3 m3 d3 lies in a new variable: 9 the region behind, tokS_len its length's law
      have HS := Lib.hid hS
      have hm3 : m3 ≤ 400 := by have h1 := tokS_len hS; have h2 : f.vals.length = m3 := hI.1; omega
      -- hb the facts (Below) that all things are carried by
      replace E := Lib.hid (E.out.below hb); replace LS0 := Lib.hid (LS0.out.below hb)
      try (replace LS4 := Lib.hid (LS4.out.below hb))
      try (replace SB := Lib.hid (SB.out.below hb SB.out.lt))
      try (replace LB := Lib.hid (LB.out.below hb LB.out.lt))
      try (replace LS1 := Lib.hid (LS1.out.below hb))
      try (replace LS2 := Lib.hid (LS2.out.below hb))
      try (replace LS3 := Lib.hid (LS3.out.below hb))
      try (replace DX := Lib.hid (DX.out.below hb DX.out.lt))
      try (replace F1 := Lib.hid (F1.out.below hb F1.out.lt))
      try (replace I1 := Lib.hid (I1.out.ext hb))
      have hb2 := balloc wa (.cells #[.slice A3 m3 d3, .int .i64 f.per, .int .i64 f.inc] 46)
      -- hb2 the facts (Below) that all things are carried by
      replace E := Lib.hid (E.out.below hb2); replace LS0 := Lib.hid (LS0.out.below hb2)
      try (replace LS4 := Lib.hid (LS4.out.below hb2))
      try (replace SB := Lib.hid (SB.out.below hb2 SB.out.lt))
      try (replace LB := Lib.hid (LB.out.below hb2 LB.out.lt))
      try (replace LS1 := Lib.hid (LS1.out.below hb2))
      try (replace LS2 := Lib.hid (LS2.out.below hb2))
      try (replace LS3 := Lib.hid (LS3.out.below hb2))
      try (replace DX := Lib.hid (DX.out.below hb2 DX.out.lt))
      try (replace F1 := Lib.hid (F1.out.below hb2 F1.out.lt))
      try (replace I1 := Lib.hid (I1.out.ext hb2))
      have F1 := Lib.hid (Blk.new wa 46 #[.slice A3 m3 d3, .int .i64 f.per, .int .i64 f.inc])
      have I1 := Lib.hid (hI.alloc' (.cells #[.slice A3 m3 d3, .int .i64 f.per, .int .i64 f.inc] 46))
      clear hS hI hA hb hb2
      go_upto_region 9 with fail
      generalize hwe : wa.alloc (.cells #[.slice A3 m3 d3, .int .i64 f.per, .int .i64 f.inc] 46) = wc at *
      clear hwe
      generalize wa.heap.size = Z3 at *
      obtain ⟨⟨d0, d1, d2, d4⟩, _, hld⟩ := bq4 DX.out
      go_wp2_with fail
      refine (refToken_any x.R x.r x.L x.l _).mono ?_
      clear d0 d1 d2 d4 hld
      rintro e we ⟨g, eg, A5, m5, d5, hS, hmd5, rfl, hI, hA, hb⟩
      -- the second result g eg A5 m5 d5: 10 the region behind, TokS.unique HS.out hS uniqueness
      obtain ⟨e1, e2⟩ := TokS.unique HS.out hS
      subst e1 e2
      have hm5 : m5 ≤ 400 := by have h2 : f.vals.length = m5 := hI.1; have h3 : f.vals.length = m3 := I1.out.1; omega
      -- hb the facts (Below) that all things are carried by
      replace E := Lib.hid (E.out.below hb); replace LS0 := Lib.hid (LS0.out.below hb)
      try (replace LS4 := Lib.hid (LS4.out.below hb))
      try (replace SB := Lib.hid (SB.out.below hb SB.out.lt))
      try (replace LB := Lib.hid (LB.out.below hb LB.out.lt))
      try (replace LS1 := Lib.hid (LS1.out.below hb))
      try (replace LS2 := Lib.hid (LS2.out.below hb))
      try (replace LS3 := Lib.hid (LS3.out.below hb))
      try (replace DX := Lib.hid (DX.out.below hb DX.out.lt))
      try (replace F1 := Lib.hid (F1.out.below hb F1.out.lt))
      try (replace I1 := Lib.hid (I1.out.ext hb))
      have hb2 := balloc we (.cells #[.slice A5 m5 d5, .int .i64 f.per, .int .i64 f.inc] 46)
      -- hb2 the facts (Below) that all things are carried by
      replace E := Lib.hid (E.out.below hb2); replace LS0 := Lib.hid (LS0.out.below hb2)
      try (replace LS4 := Lib.hid (LS4.out.below hb2))
      try (replace SB := Lib.hid (SB.out.below hb2 SB.out.lt))
      try (replace LB := Lib.hid (LB.out.below hb2 LB.out.lt))
      try (replace LS1 := Lib.hid (LS1.out.below hb2))
      try (replace LS2 := Lib.hid (LS2.out.below hb2))
      try (replace LS3 := Lib.hid (LS3.out.below hb2))
      try (replace DX := Lib.hid (DX.out.below hb2 DX.out.lt))
      try (replace F1 := Lib.hid (F1.out.below hb2 F1.out.lt))
      try (replace I1 := Lib.hid (I1.out.ext hb2))
      have F2 := Lib.hid (Blk.new we 46 #[.slice A5 m5 d5, .int .i64 f.per, .int .i64 f.inc])
      have I2 := Lib.hid (hI.alloc' (.cells #[.slice A5 m5 d5, .int .i64 f.per, .int .i64 f.inc] 46))
      clear hS hI hA hb hb2 HS
      go_upto_region 10 with fail
      generalize hwe : we.alloc (.cells #[.slice A5 m5 d5, .int .i64 f.per, .int .i64 f.inc] 46) = wf at *
      clear hwe
      generalize we.heap.size = Z5 at *
      obtain ⟨⟨k0, k1, k2⟩, _, hlk1⟩ := F1.out.c3
      obtain ⟨⟨l0, l1, l2⟩, _, hlk2⟩ := F2.out.c3
      have h9 : (er != er) = false := by simp
      go_wp2_with fail
      refine (refSame_any A3 A5 m3 m5 d3 d5 f.per f.per f.inc f.inc f.vals f.vals _ (by exact I1.out) (by exact I2.out) (by omega) (by omega)).mono ?_
      rw [(Cv.same_iff _ _).2 rfl]
      rintro e wg ⟨rfl, hb⟩
      clear I1 I2 F2 F1 k0 k1 k2 hlk1 l0 l1 l2 hlk2 h9
      -- hb the facts (Below) that all things are carried by
      replace E := Lib.hid (E.out.below hb); replace LS0 := Lib.hid (LS0.out.below hb)
      try (replace LS4 := Lib.hid (LS4.out.below hb))
      try (replace SB := Lib.hid (SB.out.below hb SB.out.lt))
      try (replace LB := Lib.hid (LB.out.below hb LB.out.lt))
      try (replace LS1 := Lib.hid (LS1.out.below hb))
      try (replace LS2 := Lib.hid (LS2.out.below hb))
      try (replace LS3 := Lib.hid (LS3.out.below hb))
      try (replace DX := Lib.hid (DX.out.below hb DX.out.lt))
      try (replace F1 := Lib.hid (F1.out.below hb F1.out.lt))
      try (replace I1 := Lib.hid (I1.out.ext hb))
      clear hb
      go_wp2_with fail
      go_roundg (gk - 1)
      case measure => omega
      case rel => exact ⟨k + 1, by omega, by go_num, E.out, LS0.out, LS4.out⟩
    case neg =>
      have hki : ¬ (k : Int) < 3 := by omega
      clear LS4 hk hkg
      go_upto_region 13 with fail
      go_cut [94, 95, 96] (fun s94 s95 s96 wx => ∃ (Q : Nat) (b1 b2 b3 b4 b5 b6 : Int), s94 = .slice (some ⟨Q, 0, none⟩) 3 3 ∧ s95 = .int .i64 3 ∧ s96 = .int .i64 0 ∧ MB w wx w.heap.size W.heap.size (W.heap.size + 1) ZL ⟨R, r, L, l⟩ ⟨y1, y2, y3, y4⟩ S E0 A ∧ LsQ w.heap.size wx A2 n2 c2 ps ∧ Q ≠ w.heap.size ∧ Blk wx Q 44 #[.int .i64 S, .int .i64 E0, .int .i64 A, .int .i64 b1, .int .i64 b2, .int .i64 b3, .int .i64 b4, .int .i64 b5, .int .i64 b6])
      case first =>
        replace E := Lib.hid (MB.drew E.out); replace LS0 := Lib.hid (LsQ.drew LS0.out)
        obtain ⟨⟨f0, f1, f2⟩, _, hlf⟩ := E.out.vs.c3
        refine wp_region_held_drew (S := fun w' => w'.cell? ⟨W.heap.size + 1, 0, none⟩ = some (.int .i64 S) ∧ w'.cell? ⟨W.heap.size + 1, 1, none⟩ = some (.int .i64 E0) ∧ w'.cell? ⟨W.heap.size + 1, 2, none⟩ = some (.int .i64 A)) (by kernel_rfl) (by exact ⟨f0, f1, f2⟩) (fun hHeld => ?_)
        clear f0 f1 f2 hlf
        generalize hwd : wr.drew = wd at *
        clear hwd
        obtain ⟨⟨f0, f1, f2⟩, _, hlf⟩ := E.out.vs.c3
        refine wpAnyH_take (i := 0) (oi := _) (v := ?_) (by simp only [List.getElem?_toArray, List.getElem?_cons_zero]; rfl) (by kernel_rfl) (by kernel_rfl) (by kernel_rfl) (by exact fun _ _ _ h => h) (Or.inl ⟨by rfl, ?_⟩) (by assumption) ?_
        rotate_left 1
        · (intro w hSw; (try dsimp only at hSw); go_simp; try with_reducible rfl)
        all_goals try simp only [Act.put]
        all_goals try simp only [List.setIfInBounds_toArray]
        all_goals try simp only [List.set_cons_succ]
        all_goals try simp only [List.set_cons_zero]
        refine wpAnyH_take (i := 1) (oi := _) (v := ?_) (by simp only [List.getElem?_toArray, List.getElem?_cons_succ, List.getElem?_cons_zero]; rfl) (by kernel_rfl) (by kernel_rfl) (by kernel_rfl) (by exact fun _ _ _ h => h) (Or.inl ⟨by rfl, ?_⟩) (by assumption) ?_
        rotate_left 1
        · (intro w hSw; (try dsimp only at hSw); go_simp; try with_reducible rfl)
        all_goals try simp only [Act.put]
        all_goals try simp only [List.setIfInBounds_toArray]
        all_goals try simp only [List.set_cons_succ]
        all_goals try simp only [List.set_cons_zero]
        refine wpAnyH_take (i := 3) (oi := _) (v := ?_) (by simp only [List.getElem?_toArray, List.getElem?_cons_succ, List.getElem?_cons_zero]; rfl) (by kernel_rfl) (by kernel_rfl) (by kernel_rfl) (by exact fun _ _ _ h => h) (Or.inl ⟨by rfl, ?_⟩) (by assumption) ?_
        rotate_left 1
        · (intro w hSw; (try dsimp only at hSw); go_simp; try with_reducible rfl)
        all_goals try simp only [Act.put]
        all_goals try simp only [List.setIfInBounds_toArray]
        all_goals try simp only [List.set_cons_succ]
        all_goals try simp only [List.set_cons_zero]
        refine wpAnyH_take (i := 6) (oi := _) (v := ?_) (by simp only [List.getElem?_toArray, List.getElem?_cons_succ, List.getElem?_cons_zero]; rfl) (by kernel_rfl) (by kernel_rfl) (by kernel_rfl) (by exact fun _ _ _ h => h) (Or.inl ⟨by rfl, ?_⟩) (by assumption) ?_
        rotate_left 1
        · (intro w hSw; (try dsimp only at hSw); go_simp; try with_reducible rfl)
        all_goals try simp only [Act.put]
        all_goals try simp only [List.setIfInBounds_toArray]
        all_goals try simp only [List.set_cons_succ]
        all_goals try simp only [List.set_cons_zero]
        refine wpAnyH_take (i := 9) (oi := _) (v := ?_) (by simp only [List.getElem?_toArray, List.getElem?_cons_succ, List.getElem?_cons_zero]; rfl) (by kernel_rfl) (by kernel_rfl) (by kernel_rfl) (by exact fun _ _ _ h => h) (Or.inl ⟨by rfl, ?_⟩) (by assumption) ?_
        rotate_left 1
        · (intro w hSw; (try dsimp only at hSw); go_simp; try with_reducible rfl)
        all_goals try simp only [Act.put]
        all_goals try simp only [List.setIfInBounds_toArray]
        all_goals try simp only [List.set_cons_succ]
        all_goals try simp only [List.set_cons_zero]
        refine wpAnyH_take (i := 12) (oi := _) (v := ?_) (by simp only [List.getElem?_toArray, List.getElem?_cons_succ, List.getElem?_cons_zero]; rfl) (by kernel_rfl) (by kernel_rfl) (by kernel_rfl) (by exact fun _ _ _ h => h) (Or.inl ⟨by rfl, ?_⟩) (by assumption) ?_
        rotate_left 1
        · (intro w hSw; (try dsimp only at hSw); go_simp; try with_reducible rfl)
        all_goals try simp only [Act.put]
        all_goals try simp only [List.setIfInBounds_toArray]
        all_goals try simp only [List.set_cons_succ]
        all_goals try simp only [List.set_cons_zero]
        refine wpAnyH_take (i := 15) (oi := _) (v := ?_) (by simp only [List.getElem?_toArray, List.getElem?_cons_succ, List.getElem?_cons_zero]; rfl) (by kernel_rfl) (by kernel_rfl) (by kernel_rfl) (by exact fun _ _ _ h => h) (Or.inl ⟨by rfl, ?_⟩) (by assumption) ?_
        rotate_left 1
        · (intro w hSw; (try dsimp only at hSw); go_simp; try with_reducible rfl)
        all_goals try simp only [Act.put]
        all_goals try simp only [List.setIfInBounds_toArray]
        all_goals try simp only [List.set_cons_succ]
        all_goals try simp only [List.set_cons_zero]
        refine wpAnyH_take (i := 21) (oi := _) (v := ?_) (by simp only [List.getElem?_toArray, List.getElem?_cons_succ, List.getElem?_cons_zero]; rfl) (by kernel_rfl) (by kernel_rfl) (by kernel_rfl) (by exact fun _ _ _ h => h) (Or.inl ⟨by rfl, ?_⟩) (by assumption) ?_
        rotate_left 1
        · (intro w hSw; (try dsimp only at hSw); go_simp; try with_reducible rfl)
        all_goals try simp only [Act.put]
        all_goals try simp only [List.setIfInBounds_toArray]
        all_goals try simp only [List.set_cons_succ]
        all_goals try simp only [List.set_cons_zero]
        clear f0 f1 f2 hlf hHeld
        have SS := Lib.hid (fun (wq : World) (h : MB w wq w.heap.size W.heap.size (W.heap.size + 1) ZL ⟨R, r, L, l⟩ ⟨y1, y2, y3, y4⟩ S E0 A) => (⟨h.vs.cell 0, h.vs.cell 1, h.vs.cell 2⟩ : wq.cell? ⟨W.heap.size + 1, 0, none⟩ = some (.int .i64 S) ∧ wq.cell? ⟨W.heap.size + 1, 1, none⟩ = some (.int .i64 E0) ∧ wq.cell? ⟨W.heap.size + 1, 2, none⟩ = some (.int .i64 A)))
        revert u77 u79 u80 u82 u83 u85 u86 u88 u89 u91 u92 u93 u94 u95
        refine drop_hyp14 ?_
        refine wpAnyH_inv14 (I13 w w.heap.size W.heap.size (W.heap.size + 1) ZL ⟨R, r, L, l⟩ ⟨y1, y2, y3, y4⟩ S E0 A A2 n2 c2 ps) ?hw ?hl ?hn ?hend ?hstep ?h0
        case hw => kernel_rfl
        case hl => rfl
        case hn => kernel_rfl
        case h0 =>
          intro u2 u4 u5 u7 u8 u10 u11 u13 u14 u16 u17 u18 u19 u20
          exact { sz := by rfl, kq := fun i hi => by (revert i; decide), e := E.out, ls := LS0.out, f2 := fun h => (no_tf h (by kernel_rfl)).elim, f4 := fun h => (no_tf h (by kernel_rfl)).elim, f5 := fun h => (no_tf h (by kernel_rfl)).elim, f7 := fun h => (no_tf h (by kernel_rfl)).elim, f8 := fun h => (no_tf h (by kernel_rfl)).elim, f10 := fun h => (no_tf h (by kernel_rfl)).elim, f11 := fun h => (no_tf h (by kernel_rfl)).elim, f13 := fun h => (no_tf h (by kernel_rfl)).elim, f14 := fun h => (no_tf h (by kernel_rfl)).elim, f16 := fun h => (no_tf h (by kernel_rfl)).elim, f17 := fun h => (no_tf h (by kernel_rfl)).elim, f18 := fun h => (no_tf h (by kernel_rfl)).elim, f19 := fun h => (no_tf h (by kernel_rfl)).elim, f20 := fun h => (no_tf h (by kernel_rfl)).elim }
        case hend =>
          intro l9 u2 u4 u5 u7 u8 u10 u11 u13 u14 u16 u17 u18 u19 u20 wx hI hall
          obtain ⟨g, b1, b2, b3, b4, b5, b6, rfl, hg, hgb⟩ := hI.f19 (getD_tf (hall 19) (by rw [hI.sz]; omega))
          obtain rfl := hI.f20 (getD_tf (hall 20) (by rw [hI.sz]; omega))
          have E2 := Lib.hid hI.e; have L2 := Lib.hid hI.ls; have SB := Lib.hid hgb; have HG := Lib.hid hg
          clear hI hall hgb hg E LS0 SS
          go_wp2_with fail
          go_meet
          exact ⟨g, b1, b2, b3, b4, b5, b6, rfl, rfl, rfl, E2.out, L2.out, HG.out, SB.out⟩
        case hstep =>
          clear E LS0
          intro l9 u2 u4 u5 u7 u8 u10 u11 u13 u14 u16 u17 u18 u19 u20 wx i o hI hun ho hdep K' hK
          rcases Nat.lt_or_ge i 22 with hi | hi
          case inr => exact absurd ho (by rw [Array.getElem?_eq_none (by exact hi)]; simp)
          rcases (show i = 0 ∨ i = 1 ∨ i = 2 ∨ i = 3 ∨ i = 4 ∨ i = 5 ∨ i = 6 ∨ i = 7 ∨ i = 8 ∨ i = 9 ∨ i = 10 ∨ i = 11 ∨ i = 12 ∨ i = 13 ∨ i = 14 ∨ i = 15 ∨ i = 16 ∨ i = 17 ∨ i = 18 ∨ i = 19 ∨ i = 20 ∨ i = 21 by omega) with rfl | rfl | rfl | rfl | rfl | rfl | rfl | rfl | rfl | rfl | rfl | rfl | rfl | rfl | rfl | rfl | rfl | rfl | rfl | rfl | rfl | rfl
          · exact absurd (hI.kq 0 (by decide)) (by rw [hun]; decide)
          · exact absurd (hI.kq 1 (by decide)) (by rw [hun]; decide)
          · simp only [List.getElem?_toArray, List.getElem?_cons_succ, List.getElem?_cons_zero, Option.some.injEq] at ho
            subst ho
            have HI := Lib.hid hI
            clear hdep hun hi hI
            rw [if_pos (by rfl)]
            go_simp
            refine (n_any w.heap.size 50 _ (by exact HI.out.e.s) (by omega) (by omega)).mono ?_
            rintro e wy ⟨z, hz0, hz1, rfl, hS, hk⟩
            have hI := HI.out
            try simp only [Act.put]
            try simp only [List.setIfInBounds_toArray]
            try simp only [List.set_cons_succ]
            try simp only [List.set_cons_zero]
            refine hK.out _ _ _ _ _ _ _ _ _ _ _ _ _ _ _ ?_ (SS.out _ (hI.e.kept hS hk))
            exact { sz := by simp [hI.sz], kq := fun j hj => by (rw [getD_set_ne true (by (rintro rfl; revert hj; decide))]; exact hI.kq j hj), e := hI.e.kept hS hk, ls := hI.ls.kept hk, f2 := fun _ => ⟨z, rfl⟩, f4 := fun q => hI.f4 (gsB q (by decide)), f5 := fun q => hI.f5 (gsB q (by decide)), f7 := fun q => hI.f7 (gsB q (by decide)), f8 := fun q => hI.f8 (gsB q (by decide)), f10 := fun q => (hI.f10 (gsB q (by decide))).kept hk, f11 := fun q => hI.f11 (gsB q (by decide)), f13 := fun q => (hI.f13 (gsB q (by decide))).kept hk, f14 := fun q => hI.f14 (gsB q (by decide)), f16 := fun q => (hI.f16 (gsB q (by decide))).kept hk, f17 := fun q => hI.f17 (gsB q (by decide)), f18 := fun q => hI.f18 (gsB q (by decide)), f19 := fun q => (hI.f19 (gsB q (by decide))).kept hk, f20 := fun q => hI.f20 (gsB q (by decide)) }
          · exact absurd (hI.kq 3 (by decide)) (by rw [hun]; decide)
          · simp only [List.getElem?_toArray, List.getElem?_cons_succ, List.getElem?_cons_zero, Option.some.injEq] at ho
            subst ho
            have HI := Lib.hid hI
            clear hdep hun hi hI
            rw [if_pos (by rfl)]
            go_simp
            refine (n_any w.heap.size 12 _ (by exact HI.out.e.s) (by omega) (by omega)).mono ?_
            rintro e wy ⟨z, hz0, hz1, rfl, hS, hk⟩
            have hI := HI.out
            try simp only [Act.put]
            try simp only [List.setIfInBounds_toArray]
            try simp only [List.set_cons_succ]
            try simp only [List.set_cons_zero]
            refine hK.out _ _ _ _ _ _ _ _ _ _ _ _ _ _ _ ?_ (SS.out _ (hI.e.kept hS hk))
            exact { sz := by simp [hI.sz], kq := fun j hj => by (rw [getD_set_ne true (by (rintro rfl; revert hj; decide))]; exact hI.kq j hj), e := hI.e.kept hS hk, ls := hI.ls.kept hk, f2 := fun q => hI.f2 (gsB q (by decide)), f4 := fun _ => ⟨z, rfl, hz0, hz1⟩, f5 := fun q => hI.f5 (gsB q (by decide)), f7 := fun q => hI.f7 (gsB q (by decide)), f8 := fun q => hI.f8 (gsB q (by decide)), f10 := fun q => (hI.f10 (gsB q (by decide))).kept hk, f11 := fun q => hI.f11 (gsB q (by decide)), f13 := fun q => (hI.f13 (gsB q (by decide))).kept hk, f14 := fun q => hI.f14 (gsB q (by decide)), f16 := fun q => (hI.f16 (gsB q (by decide))).kept hk, f17 := fun q => hI.f17 (gsB q (by decide)), f18 := fun q => hI.f18 (gsB q (by decide)), f19 := fun q => (hI.f19 (gsB q (by decide))).kept hk, f20 := fun q => hI.f20 (gsB q (by decide)) }
          · simp only [List.getElem?_toArray, List.getElem?_cons_succ, List.getElem?_cons_zero, Option.some.injEq] at ho
            subst ho
            obtain ⟨z, rfl, hz0, hz1⟩ := hI.f4 (hdep ⟨4, .data⟩ (by simp) (by rfl))
            have e1 : IntKind.i64.wrap (1 + z) = 1 + z := IntWalk.i64_in _ (by omega)
            have HI := Lib.hid hI
            clear hdep hun hi hI
            rw [if_pos (by rfl)]
            go_simp
            have hI := HI.out
            try simp only [Act.put]
            try simp only [List.setIfInBounds_toArray]
            try simp only [List.set_cons_succ]
            try simp only [List.set_cons_zero]
            refine hK.out _ _ _ _ _ _ _ _ _ _ _ _ _ _ _ ?_ (SS.out _ hI.e)
            exact { sz := by simp [hI.sz], kq := fun j hj => by (rw [getD_set_ne true (by (rintro rfl; revert hj; decide))]; exact hI.kq j hj), e := hI.e, ls := hI.ls, f2 := fun q => hI.f2 (gsB q (by decide)), f4 := fun q => hI.f4 (gsB q (by decide)), f5 := fun _ => ⟨_, rfl⟩, f7 := fun q => hI.f7 (gsB q (by decide)), f8 := fun q => hI.f8 (gsB q (by decide)), f10 := fun q => hI.f10 (gsB q (by decide)), f11 := fun q => hI.f11 (gsB q (by decide)), f13 := fun q => hI.f13 (gsB q (by decide)), f14 := fun q => hI.f14 (gsB q (by decide)), f16 := fun q => hI.f16 (gsB q (by decide)), f17 := fun q => hI.f17 (gsB q (by decide)), f18 := fun q => hI.f18 (gsB q (by decide)), f19 := fun q => hI.f19 (gsB q (by decide)), f20 := fun q => hI.f20 (gsB q (by decide)) }
          · exact absurd (hI.kq 6 (by decide)) (by rw [hun]; decide)
          · simp only [List.getElem?_toArray, List.getElem?_cons_succ, List.getElem?_cons_zero, Option.some.injEq] at ho
            subst ho
            have HI := Lib.hid hI
            clear hdep hun hi hI
            rw [if_pos (by rfl)]
            go_simp
            refine (n_any w.heap.size 20 _ (by exact HI.out.e.s) (by omega) (by omega)).mono ?_
            rintro e wy ⟨z, hz0, hz1, rfl, hS, hk⟩
            have hI := HI.out
            try simp only [Act.put]
            try simp only [List.setIfInBounds_toArray]
            try simp only [List.set_cons_succ]
            try simp only [List.set_cons_zero]
            refine hK.out _ _ _ _ _ _ _ _ _ _ _ _ _ _ _ ?_ (SS.out _ (hI.e.kept hS hk))
            exact { sz := by simp [hI.sz], kq := fun j hj => by (rw [getD_set_ne true (by (rintro rfl; revert hj; decide))]; exact hI.kq j hj), e := hI.e.kept hS hk, ls := hI.ls.kept hk, f2 := fun q => hI.f2 (gsB q (by decide)), f4 := fun q => hI.f4 (gsB q (by decide)), f5 := fun q => hI.f5 (gsB q (by decide)), f7 := fun _ => ⟨z, rfl⟩, f8 := fun q => hI.f8 (gsB q (by decide)), f10 := fun q => (hI.f10 (gsB q (by decide))).kept hk, f11 := fun q => hI.f11 (gsB q (by decide)), f13 := fun q => (hI.f13 (gsB q (by decide))).kept hk, f14 := fun q => hI.f14 (gsB q (by decide)), f16 := fun q => (hI.f16 (gsB q (by decide))).kept hk, f17 := fun q => hI.f17 (gsB q (by decide)), f18 := fun q => hI.f18 (gsB q (by decide)), f19 := fun q => (hI.f19 (gsB q (by decide))).kept hk, f20 := fun q => hI.f20 (gsB q (by decide)) }
          · simp only [List.getElem?_toArray, List.getElem?_cons_succ, List.getElem?_cons_zero, Option.some.injEq] at ho
            subst ho
            obtain ⟨x, rfl⟩ := hI.f2 (hdep ⟨2, .data⟩ (by simp) (by rfl))
            obtain ⟨y, rfl⟩ := hI.f5 (hdep ⟨5, .data⟩ (by simp) (by rfl))
            obtain ⟨z, rfl⟩ := hI.f7 (hdep ⟨7, .data⟩ (by simp) (by rfl))
            have HI := Lib.hid hI
            clear hdep hun hi hI
            rw [if_pos (by rfl)]
            go_simp
            have hI := HI.out
            try simp only [Act.put]
            try simp only [List.setIfInBounds_toArray]
            try simp only [List.set_cons_succ]
            try simp only [List.set_cons_zero]
            refine hK.out _ _ _ _ _ _ _ _ _ _ _ _ _ _ _ ?_ (SS.out _ hI.e)
            exact { sz := by simp [hI.sz], kq := fun j hj => by (rw [getD_set_ne true (by (rintro rfl; revert hj; decide))]; exact hI.kq j hj), e := hI.e, ls := hI.ls, f2 := fun q => hI.f2 (gsB q (by decide)), f4 := fun q => hI.f4 (gsB q (by decide)), f5 := fun q => hI.f5 (gsB q (by decide)), f7 := fun q => hI.f7 (gsB q (by decide)), f8 := fun _ => ⟨_, _, _, rfl⟩, f10 := fun q => hI.f10 (gsB q (by decide)), f11 := fun q => hI.f11 (gsB q (by decide)), f13 := fun q => hI.f13 (gsB q (by decide)), f14 := fun q => hI.f14 (gsB q (by decide)), f16 := fun q => hI.f16 (gsB q (by decide)), f17 := fun q => hI.f17 (gsB q (by decide)), f18 := fun q => hI.f18 (gsB q (by decide)), f19 := fun q => hI.f19 (gsB q (by decide)), f20 := fun q => hI.f20 (gsB q (by decide)) }
          · exact absurd (hI.kq 9 (by decide)) (by rw [hun]; decide)
          · simp only [List.getElem?_toArray, List.getElem?_cons_succ, List.getElem?_cons_zero, Option.some.injEq] at ho
            subst ho
            have HI := Lib.hid hI
            clear hdep hun hi hI
            rw [if_pos (by rfl)]
            go_simp
            have hI := HI.out
            have hb := balloc wx (.cells ([0, -1, 1073741824, 1073741825, 7].map (Value.int .i64)).toArray 3)
            have il := ints_litC wx [0, -1, 1073741824, 1073741825, 7]
            simp only [List.map_cons, List.map_nil] at hb il
            try simp only [Act.put]
            try simp only [List.setIfInBounds_toArray]
            try simp only [List.set_cons_succ]
            try simp only [List.set_cons_zero]
            refine hK.out _ _ _ _ _ _ _ _ _ _ _ _ _ _ _ ?_ (SS.out _ (hI.e.below hb))
            exact { sz := by simp [hI.sz], kq := fun j hj => by (rw [getD_set_ne true (by (rintro rfl; revert hj; decide))]; exact hI.kq j hj), e := hI.e.below hb, ls := hI.ls.below hb, f2 := fun q => hI.f2 (gsB q (by decide)), f4 := fun q => hI.f4 (gsB q (by decide)), f5 := fun q => hI.f5 (gsB q (by decide)), f7 := fun q => hI.f7 (gsB q (by decide)), f8 := fun q => hI.f8 (gsB q (by decide)), f10 := fun _ => ⟨wx.heap.size, rfl, Nat.ne_of_gt hI.e.s.lt, by simpa using il⟩, f11 := fun q => hI.f11 (gsB q (by decide)), f13 := fun q => (hI.f13 (gsB q (by decide))).below hb, f14 := fun q => hI.f14 (gsB q (by decide)), f16 := fun q => (hI.f16 (gsB q (by decide))).below hb, f17 := fun q => hI.f17 (gsB q (by decide)), f18 := fun q => hI.f18 (gsB q (by decide)), f19 := fun q => (hI.f19 (gsB q (by decide))).below hb, f20 := fun q => hI.f20 (gsB q (by decide)) }
          · simp only [List.getElem?_toArray, List.getElem?_cons_succ, List.getElem?_cons_zero, Option.some.injEq] at ho
            subst ho
            obtain ⟨g, rfl, hg, hgi⟩ := hI.f10 (hdep ⟨10, .data⟩ (by simp) (by rfl))
            have HI := Lib.hid hI
            clear hdep hun hi hI
            have HG := Lib.hid hgi; have HN := Lib.hid hg; clear hgi hg
            rw [if_pos (by rfl)]
            go_simp
            refine (pick_any w.heap.size (some ⟨g, 0, none⟩) 5 5 [0, -1, 1073741824, 1073741825, 7] _ (by exact HI.out.e.s) (by exact HG.out) (fun b off s e => by (cases e; exact HN.out)) (by omega) (by omega)).mono ?_
            rintro e wy ⟨⟨jj, hjj, rfl⟩, hS, hk⟩
            have hI := HI.out
            try simp only [Act.put]
            try simp only [List.setIfInBounds_toArray]
            try simp only [List.set_cons_succ]
            try simp only [List.set_cons_zero]
            refine hK.out _ _ _ _ _ _ _ _ _ _ _ _ _ _ _ ?_ (SS.out _ (hI.e.kept hS hk))
            exact { sz := by simp [hI.sz], kq := fun j hj => by (rw [getD_set_ne true (by (rintro rfl; revert hj; decide))]; exact hI.kq j hj), e := hI.e.kept hS hk, ls := hI.ls.kept hk, f2 := fun q => hI.f2 (gsB q (by decide)), f4 := fun q => hI.f4 (gsB q (by decide)), f5 := fun q => hI.f5 (gsB q (by decide)), f7 := fun q => hI.f7 (gsB q (by decide)), f8 := fun q => hI.f8 (gsB q (by decide)), f10 := fun q => (hI.f10 (gsB q (by decide))).kept hk, f11 := fun _ => ⟨_, rfl⟩, f13 := fun q => (hI.f13 (gsB q (by decide))).kept hk, f14 := fun q => hI.f14 (gsB q (by decide)), f16 := fun q => (hI.f16 (gsB q (by decide))).kept hk, f17 := fun q => hI.f17 (gsB q (by decide)), f18 := fun q => hI.f18 (gsB q (by decide)), f19 := fun q => (hI.f19 (gsB q (by decide))).kept hk, f20 := fun q => hI.f20 (gsB q (by decide)) }
          · exact absurd (hI.kq 12 (by decide)) (by rw [hun]; decide)
          · simp only [List.getElem?_toArray, List.getElem?_cons_succ, List.getElem?_cons_zero, Option.some.injEq] at ho
            subst ho
            have HI := Lib.hid hI
            clear hdep hun hi hI
            rw [if_pos (by rfl)]
            go_simp
            have hI := HI.out
            have hb := balloc wx (.cells ([0, 1, 120, 121, 5].map (Value.int .i64)).toArray 3)
            have il := ints_litC wx [0, 1, 120, 121, 5]
            simp only [List.map_cons, List.map_nil] at hb il
            try simp only [Act.put]
            try simp only [List.setIfInBounds_toArray]
            try simp only [List.set_cons_succ]
            try simp only [List.set_cons_zero]
            refine hK.out _ _ _ _ _ _ _ _ _ _ _ _ _ _ _ ?_ (SS.out _ (hI.e.below hb))
            exact { sz := by simp [hI.sz], kq := fun j hj => by (rw [getD_set_ne true (by (rintro rfl; revert hj; decide))]; exact hI.kq j hj), e := hI.e.below hb, ls := hI.ls.below hb, f2 := fun q => hI.f2 (gsB q (by decide)), f4 := fun q => hI.f4 (gsB q (by decide)), f5 := fun q => hI.f5 (gsB q (by decide)), f7 := fun q => hI.f7 (gsB q (by decide)), f8 := fun q => hI.f8 (gsB q (by decide)), f10 := fun q => (hI.f10 (gsB q (by decide))).below hb, f11 := fun q => hI.f11 (gsB q (by decide)), f13 := fun _ => ⟨wx.heap.size, rfl, Nat.ne_of_gt hI.e.s.lt, by simpa using il⟩, f14 := fun q => hI.f14 (gsB q (by decide)), f16 := fun q => (hI.f16 (gsB q (by decide))).below hb, f17 := fun q => hI.f17 (gsB q (by decide)), f18 := fun q => hI.f18 (gsB q (by decide)), f19 := fun q => (hI.f19 (gsB q (by decide))).below hb, f20 := fun q => hI.f20 (gsB q (by decide)) }
          · simp only [List.getElem?_toArray, List.getElem?_cons_succ, List.getElem?_cons_zero, Option.some.injEq] at ho
            subst ho
            obtain ⟨g, rfl, hg, hgi⟩ := hI.f13 (hdep ⟨13, .data⟩ (by simp) (by rfl))
            have HI := Lib.hid hI
            clear hdep hun hi hI
            have HG := Lib.hid hgi; have HN := Lib.hid hg; clear hgi hg
            rw [if_pos (by rfl)]
            go_simp
            refine (pick_any w.heap.size (some ⟨g, 0, none⟩) 5 5 [0, 1, 120, 121, 5] _ (by exact HI.out.e.s) (by exact HG.out) (fun b off s e => by (cases e; exact HN.out)) (by omega) (by omega)).mono ?_
            rintro e wy ⟨⟨jj, hjj, rfl⟩, hS, hk⟩
            have hI := HI.out
            try simp only [Act.put]
            try simp only [List.setIfInBounds_toArray]
            try simp only [List.set_cons_succ]
            try simp only [List.set_cons_zero]
            refine hK.out _ _ _ _ _ _ _ _ _ _ _ _ _ _ _ ?_ (SS.out _ (hI.e.kept hS hk))
            exact { sz := by simp [hI.sz], kq := fun j hj => by (rw [getD_set_ne true (by (rintro rfl; revert hj; decide))]; exact hI.kq j hj), e := hI.e.kept hS hk, ls := hI.ls.kept hk, f2 := fun q => hI.f2 (gsB q (by decide)), f4 := fun q => hI.f4 (gsB q (by decide)), f5 := fun q => hI.f5 (gsB q (by decide)), f7 := fun q => hI.f7 (gsB q (by decide)), f8 := fun q => hI.f8 (gsB q (by decide)), f10 := fun q => (hI.f10 (gsB q (by decide))).kept hk, f11 := fun q => hI.f11 (gsB q (by decide)), f13 := fun q => (hI.f13 (gsB q (by decide))).kept hk, f14 := fun _ => ⟨_, rfl⟩, f16 := fun q => (hI.f16 (gsB q (by decide))).kept hk, f17 := fun q => hI.f17 (gsB q (by decide)), f18 := fun q => hI.f18 (gsB q (by decide)), f19 := fun q => (hI.f19 (gsB q (by decide))).kept hk, f20 := fun q => hI.f20 (gsB q (by decide)) }
          · exact absurd (hI.kq 15 (by decide)) (by rw [hun]; decide)
          · simp only [List.getElem?_toArray, List.getElem?_cons_succ, List.getElem?_cons_zero, Option.some.injEq] at ho
            subst ho
            have HI := Lib.hid hI
            clear hdep hun hi hI
            rw [if_pos (by rfl)]
            go_simp
            have hI := HI.out
            have hb := balloc wx (.cells ([0, -1, 1048576, 1048577, 3].map (Value.int .i64)).toArray 3)
            have il := ints_litC wx [0, -1, 1048576, 1048577, 3]
            simp only [List.map_cons, List.map_nil] at hb il
            try simp only [Act.put]
            try simp only [List.setIfInBounds_toArray]
            try simp only [List.set_cons_succ]
            try simp only [List.set_cons_zero]
            refine hK.out _ _ _ _ _ _ _ _ _ _ _ _ _ _ _ ?_ (SS.out _ (hI.e.below hb))
            exact { sz := by simp [hI.sz], kq := fun j hj => by (rw [getD_set_ne true (by (rintro rfl; revert hj; decide))]; exact hI.kq j hj), e := hI.e.below hb, ls := hI.ls.below hb, f2 := fun q => hI.f2 (gsB q (by decide)), f4 := fun q => hI.f4 (gsB q (by decide)), f5 := fun q => hI.f5 (gsB q (by decide)), f7 := fun q => hI.f7 (gsB q (by decide)), f8 := fun q => hI.f8 (gsB q (by decide)), f10 := fun q => (hI.f10 (gsB q (by decide))).below hb, f11 := fun q => hI.f11 (gsB q (by decide)), f13 := fun q => (hI.f13 (gsB q (by decide))).below hb, f14 := fun q => hI.f14 (gsB q (by decide)), f16 := fun _ => ⟨wx.heap.size, rfl, Nat.ne_of_gt hI.e.s.lt, by simpa using il⟩, f17 := fun q => hI.f17 (gsB q (by decide)), f18 := fun q => hI.f18 (gsB q (by decide)), f19 := fun q => (hI.f19 (gsB q (by decide))).below hb, f20 := fun q => hI.f20 (gsB q (by decide)) }
          · simp only [List.getElem?_toArray, List.getElem?_cons_succ, List.getElem?_cons_zero, Option.some.injEq] at ho
            subst ho
            obtain ⟨g, rfl, hg, hgi⟩ := hI.f16 (hdep ⟨16, .data⟩ (by simp) (by rfl))
            have HI := Lib.hid hI
            clear hdep hun hi hI
            have HG := Lib.hid hgi; have HN := Lib.hid hg; clear hgi hg
            rw [if_pos (by rfl)]
            go_simp
            refine (pick_any w.heap.size (some ⟨g, 0, none⟩) 5 5 [0, -1, 1048576, 1048577, 3] _ (by exact HI.out.e.s) (by exact HG.out) (fun b off s e => by (cases e; exact HN.out)) (by omega) (by omega)).mono ?_
            rintro e wy ⟨⟨jj, hjj, rfl⟩, hS, hk⟩
            have hI := HI.out
            try simp only [Act.put]
            try simp only [List.setIfInBounds_toArray]
            try simp only [List.set_cons_succ]
            try simp only [List.set_cons_zero]
            refine hK.out _ _ _ _ _ _ _ _ _ _ _ _ _ _ _ ?_ (SS.out _ (hI.e.kept hS hk))
            exact { sz := by simp [hI.sz], kq := fun j hj => by (rw [getD_set_ne true (by (rintro rfl; revert hj; decide))]; exact hI.kq j hj), e := hI.e.kept hS hk, ls := hI.ls.kept hk, f2 := fun q => hI.f2 (gsB q (by decide)), f4 := fun q => hI.f4 (gsB q (by decide)), f5 := fun q => hI.f5 (gsB q (by decide)), f7 := fun q => hI.f7 (gsB q (by decide)), f8 := fun q => hI.f8 (gsB q (by decide)), f10 := fun q => (hI.f10 (gsB q (by decide))).kept hk, f11 := fun q => hI.f11 (gsB q (by decide)), f13 := fun q => (hI.f13 (gsB q (by decide))).kept hk, f14 := fun q => hI.f14 (gsB q (by decide)), f16 := fun q => (hI.f16 (gsB q (by decide))).kept hk, f17 := fun _ => ⟨_, rfl⟩, f18 := fun q => hI.f18 (gsB q (by decide)), f19 := fun q => (hI.f19 (gsB q (by decide))).kept hk, f20 := fun q => hI.f20 (gsB q (by decide)) }
          · simp only [List.getElem?_toArray, List.getElem?_cons_succ, List.getElem?_cons_zero, Option.some.injEq] at ho
            subst ho
            obtain ⟨x, rfl⟩ := hI.f11 (hdep ⟨11, .data⟩ (by simp) (by rfl))
            obtain ⟨y, rfl⟩ := hI.f14 (hdep ⟨14, .data⟩ (by simp) (by rfl))
            obtain ⟨z, rfl⟩ := hI.f17 (hdep ⟨17, .data⟩ (by simp) (by rfl))
            have HI := Lib.hid hI
            clear hdep hun hi hI
            rw [if_pos (by rfl)]
            go_simp
            have hI := HI.out
            try simp only [Act.put]
            try simp only [List.setIfInBounds_toArray]
            try simp only [List.set_cons_succ]
            try simp only [List.set_cons_zero]
            refine hK.out _ _ _ _ _ _ _ _ _ _ _ _ _ _ _ ?_ (SS.out _ hI.e)
            exact { sz := by simp [hI.sz], kq := fun j hj => by (rw [getD_set_ne true (by (rintro rfl; revert hj; decide))]; exact hI.kq j hj), e := hI.e, ls := hI.ls, f2 := fun q => hI.f2 (gsB q (by decide)), f4 := fun q => hI.f4 (gsB q (by decide)), f5 := fun q => hI.f5 (gsB q (by decide)), f7 := fun q => hI.f7 (gsB q (by decide)), f8 := fun q => hI.f8 (gsB q (by decide)), f10 := fun q => hI.f10 (gsB q (by decide)), f11 := fun q => hI.f11 (gsB q (by decide)), f13 := fun q => hI.f13 (gsB q (by decide)), f14 := fun q => hI.f14 (gsB q (by decide)), f16 := fun q => hI.f16 (gsB q (by decide)), f17 := fun q => hI.f17 (gsB q (by decide)), f18 := fun _ => ⟨_, _, _, rfl⟩, f19 := fun q => hI.f19 (gsB q (by decide)), f20 := fun q => hI.f20 (gsB q (by decide)) }
          · simp only [List.getElem?_toArray, List.getElem?_cons_succ, List.getElem?_cons_zero, Option.some.injEq] at ho
            subst ho
            obtain ⟨b1, b2, b3, rfl⟩ := hI.f8 (hdep ⟨8, .data⟩ (by simp) (by rfl))
            obtain ⟨b4, b5, b6, rfl⟩ := hI.f18 (hdep ⟨18, .data⟩ (by simp) (by rfl))
            have HI := Lib.hid hI
            clear hdep hun hi hI
            rw [if_pos (by rfl)]
            go_simp
            have hI := HI.out
            have hb := balloc wx (.cells #[.int .i64 S, .int .i64 E0, .int .i64 A, .int .i64 b1, .int .i64 b2, .int .i64 b3, .int .i64 b4, .int .i64 b5, .int .i64 b6] 44)
            try simp only [Act.put]
            try simp only [List.setIfInBounds_toArray]
            try simp only [List.set_cons_succ]
            try simp only [List.set_cons_zero]
            refine hK.out _ _ _ _ _ _ _ _ _ _ _ _ _ _ _ ?_ (SS.out _ (hI.e.below hb))
            exact { sz := by simp [hI.sz], kq := fun j hj => by (rw [getD_set_ne true (by (rintro rfl; revert hj; decide))]; exact hI.kq j hj), e := hI.e.below hb, ls := hI.ls.below hb, f2 := fun q => hI.f2 (gsB q (by decide)), f4 := fun q => hI.f4 (gsB q (by decide)), f5 := fun q => hI.f5 (gsB q (by decide)), f7 := fun q => hI.f7 (gsB q (by decide)), f8 := fun q => hI.f8 (gsB q (by decide)), f10 := fun q => (hI.f10 (gsB q (by decide))).below hb, f11 := fun q => hI.f11 (gsB q (by decide)), f13 := fun q => (hI.f13 (gsB q (by decide))).below hb, f14 := fun q => hI.f14 (gsB q (by decide)), f16 := fun q => (hI.f16 (gsB q (by decide))).below hb, f17 := fun q => hI.f17 (gsB q (by decide)), f18 := fun q => hI.f18 (gsB q (by decide)), f19 := fun _ => ⟨wx.heap.size, b1, b2, b3, b4, b5, b6, rfl, Nat.ne_of_gt hI.e.s.lt, Blk.new _ _ _⟩, f20 := fun q => hI.f20 (gsB q (by decide)) }
          · simp only [List.getElem?_toArray, List.getElem?_cons_succ, List.getElem?_cons_zero, Option.some.injEq] at ho
            subst ho
            obtain ⟨g, b1, b2, b3, b4, b5, b6, rfl, hg, hgb⟩ := hI.f19 (hdep ⟨19, .data⟩ (by simp) (by rfl))
            have HI := Lib.hid hI
            clear hdep hun hi hI
            clear hgb hg
            rw [if_pos (by rfl)]
            go_simp
            have hI := HI.out
            try simp only [Act.put]
            try simp only [List.setIfInBounds_toArray]
            try simp only [List.set_cons_succ]
            try simp only [List.set_cons_zero]
            refine hK.out _ _ _ _ _ _ _ _ _ _ _ _ _ _ _ ?_ (SS.out _ hI.e)
            exact { sz := by simp [hI.sz], kq := fun j hj => by (rw [getD_set_ne true (by (rintro rfl; revert hj; decide))]; exact hI.kq j hj), e := hI.e, ls := hI.ls, f2 := fun q => hI.f2 (gsB q (by decide)), f4 := fun q => hI.f4 (gsB q (by decide)), f5 := fun q => hI.f5 (gsB q (by decide)), f7 := fun q => hI.f7 (gsB q (by decide)), f8 := fun q => hI.f8 (gsB q (by decide)), f10 := fun q => hI.f10 (gsB q (by decide)), f11 := fun q => hI.f11 (gsB q (by decide)), f13 := fun q => hI.f13 (gsB q (by decide)), f14 := fun q => hI.f14 (gsB q (by decide)), f16 := fun q => hI.f16 (gsB q (by decide)), f17 := fun q => hI.f17 (gsB q (by decide)), f18 := fun q => hI.f18 (gsB q (by decide)), f19 := fun q => hI.f19 (gsB q (by decide)), f20 := fun _ => rfl }
          · exact absurd (hI.kq 21 (by decide)) (by rw [hun]; decide)
      case rest =>
      clear E LS0
      obtain ⟨Q, b1, b2, b3, b4, b5, b6, rfl, rfl, rfl, hE, h0, hQ, h4⟩ := hcut
      have E := Lib.hid hE; have LS0 := Lib.hid h0; have SB := Lib.hid h4
      clear hE h0 h4
      go_wp2_with fail
      go_loopg [96] 3 (fun gg s96 wx => ∃ k : Nat, k + gg = 3 ∧ s96 = .int .i64 k ∧ MB w wx w.heap.size W.heap.size (W.heap.size + 1) ZL ⟨R, r, L, l⟩ ⟨y1, y2, y3, y4⟩ S E0 A ∧ LsQ w.heap.size wx A2 n2 c2 ps ∧ Blk wx Q 44 #[.int .i64 S, .int .i64 E0, .int .i64 A, .int .i64 b1, .int .i64 b2, .int .i64 b3, .int .i64 b4, .int .i64 b5, .int .i64 b6])
      case atStart => exact ⟨0, rfl, rfl, E.out, LS0.out, SB.out⟩
      case round =>
        clear E LS0 SB
        obtain ⟨k, hkg, rfl, hE, h0, h4⟩ := hrel
        have E := Lib.hid hE; have LS0 := Lib.hid h0; have SB := Lib.hid h4
        clear hE h0 h4
        by_cases hk : k < 3
        case pos =>
          have hki : (k : Int) < 3 := by omega
          obtain ⟨xS, xE, xA, k0, k1, k2⟩ : ∃ xS xE xA : Int, wr.cell? ⟨Q, k * 3, none⟩ = some (.int .i64 xS) ∧ wr.cell? ⟨Q, k * 3 + 1, none⟩ = some (.int .i64 xE) ∧ wr.cell? ⟨Q, k * 3 + 2, none⟩ = some (.int .i64 xA) := by
            rcases (show k = 0 ∨ k = 1 ∨ k = 2 by omega) with e | e | e
            · exact ⟨_, _, _, by rw [e]; exact SB.out.cell 0, by rw [e]; exact SB.out.cell 1, by rw [e]; exact SB.out.cell 2⟩
            · exact ⟨_, _, _, by rw [e]; exact SB.out.cell 3, by rw [e]; exact SB.out.cell 4, by rw [e]; exact SB.out.cell 5⟩
            · exact ⟨_, _, _, by rw [e]; exact SB.out.cell 6, by rw [e]; exact SB.out.cell 7, by rw [e]; exact SB.out.cell 8⟩
          have hlk := SB.out.lt
          go_upto_region 16 with fail
          clear k0 k1 k2 hlk
          have hb := balloc wr (.cells #[.int .i64 xS, .int .i64 xE, .int .i64 xA] 44)
          -- hb the facts (Below) that all things are carried by
          replace E := Lib.hid (E.out.below hb); replace LS0 := Lib.hid (LS0.out.below hb)
          try (replace LS4 := Lib.hid (LS4.out.below hb))
          try (replace SB := Lib.hid (SB.out.below hb SB.out.lt))
          try (replace LB := Lib.hid (LB.out.below hb LB.out.lt))
          try (replace LS1 := Lib.hid (LS1.out.below hb))
          try (replace LS2 := Lib.hid (LS2.out.below hb))
          try (replace LS3 := Lib.hid (LS3.out.below hb))
          try (replace DX := Lib.hid (DX.out.below hb DX.out.lt))
          try (replace F1 := Lib.hid (F1.out.below hb F1.out.lt))
          try (replace I1 := Lib.hid (I1.out.ext hb))
          have DX := Lib.hid (Blk.new wr 44 #[.int .i64 xS, .int .i64 xE, .int .i64 xA])
          generalize hwe : wr.alloc (.cells #[.int .i64 xS, .int .i64 xE, .int .i64 xA] 44) = wh at *
          clear hwe hb
          generalize wr.heap.size = Zx at *
          obtain ⟨⟨d0, d1, d2⟩, _, hld⟩ := DX.out.c3
          go_wp2_with fail
          refine (stepsK_any xS xE xA _).mono ?_
          clear d0 d1 d2 hld
          rintro e wa ⟨f, er, hS, A3, m3, d3, hmd, rfl, hI, hA, hb⟩
          -- the first result f er A3 m3 d3 lies in a new variable: 17 the region behind, stS_len its length's law
          have HS := Lib.hid hS
          have hm3 : m3 ≤ 400 := by have h1 := stS_len hS; have h2 : f.vals.length = m3 := hI.1; omega
          -- hb the facts (Below) that all things are carried by
          replace E := Lib.hid (E.out.below hb); replace LS0 := Lib.hid (LS0.out.below hb)
          try (replace LS4 := Lib.hid (LS4.out.below hb))
          try (replace SB := Lib.hid (SB.out.below hb SB.out.lt))
          try (replace LB := Lib.hid (LB.out.below hb LB.out.lt))
          try (replace LS1 := Lib.hid (LS1.out.below hb))
          try (replace LS2 := Lib.hid (LS2.out.below hb))
          try (replace LS3 := Lib.hid (LS3.out.below hb))
          try (replace DX := Lib.hid (DX.out.below hb DX.out.lt))
          try (replace F1 := Lib.hid (F1.out.below hb F1.out.lt))
          try (replace I1 := Lib.hid (I1.out.ext hb))
          have hb2 := balloc wa (.cells #[.slice A3 m3 d3, .int .i64 f.per, .int .i64 f.inc] 46)
          -- hb2 the facts (Below) that all things are carried by
          replace E := Lib.hid (E.out.below hb2); replace LS0 := Lib.hid (LS0.out.below hb2)
          try (replace LS4 := Lib.hid (LS4.out.below hb2))
          try (replace SB := Lib.hid (SB.out.below hb2 SB.out.lt))
          try (replace LB := Lib.hid (LB.out.below hb2 LB.out.lt))
          try (replace LS1 := Lib.hid (LS1.out.below hb2))
          try (replace LS2 := Lib.hid (LS2.out.below hb2))
          try (replace LS3 := Lib.hid (LS3.out.below hb2))
          try (replace DX := Lib.hid (DX.out.below hb2 DX.out.lt))
          try (replace F1 := Lib.hid (F1.out.below hb2 F1.out.lt))
          try (replace I1 := Lib.hid (I1.out.ext hb2))
          have F1 := Lib.hid (Blk.new wa 46 #[.slice A3 m3 d3, .int .i64 f.per, .int .i64 f.inc])
          have I1 := Lib.hid (hI.alloc' (.cells #[.slice A3 m3 d3, .int .i64 f.per, .int .i64 f.inc] 46))
          clear hS hI hA hb hb2
          go_upto_region 17 with fail
          generalize hwe : wa.alloc (.cells #[.slice A3 m3 d3, .int .i64 f.per, .int .i64 f.inc] 46) = wc at *
          clear hwe
          generalize wa.heap.size = Z3 at *
          obtain ⟨⟨d0, d1, d2⟩, _, hld⟩ := DX.out.c3
          go_wp2_with fail
          refine (refSteps_any xS xE xA _).mono ?_
          clear d0 d1 d2 hld
          rintro e we ⟨g, eg, A5, m5, d5, hS, hmd5, rfl, hI, hA, hb⟩
          -- the second result g eg A5 m5 d5: 18 the region behind, StS.unique HS.out hS uniqueness
          obtain ⟨e1, e2⟩ := StS.unique HS.out hS
          subst e1 e2
          have hm5 : m5 ≤ 400 := by have h2 : f.vals.length = m5 := hI.1; have h3 : f.vals.length = m3 := I1.out.1; omega
          -- hb the facts (Below) that all things are carried by
          replace E := Lib.hid (E.out.below hb); replace LS0 := Lib.hid (LS0.out.below hb)
          try (replace LS4 := Lib.hid (LS4.out.below hb))
          try (replace SB := Lib.hid (SB.out.below hb SB.out.lt))
          try (replace LB := Lib.hid (LB.out.below hb LB.out.lt))
          try (replace LS1 := Lib.hid (LS1.out.below hb))
          try (replace LS2 := Lib.hid (LS2.out.below hb))
          try (replace LS3 := Lib.hid (LS3.out.below hb))
          try (replace DX := Lib.hid (DX.out.below hb DX.out.lt))
          try (replace F1 := Lib.hid (F1.out.below hb F1.out.lt))
          try (replace I1 := Lib.hid (I1.out.ext hb))
          have hb2 := balloc we (.cells #[.slice A5 m5 d5, .int .i64 f.per, .int .i64 f.inc] 46)
          -- hb2 the facts (Below) that all things are carried by
          replace E := Lib.hid (E.out.below hb2); replace LS0 := Lib.hid (LS0.out.below hb2)
          try (replace LS4 := Lib.hid (LS4.out.below hb2))
          try (replace SB := Lib.hid (SB.out.below hb2 SB.out.lt))
          try (replace LB := Lib.hid (LB.out.below hb2 LB.out.lt))
          try (replace LS1 := Lib.hid (LS1.out.below hb2))
          try (replace LS2 := Lib.hid (LS2.out.below hb2))
          try (replace LS3 := Lib.hid (LS3.out.below hb2))
          try (replace DX := Lib.hid (DX.out.below hb2 DX.out.lt))
          try (replace F1 := Lib.hid (F1.out.below hb2 F1.out.lt))
          try (replace I1 := Lib.hid (I1.out.ext hb2))
          have F2 := Lib.hid (Blk.new we 46 #[.slice A5 m5 d5, .int .i64 f.per, .int .i64 f.inc])
          have I2 := Lib.hid (hI.alloc' (.cells #[.slice A5 m5 d5, .int .i64 f.per, .int .i64 f.inc] 46))
          clear hS hI hA hb hb2 HS
          go_upto_region 18 with fail
          generalize hwe : we.alloc (.cells #[.slice A5 m5 d5, .int .i64 f.per, .int .i64 f.inc] 46) = wf at *
          clear hwe
          generalize we.heap.size = Z5 at *
          obtain ⟨⟨k0, k1, k2⟩, _, hlk1⟩ := F1.out.c3
          obtain ⟨⟨l0, l1, l2⟩, _, hlk2⟩ := F2.out.c3
          have h9 : (er != er) = false := by simp
          go_wp2_with fail
          refine (refSame_any A3 A5 m3 m5 d3 d5 f.per f.per f.inc f.inc f.vals f.vals _ (by exact I1.out) (by exact I2.out) (by omega) (by omega)).mono ?_
          rw [(Cv.same_iff _ _).2 rfl]
          rintro e wg ⟨rfl, hb⟩
          clear I1 I2 F2 F1 k0 k1 k2 hlk1 l0 l1 l2 hlk2 h9
          -- hb the facts (Below) that all things are carried by
          replace E := Lib.hid (E.out.below hb); replace LS0 := Lib.hid (LS0.out.below hb)
          try (replace LS4 := Lib.hid (LS4.out.below hb))
          try (replace SB := Lib.hid (SB.out.below hb SB.out.lt))
          try (replace LB := Lib.hid (LB.out.below hb LB.out.lt))
          try (replace LS1 := Lib.hid (LS1.out.below hb))
          try (replace LS2 := Lib.hid (LS2.out.below hb))
          try (replace LS3 := Lib.hid (LS3.out.below hb))
          try (replace DX := Lib.hid (DX.out.below hb DX.out.lt))
          try (replace F1 := Lib.hid (F1.out.below hb F1.out.lt))
          try (replace I1 := Lib.hid (I1.out.ext hb))
          clear hb
          go_wp2_with fail
          go_roundg (gk - 1)
          case measure => omega
          case rel => exact ⟨k + 1, by omega, by go_num, E.out, LS0.out, SB.out⟩
        case neg =>
          have hki : ¬ (k : Int) < 3 := by omega
          clear SB hk hkg
          go_wp2_with fail
          refine (n_any w.heap.size 2 _ (by exact E.out.s) (by omega) (by omega)).mono ?_
          rintro e wa ⟨z, hz0, hz1, rfl, hS, hk⟩
          replace E := Lib.hid (E.out.kept hS hk); replace LS0 := Lib.hid (LS0.out.kept hk)
          obtain ⟨zn, rfl⟩ := Int.eq_ofNat_of_zero_le hz0
          obtain ⟨nm, hnm⟩ : ∃ nm : Nat, nm = 20 + zn := ⟨_, rfl⟩
          have e1 : IntKind.i64.wrap (20 + (zn : Int)) = (nm : Int) := by rw [hnm, IntWalk.i64_in _ (by omega)]; omega
          have hnm1 : nm ≤ 21 := by omega
          obtain ⟨i0, hi0, hz0', hy1, hy2⟩ := info_parts info_bucket
          clear hS hk hz0 hz1 hnm hki
          go_upto_region 22 with (at_make; refine wpList_make_full _ rfl _ _ 39 rfl wa.heap.size 27 i0 _ 4 Try.underlying39 hi0 hz0' hy1 .i64 .i64 _ _ nm rfl rfl rfl rfl (by rw [hy2]; omega) (by unfold maxLen; omega) (by simp) ?_; intro wb own1 grow1)
          have hb := (Below.refl wa.heap.size wa).grown grow1 (by simp) (by simp)
          have hps := E.out.s.lt
          have hG0 := E.out.va.blk.lt
          have hG1 := E.out.vl.blk.lt
          have hG2 : w.heap.size ≤ wa.heap.size := E.out.k.size
          have hG3 := E.out.vs.lt
          have MK := Lib.hid (show MkQ w.heap.size wb 27 wa.heap.size nm [] from ⟨by
            obtain ⟨cs, h1, h2⟩ := blk_made4 own1
            exact ⟨cs, h1, h2, fun j y hy => by simp at hy⟩, by omega⟩)
          have HAG := Lib.hid (show 0 < n2 → ∀ g o, A2 = some ⟨g, o, none⟩ → g ≠ wa.heap.size from fun h0 g o e => by
            obtain ⟨g', o', e', _, hr⟩ := LS0.out.2.2.2 h0
            rw [e] at e'
            cases e'
            exact Nat.ne_of_lt hr.lt)
          replace E := Lib.hid (E.out.below hb); replace LS0 := Lib.hid (LS0.out.below hb)
          clear hi0 hz0' hy1 hy2 own1 grow1 hb e1
          generalize wa.heap.size = G at *
          go_wp2_with fail
          go_loopg [126] nm (fun gg s126 wx => ∃ (k : Nat) (ys : List PN), k + gg = nm ∧ s126 = .int .i64 k ∧ ys.length = k ∧ MB w wx w.heap.size W.heap.size (W.heap.size + 1) ZL ⟨R, r, L, l⟩ ⟨y1, y2, y3, y4⟩ S E0 A ∧ LsQ w.heap.size wx A2 n2 c2 ps ∧ MkQ w.heap.size wx 27 G nm ys)
          case atStart => exact ⟨0, [], by omega, rfl, rfl, E.out, LS0.out, MK.out⟩
          case round =>
            clear E LS0 MK
            obtain ⟨k, ys, hkg, rfl, hyl, hE, h0, hM⟩ := hrel
            have E := Lib.hid hE; have LS0 := Lib.hid h0; have MK := Lib.hid hM; have HYL := Lib.hid hyl
            clear hE h0 hM hyl
            by_cases hk : k < nm
            case pos =>
              have hki : (k : Int) < nm := by omega
              obtain ⟨v0, hv0⟩ : ∃ v0 : Int, v0 = 3 * (k : Int) := ⟨_, rfl⟩
              obtain ⟨v1, hv1⟩ : ∃ v1 : Int, v1 = 5 + v0 := ⟨_, rfl⟩
              obtain ⟨v3, hv3⟩ : ∃ v3 : Int, v3 = 9 - (k : Int) := ⟨_, rfl⟩
              obtain ⟨v2, hv2⟩ : ∃ v2 : Int, (if 0 < v3 then v3 else 0) = v2 := ⟨_, rfl⟩
              have e0 : IntKind.i64.wrap (3 * (k : Int)) = v0 := by rw [hv0]; exact IntWalk.i64_in _ (by omega)
              have e1 : IntKind.i64.wrap (5 + v0) = v1 := by rw [hv1]; exact IntWalk.i64_in _ (by omega)
              have e2 : IntKind.i64.wrap (9 - (k : Int)) = v3 := by rw [hv3]; exact IntWalk.i64_in _ (by omega)
              obtain ⟨⟨q0, m0⟩, ⟨q1, m1⟩, ⟨q2, m2⟩, ⟨q3, m3⟩, z0, z1, z2, z3⟩ := MK.out.slot hk
              have hGl := MK.out.lt
              have M2 := Lib.hid (MK.out.store (k := k) (y := ⟨v1, 1, v2, 1⟩) HYL.out hk)
              have E2 := Lib.hid (E.out.four (k := k) (x := .int .i64 v1) (y := .int .i64 1) (z := .int .i64 v2) (u := .int .i64 1) hG0 hG1 hps hG2 hG3)
              have L2 := Lib.hid (LS0.out.sto (Sto.four G wr k (.int .i64 v1) (.int .i64 1) (.int .i64 v2) (.int .i64 1)) HAG.out)
              clear hv0 hv1 hv3 E LS0 MK
              go_wp2_with fail
              go_roundg (gk - 1)
              case measure => omega
              case rel => exact ⟨k + 1, ys ++ [⟨v1, 1, v2, 1⟩], by omega, by go_num, by rw [List.length_append, HYL.out]; rfl, E2.out, L2.out, M2.out⟩
            case neg =>
              have hki : ¬ (k : Int) < nm := by omega
              have hkn : k = nm := by omega
              have LS3 := Lib.hid (MK.out.ls (by rw [HYL.out, hkn]) (by omega))
              clear MK HYL hkn hk hkg
              go_upto_region 27 with fail
              go_cut [157, 158, 159] (fun s157 s158 s159 wx => ∃ (bb G1 G2 : Nat) (ms : List PN), s157 = .slice (some ⟨bb, 0, none⟩) 5 5 ∧ s158 = .int .i64 5 ∧ s159 = .int .i64 0 ∧ MB w wx w.heap.size W.heap.size (W.heap.size + 1) ZL ⟨R, r, L, l⟩ ⟨y1, y2, y3, y4⟩ S E0 A ∧ Blk wx bb 39 #[.slice A2 n2 c2, .slice none 0 0, .slice (some ⟨G1, 0, none⟩) 1 1, .slice (some ⟨G2, 0, none⟩) 2 2, .slice (some ⟨G, 0, none⟩) nm nm] ∧ bb ≠ w.heap.size ∧ LsQ w.heap.size wx A2 n2 c2 ps ∧ LsQ w.heap.size wx (some ⟨G1, 0, none⟩) 1 1 [⟨y1, y2, y3, y4⟩] ∧ LsQ w.heap.size wx (some ⟨G2, 0, none⟩) 2 2 ms ∧ LsQ w.heap.size wx (some ⟨G, 0, none⟩) nm nm ys)
              case first =>
                replace E := Lib.hid (MB.drew E.out); replace LS0 := Lib.hid (LsQ.drew LS0.out); replace LS3 := Lib.hid (LsQ.drew LS3.out)
                obtain ⟨f0, f1, f2, f3, hlf⟩ := E.out.va.q
                obtain ⟨g0, g1, g2, g3, hlg⟩ := E.out.vl.q
                dsimp only at f0 f1 f2 f3 g0 g1 g2 g3
                refine wp_region_held_drew (S := (fun w' => (w'.cell? ⟨W.heap.size, 0, none⟩ = some (.int .i64 R) ∧ w'.cell? ⟨W.heap.size, 1, none⟩ = some (.int .i64 r) ∧ w'.cell? ⟨W.heap.size, 2, none⟩ = some (.int .i64 L) ∧ w'.cell? ⟨W.heap.size, 3, none⟩ = some (.int .i64 l)) ∧ w'.cell? ⟨ZL, 0, none⟩ = some (.int .i64 y1) ∧ w'.cell? ⟨ZL, 1, none⟩ = some (.int .i64 y2) ∧ w'.cell? ⟨ZL, 2, none⟩ = some (.int .i64 y3) ∧ w'.cell? ⟨ZL, 3, none⟩ = some (.int .i64 y4))) (by kernel_rfl) (by exact ⟨⟨f0, f1, f2, f3⟩, g0, g1, g2, g3⟩) (fun hHeld => ?_)
                clear f0 f1 f2 f3 hlf g0 g1 g2 g3 hlg
                generalize hwd : wr.drew = wd at *
                clear hwd
                obtain ⟨f0, f1, f2, f3, hlf⟩ := E.out.va.q
                obtain ⟨g0, g1, g2, g3, hlg⟩ := E.out.vl.q
                dsimp only at f0 f1 f2 f3 g0 g1 g2 g3
                refine wpAnyH_take (i := 0) (oi := _) (v := ?_) (by simp only [List.getElem?_toArray, List.getElem?_cons_zero]; rfl) (by kernel_rfl) (by kernel_rfl) (by kernel_rfl) (by exact fun _ _ _ h => h) (Or.inl ⟨by rfl, ?_⟩) (by assumption) ?_
                rotate_left 1
                · (intro w hSw; (try dsimp only at hSw); go_simp; try with_reducible rfl)
                all_goals try simp only [Act.put]
                all_goals try simp only [List.setIfInBounds_toArray]
                all_goals try simp only [List.set_cons_succ]
                all_goals try simp only [List.set_cons_zero]
                refine wpAnyH_take (i := 1) (oi := _) (v := ?_) (by simp only [List.getElem?_toArray, List.getElem?_cons_succ, List.getElem?_cons_zero]; rfl) (by kernel_rfl) (by kernel_rfl) (by kernel_rfl) (by exact fun _ _ _ h => h) (Or.inl ⟨by rfl, ?_⟩) (by assumption) ?_
                rotate_left 1
                · (intro w hSw; (try dsimp only at hSw); go_simp; try with_reducible rfl)
                all_goals try simp only [Act.put]
                all_goals try simp only [List.setIfInBounds_toArray]
                all_goals try simp only [List.set_cons_succ]
                all_goals try simp only [List.set_cons_zero]
                refine wpAnyH_take (i := 3) (oi := _) (v := ?_) (by simp only [List.getElem?_toArray, List.getElem?_cons_succ, List.getElem?_cons_zero]; rfl) (by kernel_rfl) (by kernel_rfl) (by kernel_rfl) (by exact fun _ _ _ h => h) (Or.inl ⟨by rfl, ?_⟩) (by assumption) ?_
                rotate_left 1
                · (intro w hSw; (try dsimp only at hSw); go_simp; try with_reducible rfl)
                all_goals try simp only [Act.put]
                all_goals try simp only [List.setIfInBounds_toArray]
                all_goals try simp only [List.set_cons_succ]
                all_goals try simp only [List.set_cons_zero]
                refine wpAnyH_take (i := 5) (oi := _) (v := ?_) (by simp only [List.getElem?_toArray, List.getElem?_cons_succ, List.getElem?_cons_zero]; rfl) (by kernel_rfl) (by kernel_rfl) (by kernel_rfl) (by exact fun _ _ _ h => h) (Or.inl ⟨by rfl, ?_⟩) (by assumption) ?_
                rotate_left 1
                · (intro w hSw; (try dsimp only at hSw); go_simp; try with_reducible rfl)
                all_goals try simp only [Act.put]
                all_goals try simp only [List.setIfInBounds_toArray]
                all_goals try simp only [List.set_cons_succ]
                all_goals try simp only [List.set_cons_zero]
                refine wpAnyH_take (i := 8) (oi := _) (v := ?_) (by simp only [List.getElem?_toArray, List.getElem?_cons_succ, List.getElem?_cons_zero]; rfl) (by kernel_rfl) (by kernel_rfl) (by kernel_rfl) (by exact fun _ _ _ h => h) (Or.inl ⟨by rfl, ?_⟩) (by assumption) ?_
                rotate_left 1
                · (intro w hSw; (try dsimp only at hSw); go_simp; try with_reducible rfl)
                all_goals try simp only [Act.put]
                all_goals try simp only [List.setIfInBounds_toArray]
                all_goals try simp only [List.set_cons_succ]
                all_goals try simp only [List.set_cons_zero]
                refine wpAnyH_take (i := 10) (oi := _) (v := ?_) (by simp only [List.getElem?_toArray, List.getElem?_cons_succ, List.getElem?_cons_zero]; rfl) (by kernel_rfl) (by kernel_rfl) (by kernel_rfl) (by exact fun _ _ _ h => h) (Or.inl ⟨by rfl, ?_⟩) (by assumption) ?_
                rotate_left 1
                · (intro w hSw; (try dsimp only at hSw); go_simp; try with_reducible rfl)
                all_goals try simp only [Act.put]
                all_goals try simp only [List.setIfInBounds_toArray]
                all_goals try simp only [List.set_cons_succ]
                all_goals try simp only [List.set_cons_zero]
                refine wpAnyH_take (i := 14) (oi := _) (v := ?_) (by simp only [List.getElem?_toArray, List.getElem?_cons_succ, List.getElem?_cons_zero]; rfl) (by kernel_rfl) (by kernel_rfl) (by kernel_rfl) (by exact fun _ _ _ h => h) (Or.inl ⟨by rfl, ?_⟩) (by assumption) ?_
                rotate_left 1
                · (intro w hSw; (try dsimp only at hSw); go_simp; try with_reducible rfl)
                all_goals try simp only [Act.put]
                all_goals try simp only [List.setIfInBounds_toArray]
                all_goals try simp only [List.set_cons_succ]
                all_goals try simp only [List.set_cons_zero]
                refine wpAnyH_take (i := 17) (oi := _) (v := ?_) (by simp only [List.getElem?_toArray, List.getElem?_cons_succ, List.getElem?_cons_zero]; rfl) (by kernel_rfl) (by kernel_rfl) (by kernel_rfl) (by exact fun _ _ _ h => h) (Or.inl ⟨by rfl, ?_⟩) (by assumption) ?_
                rotate_left 1
                · (intro w hSw; (try dsimp only at hSw); go_simp; try with_reducible rfl)
                all_goals try simp only [Act.put]
                all_goals try simp only [List.setIfInBounds_toArray]
                all_goals try simp only [List.set_cons_succ]
                all_goals try simp only [List.set_cons_zero]
                refine wpAnyH_ready (rs := [2, 4]) (by kernel_rfl) (by simp) ?_
                refine (AllReadyH.cons (by simp only [List.getElem?_toArray, List.getElem?_cons_succ, List.getElem?_cons_zero]; rfl) (fun K hK => ?_) (AllReadyH.cons (by simp only [List.getElem?_toArray, List.getElem?_cons_succ, List.getElem?_cons_zero]; rfl) (fun K hK => ?_) AllReadyH.nil))
                · rw [if_pos (by rfl)]
                  go_simp
                  have hps := E.out.s.lt
                  have hb := balloc wd (.cells #[.int .i64 y1, .int .i64 y2, .int .i64 y3, .int .i64 y4] 27)
                  have LN := Lib.hid (LsQ.lit (w := wd) hps 27 [⟨y1, y2, y3, y4⟩] 1 rfl (by omega))
                  generalize hwa : wd.alloc (.cells #[.int .i64 y1, .int .i64 y2, .int .i64 y3, .int .i64 y4] 27) = wa at *
                  replace LN := Lib.hid (show LsQ w.heap.size wa (some ⟨wd.heap.size, 0, none⟩) 1 1 [⟨y1, y2, y3, y4⟩] by rw [← hwa]; exact LN.out)
                  clear hwa
                  -- hb the facts (Below) that all things are carried by
                  replace E := Lib.hid (E.out.below hb); replace LS0 := Lib.hid (LS0.out.below hb)
                  try (replace LS4 := Lib.hid (LS4.out.below hb))
                  try (replace SB := Lib.hid (SB.out.below hb SB.out.lt))
                  try (replace LB := Lib.hid (LB.out.below hb LB.out.lt))
                  try (replace LS1 := Lib.hid (LS1.out.below hb))
                  try (replace LS2 := Lib.hid (LS2.out.below hb))
                  try (replace LS3 := Lib.hid (LS3.out.below hb))
                  try (replace DX := Lib.hid (DX.out.below hb DX.out.lt))
                  try (replace F1 := Lib.hid (F1.out.below hb F1.out.lt))
                  try (replace I1 := Lib.hid (I1.out.ext hb))
                  have LS1 := LN
                  generalize wd.heap.size = G1 at *
                  clear LN hb hHeld hps
                  clear f0 f1 f2 f3 hlf g0 g1 g2 g3 hlg
                  obtain ⟨f0, f1, f2, f3, hlf⟩ := E.out.va.q
                  obtain ⟨g0, g1, g2, g3, hlg⟩ := E.out.vl.q
                  dsimp only at f0 f1 f2 f3 g0 g1 g2 g3
                  refine hK.out _ _ (by exact ⟨⟨f0, f1, f2, f3⟩, g0, g1, g2, g3⟩) (fun hHeld => ?_)
                  clear hK K
                  try simp only [Act.put]
                  try simp only [List.setIfInBounds_toArray]
                  try simp only [List.set_cons_succ]
                  try simp only [List.set_cons_zero]
                  refine wpAnyH_ready (rs := [4]) (by kernel_rfl) (by simp) ?_
                  refine (AllReadyH.cons (by simp only [List.getElem?_toArray, List.getElem?_cons_succ, List.getElem?_cons_zero]; rfl) (fun K hK => ?_) AllReadyH.nil)
                  -- a call of the region: srcFr_any w.heap.size 30 3 _ (by exact E.out.s) (by omega) (by omega) (by omega) (by omega) the contract, wb the world behind, u1 u2 the numbers
                  rw [if_pos (by rfl)]
                  go_simp
                  refine (srcFr_any w.heap.size 30 3 _ (by exact E.out.s) (by omega) (by omega) (by omega) (by omega)).mono ?_
                  rintro e wb ⟨u1, u2, _, rfl, hS, hk⟩
                  replace E := Lib.hid (E.out.kept hS hk); replace LS0 := Lib.hid (LS0.out.kept hk)
                  try (replace LS1 := Lib.hid (LS1.out.kept hk))
                  try (replace LS3 := Lib.hid (LS3.out.kept hk))
                  clear hS hk hHeld
                  clear f0 f1 f2 f3 hlf g0 g1 g2 g3 hlg
                  obtain ⟨f0, f1, f2, f3, hlf⟩ := E.out.va.q
                  obtain ⟨g0, g1, g2, g3, hlg⟩ := E.out.vl.q
                  dsimp only at f0 f1 f2 f3 g0 g1 g2 g3
                  refine hK.out _ _ (by exact ⟨⟨f0, f1, f2, f3⟩, g0, g1, g2, g3⟩) (fun hHeld => ?_)
                  clear hK K
                  try simp only [Act.put]
                  try simp only [List.setIfInBounds_toArray]
                  try simp only [List.set_cons_succ]
                  try simp only [List.set_cons_zero]
                  refine wpAnyH_ready (rs := [6]) (by kernel_rfl) (by simp) ?_
                  refine (AllReadyH.cons (by simp only [List.getElem?_toArray, List.getElem?_cons_succ, List.getElem?_cons_zero]; rfl) (fun K hK => ?_) AllReadyH.nil)
                  -- a call of the region: srcFr_any w.heap.size 6 3 _ (by exact E.out.s) (by omega) (by omega) (by omega) (by omega) the contract, we the world behind, u3 u4 the numbers
                  rw [if_pos (by rfl)]
                  go_simp
                  refine (srcFr_any w.heap.size 6 3 _ (by exact E.out.s) (by omega) (by omega) (by omega) (by omega)).mono ?_
                  rintro e we ⟨u3, u4, _, rfl, hS, hk⟩
                  replace E := Lib.hid (E.out.kept hS hk); replace LS0 := Lib.hid (LS0.out.kept hk)
                  try (replace LS1 := Lib.hid (LS1.out.kept hk))
                  try (replace LS3 := Lib.hid (LS3.out.kept hk))
                  clear hS hk hHeld
                  clear f0 f1 f2 f3 hlf g0 g1 g2 g3 hlg
                  obtain ⟨f0, f1, f2, f3, hlf⟩ := E.out.va.q
                  obtain ⟨g0, g1, g2, g3, hlg⟩ := E.out.vl.q
                  dsimp only at f0 f1 f2 f3 g0 g1 g2 g3
                  refine hK.out _ _ (by exact ⟨⟨f0, f1, f2, f3⟩, g0, g1, g2, g3⟩) (fun hHeld => ?_)
                  clear hK K
                  try simp only [Act.put]
                  try simp only [List.setIfInBounds_toArray]
                  try simp only [List.set_cons_succ]
                  try simp only [List.set_cons_zero]
                  refine wpAnyH_take (i := 7) (oi := _) (v := ?_) (by simp only [List.getElem?_toArray, List.getElem?_cons_succ, List.getElem?_cons_zero]; rfl) (by kernel_rfl) (by kernel_rfl) (by kernel_rfl) (by exact fun _ _ _ h => h) (Or.inl ⟨by rfl, ?_⟩) (by assumption) ?_
                  rotate_left 1
                  · (intro w hSw; (try dsimp only at hSw); go_simp; try with_reducible rfl)
                  all_goals try simp only [Act.put]
                  all_goals try simp only [List.setIfInBounds_toArray]
                  all_goals try simp only [List.set_cons_succ]
                  all_goals try simp only [List.set_cons_zero]
                  refine wpAnyH_ready (rs := [9]) (by kernel_rfl) (by simp) ?_
                  refine (AllReadyH.cons (by simp only [List.getElem?_toArray, List.getElem?_cons_succ, List.getElem?_cons_zero]; rfl) (fun K hK => ?_) AllReadyH.nil)
                  -- a call of the region: srcFr_any w.heap.size 30 2 _ (by exact E.out.s) (by omega) (by omega) (by omega) (by omega) the contract, wf the world behind, u5 u6 the numbers
                  rw [if_pos (by rfl)]
                  go_simp
                  refine (srcFr_any w.heap.size 30 2 _ (by exact E.out.s) (by omega) (by omega) (by omega) (by omega)).mono ?_
                  rintro e wf ⟨u5, u6, _, rfl, hS, hk⟩
                  replace E := Lib.hid (E.out.kept hS hk); replace LS0 := Lib.hid (LS0.out.kept hk)
                  try (replace LS1 := Lib.hid (LS1.out.kept hk))
                  try (replace LS3 := Lib.hid (LS3.out.kept hk))
                  clear hS hk hHeld
                  clear f0 f1 f2 f3 hlf g0 g1 g2 g3 hlg
                  obtain ⟨f0, f1, f2, f3, hlf⟩ := E.out.va.q
                  obtain ⟨g0, g1, g2, g3, hlg⟩ := E.out.vl.q
                  dsimp only at f0 f1 f2 f3 g0 g1 g2 g3
                  refine hK.out _ _ (by exact ⟨⟨f0, f1, f2, f3⟩, g0, g1, g2, g3⟩) (fun hHeld => ?_)
                  clear hK K
                  try simp only [Act.put]
                  try simp only [List.setIfInBounds_toArray]
                  try simp only [List.set_cons_succ]
                  try simp only [List.set_cons_zero]
                  refine wpAnyH_ready (rs := [11]) (by kernel_rfl) (by simp) ?_
                  refine (AllReadyH.cons (by simp only [List.getElem?_toArray, List.getElem?_cons_succ, List.getElem?_cons_zero]; rfl) (fun K hK => ?_) AllReadyH.nil)
                  -- a call of the region: srcFr_any w.heap.size 6 4 _ (by exact E.out.s) (by omega) (by omega) (by omega) (by omega) the contract, wg the world behind, u7 u8 the numbers
                  rw [if_pos (by rfl)]
                  go_simp
                  refine (srcFr_any w.heap.size 6 4 _ (by exact E.out.s) (by omega) (by omega) (by omega) (by omega)).mono ?_
                  rintro e wg ⟨u7, u8, _, rfl, hS, hk⟩
                  replace E := Lib.hid (E.out.kept hS hk); replace LS0 := Lib.hid (LS0.out.kept hk)
                  try (replace LS1 := Lib.hid (LS1.out.kept hk))
                  try (replace LS3 := Lib.hid (LS3.out.kept hk))
                  clear hS hk hHeld
                  clear f0 f1 f2 f3 hlf g0 g1 g2 g3 hlg
                  obtain ⟨f0, f1, f2, f3, hlf⟩ := E.out.va.q
                  obtain ⟨g0, g1, g2, g3, hlg⟩ := E.out.vl.q
                  dsimp only at f0 f1 f2 f3 g0 g1 g2 g3
                  refine hK.out _ _ (by exact ⟨⟨f0, f1, f2, f3⟩, g0, g1, g2, g3⟩) (fun hHeld => ?_)
                  clear hK K
                  try simp only [Act.put]
                  try simp only [List.setIfInBounds_toArray]
                  try simp only [List.set_cons_succ]
                  try simp only [List.set_cons_zero]
                  refine wpAnyH_take (i := 12) (oi := _) (v := ?_) (by simp only [List.getElem?_toArray, List.getElem?_cons_succ, List.getElem?_cons_zero]; rfl) (by kernel_rfl) (by kernel_rfl) (by kernel_rfl) (by exact fun _ _ _ h => h) (Or.inl ⟨by rfl, ?_⟩) (by assumption) ?_
                  rotate_left 1
                  · (intro w hSw; (try dsimp only at hSw); go_simp; try with_reducible rfl)
                  all_goals try simp only [Act.put]
                  all_goals try simp only [List.setIfInBounds_toArray]
                  all_goals try simp only [List.set_cons_succ]
                  all_goals try simp only [List.set_cons_zero]
                  refine wpAnyH_ready (rs := [13]) (by kernel_rfl) (by simp) ?_
                  refine (AllReadyH.cons (by simp only [List.getElem?_toArray, List.getElem?_cons_succ, List.getElem?_cons_zero]; rfl) (fun K hK => ?_) AllReadyH.nil)
                  rw [if_pos (by rfl)]
                  go_simp
                  have hps := E.out.s.lt
                  have hb := balloc wg (.cells #[.int .i64 u1, .int .i64 u2, .int .i64 u3, .int .i64 u4, .int .i64 u5, .int .i64 u6, .int .i64 u7, .int .i64 u8] 27)
                  have LN := Lib.hid (LsQ.lit (w := wg) hps 27 [⟨u1, u2, u3, u4⟩, ⟨u5, u6, u7, u8⟩] 2 rfl (by omega))
                  generalize hwa : wg.alloc (.cells #[.int .i64 u1, .int .i64 u2, .int .i64 u3, .int .i64 u4, .int .i64 u5, .int .i64 u6, .int .i64 u7, .int .i64 u8] 27) = wh at *
                  replace LN := Lib.hid (show LsQ w.heap.size wh (some ⟨wg.heap.size, 0, none⟩) 2 2 [⟨u1, u2, u3, u4⟩, ⟨u5, u6, u7, u8⟩] by rw [← hwa]; exact LN.out)
                  clear hwa
                  -- hb the facts (Below) that all things are carried by
                  replace E := Lib.hid (E.out.below hb); replace LS0 := Lib.hid (LS0.out.below hb)
                  try (replace LS4 := Lib.hid (LS4.out.below hb))
                  try (replace SB := Lib.hid (SB.out.below hb SB.out.lt))
                  try (replace LB := Lib.hid (LB.out.below hb LB.out.lt))
                  try (replace LS1 := Lib.hid (LS1.out.below hb))
                  try (replace LS2 := Lib.hid (LS2.out.below hb))
                  try (replace LS3 := Lib.hid (LS3.out.below hb))
                  try (replace DX := Lib.hid (DX.out.below hb DX.out.lt))
                  try (replace F1 := Lib.hid (F1.out.below hb F1.out.lt))
                  try (replace I1 := Lib.hid (I1.out.ext hb))
                  have LS2 := LN
                  generalize wg.heap.size = G2 at *
                  clear LN hb hHeld hps
                  clear f0 f1 f2 f3 hlf g0 g1 g2 g3 hlg
                  obtain ⟨f0, f1, f2, f3, hlf⟩ := E.out.va.q
                  obtain ⟨g0, g1, g2, g3, hlg⟩ := E.out.vl.q
                  dsimp only at f0 f1 f2 f3 g0 g1 g2 g3
                  refine hK.out _ _ (by exact ⟨⟨f0, f1, f2, f3⟩, g0, g1, g2, g3⟩) (fun hHeld => ?_)
                  clear hK K
                  try simp only [Act.put]
                  try simp only [List.setIfInBounds_toArray]
                  try simp only [List.set_cons_succ]
                  try simp only [List.set_cons_zero]
                  refine wpAnyH_ready (rs := [15]) (by kernel_rfl) (by simp) ?_
                  refine (AllReadyH.cons (by simp only [List.getElem?_toArray, List.getElem?_cons_succ, List.getElem?_cons_zero]; rfl) (fun K hK => ?_) AllReadyH.nil)
                  rw [if_pos (by rfl)]
                  go_simp
                  have hps := E.out.s.lt
                  have hb := balloc wh (.cells #[.slice A2 n2 c2, .slice none 0 0, .slice (some ⟨G1, 0, none⟩) 1 1, .slice (some ⟨G2, 0, none⟩) 2 2, .slice (some ⟨G, 0, none⟩) nm nm] 39)
                  have LL := Lib.hid (Blk.new wh 39 #[.slice A2 n2 c2, .slice none 0 0, .slice (some ⟨G1, 0, none⟩) 1 1, .slice (some ⟨G2, 0, none⟩) 2 2, .slice (some ⟨G, 0, none⟩) nm nm])
                  generalize hwa : wh.alloc (.cells #[.slice A2 n2 c2, .slice none 0 0, .slice (some ⟨G1, 0, none⟩) 1 1, .slice (some ⟨G2, 0, none⟩) 2 2, .slice (some ⟨G, 0, none⟩) nm nm] 39) = wz at *
                  clear hwa
                  -- hb the facts (Below) that all things are carried by
                  replace E := Lib.hid (E.out.below hb); replace LS0 := Lib.hid (LS0.out.below hb)
                  try (replace LS4 := Lib.hid (LS4.out.below hb))
                  try (replace SB := Lib.hid (SB.out.below hb SB.out.lt))
                  try (replace LB := Lib.hid (LB.out.below hb LB.out.lt))
                  try (replace LS1 := Lib.hid (LS1.out.below hb))
                  try (replace LS2 := Lib.hid (LS2.out.below hb))
                  try (replace LS3 := Lib.hid (LS3.out.below hb))
                  try (replace DX := Lib.hid (DX.out.below hb DX.out.lt))
                  try (replace F1 := Lib.hid (F1.out.below hb F1.out.lt))
                  try (replace I1 := Lib.hid (I1.out.ext hb))
                  generalize wh.heap.size = bb at *
                  clear hb hHeld
                  clear f0 f1 f2 f3 hlf g0 g1 g2 g3 hlg
                  obtain ⟨f0, f1, f2, f3, hlf⟩ := E.out.va.q
                  obtain ⟨g0, g1, g2, g3, hlg⟩ := E.out.vl.q
                  dsimp only at f0 f1 f2 f3 g0 g1 g2 g3
                  refine hK.out _ _ (by exact ⟨⟨f0, f1, f2, f3⟩, g0, g1, g2, g3⟩) (fun hHeld => ?_)
                  clear hK K
                  try simp only [Act.put]
                  try simp only [List.setIfInBounds_toArray]
                  try simp only [List.set_cons_succ]
                  try simp only [List.set_cons_zero]
                  refine wpAnyH_take (i := 16) (oi := _) (v := ?_) (by simp only [List.getElem?_toArray, List.getElem?_cons_succ, List.getElem?_cons_zero]; rfl) (by kernel_rfl) (by kernel_rfl) (by kernel_rfl) (by exact fun _ _ _ h => h) (Or.inl ⟨by rfl, ?_⟩) (by assumption) ?_
                  rotate_left 1
                  · (intro w hSw; (try dsimp only at hSw); go_simp; try with_reducible rfl)
                  all_goals try simp only [Act.put]
                  all_goals try simp only [List.setIfInBounds_toArray]
                  all_goals try simp only [List.set_cons_succ]
                  all_goals try simp only [List.set_cons_zero]
                  refine wpAnyH_done (by kernel_rfl) ?_ _
                  clear hHeld
                  clear f0 f1 f2 f3 hlf g0 g1 g2 g3 hlg
                  go_wp2_with fail
                  go_meet
                  exact ⟨bb, G1, G2, _, rfl, rfl, rfl, E.out, LL.out, Nat.ne_of_gt hps, LS0.out, LS1.out, LS2.out, LS3.out⟩
                · -- a call of the region: srcFr_any w.heap.size 30 3 _ (by exact E.out.s) (by omega) (by omega) (by omega) (by omega) the contract, wa the world behind, u1 u2 the numbers
                  rw [if_pos (by rfl)]
                  go_simp
                  refine (srcFr_any w.heap.size 30 3 _ (by exact E.out.s) (by omega) (by omega) (by omega) (by omega)).mono ?_
                  rintro e wa ⟨u1, u2, _, rfl, hS, hk⟩
                  replace E := Lib.hid (E.out.kept hS hk); replace LS0 := Lib.hid (LS0.out.kept hk)
                  try (replace LS1 := Lib.hid (LS1.out.kept hk))
                  try (replace LS3 := Lib.hid (LS3.out.kept hk))
                  clear hS hk hHeld
                  clear f0 f1 f2 f3 hlf g0 g1 g2 g3 hlg
                  obtain ⟨f0, f1, f2, f3, hlf⟩ := E.out.va.q
                  obtain ⟨g0, g1, g2, g3, hlg⟩ := E.out.vl.q
                  dsimp only at f0 f1 f2 f3 g0 g1 g2 g3
                  refine hK.out _ _ (by exact ⟨⟨f0, f1, f2, f3⟩, g0, g1, g2, g3⟩) (fun hHeld => ?_)
                  clear hK K
                  try simp only [Act.put]
                  try simp only [List.setIfInBounds_toArray]
                  try simp only [List.set_cons_succ]
                  try simp only [List.set_cons_zero]
                  refine wpAnyH_ready (rs := [2, 6]) (by kernel_rfl) (by simp) ?_
                  refine (AllReadyH.cons (by simp only [List.getElem?_toArray, List.getElem?_cons_succ, List.getElem?_cons_zero]; rfl) (fun K hK => ?_) (AllReadyH.cons (by simp only [List.getElem?_toArray, List.getElem?_cons_succ, List.getElem?_cons_zero]; rfl) (fun K hK => ?_) AllReadyH.nil))
                  · rw [if_pos (by rfl)]
                    go_simp
                    have hps := E.out.s.lt
                    have hb := balloc wa (.cells #[.int .i64 y1, .int .i64 y2, .int .i64 y3, .int .i64 y4] 27)
                    have LN := Lib.hid (LsQ.lit (w := wa) hps 27 [⟨y1, y2, y3, y4⟩] 1 rfl (by omega))
                    generalize hwa : wa.alloc (.cells #[.int .i64 y1, .int .i64 y2, .int .i64 y3, .int .i64 y4] 27) = wb at *
                    replace LN := Lib.hid (show LsQ w.heap.size wb (some ⟨wa.heap.size, 0, none⟩) 1 1 [⟨y1, y2, y3, y4⟩] by rw [← hwa]; exact LN.out)
                    clear hwa
                    -- hb the facts (Below) that all things are carried by
                    replace E := Lib.hid (E.out.below hb); replace LS0 := Lib.hid (LS0.out.below hb)
                    try (replace LS4 := Lib.hid (LS4.out.below hb))
                    try (replace SB := Lib.hid (SB.out.below hb SB.out.lt))
                    try (replace LB := Lib.hid (LB.out.below hb LB.out.lt))
                    try (replace LS1 := Lib.hid (LS1.out.below hb))
                    try (replace LS2 := Lib.hid (LS2.out.below hb))
                    try (replace LS3 := Lib.hid (LS3.out.below hb))
                    try (replace DX := Lib.hid (DX.out.below hb DX.out.lt))
                    try (replace F1 := Lib.hid (F1.out.below hb F1.out.lt))
                    try (replace I1 := Lib.hid (I1.out.ext hb))
                    have LS1 := LN
                    generalize wa.heap.size = G1 at *
                    clear LN hb hHeld hps
                    clear f0 f1 f2 f3 hlf g0 g1 g2 g3 hlg
                    obtain ⟨f0, f1, f2, f3, hlf⟩ := E.out.va.q
                    obtain ⟨g0, g1, g2, g3, hlg⟩ := E.out.vl.q
                    dsimp only at f0 f1 f2 f3 g0 g1 g2 g3
                    refine hK.out _ _ (by exact ⟨⟨f0, f1, f2, f3⟩, g0, g1, g2, g3⟩) (fun hHeld => ?_)
                    clear hK K
                    try simp only [Act.put]
                    try simp only [List.setIfInBounds_toArray]
                    try simp only [List.set_cons_succ]
                    try simp only [List.set_cons_zero]
                    refine wpAnyH_ready (rs := [6]) (by kernel_rfl) (by simp) ?_
                    refine (AllReadyH.cons (by simp only [List.getElem?_toArray, List.getElem?_cons_succ, List.getElem?_cons_zero]; rfl) (fun K hK => ?_) AllReadyH.nil)
                    -- a call of the region: srcFr_any w.heap.size 6 3 _ (by exact E.out.s) (by omega) (by omega) (by omega) (by omega) the contract, we the world behind, u3 u4 the numbers
                    rw [if_pos (by rfl)]
                    go_simp
                    refine (srcFr_any w.heap.size 6 3 _ (by exact E.out.s) (by omega) (by omega) (by omega) (by omega)).mono ?_
                    rintro e we ⟨u3, u4, _, rfl, hS, hk⟩
                    replace E := Lib.hid (E.out.kept hS hk); replace LS0 := Lib.hid (LS0.out.kept hk)
                    try (replace LS1 := Lib.hid (LS1.out.kept hk))
                    try (replace LS3 := Lib.hid (LS3.out.kept hk))
                    clear hS hk hHeld
                    clear f0 f1 f2 f3 hlf g0 g1 g2 g3 hlg
                    obtain ⟨f0, f1, f2, f3, hlf⟩ := E.out.va.q
                    obtain ⟨g0, g1, g2, g3, hlg⟩ := E.out.vl.q
                    dsimp only at f0 f1 f2 f3 g0 g1 g2 g3
                    refine hK.out _ _ (by exact ⟨⟨f0, f1, f2, f3⟩, g0, g1, g2, g3⟩) (fun hHeld => ?_)
                    clear hK K
                    try simp only [Act.put]
                    try simp only [List.setIfInBounds_toArray]
                    try simp only [List.set_cons_succ]
                    try simp only [List.set_cons_zero]
                    refine wpAnyH_take (i := 7) (oi := _) (v := ?_) (by simp only [List.getElem?_toArray, List.getElem?_cons_succ, List.getElem?_cons_zero]; rfl) (by kernel_rfl) (by kernel_rfl) (by kernel_rfl) (by exact fun _ _ _ h => h) (Or.inl ⟨by rfl, ?_⟩) (by assumption) ?_
                    rotate_left 1
                    · (intro w hSw; (try dsimp only at hSw); go_simp; try with_reducible rfl)
                    all_goals try simp only [Act.put]
                    all_goals try simp only [List.setIfInBounds_toArray]
                    all_goals try simp only [List.set_cons_succ]
                    all_goals try simp only [List.set_cons_zero]
                    refine wpAnyH_ready (rs := [9]) (by kernel_rfl) (by simp) ?_
                    refine (AllReadyH.cons (by simp only [List.getElem?_toArray, List.getElem?_cons_succ, List.getElem?_cons_zero]; rfl) (fun K hK => ?_) AllReadyH.nil)
                    -- a call of the region: srcFr_any w.heap.size 30 2 _ (by exact E.out.s) (by omega) (by omega) (by omega) (by omega) the contract, wf the world behind, u5 u6 the numbers
                    rw [if_pos (by rfl)]
                    go_simp
                    refine (srcFr_any w.heap.size 30 2 _ (by exact E.out.s) (by omega) (by omega) (by omega) (by omega)).mono ?_
                    rintro e wf ⟨u5, u6, _, rfl, hS, hk⟩
                    replace E := Lib.hid (E.out.kept hS hk); replace LS0 := Lib.hid (LS0.out.kept hk)
                    try (replace LS1 := Lib.hid (LS1.out.kept hk))
                    try (replace LS3 := Lib.hid (LS3.out.kept hk))
                    clear hS hk hHeld
                    clear f0 f1 f2 f3 hlf g0 g1 g2 g3 hlg
                    obtain ⟨f0, f1, f2, f3, hlf⟩ := E.out.va.q
                    obtain ⟨g0, g1, g2, g3, hlg⟩ := E.out.vl.q
                    dsimp only at f0 f1 f2 f3 g0 g1 g2 g3
                    refine hK.out _ _ (by exact ⟨⟨f0, f1, f2, f3⟩, g0, g1, g2, g3⟩) (fun hHeld => ?_)
                    clear hK K
                    try simp only [Act.put]
                    try simp only [List.setIfInBounds_toArray]
                    try simp only [List.set_cons_succ]
                    try simp only [List.set_cons_zero]
                    refine wpAnyH_ready (rs := [11]) (by kernel_rfl) (by simp) ?_
                    refine (AllReadyH.cons (by simp only [List.getElem?_toArray, List.getElem?_cons_succ, List.getElem?_cons_zero]; rfl) (fun K hK => ?_) AllReadyH.nil)
                    -- a call of the region: srcFr_any w.heap.size 6 4 _ (by exact E.out.s) (by omega) (by omega) (by omega) (by omega) the contract, wg the world behind, u7 u8 the numbers
                    rw [if_pos (by rfl)]
                    go_simp
                    refine (srcFr_any w.heap.size 6 4 _ (by exact E.out.s) (by omega) (by omega) (by omega) (by omega)).mono ?_
                    rintro e wg ⟨u7, u8, _, rfl, hS, hk⟩
                    replace E := Lib.hid (E.out.kept hS hk); replace LS0 := Lib.hid (LS0.out.kept hk)
                    try (replace LS1 := Lib.hid (LS1.out.kept hk))
                    try (replace LS3 := Lib.hid (LS3.out.kept hk))
                    clear hS hk hHeld
                    clear f0 f1 f2 f3 hlf g0 g1 g2 g3 hlg
                    obtain ⟨f0, f1, f2, f3, hlf⟩ := E.out.va.q
                    obtain ⟨g0, g1, g2, g3, hlg⟩ := E.out.vl.q
                    dsimp only at f0 f1 f2 f3 g0 g1 g2 g3
                    refine hK.out _ _ (by exact ⟨⟨f0, f1, f2, f3⟩, g0, g1, g2, g3⟩) (fun hHeld => ?_)
                    clear hK K
                    try simp only [Act.put]
                    try simp only [List.setIfInBounds_toArray]
                    try simp only [List.set_cons_succ]
                    try simp only [List.set_cons_zero]
                    refine wpAnyH_take (i := 12) (oi := _) (v := ?_) (by simp only [List.getElem?_toArray, List.getElem?_cons_succ, List.getElem?_cons_zero]; rfl) (by kernel_rfl) (by kernel_rfl) (by kernel_rfl) (by exact fun _ _ _ h => h) (Or.inl ⟨by rfl, ?_⟩) (by assumption) ?_
                    rotate_left 1
                    · (intro w hSw; (try dsimp only at hSw); go_simp; try with_reducible rfl)
                    all_goals try simp only [Act.put]
                    all_goals try simp only [List.setIfInBounds_toArray]
                    all_goals try simp only [List.set_cons_succ]
                    all_goals try simp only [List.set_cons_zero]
                    refine wpAnyH_ready (rs := [13]) (by kernel_rfl) (by simp) ?_
                    refine (AllReadyH.cons (by simp only [List.getElem?_toArray, List.getElem?_cons_succ, List.getElem?_cons_zero]; rfl) (fun K hK => ?_) AllReadyH.nil)
                    rw [if_pos (by rfl)]
                    go_simp
                    have hps := E.out.s.lt
                    have hb := balloc wg (.cells #[.int .i64 u1, .int .i64 u2, .int .i64 u3, .int .i64 u4, .int .i64 u5, .int .i64 u6, .int .i64 u7, .int .i64 u8] 27)
                    have LN := Lib.hid (LsQ.lit (w := wg) hps 27 [⟨u1, u2, u3, u4⟩, ⟨u5, u6, u7, u8⟩] 2 rfl (by omega))
                    generalize hwa : wg.alloc (.cells #[.int .i64 u1, .int .i64 u2, .int .i64 u3, .int .i64 u4, .int .i64 u5, .int .i64 u6, .int .i64 u7, .int .i64 u8] 27) = wh at *
                    replace LN := Lib.hid (show LsQ w.heap.size wh (some ⟨wg.heap.size, 0, none⟩) 2 2 [⟨u1, u2, u3, u4⟩, ⟨u5, u6, u7, u8⟩] by rw [← hwa]; exact LN.out)
                    clear hwa
                    -- hb the facts (Below) that all things are carried by
                    replace E := Lib.hid (E.out.below hb); replace LS0 := Lib.hid (LS0.out.below hb)
                    try (replace LS4 := Lib.hid (LS4.out.below hb))
                    try (replace SB := Lib.hid (SB.out.below hb SB.out.lt))
                    try (replace LB := Lib.hid (LB.out.below hb LB.out.lt))
                    try (replace LS1 := Lib.hid (LS1.out.below hb))
                    try (replace LS2 := Lib.hid (LS2.out.below hb))
                    try (replace LS3 := Lib.hid (LS3.out.below hb))
                    try (replace DX := Lib.hid (DX.out.below hb DX.out.lt))
                    try (replace F1 := Lib.hid (F1.out.below hb F1.out.lt))
                    try (replace I1 := Lib.hid (I1.out.ext hb))
                    have LS2 := LN
                    generalize wg.heap.size = G2 at *
                    clear LN hb hHeld hps
                    clear f0 f1 f2 f3 hlf g0 g1 g2 g3 hlg
                    obtain ⟨f0, f1, f2, f3, hlf⟩ := E.out.va.q
                    obtain ⟨g0, g1, g2, g3, hlg⟩ := E.out.vl.q
                    dsimp only at f0 f1 f2 f3 g0 g1 g2 g3
                    refine hK.out _ _ (by exact ⟨⟨f0, f1, f2, f3⟩, g0, g1, g2, g3⟩) (fun hHeld => ?_)
                    clear hK K
                    try simp only [Act.put]
                    try simp only [List.setIfInBounds_toArray]
                    try simp only [List.set_cons_succ]
                    try simp only [List.set_cons_zero]
                    refine wpAnyH_ready (rs := [15]) (by kernel_rfl) (by simp) ?_
                    refine (AllReadyH.cons (by simp only [List.getElem?_toArray, List.getElem?_cons_succ, List.getElem?_cons_zero]; rfl) (fun K hK => ?_) AllReadyH.nil)
                    rw [if_pos (by rfl)]
                    go_simp
                    have hps := E.out.s.lt
                    have hb := balloc wh (.cells #[.slice A2 n2 c2, .slice none 0 0, .slice (some ⟨G1, 0, none⟩) 1 1, .slice (some ⟨G2, 0, none⟩) 2 2, .slice (some ⟨G, 0, none⟩) nm nm] 39)
                    have LL := Lib.hid (Blk.new wh 39 #[.slice A2 n2 c2, .slice none 0 0, .slice (some ⟨G1, 0, none⟩) 1 1, .slice (some ⟨G2, 0, none⟩) 2 2, .slice (some ⟨G, 0, none⟩) nm nm])
                    generalize hwa : wh.alloc (.cells #[.slice A2 n2 c2, .slice none 0 0, .slice (some ⟨G1, 0, none⟩) 1 1, .slice (some ⟨G2, 0, none⟩) 2 2, .slice (some ⟨G, 0, none⟩) nm nm] 39) = wz at *
                    clear hwa
                    -- hb the facts (Below) that all things are carried by
                    replace E := Lib.hid (E.out.below hb); replace LS0 := Lib.hid (LS0.out.below hb)
                    try (replace LS4 := Lib.hid (LS4.out.below hb))
                    try (replace SB := Lib.hid (SB.out.below hb SB.out.lt))
                    try (replace LB := Lib.hid (LB.out.below hb LB.out.lt))
                    try (replace LS1 := Lib.hid (LS1.out.below hb))
                    try (replace LS2 := Lib.hid (LS2.out.below hb))
                    try (replace LS3 := Lib.hid (LS3.out.below hb))
                    try (replace DX := Lib.hid (DX.out.below hb DX.out.lt))
                    try (replace F1 := Lib.hid (F1.out.below hb F1.out.lt))
                    try (replace I1 := Lib.hid (I1.out.ext hb))
                    generalize wh.heap.size = bb at *
                    clear hb hHeld
                    clear f0 f1 f2 f3 hlf g0 g1 g2 g3 hlg
                    obtain ⟨f0, f1, f2, f3, hlf⟩ := E.out.va.q
                    obtain ⟨g0, g1, g2, g3, hlg⟩ := E.out.vl.q
                    dsimp only at f0 f1 f2 f3 g0 g1 g2 g3
                    refine hK.out _ _ (by exact ⟨⟨f0, f1, f2, f3⟩, g0, g1, g2, g3⟩) (fun hHeld => ?_)
                    clear hK K
                    try simp only [Act.put]
                    try simp only [List.setIfInBounds_toArray]
                    try simp only [List.set_cons_succ]
                    try simp only [List.set_cons_zero]
                    refine wpAnyH_take (i := 16) (oi := _) (v := ?_) (by simp only [List.getElem?_toArray, List.getElem?_cons_succ, List.getElem?_cons_zero]; rfl) (by kernel_rfl) (by kernel_rfl) (by kernel_rfl) (by exact fun _ _ _ h => h) (Or.inl ⟨by rfl, ?_⟩) (by assumption) ?_
                    rotate_left 1
                    · (intro w hSw; (try dsimp only at hSw); go_simp; try with_reducible rfl)
                    all_goals try simp only [Act.put]
                    all_goals try simp only [List.setIfInBounds_toArray]
                    all_goals try simp only [List.set_cons_succ]
                    all_goals try simp only [List.set_cons_zero]
                    refine wpAnyH_done (by kernel_rfl) ?_ _
                    clear hHeld
                    clear f0 f1 f2 f3 hlf g0 g1 g2 g3 hlg
                    go_wp2_with fail
                    go_meet
                    exact ⟨bb, G1, G2, _, rfl, rfl, rfl, E.out, LL.out, Nat.ne_of_gt hps, LS0.out, LS1.out, LS2.out, LS3.out⟩
                  · -- a call of the region: srcFr_any w.heap.size 6 3 _ (by exact E.out.s) (by omega) (by omega) (by omega) (by omega) the contract, wb the world behind, u3 u4 the numbers
                    rw [if_pos (by rfl)]
                    go_simp
                    refine (srcFr_any w.heap.size 6 3 _ (by exact E.out.s) (by omega) (by omega) (by omega) (by omega)).mono ?_
                    rintro e wb ⟨u3, u4, _, rfl, hS, hk⟩
                    replace E := Lib.hid (E.out.kept hS hk); replace LS0 := Lib.hid (LS0.out.kept hk)
                    try (replace LS1 := Lib.hid (LS1.out.kept hk))
                    try (replace LS3 := Lib.hid (LS3.out.kept hk))
                    clear hS hk hHeld
                    clear f0 f1 f2 f3 hlf g0 g1 g2 g3 hlg
                    obtain ⟨f0, f1, f2, f3, hlf⟩ := E.out.va.q
                    obtain ⟨g0, g1, g2, g3, hlg⟩ := E.out.vl.q
                    dsimp only at f0 f1 f2 f3 g0 g1 g2 g3
                    refine hK.out _ _ (by exact ⟨⟨f0, f1, f2, f3⟩, g0, g1, g2, g3⟩) (fun hHeld => ?_)
                    clear hK K
                    try simp only [Act.put]
                    try simp only [List.setIfInBounds_toArray]
                    try simp only [List.set_cons_succ]
                    try simp only [List.set_cons_zero]
                    refine wpAnyH_take (i := 7) (oi := _) (v := ?_) (by simp only [List.getElem?_toArray, List.getElem?_cons_succ, List.getElem?_cons_zero]; rfl) (by kernel_rfl) (by kernel_rfl) (by kernel_rfl) (by exact fun _ _ _ h => h) (Or.inl ⟨by rfl, ?_⟩) (by assumption) ?_
                    rotate_left 1
                    · (intro w hSw; (try dsimp only at hSw); go_simp; try with_reducible rfl)
                    all_goals try simp only [Act.put]
                    all_goals try simp only [List.setIfInBounds_toArray]
                    all_goals try simp only [List.set_cons_succ]
                    all_goals try simp only [List.set_cons_zero]
                    refine wpAnyH_ready (rs := [2, 9]) (by kernel_rfl) (by simp) ?_
                    refine (AllReadyH.cons (by simp only [List.getElem?_toArray, List.getElem?_cons_succ, List.getElem?_cons_zero]; rfl) (fun K hK => ?_) (AllReadyH.cons (by simp only [List.getElem?_toArray, List.getElem?_cons_succ, List.getElem?_cons_zero]; rfl) (fun K hK => ?_) AllReadyH.nil))
                    · rw [if_pos (by rfl)]
                      go_simp
                      have hps := E.out.s.lt
                      have hb := balloc wb (.cells #[.int .i64 y1, .int .i64 y2, .int .i64 y3, .int .i64 y4] 27)
                      have LN := Lib.hid (LsQ.lit (w := wb) hps 27 [⟨y1, y2, y3, y4⟩] 1 rfl (by omega))
                      generalize hwa : wb.alloc (.cells #[.int .i64 y1, .int .i64 y2, .int .i64 y3, .int .i64 y4] 27) = we at *
                      replace LN := Lib.hid (show LsQ w.heap.size we (some ⟨wb.heap.size, 0, none⟩) 1 1 [⟨y1, y2, y3, y4⟩] by rw [← hwa]; exact LN.out)
                      clear hwa
                      -- hb the facts (Below) that all things are carried by
                      replace E := Lib.hid (E.out.below hb); replace LS0 := Lib.hid (LS0.out.below hb)
                      try (replace LS4 := Lib.hid (LS4.out.below hb))
                      try (replace SB := Lib.hid (SB.out.below hb SB.out.lt))
                      try (replace LB := Lib.hid (LB.out.below hb LB.out.lt))
                      try (replace LS1 := Lib.hid (LS1.out.below hb))
                      try (replace LS2 := Lib.hid (LS2.out.below hb))
                      try (replace LS3 := Lib.hid (LS3.out.below hb))
                      try (replace DX := Lib.hid (DX.out.below hb DX.out.lt))
                      try (replace F1 := Lib.hid (F1.out.below hb F1.out.lt))
                      try (replace I1 := Lib.hid (I1.out.ext hb))
                      have LS1 := LN
                      generalize wb.heap.size = G1 at *
                      clear LN hb hHeld hps
                      clear f0 f1 f2 f3 hlf g0 g1 g2 g3 hlg
                      obtain ⟨f0, f1, f2, f3, hlf⟩ := E.out.va.q
                      obtain ⟨g0, g1, g2, g3, hlg⟩ := E.out.vl.q
                      dsimp only at f0 f1 f2 f3 g0 g1 g2 g3
                      refine hK.out _ _ (by exact ⟨⟨f0, f1, f2, f3⟩, g0, g1, g2, g3⟩) (fun hHeld => ?_)
                      clear hK K
                      try simp only [Act.put]
                      try simp only [List.setIfInBounds_toArray]
                      try simp only [List.set_cons_succ]
                      try simp only [List.set_cons_zero]
                      refine wpAnyH_ready (rs := [9]) (by kernel_rfl) (by simp) ?_
                      refine (AllReadyH.cons (by simp only [List.getElem?_toArray, List.getElem?_cons_succ, List.getElem?_cons_zero]; rfl) (fun K hK => ?_) AllReadyH.nil)
                      -- a call of the region: srcFr_any w.heap.size 30 2 _ (by exact E.out.s) (by omega) (by omega) (by omega) (by omega) the contract, wf the world behind, u5 u6 the numbers
                      rw [if_pos (by rfl)]
                      go_simp
                      refine (srcFr_any w.heap.size 30 2 _ (by exact E.out.s) (by omega) (by omega) (by omega) (by omega)).mono ?_
                      rintro e wf ⟨u5, u6, _, rfl, hS, hk⟩
                      replace E := Lib.hid (E.out.kept hS hk); replace LS0 := Lib.hid (LS0.out.kept hk)
                      try (replace LS1 := Lib.hid (LS1.out.kept hk))
                      try (replace LS3 := Lib.hid (LS3.out.kept hk))
                      clear hS hk hHeld
                      clear f0 f1 f2 f3 hlf g0 g1 g2 g3 hlg
                      obtain ⟨f0, f1, f2, f3, hlf⟩ := E.out.va.q
                      obtain ⟨g0, g1, g2, g3, hlg⟩ := E.out.vl.q
                      dsimp only at f0 f1 f2 f3 g0 g1 g2 g3
                      refine hK.out _ _ (by exact ⟨⟨f0, f1, f2, f3⟩, g0, g1, g2, g3⟩) (fun hHeld => ?_)
                      clear hK K
                      try simp only [Act.put]
                      try simp only [List.setIfInBounds_toArray]
                      try simp only [List.set_cons_succ]
                      try simp only [List.set_cons_zero]
                      refine wpAnyH_ready (rs := [11]) (by kernel_rfl) (by simp) ?_
                      refine (AllReadyH.cons (by simp only [List.getElem?_toArray, List.getElem?_cons_succ, List.getElem?_cons_zero]; rfl) (fun K hK => ?_) AllReadyH.nil)
                      -- a call of the region: srcFr_any w.heap.size 6 4 _ (by exact E.out.s) (by omega) (by omega) (by omega) (by omega) the contract, wg the world behind, u7 u8 the numbers
                      rw [if_pos (by rfl)]
                      go_simp
                      refine (srcFr_any w.heap.size 6 4 _ (by exact E.out.s) (by omega) (by omega) (by omega) (by omega)).mono ?_
                      rintro e wg ⟨u7, u8, _, rfl, hS, hk⟩
                      replace E := Lib.hid (E.out.kept hS hk); replace LS0 := Lib.hid (LS0.out.kept hk)
                      try (replace LS1 := Lib.hid (LS1.out.kept hk))
                      try (replace LS3 := Lib.hid (LS3.out.kept hk))
                      clear hS hk hHeld
                      clear f0 f1 f2 f3 hlf g0 g1 g2 g3 hlg
                      obtain ⟨f0, f1, f2, f3, hlf⟩ := E.out.va.q
                      obtain ⟨g0, g1, g2, g3, hlg⟩ := E.out.vl.q
                      dsimp only at f0 f1 f2 f3 g0 g1 g2 g3
                      refine hK.out _ _ (by exact ⟨⟨f0, f1, f2, f3⟩, g0, g1, g2, g3⟩) (fun hHeld => ?_)
                      clear hK K
                      try simp only [Act.put]
                      try simp only [List.setIfInBounds_toArray]
                      try simp only [List.set_cons_succ]
                      try simp only [List.set_cons_zero]
                      refine wpAnyH_take (i := 12) (oi := _) (v := ?_) (by simp only [List.getElem?_toArray, List.getElem?_cons_succ, List.getElem?_cons_zero]; rfl) (by kernel_rfl) (by kernel_rfl) (by kernel_rfl) (by exact fun _ _ _ h => h) (Or.inl ⟨by rfl, ?_⟩) (by assumption) ?_
                      rotate_left 1
                      · (intro w hSw; (try dsimp only at hSw); go_simp; try with_reducible rfl)
                      all_goals try simp only [Act.put]
                      all_goals try simp only [List.setIfInBounds_toArray]
                      all_goals try simp only [List.set_cons_succ]
                      all_goals try simp only [List.set_cons_zero]
                      refine wpAnyH_ready (rs := [13]) (by kernel_rfl) (by simp) ?_
                      refine (AllReadyH.cons (by simp only [List.getElem?_toArray, List.getElem?_cons_succ, List.getElem?_cons_zero]; rfl) (fun K hK => ?_) AllReadyH.nil)
                      rw [if_pos (by rfl)]
                      go_simp
                      have hps := E.out.s.lt
                      have hb := balloc wg (.cells #[.int .i64 u1, .int .i64 u2, .int .i64 u3, .int .i64 u4, .int .i64 u5, .int .i64 u6, .int .i64 u7, .int .i64 u8] 27)
                      have LN := Lib.hid (LsQ.lit (w := wg) hps 27 [⟨u1, u2, u3, u4⟩, ⟨u5, u6, u7, u8⟩] 2 rfl (by omega))
                      generalize hwa : wg.alloc (.cells #[.int .i64 u1, .int .i64 u2, .int .i64 u3, .int .i64 u4, .int .i64 u5, .int .i64 u6, .int .i64 u7, .int .i64 u8] 27) = wh at *
                      replace LN := Lib.hid (show LsQ w.heap.size wh (some ⟨wg.heap.size, 0, none⟩) 2 2 [⟨u1, u2, u3, u4⟩, ⟨u5, u6, u7, u8⟩] by rw [← hwa]; exact LN.out)
                      clear hwa
                      -- hb the facts (Below) that all things are carried by
                      replace E := Lib.hid (E.out.below hb); replace LS0 := Lib.hid (LS0.out.below hb)
                      try (replace LS4 := Lib.hid (LS4.out.below hb))
                      try (replace SB := Lib.hid (SB.out.below hb SB.out.lt))
                      try (replace LB := Lib.hid (LB.out.below hb LB.out.lt))
                      try (replace LS1 := Lib.hid (LS1.out.below hb))
                      try (replace LS2 := Lib.hid (LS2.out.below hb))
                      try (replace LS3 := Lib.hid (LS3.out.below hb))
                      try (replace DX := Lib.hid (DX.out.below hb DX.out.lt))
                      try (replace F1 := Lib.hid (F1.out.below hb F1.out.lt))
                      try (replace I1 := Lib.hid (I1.out.ext hb))
                      have LS2 := LN
                      generalize wg.heap.size = G2 at *
                      clear LN hb hHeld hps
                      clear f0 f1 f2 f3 hlf g0 g1 g2 g3 hlg
                      obtain ⟨f0, f1, f2, f3, hlf⟩ := E.out.va.q
                      obtain ⟨g0, g1, g2, g3, hlg⟩ := E.out.vl.q
                      dsimp only at f0 f1 f2 f3 g0 g1 g2 g3
                      refine hK.out _ _ (by exact ⟨⟨f0, f1, f2, f3⟩, g0, g1, g2, g3⟩) (fun hHeld => ?_)
                      clear hK K
                      try simp only [Act.put]
                      try simp only [List.setIfInBounds_toArray]
                      try simp only [List.set_cons_succ]
                      try simp only [List.set_cons_zero]
                      refine wpAnyH_ready (rs := [15]) (by kernel_rfl) (by simp) ?_
                      refine (AllReadyH.cons (by simp only [List.getElem?_toArray, List.getElem?_cons_succ, List.getElem?_cons_zero]; rfl) (fun K hK => ?_) AllReadyH.nil)
                      rw [if_pos (by rfl)]
                      go_simp
                      have hps := E.out.s.lt
                      have hb := balloc wh (.cells #[.slice A2 n2 c2, .slice none 0 0, .slice (some ⟨G1, 0, none⟩) 1 1, .slice (some ⟨G2, 0, none⟩) 2 2, .slice (some ⟨G, 0, none⟩) nm nm] 39)
                      have LL := Lib.hid (Blk.new wh 39 #[.slice A2 n2 c2, .slice none 0 0, .slice (some ⟨G1, 0, none⟩) 1 1, .slice (some ⟨G2, 0, none⟩) 2 2, .slice (some ⟨G, 0, none⟩) nm nm])
                      generalize hwa : wh.alloc (.cells #[.slice A2 n2 c2, .slice none 0 0, .slice (some ⟨G1, 0, none⟩) 1 1, .slice (some ⟨G2, 0, none⟩) 2 2, .slice (some ⟨G, 0, none⟩) nm nm] 39) = wz at *
                      clear hwa
                      -- hb the facts (Below) that all things are carried by
                      replace E := Lib.hid (E.out.below hb); replace LS0 := Lib.hid (LS0.out.below hb)
                      try (replace LS4 := Lib.hid (LS4.out.below hb))
                      try (replace SB := Lib.hid (SB.out.below hb SB.out.lt))
                      try (replace LB := Lib.hid (LB.out.below hb LB.out.lt))
                      try (replace LS1 := Lib.hid (LS1.out.below hb))
                      try (replace LS2 := Lib.hid (LS2.out.below hb))
                      try (replace LS3 := Lib.hid (LS3.out.below hb))
                      try (replace DX := Lib.hid (DX.out.below hb DX.out.lt))
                      try (replace F1 := Lib.hid (F1.out.below hb F1.out.lt))
                      try (replace I1 := Lib.hid (I1.out.ext hb))
                      generalize wh.heap.size = bb at *
                      clear hb hHeld
                      clear f0 f1 f2 f3 hlf g0 g1 g2 g3 hlg
                      obtain ⟨f0, f1, f2, f3, hlf⟩ := E.out.va.q
                      obtain ⟨g0, g1, g2, g3, hlg⟩ := E.out.vl.q
                      dsimp only at f0 f1 f2 f3 g0 g1 g2 g3
                      refine hK.out _ _ (by exact ⟨⟨f0, f1, f2, f3⟩, g0, g1, g2, g3⟩) (fun hHeld => ?_)
                      clear hK K
                      try simp only [Act.put]
                      try simp only [List.setIfInBounds_toArray]
                      try simp only [List.set_cons_succ]
                      try simp only [List.set_cons_zero]
                      refine wpAnyH_take (i := 16) (oi := _) (v := ?_) (by simp only [List.getElem?_toArray, List.getElem?_cons_succ, List.getElem?_cons_zero]; rfl) (by kernel_rfl) (by kernel_rfl) (by kernel_rfl) (by exact fun _ _ _ h => h) (Or.inl ⟨by rfl, ?_⟩) (by assumption) ?_
                      rotate_left 1
                      · (intro w hSw; (try dsimp only at hSw); go_simp; try with_reducible rfl)
                      all_goals try simp only [Act.put]
                      all_goals try simp only [List.setIfInBounds_toArray]
                      all_goals try simp only [List.set_cons_succ]
                      all_goals try simp only [List.set_cons_zero]
                      refine wpAnyH_done (by kernel_rfl) ?_ _
                      clear hHeld
                      clear f0 f1 f2 f3 hlf g0 g1 g2 g3 hlg
                      go_wp2_with fail
                      go_meet
                      exact ⟨bb, G1, G2, _, rfl, rfl, rfl, E.out, LL.out, Nat.ne_of_gt hps, LS0.out, LS1.out, LS2.out, LS3.out⟩
                    · -- a call of the region: srcFr_any w.heap.size 30 2 _ (by exact E.out.s) (by omega) (by omega) (by omega) (by omega) the contract, we the world behind, u5 u6 the numbers
                      rw [if_pos (by rfl)]
                      go_simp
                      refine (srcFr_any w.heap.size 30 2 _ (by exact E.out.s) (by omega) (by omega) (by omega) (by omega)).mono ?_
                      rintro e we ⟨u5, u6, _, rfl, hS, hk⟩
                      replace E := Lib.hid (E.out.kept hS hk); replace LS0 := Lib.hid (LS0.out.kept hk)
                      try (replace LS1 := Lib.hid (LS1.out.kept hk))
                      try (replace LS3 := Lib.hid (LS3.out.kept hk))
                      clear hS hk hHeld
                      clear f0 f1 f2 f3 hlf g0 g1 g2 g3 hlg
                      obtain ⟨f0, f1, f2, f3, hlf⟩ := E.out.va.q
                      obtain ⟨g0, g1, g2, g3, hlg⟩ := E.out.vl.q
                      dsimp only at f0 f1 f2 f3 g0 g1 g2 g3
                      refine hK.out _ _ (by exact ⟨⟨f0, f1, f2, f3⟩, g0, g1, g2, g3⟩) (fun hHeld => ?_)
                      clear hK K
                      try simp only [Act.put]
                      try simp only [List.setIfInBounds_toArray]
                      try simp only [List.set_cons_succ]
                      try simp only [List.set_cons_zero]
                      refine wpAnyH_ready (rs := [2, 11]) (by kernel_rfl) (by simp) ?_
                      refine (AllReadyH.cons (by simp only [List.getElem?_toArray, List.getElem?_cons_succ, List.getElem?_cons_zero]; rfl) (fun K hK => ?_) (AllReadyH.cons (by simp only [List.getElem?_toArray, List.getElem?_cons_succ, List.getElem?_cons_zero]; rfl) (fun K hK => ?_) AllReadyH.nil))
                      · rw [if_pos (by rfl)]
                        go_simp
                        have hps := E.out.s.lt
                        have hb := balloc we (.cells #[.int .i64 y1, .int .i64 y2, .int .i64 y3, .int .i64 y4] 27)
                        have LN := Lib.hid (LsQ.lit (w := we) hps 27 [⟨y1, y2, y3, y4⟩] 1 rfl (by omega))
                        generalize hwa : we.alloc (.cells #[.int .i64 y1, .int .i64 y2, .int .i64 y3, .int .i64 y4] 27) = wf at *
                        replace LN := Lib.hid (show LsQ w.heap.size wf (some ⟨we.heap.size, 0, none⟩) 1 1 [⟨y1, y2, y3, y4⟩] by rw [← hwa]; exact LN.out)
                        clear hwa
                        -- hb the facts (Below) that all things are carried by
                        replace E := Lib.hid (E.out.below hb); replace LS0 := Lib.hid (LS0.out.below hb)
                        try (replace LS4 := Lib.hid (LS4.out.below hb))
                        try (replace SB := Lib.hid (SB.out.below hb SB.out.lt))
                        try (replace LB := Lib.hid (LB.out.below hb LB.out.lt))
                        try (replace LS1 := Lib.hid (LS1.out.below hb))
                        try (replace LS2 := Lib.hid (LS2.out.below hb))
                        try (replace LS3 := Lib.hid (LS3.out.below hb))
                        try (replace DX := Lib.hid (DX.out.below hb DX.out.lt))
                        try (replace F1 := Lib.hid (F1.out.below hb F1.out.lt))
                        try (replace I1 := Lib.hid (I1.out.ext hb))
                        have LS1 := LN
                        generalize we.heap.size = G1 at *
                        clear LN hb hHeld hps
                        clear f0 f1 f2 f3 hlf g0 g1 g2 g3 hlg
                        obtain ⟨f0, f1, f2, f3, hlf⟩ := E.out.va.q
                        obtain ⟨g0, g1, g2, g3, hlg⟩ := E.out.vl.q
                        dsimp only at f0 f1 f2 f3 g0 g1 g2 g3
                        refine hK.out _ _ (by exact ⟨⟨f0, f1, f2, f3⟩, g0, g1, g2, g3⟩) (fun hHeld => ?_)
                        clear hK K
                        try simp only [Act.put]
                        try simp only [List.setIfInBounds_toArray]
                        try simp only [List.set_cons_succ]
                        try simp only [List.set_cons_zero]
                        refine wpAnyH_ready (rs := [11]) (by kernel_rfl) (by simp) ?_
                        refine (AllReadyH.cons (by simp only [List.getElem?_toArray, List.getElem?_cons_succ, List.getElem?_cons_zero]; rfl) (fun K hK => ?_) AllReadyH.nil)
                        -- a call of the region: srcFr_any w.heap.size 6 4 _ (by exact E.out.s) (by omega) (by omega) (by omega) (by omega) the contract, wg the world behind, u7 u8 the numbers
                        rw [if_pos (by rfl)]
                        go_simp
                        refine (srcFr_any w.heap.size 6 4 _ (by exact E.out.s) (by omega) (by omega) (by omega) (by omega)).mono ?_
                        rintro e wg ⟨u7, u8, _, rfl, hS, hk⟩
                        replace E := Lib.hid (E.out.kept hS hk); replace LS0 := Lib.hid (LS0.out.kept hk)
                        try (replace LS1 := Lib.hid (LS1.out.kept hk))
                        try (replace LS3 := Lib.hid (LS3.out.kept hk))
                        clear hS hk hHeld
                        clear f0 f1 f2 f3 hlf g0 g1 g2 g3 hlg
                        obtain ⟨f0, f1, f2, f3, hlf⟩ := E.out.va.q
                        obtain ⟨g0, g1, g2, g3, hlg⟩ := E.out.vl.q
                        dsimp only at f0 f1 f2 f3 g0 g1 g2 g3
                        refine hK.out _ _ (by exact ⟨⟨f0, f1, f2, f3⟩, g0, g1, g2, g3⟩) (fun hHeld => ?_)
                        clear hK K
                        try simp only [Act.put]
                        try simp only [List.setIfInBounds_toArray]
                        try simp only [List.set_cons_succ]
                        try simp only [List.set_cons_zero]
                        refine wpAnyH_take (i := 12) (oi := _) (v := ?_) (by simp only [List.getElem?_toArray, List.getElem?_cons_succ, List.getElem?_cons_zero]; rfl) (by kernel_rfl) (by kernel_rfl) (by kernel_rfl) (by exact fun _ _ _ h => h) (Or.inl ⟨by rfl, ?_⟩) (by assumption) ?_
                        rotate_left 1
                        · (intro w hSw; (try dsimp only at hSw); go_simp; try with_reducible rfl)
                        all_goals try simp only [Act.put]
                        all_goals try simp only [List.setIfInBounds_toArray]
                        all_goals try simp only [List.set_cons_succ]
                        all_goals try simp only [List.set_cons_zero]
                        refine wpAnyH_ready (rs := [13]) (by kernel_rfl) (by simp) ?_
                        refine (AllReadyH.cons (by simp only [List.getElem?_toArray, List.getElem?_cons_succ, List.getElem?_cons_zero]; rfl) (fun K hK => ?_) AllReadyH.nil)
                        rw [if_pos (by rfl)]
                        go_simp
                        have hps := E.out.s.lt
                        have hb := balloc wg (.cells #[.int .i64 u1, .int .i64 u2, .int .i64 u3, .int .i64 u4, .int .i64 u5, .int .i64 u6, .int .i64 u7, .int .i64 u8] 27)
                        have LN := Lib.hid (LsQ.lit (w := wg) hps 27 [⟨u1, u2, u3, u4⟩, ⟨u5, u6, u7, u8⟩] 2 rfl (by omega))
                        generalize hwa : wg.alloc (.cells #[.int .i64 u1, .int .i64 u2, .int .i64 u3, .int .i64 u4, .int .i64 u5, .int .i64 u6, .int .i64 u7, .int .i64 u8] 27) = wh at *
                        replace LN := Lib.hid (show LsQ w.heap.size wh (some ⟨wg.heap.size, 0, none⟩) 2 2 [⟨u1, u2, u3, u4⟩, ⟨u5, u6, u7, u8⟩] by rw [← hwa]; exact LN.out)
                        clear hwa
                        -- hb the facts (Below) that all things are carried by
                        replace E := Lib.hid (E.out.below hb); replace LS0 := Lib.hid (LS0.out.below hb)
                        try (replace LS4 := Lib.hid (LS4.out.below hb))
                        try (replace SB := Lib.hid (SB.out.below hb SB.out.lt))
                        try (replace LB := Lib.hid (LB.out.below hb LB.out.lt))
                        try (replace LS1 := Lib.hid (LS1.out.below hb))
                        try (replace LS2 := Lib.hid (LS2.out.below hb))
                        try (replace LS3 := Lib.hid (LS3.out.below hb))
                        try (replace DX := Lib.hid (DX.out.below hb DX.out.lt))
                        try (replace F1 := Lib.hid (F1.out.below hb F1.out.lt))
                        try (replace I1 := Lib.hid (I1.out.ext hb))
                        have LS2 := LN
                        generalize wg.heap.size = G2 at *
                        clear LN hb hHeld hps
                        clear f0 f1 f2 f3 hlf g0 g1 g2 g3 hlg
                        obtain ⟨f0, f1, f2, f3, hlf⟩ := E.out.va.q
                        obtain ⟨g0, g1, g2, g3, hlg⟩ := E.out.vl.q
                        dsimp only at f0 f1 f2 f3 g0 g1 g2 g3
                        refine hK.out _ _ (by exact ⟨⟨f0, f1, f2, f3⟩, g0, g1, g2, g3⟩) (fun hHeld => ?_)
                        clear hK K
                        try simp only [Act.put]
                        try simp only [List.setIfInBounds_toArray]
                        try simp only [List.set_cons_succ]
                        try simp only [List.set_cons_zero]
                        refine wpAnyH_ready (rs := [15]) (by kernel_rfl) (by simp) ?_
                        refine (AllReadyH.cons (by simp only [List.getElem?_toArray, List.getElem?_cons_succ, List.getElem?_cons_zero]; rfl) (fun K hK => ?_) AllReadyH.nil)
                        rw [if_pos (by rfl)]
                        go_simp
                        have hps := E.out.s.lt
                        have hb := balloc wh (.cells #[.slice A2 n2 c2, .slice none 0 0, .slice (some ⟨G1, 0, none⟩) 1 1, .slice (some ⟨G2, 0, none⟩) 2 2, .slice (some ⟨G, 0, none⟩) nm nm] 39)
                        have LL := Lib.hid (Blk.new wh 39 #[.slice A2 n2 c2, .slice none 0 0, .slice (some ⟨G1, 0, none⟩) 1 1, .slice (some ⟨G2, 0, none⟩) 2 2, .slice (some ⟨G, 0, none⟩) nm nm])
                        generalize hwa : wh.alloc (.cells #[.slice A2 n2 c2, .slice none 0 0, .slice (some ⟨G1, 0, none⟩) 1 1, .slice (some ⟨G2, 0, none⟩) 2 2, .slice (some ⟨G, 0, none⟩) nm nm] 39) = wz at *
                        clear hwa
                        -- hb the facts (Below) that all things are carried by
                        replace E := Lib.hid (E.out.below hb); replace LS0 := Lib.hid (LS0.out.below hb)
                        try (replace LS4 := Lib.hid (LS4.out.below hb))
                        try (replace SB := Lib.hid (SB.out.below hb SB.out.lt))
                        try (replace LB := Lib.hid (LB.out.below hb LB.out.lt))
                        try (replace LS1 := Lib.hid (LS1.out.below hb))
                        try (replace LS2 := Lib.hid (LS2.out.below hb))
                        try (replace LS3 := Lib.hid (LS3.out.below hb))
                        try (replace DX := Lib.hid (DX.out.below hb DX.out.lt))
                        try (replace F1 := Lib.hid (F1.out.below hb F1.out.lt))
                        try (replace I1 := Lib.hid (I1.out.ext hb))
                        generalize wh.heap.size = bb at *
                        clear hb hHeld
                        clear f0 f1 f2 f3 hlf g0 g1 g2 g3 hlg
                        obtain ⟨f0, f1, f2, f3, hlf⟩ := E.out.va.q
                        obtain ⟨g0, g1, g2, g3, hlg⟩ := E.out.vl.q
                        dsimp only at f0 f1 f2 f3 g0 g1 g2 g3
                        refine hK.out _ _ (by exact ⟨⟨f0, f1, f2, f3⟩, g0, g1, g2, g3⟩) (fun hHeld => ?_)
                        clear hK K
                        try simp only [Act.put]
                        try simp only [List.setIfInBounds_toArray]
                        try simp only [List.set_cons_succ]
                        try simp only [List.set_cons_zero]
                        refine wpAnyH_take (i := 16) (oi := _) (v := ?_) (by simp only [List.getElem?_toArray, List.getElem?_cons_succ, List.getElem?_cons_zero]; rfl) (by kernel_rfl) (by kernel_rfl) (by kernel_rfl) (by exact fun _ _ _ h => h) (Or.inl ⟨by rfl, ?_⟩) (by assumption) ?_
                        rotate_left 1
                        · (intro w hSw; (try dsimp only at hSw); go_simp; try with_reducible rfl)
                        all_goals try simp only [Act.put]
                        all_goals try simp only [List.setIfInBounds_toArray]
                        all_goals try simp only [List.set_cons_succ]
                        all_goals try simp only [List.set_cons_zero]
                        refine wpAnyH_done (by kernel_rfl) ?_ _
                        clear hHeld
                        clear f0 f1 f2 f3 hlf g0 g1 g2 g3 hlg
                        go_wp2_with fail
                        go_meet
                        exact ⟨bb, G1, G2, _, rfl, rfl, rfl, E.out, LL.out, Nat.ne_of_gt hps, LS0.out, LS1.out, LS2.out, LS3.out⟩
                      · -- a call of the region: srcFr_any w.heap.size 6 4 _ (by exact E.out.s) (by omega) (by omega) (by omega) (by omega) the contract, wf the world behind, u7 u8 the numbers
                        rw [if_pos (by rfl)]
                        go_simp
                        refine (srcFr_any w.heap.size 6 4 _ (by exact E.out.s) (by omega) (by omega) (by omega) (by omega)).mono ?_
                        rintro e wf ⟨u7, u8, _, rfl, hS, hk⟩
                        replace E := Lib.hid (E.out.kept hS hk); replace LS0 := Lib.hid (LS0.out.kept hk)
                        try (replace LS1 := Lib.hid (LS1.out.kept hk))
                        try (replace LS3 := Lib.hid (LS3.out.kept hk))
                        clear hS hk hHeld
                        clear f0 f1 f2 f3 hlf g0 g1 g2 g3 hlg
                        obtain ⟨f0, f1, f2, f3, hlf⟩ := E.out.va.q
                        obtain ⟨g0, g1, g2, g3, hlg⟩ := E.out.vl.q
                        dsimp only at f0 f1 f2 f3 g0 g1 g2 g3
                        refine hK.out _ _ (by exact ⟨⟨f0, f1, f2, f3⟩, g0, g1, g2, g3⟩) (fun hHeld => ?_)
                        clear hK K
                        try simp only [Act.put]
                        try simp only [List.setIfInBounds_toArray]
                        try simp only [List.set_cons_succ]
                        try simp only [List.set_cons_zero]
                        refine wpAnyH_take (i := 12) (oi := _) (v := ?_) (by simp only [List.getElem?_toArray, List.getElem?_cons_succ, List.getElem?_cons_zero]; rfl) (by kernel_rfl) (by kernel_rfl) (by kernel_rfl) (by exact fun _ _ _ h => h) (Or.inl ⟨by rfl, ?_⟩) (by assumption) ?_
                        rotate_left 1
                        · (intro w hSw; (try dsimp only at hSw); go_simp; try with_reducible rfl)
                        all_goals try simp only [Act.put]
                        all_goals try simp only [List.setIfInBounds_toArray]
                        all_goals try simp only [List.set_cons_succ]
                        all_goals try simp only [List.set_cons_zero]
                        refine wpAnyH_ready (rs := [2, 13]) (by kernel_rfl) (by simp) ?_
                        refine (AllReadyH.cons (by simp only [List.getElem?_toArray, List.getElem?_cons_succ, List.getElem?_cons_zero]; rfl) (fun K hK => ?_) (AllReadyH.cons (by simp only [List.getElem?_toArray, List.getElem?_cons_succ, List.getElem?_cons_zero]; rfl) (fun K hK => ?_) AllReadyH.nil))
                        · rw [if_pos (by rfl)]
                          go_simp
                          have hps := E.out.s.lt
                          have hb := balloc wf (.cells #[.int .i64 y1, .int .i64 y2, .int .i64 y3, .int .i64 y4] 27)
                          have LN := Lib.hid (LsQ.lit (w := wf) hps 27 [⟨y1, y2, y3, y4⟩] 1 rfl (by omega))
                          generalize hwa : wf.alloc (.cells #[.int .i64 y1, .int .i64 y2, .int .i64 y3, .int .i64 y4] 27) = wg at *
                          replace LN := Lib.hid (show LsQ w.heap.size wg (some ⟨wf.heap.size, 0, none⟩) 1 1 [⟨y1, y2, y3, y4⟩] by rw [← hwa]; exact LN.out)
                          clear hwa
                          -- hb the facts (Below) that all things are carried by
                          replace E := Lib.hid (E.out.below hb); replace LS0 := Lib.hid (LS0.out.below hb)
                          try (replace LS4 := Lib.hid (LS4.out.below hb))
                          try (replace SB := Lib.hid (SB.out.below hb SB.out.lt))
                          try (replace LB := Lib.hid (LB.out.below hb LB.out.lt))
                          try (replace LS1 := Lib.hid (LS1.out.below hb))
                          try (replace LS2 := Lib.hid (LS2.out.below hb))
                          try (replace LS3 := Lib.hid (LS3.out.below hb))
                          try (replace DX := Lib.hid (DX.out.below hb DX.out.lt))
                          try (replace F1 := Lib.hid (F1.out.below hb F1.out.lt))
                          try (replace I1 := Lib.hid (I1.out.ext hb))
                          have LS1 := LN
                          generalize wf.heap.size = G1 at *
                          clear LN hb hHeld hps
                          clear f0 f1 f2 f3 hlf g0 g1 g2 g3 hlg
                          obtain ⟨f0, f1, f2, f3, hlf⟩ := E.out.va.q
                          obtain ⟨g0, g1, g2, g3, hlg⟩ := E.out.vl.q
                          dsimp only at f0 f1 f2 f3 g0 g1 g2 g3
                          refine hK.out _ _ (by exact ⟨⟨f0, f1, f2, f3⟩, g0, g1, g2, g3⟩) (fun hHeld => ?_)
                          clear hK K
                          try simp only [Act.put]
                          try simp only [List.setIfInBounds_toArray]
                          try simp only [List.set_cons_succ]
                          try simp only [List.set_cons_zero]
                          refine wpAnyH_ready (rs := [13]) (by kernel_rfl) (by simp) ?_
                          refine (AllReadyH.cons (by simp only [List.getElem?_toArray, List.getElem?_cons_succ, List.getElem?_cons_zero]; rfl) (fun K hK => ?_) AllReadyH.nil)
                          rw [if_pos (by rfl)]
                          go_simp
                          have hps := E.out.s.lt
                          have hb := balloc wg (.cells #[.int .i64 u1, .int .i64 u2, .int .i64 u3, .int .i64 u4, .int .i64 u5, .int .i64 u6, .int .i64 u7, .int .i64 u8] 27)
                          have LN := Lib.hid (LsQ.lit (w := wg) hps 27 [⟨u1, u2, u3, u4⟩, ⟨u5, u6, u7, u8⟩] 2 rfl (by omega))
                          generalize hwa : wg.alloc (.cells #[.int .i64 u1, .int .i64 u2, .int .i64 u3, .int .i64 u4, .int .i64 u5, .int .i64 u6, .int .i64 u7, .int .i64 u8] 27) = wh at *
                          replace LN := Lib.hid (show LsQ w.heap.size wh (some ⟨wg.heap.size, 0, none⟩) 2 2 [⟨u1, u2, u3, u4⟩, ⟨u5, u6, u7, u8⟩] by rw [← hwa]; exact LN.out)
                          clear hwa
                          -- hb the facts (Below) that all things are carried by
                          replace E := Lib.hid (E.out.below hb); replace LS0 := Lib.hid (LS0.out.below hb)
                          try (replace LS4 := Lib.hid (LS4.out.below hb))
                          try (replace SB := Lib.hid (SB.out.below hb SB.out.lt))
                          try (replace LB := Lib.hid (LB.out.below hb LB.out.lt))
                          try (replace LS1 := Lib.hid (LS1.out.below hb))
                          try (replace LS2 := Lib.hid (LS2.out.below hb))
                          try (replace LS3 := Lib.hid (LS3.out.below hb))
                          try (replace DX := Lib.hid (DX.out.below hb DX.out.lt))
                          try (replace F1 := Lib.hid (F1.out.below hb F1.out.lt))
                          try (replace I1 := Lib.hid (I1.out.ext hb))
                          have LS2 := LN
                          generalize wg.heap.size = G2 at *
                          clear LN hb hHeld hps
                          clear f0 f1 f2 f3 hlf g0 g1 g2 g3 hlg
                          obtain ⟨f0, f1, f2, f3, hlf⟩ := E.out.va.q
                          obtain ⟨g0, g1, g2, g3, hlg⟩ := E.out.vl.q
                          dsimp only at f0 f1 f2 f3 g0 g1 g2 g3
                          refine hK.out _ _ (by exact ⟨⟨f0, f1, f2, f3⟩, g0, g1, g2, g3⟩) (fun hHeld => ?_)
                          clear hK K
                          try simp only [Act.put]
                          try simp only [List.setIfInBounds_toArray]
                          try simp only [List.set_cons_succ]
                          try simp only [List.set_cons_zero]
                          refine wpAnyH_ready (rs := [15]) (by kernel_rfl) (by simp) ?_
                          refine (AllReadyH.cons (by simp only [List.getElem?_toArray, List.getElem?_cons_succ, List.getElem?_cons_zero]; rfl) (fun K hK => ?_) AllReadyH.nil)
                          rw [if_pos (by rfl)]
                          go_simp
                          have hps := E.out.s.lt
                          have hb := balloc wh (.cells #[.slice A2 n2 c2, .slice none 0 0, .slice (some ⟨G1, 0, none⟩) 1 1, .slice (some ⟨G2, 0, none⟩) 2 2, .slice (some ⟨G, 0, none⟩) nm nm] 39)
                          have LL := Lib.hid (Blk.new wh 39 #[.slice A2 n2 c2, .slice none 0 0, .slice (some ⟨G1, 0, none⟩) 1 1, .slice (some ⟨G2, 0, none⟩) 2 2, .slice (some ⟨G, 0, none⟩) nm nm])
                          generalize hwa : wh.alloc (.cells #[.slice A2 n2 c2, .slice none 0 0, .slice (some ⟨G1, 0, none⟩) 1 1, .slice (some ⟨G2, 0, none⟩) 2 2, .slice (some ⟨G, 0, none⟩) nm nm] 39) = wz at *
                          clear hwa
                          -- hb the facts (Below) that all things are carried by
                          replace E := Lib.hid (E.out.below hb); replace LS0 := Lib.hid (LS0.out.below hb)
                          try (replace LS4 := Lib.hid (LS4.out.below hb))
                          try (replace SB := Lib.hid (SB.out.below hb SB.out.lt))
                          try (replace LB := Lib.hid (LB.out.below hb LB.out.lt))
                          try (replace LS1 := Lib.hid (LS1.out.below hb))
                          try (replace LS2 := Lib.hid (LS2.out.below hb))
                          try (replace LS3 := Lib.hid (LS3.out.below hb))
                          try (replace DX := Lib.hid (DX.out.below hb DX.out.lt))
                          try (replace F1 := Lib.hid (F1.out.below hb F1.out.lt))
                          try (replace I1 := Lib.hid (I1.out.ext hb))
                          generalize wh.heap.size = bb at *
                          clear hb hHeld
                          clear f0 f1 f2 f3 hlf g0 g1 g2 g3 hlg
                          obtain ⟨f0, f1, f2, f3, hlf⟩ := E.out.va.q
                          obtain ⟨g0, g1, g2, g3, hlg⟩ := E.out.vl.q
                          dsimp only at f0 f1 f2 f3 g0 g1 g2 g3
                          refine hK.out _ _ (by exact ⟨⟨f0, f1, f2, f3⟩, g0, g1, g2, g3⟩) (fun hHeld => ?_)
                          clear hK K
                          try simp only [Act.put]
                          try simp only [List.setIfInBounds_toArray]
                          try simp only [List.set_cons_succ]
                          try simp only [List.set_cons_zero]
                          refine wpAnyH_take (i := 16) (oi := _) (v := ?_) (by simp only [List.getElem?_toArray, List.getElem?_cons_succ, List.getElem?_cons_zero]; rfl) (by kernel_rfl) (by kernel_rfl) (by kernel_rfl) (by exact fun _ _ _ h => h) (Or.inl ⟨by rfl, ?_⟩) (by assumption) ?_
                          rotate_left 1
                          · (intro w hSw; (try dsimp only at hSw); go_simp; try with_reducible rfl)
                          all_goals try simp only [Act.put]
                          all_goals try simp only [List.setIfInBounds_toArray]
                          all_goals try simp only [List.set_cons_succ]
                          all_goals try simp only [List.set_cons_zero]
                          refine wpAnyH_done (by kernel_rfl) ?_ _
                          clear hHeld
                          clear f0 f1 f2 f3 hlf g0 g1 g2 g3 hlg
                          go_wp2_with fail
                          go_meet
                          exact ⟨bb, G1, G2, _, rfl, rfl, rfl, E.out, LL.out, Nat.ne_of_gt hps, LS0.out, LS1.out, LS2.out, LS3.out⟩
                        · rw [if_pos (by rfl)]
                          go_simp
                          have hps := E.out.s.lt
                          have hb := balloc wf (.cells #[.int .i64 u1, .int .i64 u2, .int .i64 u3, .int .i64 u4, .int .i64 u5, .int .i64 u6, .int .i64 u7, .int .i64 u8] 27)
                          have LN := Lib.hid (LsQ.lit (w := wf) hps 27 [⟨u1, u2, u3, u4⟩, ⟨u5, u6, u7, u8⟩] 2 rfl (by omega))
                          generalize hwa : wf.alloc (.cells #[.int .i64 u1, .int .i64 u2, .int .i64 u3, .int .i64 u4, .int .i64 u5, .int .i64 u6, .int .i64 u7, .int .i64 u8] 27) = wg at *
                          replace LN := Lib.hid (show LsQ w.heap.size wg (some ⟨wf.heap.size, 0, none⟩) 2 2 [⟨u1, u2, u3, u4⟩, ⟨u5, u6, u7, u8⟩] by rw [← hwa]; exact LN.out)
                          clear hwa
                          -- hb the facts (Below) that all things are carried by
                          replace E := Lib.hid (E.out.below hb); replace LS0 := Lib.hid (LS0.out.below hb)
                          try (replace LS4 := Lib.hid (LS4.out.below hb))
                          try (replace SB := Lib.hid (SB.out.below hb SB.out.lt))
                          try (replace LB := Lib.hid (LB.out.below hb LB.out.lt))
                          try (replace LS1 := Lib.hid (LS1.out.below hb))
                          try (replace LS2 := Lib.hid (LS2.out.below hb))
                          try (replace LS3 := Lib.hid (LS3.out.below hb))
                          try (replace DX := Lib.hid (DX.out.below hb DX.out.lt))
                          try (replace F1 := Lib.hid (F1.out.below hb F1.out.lt))
                          try (replace I1 := Lib.hid (I1.out.ext hb))
                          have LS2 := LN
                          generalize wf.heap.size = G2 at *
                          clear LN hb hHeld hps
                          clear f0 f1 f2 f3 hlf g0 g1 g2 g3 hlg
                          obtain ⟨f0, f1, f2, f3, hlf⟩ := E.out.va.q
                          obtain ⟨g0, g1, g2, g3, hlg⟩ := E.out.vl.q
                          dsimp only at f0 f1 f2 f3 g0 g1 g2 g3
                          refine hK.out _ _ (by exact ⟨⟨f0, f1, f2, f3⟩, g0, g1, g2, g3⟩) (fun hHeld => ?_)
                          clear hK K
                          try simp only [Act.put]
                          try simp only [List.setIfInBounds_toArray]
                          try simp only [List.set_cons_succ]
                          try simp only [List.set_cons_zero]
                          refine wpAnyH_ready (rs := [2]) (by kernel_rfl) (by simp) ?_
                          refine (AllReadyH.cons (by simp only [List.getElem?_toArray, List.getElem?_cons_succ, List.getElem?_cons_zero]; rfl) (fun K hK => ?_) AllReadyH.nil)
                          rw [if_pos (by rfl)]
                          go_simp
                          have hps := E.out.s.lt
                          have hb := balloc wg (.cells #[.int .i64 y1, .int .i64 y2, .int .i64 y3, .int .i64 y4] 27)
                          have LN := Lib.hid (LsQ.lit (w := wg) hps 27 [⟨y1, y2, y3, y4⟩] 1 rfl (by omega))
                          generalize hwa : wg.alloc (.cells #[.int .i64 y1, .int .i64 y2, .int .i64 y3, .int .i64 y4] 27) = wh at *
                          replace LN := Lib.hid (show LsQ w.heap.size wh (some ⟨wg.heap.size, 0, none⟩) 1 1 [⟨y1, y2, y3, y4⟩] by rw [← hwa]; exact LN.out)
                          clear hwa
                          -- hb the facts (Below) that all things are carried by
                          replace E := Lib.hid (E.out.below hb); replace LS0 := Lib.hid (LS0.out.below hb)
                          try (replace LS4 := Lib.hid (LS4.out.below hb))
                          try (replace SB := Lib.hid (SB.out.below hb SB.out.lt))
                          try (replace LB := Lib.hid (LB.out.below hb LB.out.lt))
                          try (replace LS1 := Lib.hid (LS1.out.below hb))
                          try (replace LS2 := Lib.hid (LS2.out.below hb))
                          try (replace LS3 := Lib.hid (LS3.out.below hb))
                          try (replace DX := Lib.hid (DX.out.below hb DX.out.lt))
                          try (replace F1 := Lib.hid (F1.out.below hb F1.out.lt))
                          try (replace I1 := Lib.hid (I1.out.ext hb))
                          have LS1 := LN
                          generalize wg.heap.size = G1 at *
                          clear LN hb hHeld hps
                          clear f0 f1 f2 f3 hlf g0 g1 g2 g3 hlg
                          obtain ⟨f0, f1, f2, f3, hlf⟩ := E.out.va.q
                          obtain ⟨g0, g1, g2, g3, hlg⟩ := E.out.vl.q
                          dsimp only at f0 f1 f2 f3 g0 g1 g2 g3
                          refine hK.out _ _ (by exact ⟨⟨f0, f1, f2, f3⟩, g0, g1, g2, g3⟩) (fun hHeld => ?_)
                          clear hK K
                          try simp only [Act.put]
                          try simp only [List.setIfInBounds_toArray]
                          try simp only [List.set_cons_succ]
                          try simp only [List.set_cons_zero]
                          refine wpAnyH_ready (rs := [15]) (by kernel_rfl) (by simp) ?_
                          refine (AllReadyH.cons (by simp only [List.getElem?_toArray, List.getElem?_cons_succ, List.getElem?_cons_zero]; rfl) (fun K hK => ?_) AllReadyH.nil)
                          rw [if_pos (by rfl)]
                          go_simp
                          have hps := E.out.s.lt
                          have hb := balloc wh (.cells #[.slice A2 n2 c2, .slice none 0 0, .slice (some ⟨G1, 0, none⟩) 1 1, .slice (some ⟨G2, 0, none⟩) 2 2, .slice (some ⟨G, 0, none⟩) nm nm] 39)
                          have LL := Lib.hid (Blk.new wh 39 #[.slice A2 n2 c2, .slice none 0 0, .slice (some ⟨G1, 0, none⟩) 1 1, .slice (some ⟨G2, 0, none⟩) 2 2, .slice (some ⟨G, 0, none⟩) nm nm])
                          generalize hwa : wh.alloc (.cells #[.slice A2 n2 c2, .slice none 0 0, .slice (some ⟨G1, 0, none⟩) 1 1, .slice (some ⟨G2, 0, none⟩) 2 2, .slice (some ⟨G, 0, none⟩) nm nm] 39) = wz at *
                          clear hwa
                          -- hb the facts (Below) that all things are carried by
                          replace E := Lib.hid (E.out.below hb); replace LS0 := Lib.hid (LS0.out.below hb)
                          try (replace LS4 := Lib.hid (LS4.out.below hb))
                          try (replace SB := Lib.hid (SB.out.below hb SB.out.lt))
                          try (replace LB := Lib.hid (LB.out.below hb LB.out.lt))
                          try (replace LS1 := Lib.hid (LS1.out.below hb))
                          try (replace LS2 := Lib.hid (LS2.out.below hb))
                          try (replace LS3 := Lib.hid (LS3.out.below hb))
                          try (replace DX := Lib.hid (DX.out.below hb DX.out.lt))
                          try (replace F1 := Lib.hid (F1.out.below hb F1.out.lt))
                          try (replace I1 := Lib.hid (I1.out.ext hb))
                          generalize wh.heap.size = bb at *
                          clear hb hHeld
                          clear f0 f1 f2 f3 hlf g0 g1 g2 g3 hlg
                          obtain ⟨f0, f1, f2, f3, hlf⟩ := E.out.va.q
                          obtain ⟨g0, g1, g2, g3, hlg⟩ := E.out.vl.q
                          dsimp only at f0 f1 f2 f3 g0 g1 g2 g3
                          refine hK.out _ _ (by exact ⟨⟨f0, f1, f2, f3⟩, g0, g1, g2, g3⟩) (fun hHeld => ?_)
                          clear hK K
                          try simp only [Act.put]
                          try simp only [List.setIfInBounds_toArray]
                          try simp only [List.set_cons_succ]
                          try simp only [List.set_cons_zero]
                          refine wpAnyH_take (i := 16) (oi := _) (v := ?_) (by simp only [List.getElem?_toArray, List.getElem?_cons_succ, List.getElem?_cons_zero]; rfl) (by kernel_rfl) (by kernel_rfl) (by kernel_rfl) (by exact fun _ _ _ h => h) (Or.inl ⟨by rfl, ?_⟩) (by assumption) ?_
                          rotate_left 1
                          · (intro w hSw; (try dsimp only at hSw); go_simp; try with_reducible rfl)
                          all_goals try simp only [Act.put]
                          all_goals try simp only [List.setIfInBounds_toArray]
                          all_goals try simp only [List.set_cons_succ]
                          all_goals try simp only [List.set_cons_zero]
                          refine wpAnyH_done (by kernel_rfl) ?_ _
                          clear hHeld
                          clear f0 f1 f2 f3 hlf g0 g1 g2 g3 hlg
                          go_wp2_with fail
                          go_meet
                          exact ⟨bb, G1, G2, _, rfl, rfl, rfl, E.out, LL.out, Nat.ne_of_gt hps, LS0.out, LS1.out, LS2.out, LS3.out⟩
              case rest =>
                clear E LS0 LS3
                obtain ⟨bb, G1, G2, ms, rfl, rfl, rfl, hE, hB, hbb, h0, h1, h2, h3⟩ := hcut
                have E := Lib.hid hE; have LB := Lib.hid hB; have LS0 := Lib.hid h0; have LS1 := Lib.hid h1; have LS2 := Lib.hid h2; have LS3 := Lib.hid h3
                clear hE hB h0 h1 h2 h3
                go_wp2_with fail
                go_loopg [159] 5 (fun gg s159 wx => ∃ k : Nat, k + gg = 5 ∧ s159 = .int .i64 k ∧ MB w wx w.heap.size W.heap.size (W.heap.size + 1) ZL ⟨R, r, L, l⟩ ⟨y1, y2, y3, y4⟩ S E0 A ∧ Blk wx bb 39 #[.slice A2 n2 c2, .slice none 0 0, .slice (some ⟨G1, 0, none⟩) 1 1, .slice (some ⟨G2, 0, none⟩) 2 2, .slice (some ⟨G, 0, none⟩) nm nm] ∧ LsQ w.heap.size wx A2 n2 c2 ps ∧ LsQ w.heap.size wx (some ⟨G1, 0, none⟩) 1 1 [⟨y1, y2, y3, y4⟩] ∧ LsQ w.heap.size wx (some ⟨G2, 0, none⟩) 2 2 ms ∧ LsQ w.heap.size wx (some ⟨G, 0, none⟩) nm nm ys)
                case atStart => exact ⟨0, rfl, rfl, E.out, LB.out, LS0.out, LS1.out, LS2.out, LS3.out⟩
                case round =>
                  clear E LB LS0 LS1 LS2 LS3
                  obtain ⟨k, hkg, rfl, hE, hB, h0, h1, h2, h3⟩ := hrel
                  have E := Lib.hid hE; have LB := Lib.hid hB; have LS0 := Lib.hid h0; have LS1 := Lib.hid h1; have LS2 := Lib.hid h2; have LS3 := Lib.hid h3
                  clear hE hB h0 h1 h2 h3
                  by_cases hk : k < 5
                  case pos =>
                    have hki : (k : Int) < 5 := by omega
                    obtain ⟨A, n, c, xs, hc, hls⟩ : ∃ (A : Option Addr) (n c : Nat) (xs : List PN), wr.cell? ⟨bb, k, none⟩ = some (.slice A n c) ∧ LsQ w.heap.size wr A n c xs := by
                      rcases (show k = 0 ∨ k = 1 ∨ k = 2 ∨ k = 3 ∨ k = 4 by omega) with e | e | e | e | e
                      · exact ⟨_, _, _, _, by rw [e]; exact LB.out.cell 0, LS0.out⟩
                      · exact ⟨_, _, _, _, by rw [e]; exact LB.out.cell 1, LsQ.nil _ _⟩
                      · exact ⟨_, _, _, _, by rw [e]; exact LB.out.cell 2, LS1.out⟩
                      · exact ⟨_, _, _, _, by rw [e]; exact LB.out.cell 3, LS2.out⟩
                      · exact ⟨_, _, _, _, by rw [e]; exact LB.out.cell 4, LS3.out⟩
                    have LS4 := Lib.hid hls
                    have hlb := LB.out.lt
                    clear hls
                    go_wp2_with fail
                    clear hc hlb
                    refine (bkLeast_any A n c xs _ LS4.out.1 LS4.out.2.2.1 LS4.out.2.1 (fun h => by
                      obtain ⟨g, o, e, _, hr⟩ := LS4.out.2.2.2 h
                      exact ⟨g, o, e, hr⟩)).mono ?_
                    rintro e wa ⟨f, er, hS, A3, m3, d3, rfl, hI, hA, hb⟩
                    -- the first result f er A3 m3 d3 lies in a new variable: 31 the region behind, bLe_len its length's law
                    have HS := Lib.hid hS
                    have hm3 : m3 ≤ 400 := by have h1 := bLe_len hS; have h2 : f.vals.length = m3 := hI.1; omega
                    -- hb the facts (Below) that all things are carried by
                    replace E := Lib.hid (E.out.below hb); replace LS0 := Lib.hid (LS0.out.below hb)
                    try (replace LS4 := Lib.hid (LS4.out.below hb))
                    try (replace SB := Lib.hid (SB.out.below hb SB.out.lt))
                    try (replace LB := Lib.hid (LB.out.below hb LB.out.lt))
                    try (replace LS1 := Lib.hid (LS1.out.below hb))
                    try (replace LS2 := Lib.hid (LS2.out.below hb))
                    try (replace LS3 := Lib.hid (LS3.out.below hb))
                    try (replace DX := Lib.hid (DX.out.below hb DX.out.lt))
                    try (replace F1 := Lib.hid (F1.out.below hb F1.out.lt))
                    try (replace I1 := Lib.hid (I1.out.ext hb))
                    have hb2 := balloc wa (.cells #[.slice A3 m3 d3, .int .i64 f.per, .int .i64 f.inc] 46)
                    -- hb2 the facts (Below) that all things are carried by
                    replace E := Lib.hid (E.out.below hb2); replace LS0 := Lib.hid (LS0.out.below hb2)
                    try (replace LS4 := Lib.hid (LS4.out.below hb2))
                    try (replace SB := Lib.hid (SB.out.below hb2 SB.out.lt))
                    try (replace LB := Lib.hid (LB.out.below hb2 LB.out.lt))
                    try (replace LS1 := Lib.hid (LS1.out.below hb2))
                    try (replace LS2 := Lib.hid (LS2.out.below hb2))
                    try (replace LS3 := Lib.hid (LS3.out.below hb2))
                    try (replace DX := Lib.hid (DX.out.below hb2 DX.out.lt))
                    try (replace F1 := Lib.hid (F1.out.below hb2 F1.out.lt))
                    try (replace I1 := Lib.hid (I1.out.ext hb2))
                    have F1 := Lib.hid (Blk.new wa 46 #[.slice A3 m3 d3, .int .i64 f.per, .int .i64 f.inc])
                    have I1 := Lib.hid (hI.alloc' (.cells #[.slice A3 m3 d3, .int .i64 f.per, .int .i64 f.inc] 46))
                    clear hS hI hA hb hb2
                    go_upto_region 31 with fail
                    generalize hwe : wa.alloc (.cells #[.slice A3 m3 d3, .int .i64 f.per, .int .i64 f.inc] 46) = wc at *
                    clear hwe
                    generalize wa.heap.size = Z3 at *
                    go_wp2_with fail
                    refine (refLe11_any A n c xs _ LS4.out.1 LS4.out.2.2.1 LS4.out.2.1 (fun h => by
                      obtain ⟨g, o, e, _, hr⟩ := LS4.out.2.2.2 h
                      exact ⟨g, o, e, hr⟩)).mono ?_
                    rintro e we ⟨g, eg, A5, m5, d5, hS, hmd5, rfl, hI, hA, hb⟩
                    -- the second result g eg A5 m5 d5: 32 the region behind, BLeS.unique HS.out hS uniqueness
                    obtain ⟨e1, e2⟩ := BLeS.unique HS.out hS
                    subst e1 e2
                    have hm5 : m5 ≤ 400 := by have h2 : f.vals.length = m5 := hI.1; have h3 : f.vals.length = m3 := I1.out.1; omega
                    -- hb the facts (Below) that all things are carried by
                    replace E := Lib.hid (E.out.below hb); replace LS0 := Lib.hid (LS0.out.below hb)
                    try (replace LS4 := Lib.hid (LS4.out.below hb))
                    try (replace SB := Lib.hid (SB.out.below hb SB.out.lt))
                    try (replace LB := Lib.hid (LB.out.below hb LB.out.lt))
                    try (replace LS1 := Lib.hid (LS1.out.below hb))
                    try (replace LS2 := Lib.hid (LS2.out.below hb))
                    try (replace LS3 := Lib.hid (LS3.out.below hb))
                    try (replace DX := Lib.hid (DX.out.below hb DX.out.lt))
                    try (replace F1 := Lib.hid (F1.out.below hb F1.out.lt))
                    try (replace I1 := Lib.hid (I1.out.ext hb))
                    have hb2 := balloc we (.cells #[.slice A5 m5 d5, .int .i64 f.per, .int .i64 f.inc] 46)
                    -- hb2 the facts (Below) that all things are carried by
                    replace E := Lib.hid (E.out.below hb2); replace LS0 := Lib.hid (LS0.out.below hb2)
                    try (replace LS4 := Lib.hid (LS4.out.below hb2))
                    try (replace SB := Lib.hid (SB.out.below hb2 SB.out.lt))
                    try (replace LB := Lib.hid (LB.out.below hb2 LB.out.lt))
                    try (replace LS1 := Lib.hid (LS1.out.below hb2))
                    try (replace LS2 := Lib.hid (LS2.out.below hb2))
                    try (replace LS3 := Lib.hid (LS3.out.below hb2))
                    try (replace DX := Lib.hid (DX.out.below hb2 DX.out.lt))
                    try (replace F1 := Lib.hid (F1.out.below hb2 F1.out.lt))
                    try (replace I1 := Lib.hid (I1.out.ext hb2))
                    have F2 := Lib.hid (Blk.new we 46 #[.slice A5 m5 d5, .int .i64 f.per, .int .i64 f.inc])
                    have I2 := Lib.hid (hI.alloc' (.cells #[.slice A5 m5 d5, .int .i64 f.per, .int .i64 f.inc] 46))
                    clear hS hI hA hb hb2 HS
                    go_upto_region 32 with fail
                    generalize hwe : we.alloc (.cells #[.slice A5 m5 d5, .int .i64 f.per, .int .i64 f.inc] 46) = wf at *
                    clear hwe
                    generalize we.heap.size = Z5 at *
                    obtain ⟨⟨k0, k1, k2⟩, _, hlk1⟩ := F1.out.c3
                    obtain ⟨⟨l0, l1, l2⟩, _, hlk2⟩ := F2.out.c3
                    have h9 : (er != er) = false := by simp
                    go_wp2_with fail
                    refine (refSame_any A3 A5 m3 m5 d3 d5 f.per f.per f.inc f.inc f.vals f.vals _ (by exact I1.out) (by exact I2.out) (by omega) (by omega)).mono ?_
                    rw [(Cv.same_iff _ _).2 rfl]
                    rintro e wg ⟨rfl, hb⟩
                    clear I1 I2 F2 F1 k0 k1 k2 hlk1 l0 l1 l2 hlk2 h9
                    -- hb the facts (Below) that all things are carried by
                    replace E := Lib.hid (E.out.below hb); replace LS0 := Lib.hid (LS0.out.below hb)
                    try (replace LS4 := Lib.hid (LS4.out.below hb))
                    try (replace SB := Lib.hid (SB.out.below hb SB.out.lt))
                    try (replace LB := Lib.hid (LB.out.below hb LB.out.lt))
                    try (replace LS1 := Lib.hid (LS1.out.below hb))
                    try (replace LS2 := Lib.hid (LS2.out.below hb))
                    try (replace LS3 := Lib.hid (LS3.out.below hb))
                    try (replace DX := Lib.hid (DX.out.below hb DX.out.lt))
                    try (replace F1 := Lib.hid (F1.out.below hb F1.out.lt))
                    try (replace I1 := Lib.hid (I1.out.ext hb))
                    clear hb
                    go_wp2_with fail
                    go_roundg (gk - 1)
                    case measure => omega
                    case rel => exact ⟨k + 1, by omega, by go_num, E.out, LB.out, LS0.out, LS1.out, LS2.out, LS3.out⟩
                  case neg =>
                    have hki : ¬ (k : Int) < 5 := by omega
                    go_wp2_with fail
                    refine (awake11_any _).mono ?_
                    rintro q wq ⟨rfl, hbq⟩
                    have bw := bthen BW.out (bthen (E.out.k.below (Nat.le_refl _)) hbq)
                    go_wp2_with fail
                    go_ret
                    exact ⟨rfl, bw⟩
end Go.Proofs.Ythdibkmjoiipgaa
