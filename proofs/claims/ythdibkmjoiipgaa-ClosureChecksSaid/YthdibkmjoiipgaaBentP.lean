/- netcalculuslaw09.bent: a certificate that is changed a little. -/
import Derived.Test.YthdibkmjoiipgaaClPv
import Derived.Test.YthdibkmjoiipgaaRowI
import Derived.Test.YthdibkmjoiipgaaBent
import Derived.Test.YthdibkmjoiipgaaZero
import Derived.Test.YthdibkmjoiipgaaHeldT
namespace Go.Proofs.Ythdibkmjoiipgaa
open Go.RowKit
set_option linter.unusedVariables false

/-- what bent returns: a curve and a list that are not long -/
def RetDP (M p : Nat) (w : World) (e : Ending) (w' : World) : Prop :=
  ∃ (r : Cv) (fr : Int) (cs : List Int) (A : Option Addr) (n c : Nat) (B : Option Addr) (m d : Nat), n ≤ 1000 ∧ m ≤ M + 1 ∧ n ≤ c ∧ e = .returned (.agg #[.slice A n c, .int .i64 r.per, .int .i64 r.inc, .int .i64 fr, .slice B m d]) ∧
    Ints w' w'.heap.size A n r.vals ∧ Ints w' w'.heap.size B m cs ∧ (∀ b off s, A = some ⟨b, off, s⟩ → b ≠ p) ∧ (∀ b off s, B = some ⟨b, off, s⟩ → b ≠ p) ∧ SrcAt w' p ∧ Kept w.heap.size p w w'
theorem Ints.ne1 {w1 : World} {g0 n : Nat} {A : Option Addr} {zs : List Int} (hI : Ints w1 w1.heap.size A n zs) (hf : 0 < n → ∀ b off s, A = some ⟨b, off, s⟩ → b ≠ g0) (i : Nat) (x : Value) :
    Ints (w1.setCell ⟨g0, i, none⟩ x) (w1.setCell ⟨g0, i, none⟩ x).heap.size A n zs := by
  rcases Nat.eq_zero_or_pos n with h | h
  · exact ⟨hI.1, fun h' => by omega⟩
  · have := hI.setCell (p := ⟨g0, i, none⟩) (fun b off s e => hf h b off s e) x
    simpa using this
theorem Ints.ne5 {w1 : World} {g0 n : Nat} {A : Option Addr} {zs : List Int} (hI : Ints w1 w1.heap.size A n zs) (hf : 0 < n → ∀ b off s, A = some ⟨b, off, s⟩ → b ≠ g0) (x y z u v : Value) :
    Ints (((((w1.setCell ⟨g0, 0, none⟩ x).setCell ⟨g0, 1, none⟩ y).setCell ⟨g0, 2, none⟩ z).setCell ⟨g0, 3, none⟩ u).setCell ⟨g0, 4, none⟩ v) (((((w1.setCell ⟨g0, 0, none⟩ x).setCell ⟨g0, 1, none⟩ y).setCell ⟨g0, 2, none⟩ z).setCell ⟨g0, 3, none⟩ u).setCell ⟨g0, 4, none⟩ v).heap.size A n zs :=
  ((((hI.ne1 hf 0 x).ne1 hf 1 y).ne1 hf 2 z).ne1 hf 3 u).ne1 hf 4 v
theorem SrcAt.sto5 {w : World} {p g : Nat} (h : SrcAt w p) (hg : p < g) (x y z u v : Value) : SrcAt (((((w.setCell ⟨g, 0, none⟩ x).setCell ⟨g, 1, none⟩ y).setCell ⟨g, 2, none⟩ z).setCell ⟨g, 3, none⟩ u).setCell ⟨g, 4, none⟩ v) p :=
  ((((h.far (a := ⟨g, 0, none⟩) hg x).far (a := ⟨g, 1, none⟩) hg y).far (a := ⟨g, 2, none⟩) hg z).far (a := ⟨g, 3, none⟩) hg u).far (a := ⟨g, 4, none⟩) hg v
theorem Kept.sto5 {B p : Nat} {w0 w : World} (h : Kept B p w0 w) {g : Nat} (hg : B ≤ g) (x y z u v : Value) : Kept B p w0 (((((w.setCell ⟨g, 0, none⟩ x).setCell ⟨g, 1, none⟩ y).setCell ⟨g, 2, none⟩ z).setCell ⟨g, 3, none⟩ u).setCell ⟨g, 4, none⟩ v) :=
  ((((h.setCell (a := ⟨g, 0, none⟩) (.inr hg) x).setCell (a := ⟨g, 1, none⟩) (.inr hg) y).setCell (a := ⟨g, 2, none⟩) (.inr hg) z).setCell (a := ⟨g, 3, none⟩) (.inr hg) u).setCell (a := ⟨g, 4, none⟩) (.inr hg) v
theorem Ints.lower {w : World} {B L n : Nat} {A : Option Addr} {zs : List Int} (h : Ints w B A n zs) (hb : ∀ b off s, A = some ⟨b, off, s⟩ → 0 < n → b < L) : Ints w L A n zs :=
  ⟨h.1, fun h0 => by
    obtain ⟨b, off, e, hbb, hc⟩ := h.2 h0
    exact ⟨b, off, e, hb b off none e h0, hc⟩⟩
/-- in the middle of bent -/
structure BPt (p O : Nat) (w wx : World) (V : Array Value) (X : Array Value) : Prop where
  pb : Blk wx w.heap.size 63 V
  ob : Blk wx O 63 X
  rb : Blk wx (w.heap.size + 1) 63 #[.slice none 0 0, .int .i64 0, .int .i64 0, .int .i64 0, .slice none 0 0]
  s : SrcAt wx p
  k : Kept w.heap.size p w wx
  hp : p < w.heap.size
  hO : w.heap.size + 2 ≤ O
section
variable {p O : Nat} {w wx wy : World} {V X : Array Value}
theorem BPt.kept (h : BPt p O w wx V X) (hS : SrcAt wy p) (hk : Kept wx.heap.size p wx wy) : BPt p O w wy V X :=
  ⟨h.pb.kept (by have := h.hp; omega) hk, h.ob.kept (by have := h.hp; have := h.hO; omega) hk, h.rb.kept (by have := h.hp; omega) hk, hS, kstep h.k hk, h.hp, h.hO⟩
theorem BPt.below (h : BPt p O w wx V X) (hb : Below wx.heap.size wx wy) : BPt p O w wy V X := h.kept (h.s.ext hb) (Kept.of hb)
theorem BPt.seto (h : BPt p O w wx V X) (i : Nat) (u : Value) : BPt p O w (wx.setCell ⟨O, i, none⟩ u) V (X.setIfInBounds i u) :=
  ⟨h.pb.far (by have := h.hO; show w.heap.size ≠ O; omega) _, h.ob.set_ i u, h.rb.far (by have := h.hO; show w.heap.size + 1 ≠ O; omega) _, h.s.far (by have := h.hp; have := h.hO; show p < O; omega) u, h.k.setCell (.inr (by have := h.hO; show w.heap.size ≤ O; omega)) u, h.hp, h.hO⟩
theorem BPt.far (h : BPt p O w wx V X) {g : Nat} (hg : w.heap.size + 2 ≤ g) (hne : O ≠ g) (i : Nat) (u : Value) : BPt p O w (wx.setCell ⟨g, i, none⟩ u) V X :=
  ⟨h.pb.far (by show w.heap.size ≠ g; omega) _, h.ob.far hne _, h.rb.far (by show w.heap.size + 1 ≠ g; omega) _, h.s.far (by have := h.hp; show p < g; omega) u, h.k.setCell (.inr (by show w.heap.size ≤ g; omega)) u, h.hp, h.hO⟩
theorem BPt.drew (h : BPt p O w wx V X) : BPt p O w wx.drew V X := ⟨h.pb, h.ob, h.rb, h.s, kdrw h.k, h.hp, h.hO⟩
theorem BPt.upto {B : Nat} (h : BPt p O w wx V X) (hb : Below B wx wy) (hB : w.heap.size + 2 ≤ B) (hOB : O < B) : BPt p O w wy V X :=
  ⟨h.pb.below hb (by omega), h.ob.below hb hOB, h.rb.below hb (by omega), h.s.below hb (by have := h.hp; omega), h.k.trans (Kept.of (hb.mono (by omega))), h.hp, h.hO⟩
end
theorem Own.two {w : World} {base n c : Nat} {A : Option Addr} {xs : List Int} (h : Own w base (.slice A n c) n xs) : n ≤ c ∧ ((A = none ∧ n = 0 ∧ c = 0) ∨ ∃ g, A = some ⟨g, 0, none⟩ ∧ base ≤ g) := by
  obtain ⟨A', c', e, h1, _, _⟩ := h.ints
  injection e with e1 e2 e3
  subst e1 e3
  refine ⟨h1, ?_⟩
  obtain ⟨h1, h2⟩ := h
  rcases h2 with ⟨h2, h3⟩ | ⟨g, cap, cur, hv, hg, _⟩
  · injection h2 with e1 e2 e3
    exact .inl ⟨e1, e2, e3⟩
  · injection hv with e1 e2 e3
    exact .inr ⟨g, e1, hg⟩
theorem Own.stoG {w w' : World} {base n g : Nat} {v : Value} {xs : List Int} (h : Own w base v n xs) (s : Sto g w w') (hne : v.ownBlock ≠ some g) : Own w' base v n xs := by
  obtain ⟨h1, h2⟩ := h
  refine ⟨h1, ?_⟩
  rcases h2 with h2 | ⟨g', cap, cur, rfl, hg, hh, r⟩
  · exact .inl h2
  · exact .inr ⟨g', cap, cur, rfl, hg, by rw [s.block g' (fun e => hne (by simp [Value.ownBlock, e]))]; exact hh, r⟩
set_option maxHeartbeats 8000000 in
set_option maxRecDepth 100000 in
theorem bent9_any (p : Nat) (A B : Option Addr) (n c m d : Nat) (r : Cv) (fr : Int) (cs : List Int) (w : World) (hS : SrcAt w p) (hA : Ints w w.heap.size A n r.vals) (hB : Ints w w.heap.size B m cs) (hAp : ∀ b off s, A = some ⟨b, off, s⟩ → b ≠ p)
    (hn : n ≤ 1000) (hnc : n ≤ c) (hm : m ≤ 2000) :
    Calls Try.prog 45 #[.pointer (some ⟨p, 0, none⟩), .agg #[.slice A n c, .int .i64 r.per, .int .i64 r.inc, .int .i64 fr, .slice B m d]] w (RetDP m p w) := by
  have hpl := hS.lt
  have IA0 := Lib.hid hA; have HAP := Lib.hid hAp; have HS0 := Lib.hid hS; have HNC := Lib.hid hnc
  have PB := Lib.hid ((Blk.new w 63 #[.slice A n c, .int .i64 r.per, .int .i64 r.inc, .int .i64 fr, .slice B m d]).alloc (.cells #[.slice none 0 0, .int .i64 0, .int .i64 0, .int .i64 0, .slice none 0 0] 63))
  have IB := Lib.hid ((hB.alloc' (.cells #[.slice A n c, .int .i64 r.per, .int .i64 r.inc, .int .i64 fr, .slice B m d] 63)).alloc' (.cells #[.slice none 0 0, .int .i64 0, .int .i64 0, .int .i64 0, .slice none 0 0] 63))
  have BW := Lib.hid (bthen (balloc w (.cells #[.slice A n c, .int .i64 r.per, .int .i64 r.inc, .int .i64 fr, .slice B m d] 63)) (balloc _ (.cells #[.slice none 0 0, .int .i64 0, .int .i64 0, .int .i64 0, .slice none 0 0] 63)))
  have rb := Blk.new (w.alloc (.cells #[.slice A n c, .int .i64 r.per, .int .i64 r.inc, .int .i64 fr, .slice B m d] 63)) 63 #[.slice none 0 0, .int .i64 0, .int .i64 0, .int .i64 0, .slice none 0 0]
  rw [World.size_alloc] at rb
  have RB0 := Lib.hid rb
  have hsz : ((w.alloc (.cells #[.slice A n c, .int .i64 r.per, .int .i64 r.inc, .int .i64 fr, .slice B m d] 63)).alloc (.cells #[.slice none 0 0, .int .i64 0, .int .i64 0, .int .i64 0, .slice none 0 0] 63)).heap.size = w.heap.size + 1 + 1 := by simp
  clear hS hA hB hAp rb hnc
  go_enter Try.func45, Try.ntmps45
  go_upto_region 1 with fail
  generalize hwe : (w.alloc (.cells #[.slice A n c, .int .i64 r.per, .int .i64 r.inc, .int .i64 fr, .slice B m d] 63)).alloc (.cells #[.slice none 0 0, .int .i64 0, .int .i64 0, .int .i64 0, .slice none 0 0] 63) = W2 at *
  clear hwe
  go_cut [5] (fun s5 wx => ∃ (O : Nat) (B1 : Option Addr) (d1 : Nat), s5 = .pointer (some ⟨O, 0, none⟩) ∧ w.heap.size + 1 + 1 ≤ O ∧ Blk wx O 63 #[.slice A n c, .int .i64 r.per, .int .i64 r.inc, .int .i64 fr, .slice B1 m d1] ∧ Own wx (w.heap.size + 1 + 1) (.slice B1 m d1) m cs ∧
    Blk wx w.heap.size 63 #[.slice A n c, .int .i64 r.per, .int .i64 r.inc, .int .i64 fr, .slice B m d] ∧ Below (w.heap.size + 1 + 1) W2 wx)
  case first =>
    have BI := Lib.hid (show Below (w.heap.size + 1 + 1) W2 W2.drew from Below.drew (Below.refl _ _))
    replace PB := Lib.hid (Blk.drew PB.out); replace IB := Lib.hid (show Ints W2.drew W2.drew.heap.size B m cs from IB.out)
    obtain ⟨⟨q0, q1, q2, q3, q4⟩, _, hlq⟩ := PB.out.q5
    refine wp_region_held_drew (S := (fun w' => w'.cell? ⟨w.heap.size, 0, none⟩ = some (.slice A n c) ∧ w'.cell? ⟨w.heap.size, 1, none⟩ = some (.int .i64 r.per) ∧ w'.cell? ⟨w.heap.size, 2, none⟩ = some (.int .i64 r.inc) ∧ w'.cell? ⟨w.heap.size, 3, none⟩ = some (.int .i64 fr) ∧ w'.cell? ⟨w.heap.size, 4, none⟩ = some (.slice B m d))) (by kernel_rfl) (by exact ⟨q0, q1, q2, q3, q4⟩) (fun hHeld => ?_)
    clear q0 q1 q2 q3 q4 hlq
    have HW2 := Lib.hid hsz
    clear hsz
    generalize hwd : W2.drew = wd at *
    clear hwd
    obtain ⟨⟨q0, q1, q2, q3, q4⟩, _, hlq⟩ := PB.out.q5
    refine wpAnyH_take (i := 0) (oi := _) (v := ?_) (by simp only [g8a, g8z]; rfl) (by kernel_rfl) (by kernel_rfl) (by kernel_rfl) (by exact fun _ _ _ h => h) (Or.inl ⟨by rfl, ?_⟩) (by assumption) ?_
    rotate_left 1
    · (intro w hSw; (try dsimp only at hSw); go_simp; try with_reducible rfl)
    all_goals ((try simp only [Act.put]); try simp only [g8b, g8c, g8d])
    refine wpAnyH_take (i := 1) (oi := _) (v := ?_) (by simp only [g8a, g8s, g8z]; rfl) (by kernel_rfl) (by kernel_rfl) (by kernel_rfl) (by exact fun _ _ _ h => h) (Or.inl ⟨by rfl, ?_⟩) (by assumption) ?_
    rotate_left 1
    · (intro w hSw; (try dsimp only at hSw); go_simp; try with_reducible rfl)
    all_goals ((try simp only [Act.put]); try simp only [g8b, g8c, g8d])
    refine wpAnyH_take (i := 2) (oi := _) (v := ?_) (by simp only [g8a, g8s, g8z]; rfl) (by kernel_rfl) (by kernel_rfl) (by kernel_rfl) (by exact fun _ _ _ h => h) (Or.inl ⟨by rfl, ?_⟩) (by assumption) ?_
    rotate_left 1
    · (intro w hSw; (try dsimp only at hSw); go_simp; try with_reducible rfl)
    all_goals ((try simp only [Act.put]); try simp only [g8b, g8c, g8d])
    refine wpAnyH_take (i := 3) (oi := _) (v := ?_) (by simp only [g8a, g8s, g8z]; rfl) (by kernel_rfl) (by kernel_rfl) (by kernel_rfl) (by exact fun _ _ _ h => h) (Or.inl ⟨by rfl, ?_⟩) (by assumption) ?_
    rotate_left 1
    · (intro w hSw; (try dsimp only at hSw); go_simp; try with_reducible rfl)
    all_goals ((try simp only [Act.put]); try simp only [g8b, g8c, g8d])
    refine wpAnyH_take (i := 5) (oi := _) (v := ?_) (by simp only [g8a, g8s, g8z]; rfl) (by kernel_rfl) (by kernel_rfl) (by kernel_rfl) (by exact fun _ _ _ h => h) (Or.inl ⟨by rfl, ?_⟩) (by assumption) ?_
    rotate_left 1
    · (intro w hSw; (try dsimp only at hSw); go_simp; try with_reducible rfl)
    all_goals ((try simp only [Act.put]); try simp only [g8b, g8c, g8d])
    refine wpAnyH_take (i := 6) (oi := _) (v := ?_) (by simp only [g8a, g8s, g8z]; rfl) (by kernel_rfl) (by kernel_rfl) (by kernel_rfl) (by exact fun _ _ _ h => h) (Or.inl ⟨by rfl, ?_⟩) (by assumption) ?_
    rotate_left 1
    · (intro w hSw; (try dsimp only at hSw); go_simp; try with_reducible rfl)
    all_goals ((try simp only [Act.put]); try simp only [g8b, g8c, g8d])
    refine wpAnyH_ready (rs := [4, 9]) (by kernel_rfl) (by simp) ?_
    refine (AllReadyH.cons (by simp only [g8a, g8s, g8z]; rfl) (fun K hK => ?_) (AllReadyH.cons (by simp only [g8a, g8s, g8z]; rfl) (fun K hK => ?_) AllReadyH.nil))
    · -- the empty list is laid: wd wa the worlds
      rw [if_pos (by rfl)]
      go_simp
      have hsz : w.heap.size + 1 + 1 ≤ wd.heap.size := by have := BI.out.size; have := HW2.out; omega
      have hbq := balloc wd (.cells #[] 3)
      have OWN := Lib.hid (Own.empty_ wd (base := w.heap.size + 1 + 1) hsz)
      try (replace OB := Lib.hid (OB.out.below hbq OB.out.lt))
      generalize hwa : wd.alloc (.cells #[] 3) = wa at *
      clear hwa
      replace PB := Lib.hid (PB.out.below hbq PB.out.lt); replace BI := Lib.hid (BI.out.trans (hbq.mono (by have := BI.out.size; have := HW2.out; omega))); try (replace IB := Lib.hid (IB.out.ext hbq))
      clear hsz
      generalize wd.heap.size = G at *
      clear hbq hHeld
      clear q0 q1 q2 q3 q4 hlq
      obtain ⟨⟨q0, q1, q2, q3, q4⟩, _, hlq⟩ := PB.out.q5
      refine hK.out _ _ (by exact ⟨q0, q1, q2, q3, q4⟩) (fun hHeld => ?_)
      clear hK K
      (try simp only [Act.put]); try simp only [g8b, g8c, g8d]
      refine wpAnyH_ready (rs := [7, 9]) (by kernel_rfl) (by simp) ?_
      refine (AllReadyH.cons (by simp only [g8a, g8s, g8z]; rfl) (fun K hK => ?_) (AllReadyH.cons (by simp only [g8a, g8s, g8z]; rfl) (fun K hK => ?_) AllReadyH.nil))
      · refine step_app (by rfl) _ _ 29 (by rfl) Try.underlying29 (w.heap.size + 1 + 1) (.slice (some ⟨G, 0, none⟩) 0 0) 0 [] (by rfl) OWN.out wa.heap.size B m d cs (by rfl) IB.out (by omega) (by have := BI.out.size; have := HW2.out; omega) ?_
        intro v2 wb own2 grow2 at2
        simp only [Nat.zero_add, List.nil_append] at own2
        have hb2 : Below (w.heap.size + 1 + 1) wa wb := Below.grown (Below.refl _ _) grow2 (by have := BI.out.size; have := HW2.out; omega) (fun g hg => (OWN.out.blk_lt g hg).1)
        try (replace OB := Lib.hid (Blk.grown OB.out grow2 (fun e => OWN.out.ne_blk OB.out (by decide) e.symm)))
        replace PB := Lib.hid (PB.out.below hb2 (by omega)); replace BI := Lib.hid (BI.out.trans hb2)
        obtain ⟨B1, d1, rfl, hd1, hI1, hf1⟩ := own2.ints
        replace OWN := Lib.hid own2
        clear own2 grow2 at2 hb2 hI1 hf1 hHeld
        clear q0 q1 q2 q3 q4 hlq
        obtain ⟨⟨q0, q1, q2, q3, q4⟩, _, hlq⟩ := PB.out.q5
        refine hK.out _ _ (by exact ⟨q0, q1, q2, q3, q4⟩) (fun hHeld => ?_)
        clear hK K
        (try simp only [Act.put]); try simp only [g8b, g8c, g8d]
        refine wpAnyH_take (i := 8) (oi := _) (v := ?_) (by simp only [g8a, g8s, g8z]; rfl) (by kernel_rfl) (by kernel_rfl) (by kernel_rfl) (by exact fun _ _ _ h => h) (Or.inl ⟨by rfl, ?_⟩) (by assumption) ?_
        rotate_left 1
        · (intro w hSw; (try dsimp only at hSw); go_simp; try with_reducible rfl)
        all_goals ((try simp only [Act.put]); try simp only [g8b, g8c, g8d])
        refine wpAnyH_ready (rs := [9]) (by kernel_rfl) (by simp) ?_
        refine (AllReadyH.cons (by simp only [g8a, g8s, g8z]; rfl) (fun K hK => ?_) AllReadyH.nil)
        rw [if_pos (by rfl)]
        go_simp
        have hO : w.heap.size + 1 + 1 ≤ wb.heap.size := by have := BI.out.size; have := HW2.out; omega
        have hbq := balloc wb (.cells #[.slice none 0 0, .int .i64 0, .int .i64 0, .int .i64 0, .slice none 0 0] 63)
        have OB := Lib.hid (Blk.new wb 63 #[.slice none 0 0, .int .i64 0, .int .i64 0, .int .i64 0, .slice none 0 0])
        try (replace OWN := Lib.hid (OWN.out.alloc (.cells #[.slice none 0 0, .int .i64 0, .int .i64 0, .int .i64 0, .slice none 0 0] 63)))
        generalize hwa : wb.alloc (.cells #[.slice none 0 0, .int .i64 0, .int .i64 0, .int .i64 0, .slice none 0 0] 63) = wc at *
        clear hwa
        replace PB := Lib.hid (PB.out.below hbq PB.out.lt); replace BI := Lib.hid (BI.out.trans (hbq.mono (by have := BI.out.size; have := HW2.out; omega))); try (replace IB := Lib.hid (IB.out.ext hbq))
        generalize wb.heap.size = O at *
        clear hbq hHeld
        clear q0 q1 q2 q3 q4 hlq
        obtain ⟨⟨q0, q1, q2, q3, q4⟩, _, hlq⟩ := PB.out.q5
        refine hK.out _ _ (by exact ⟨q0, q1, q2, q3, q4⟩) (fun hHeld => ?_)
        clear hK K
        (try simp only [Act.put]); try simp only [g8b, g8c, g8d]
        refine wpAnyH_ready (rs := [10]) (by kernel_rfl) (by simp) ?_
        refine (AllReadyH.cons (by simp only [g8a, g8s, g8z]; rfl) (fun K hK => ?_) AllReadyH.nil)
        refine step_storeN rfl 63 _ _ rfl rfl OB.out rfl rfl (by kernel_rfl) (by simp [Value.oneCell']) ?_
        intro wz hsto rz
        replace PB := Lib.hid (PB.out.sto hsto (by omega)); replace BI := Lib.hid (bsto BI.out hsto (by omega)); replace OWN := Lib.hid (OWN.out.stoG hsto (OWN.out.ne_blk OB.out (by decide)))
        clear q0 q1 q2 q3 q4 hlq
        obtain ⟨⟨q0, q1, q2, q3, q4⟩, _, hlq⟩ := PB.out.q5
        refine hK.out _ _ (by exact ⟨q0, q1, q2, q3, q4⟩) (fun hHeld => ?_)
        clear hK K
        (try simp only [Act.put]); try simp only [g8b, g8c, g8d]
        refine wpAnyH_done (by kernel_rfl) ?_ _
        go_wp2_with fail
        go_meet
        exact ⟨O, B1, d1, rfl, hO, rz, OWN.out, PB.out, BI.out⟩
      · rw [if_pos (by rfl)]
        go_simp
        have hO : w.heap.size + 1 + 1 ≤ wa.heap.size := by have := BI.out.size; have := HW2.out; omega
        have hbq := balloc wa (.cells #[.slice none 0 0, .int .i64 0, .int .i64 0, .int .i64 0, .slice none 0 0] 63)
        have OB := Lib.hid (Blk.new wa 63 #[.slice none 0 0, .int .i64 0, .int .i64 0, .int .i64 0, .slice none 0 0])
        try (replace OWN := Lib.hid (OWN.out.alloc (.cells #[.slice none 0 0, .int .i64 0, .int .i64 0, .int .i64 0, .slice none 0 0] 63)))
        generalize hwa : wa.alloc (.cells #[.slice none 0 0, .int .i64 0, .int .i64 0, .int .i64 0, .slice none 0 0] 63) = wb at *
        clear hwa
        replace PB := Lib.hid (PB.out.below hbq PB.out.lt); replace BI := Lib.hid (BI.out.trans (hbq.mono (by have := BI.out.size; have := HW2.out; omega))); try (replace IB := Lib.hid (IB.out.ext hbq))
        generalize wa.heap.size = O at *
        clear hbq hHeld
        clear q0 q1 q2 q3 q4 hlq
        obtain ⟨⟨q0, q1, q2, q3, q4⟩, _, hlq⟩ := PB.out.q5
        refine hK.out _ _ (by exact ⟨q0, q1, q2, q3, q4⟩) (fun hHeld => ?_)
        clear hK K
        (try simp only [Act.put]); try simp only [g8b, g8c, g8d]
        refine wpAnyH_ready (rs := [7]) (by kernel_rfl) (by simp) ?_
        refine (AllReadyH.cons (by simp only [g8a, g8s, g8z]; rfl) (fun K hK => ?_) AllReadyH.nil)
        refine step_app (by rfl) _ _ 29 (by rfl) Try.underlying29 (w.heap.size + 1 + 1) (.slice (some ⟨G, 0, none⟩) 0 0) 0 [] (by rfl) OWN.out wb.heap.size B m d cs (by rfl) IB.out (by omega) (by have := BI.out.size; have := HW2.out; omega) ?_
        intro v2 wc own2 grow2 at2
        simp only [Nat.zero_add, List.nil_append] at own2
        have hb2 : Below (w.heap.size + 1 + 1) wb wc := Below.grown (Below.refl _ _) grow2 (by have := BI.out.size; have := HW2.out; omega) (fun g hg => (OWN.out.blk_lt g hg).1)
        try (replace OB := Lib.hid (Blk.grown OB.out grow2 (fun e => OWN.out.ne_blk OB.out (by decide) e.symm)))
        replace PB := Lib.hid (PB.out.below hb2 (by omega)); replace BI := Lib.hid (BI.out.trans hb2)
        obtain ⟨B1, d1, rfl, hd1, hI1, hf1⟩ := own2.ints
        replace OWN := Lib.hid own2
        clear own2 grow2 at2 hb2 hI1 hf1 hHeld
        clear q0 q1 q2 q3 q4 hlq
        obtain ⟨⟨q0, q1, q2, q3, q4⟩, _, hlq⟩ := PB.out.q5
        refine hK.out _ _ (by exact ⟨q0, q1, q2, q3, q4⟩) (fun hHeld => ?_)
        clear hK K
        (try simp only [Act.put]); try simp only [g8b, g8c, g8d]
        refine wpAnyH_take (i := 8) (oi := _) (v := ?_) (by simp only [g8a, g8s, g8z]; rfl) (by kernel_rfl) (by kernel_rfl) (by kernel_rfl) (by exact fun _ _ _ h => h) (Or.inl ⟨by rfl, ?_⟩) (by assumption) ?_
        rotate_left 1
        · (intro w hSw; (try dsimp only at hSw); go_simp; try with_reducible rfl)
        all_goals ((try simp only [Act.put]); try simp only [g8b, g8c, g8d])
        refine wpAnyH_ready (rs := [10]) (by kernel_rfl) (by simp) ?_
        refine (AllReadyH.cons (by simp only [g8a, g8s, g8z]; rfl) (fun K hK => ?_) AllReadyH.nil)
        refine step_storeN rfl 63 _ _ rfl rfl OB.out rfl rfl (by kernel_rfl) (by simp [Value.oneCell']) ?_
        intro wz hsto rz
        replace PB := Lib.hid (PB.out.sto hsto (by omega)); replace BI := Lib.hid (bsto BI.out hsto (by omega)); replace OWN := Lib.hid (OWN.out.stoG hsto (OWN.out.ne_blk OB.out (by decide)))
        clear q0 q1 q2 q3 q4 hlq
        obtain ⟨⟨q0, q1, q2, q3, q4⟩, _, hlq⟩ := PB.out.q5
        refine hK.out _ _ (by exact ⟨q0, q1, q2, q3, q4⟩) (fun hHeld => ?_)
        clear hK K
        (try simp only [Act.put]); try simp only [g8b, g8c, g8d]
        refine wpAnyH_done (by kernel_rfl) ?_ _
        go_wp2_with fail
        go_meet
        exact ⟨O, B1, d1, rfl, hO, rz, OWN.out, PB.out, BI.out⟩
    · rw [if_pos (by rfl)]
      go_simp
      have hO : w.heap.size + 1 + 1 ≤ wd.heap.size := by have := BI.out.size; have := HW2.out; omega
      have hbq := balloc wd (.cells #[.slice none 0 0, .int .i64 0, .int .i64 0, .int .i64 0, .slice none 0 0] 63)
      have OB := Lib.hid (Blk.new wd 63 #[.slice none 0 0, .int .i64 0, .int .i64 0, .int .i64 0, .slice none 0 0])
      try (replace OWN := Lib.hid (OWN.out.alloc (.cells #[.slice none 0 0, .int .i64 0, .int .i64 0, .int .i64 0, .slice none 0 0] 63)))
      generalize hwa : wd.alloc (.cells #[.slice none 0 0, .int .i64 0, .int .i64 0, .int .i64 0, .slice none 0 0] 63) = wa at *
      clear hwa
      replace PB := Lib.hid (PB.out.below hbq PB.out.lt); replace BI := Lib.hid (BI.out.trans (hbq.mono (by have := BI.out.size; have := HW2.out; omega))); try (replace IB := Lib.hid (IB.out.ext hbq))
      generalize wd.heap.size = O at *
      clear hbq hHeld
      clear q0 q1 q2 q3 q4 hlq
      obtain ⟨⟨q0, q1, q2, q3, q4⟩, _, hlq⟩ := PB.out.q5
      refine hK.out _ _ (by exact ⟨q0, q1, q2, q3, q4⟩) (fun hHeld => ?_)
      clear hK K
      (try simp only [Act.put]); try simp only [g8b, g8c, g8d]
      refine wpAnyH_ready (rs := [4]) (by kernel_rfl) (by simp) ?_
      refine (AllReadyH.cons (by simp only [g8a, g8s, g8z]; rfl) (fun K hK => ?_) AllReadyH.nil)
      rw [if_pos (by rfl)]
      go_simp
      have hsz : w.heap.size + 1 + 1 ≤ wa.heap.size := by have := BI.out.size; have := HW2.out; omega
      have hbq := balloc wa (.cells #[] 3)
      have OWN := Lib.hid (Own.empty_ wa (base := w.heap.size + 1 + 1) hsz)
      try (replace OB := Lib.hid (OB.out.below hbq OB.out.lt))
      generalize hwa : wa.alloc (.cells #[] 3) = wb at *
      clear hwa
      replace PB := Lib.hid (PB.out.below hbq PB.out.lt); replace BI := Lib.hid (BI.out.trans (hbq.mono (by have := BI.out.size; have := HW2.out; omega))); try (replace IB := Lib.hid (IB.out.ext hbq))
      clear hsz
      generalize wa.heap.size = G at *
      clear hbq hHeld
      clear q0 q1 q2 q3 q4 hlq
      obtain ⟨⟨q0, q1, q2, q3, q4⟩, _, hlq⟩ := PB.out.q5
      refine hK.out _ _ (by exact ⟨q0, q1, q2, q3, q4⟩) (fun hHeld => ?_)
      clear hK K
      (try simp only [Act.put]); try simp only [g8b, g8c, g8d]
      refine wpAnyH_ready (rs := [7]) (by kernel_rfl) (by simp) ?_
      refine (AllReadyH.cons (by simp only [g8a, g8s, g8z]; rfl) (fun K hK => ?_) AllReadyH.nil)
      refine step_app (by rfl) _ _ 29 (by rfl) Try.underlying29 (w.heap.size + 1 + 1) (.slice (some ⟨G, 0, none⟩) 0 0) 0 [] (by rfl) OWN.out wb.heap.size B m d cs (by rfl) IB.out (by omega) (by have := BI.out.size; have := HW2.out; omega) ?_
      intro v2 wc own2 grow2 at2
      simp only [Nat.zero_add, List.nil_append] at own2
      have hb2 : Below (w.heap.size + 1 + 1) wb wc := Below.grown (Below.refl _ _) grow2 (by have := BI.out.size; have := HW2.out; omega) (fun g hg => (OWN.out.blk_lt g hg).1)
      try (replace OB := Lib.hid (Blk.grown OB.out grow2 (fun e => OWN.out.ne_blk OB.out (by decide) e.symm)))
      replace PB := Lib.hid (PB.out.below hb2 (by omega)); replace BI := Lib.hid (BI.out.trans hb2)
      obtain ⟨B1, d1, rfl, hd1, hI1, hf1⟩ := own2.ints
      replace OWN := Lib.hid own2
      clear own2 grow2 at2 hb2 hI1 hf1 hHeld
      clear q0 q1 q2 q3 q4 hlq
      obtain ⟨⟨q0, q1, q2, q3, q4⟩, _, hlq⟩ := PB.out.q5
      refine hK.out _ _ (by exact ⟨q0, q1, q2, q3, q4⟩) (fun hHeld => ?_)
      clear hK K
      (try simp only [Act.put]); try simp only [g8b, g8c, g8d]
      refine wpAnyH_take (i := 8) (oi := _) (v := ?_) (by simp only [g8a, g8s, g8z]; rfl) (by kernel_rfl) (by kernel_rfl) (by kernel_rfl) (by exact fun _ _ _ h => h) (Or.inl ⟨by rfl, ?_⟩) (by assumption) ?_
      rotate_left 1
      · (intro w hSw; (try dsimp only at hSw); go_simp; try with_reducible rfl)
      all_goals ((try simp only [Act.put]); try simp only [g8b, g8c, g8d])
      refine wpAnyH_ready (rs := [10]) (by kernel_rfl) (by simp) ?_
      refine (AllReadyH.cons (by simp only [g8a, g8s, g8z]; rfl) (fun K hK => ?_) AllReadyH.nil)
      refine step_storeN rfl 63 _ _ rfl rfl OB.out rfl rfl (by kernel_rfl) (by simp [Value.oneCell']) ?_
      intro wz hsto rz
      replace PB := Lib.hid (PB.out.sto hsto (by omega)); replace BI := Lib.hid (bsto BI.out hsto (by omega)); replace OWN := Lib.hid (OWN.out.stoG hsto (OWN.out.ne_blk OB.out (by decide)))
      clear q0 q1 q2 q3 q4 hlq
      obtain ⟨⟨q0, q1, q2, q3, q4⟩, _, hlq⟩ := PB.out.q5
      refine hK.out _ _ (by exact ⟨q0, q1, q2, q3, q4⟩) (fun hHeld => ?_)
      clear hK K
      (try simp only [Act.put]); try simp only [g8b, g8c, g8d]
      refine wpAnyH_done (by kernel_rfl) ?_ _
      go_wp2_with fail
      go_meet
      exact ⟨O, B1, d1, rfl, hO, rz, OWN.out, PB.out, BI.out⟩
  case rest =>
    clear PB IB
    obtain ⟨O, B1, d1, rfl, hO, hob, hown, hpb, hbi⟩ := hcut
    have E := Lib.hid (show BPt p O w wc #[.slice A n c, .int .i64 r.per, .int .i64 r.inc, .int .i64 fr, .slice B m d] #[.slice A n c, .int .i64 r.per, .int .i64 r.inc, .int .i64 fr, .slice B1 m d1] from ⟨hpb, hob, RB0.out.below hbi (by omega), (HS0.out.ext BW.out).below hbi (by omega), Kept.of (BW.out.trans (hbi.mono (by omega))), hpl, hO⟩)
    have IA := Lib.hid (show Ints wc wc.heap.size A n r.vals from ((IA0.out.below (BW.out.trans (hbi.mono (by omega)))).more (BW.out.trans (hbi.mono (by omega))).size))
    have AP := Lib.hid (show ∀ b off s, A = some ⟨b, off, s⟩ → 0 < n → b ≠ p ∧ b < w.heap.size from fun b off s e h0 => by
      obtain ⟨b', off', e', hb', _⟩ := IA0.out.2 h0
      have h9 := HAP.out b off s e
      rw [e] at e'
      cases e'
      exact ⟨h9, hb'⟩)
    have OWN := Lib.hid hown
    clear hob hown hpb hbi BW RB0 HS0 IA0 hsz
    go_wp2_with fail
    refine (n_any p 5 _ (by exact E.out.s) (by omega) (by omega)).mono ?_
    rintro e w4 ⟨z, hz0, hz1, rfl, hS, hk⟩
    replace E := Lib.hid (E.out.kept hS hk); replace IA := Lib.hid (IA.out.kept0 (fun h0 b off s e => (AP.out b off s e h0).1) hk); replace OWN := Lib.hid (OWN.out.kept (fun e => by have := (OWN.out.blk_lt _ e).1; omega) hk)
    clear hS hk
    obtain ⟨⟨o0, o1, o2, o3, o4⟩, ⟨v0, v1, v2, v3, v4⟩, hlo⟩ := E.out.ob.q5
    by_cases z0 : z = 0
    · subst z0
      obtain ⟨⟨q0, q1, q2, q3, q4⟩, _, hlq⟩ := E.out.pb.q5
      go_wp2_with fail
      refine (srcBent2_any p A n c r.per r.inc r.vals _ (by exact E.out.s) (by exact IA.out) (by omega)).mono ?_
      clear q0 q1 q2 q3 q4 hlq
      rintro e w5 ⟨g, A7, n7, c7, hlz, hc7, rfl, hI7, hA7, hS, hk⟩
      have hn7 : n7 ≤ 1000 := by have h2 : g.vals.length = n7 := hI7.1; omega
      have hlw := E.out.ob.lt
      replace E := Lib.hid (E.out.kept hS hk); replace IA := Lib.hid (IA.out.kept0 (fun h0 b off s e => (AP.out b off s e h0).1) hk); replace OWN := Lib.hid (OWN.out.kept (fun e => by have := (OWN.out.blk_lt _ e).1; omega) hk)
      clear hS hk
      clear o0 o1 o2 o3 o4 v0 v1 v2 v3 v4 hlo
      obtain ⟨⟨o0, o1, o2, o3, o4⟩, ⟨v0, v1, v2, v3, v4⟩, hlo⟩ := E.out.ob.q5
      go_upto_region 13 with fail
      clear o0 o1 o2 o3 o4 v0 v1 v2 v3 v4 hlo
      have nb := OWN.out.ne_blk E.out.ob (by decide)
      have IX := Lib.hid (show Ints (((w5.setCell ⟨O, 0, none⟩ (.slice A7 n7 c7)).setCell ⟨O, 1, none⟩ (.int .i64 g.per)).setCell ⟨O, 2, none⟩ (.int .i64 g.inc)) _ A7 n7 g.vals from ((hI7.ne1 (g0 := O) (fun _ b off s e => by have := hA7 b off s e; omega) 0 _).ne1 (g0 := O) (fun _ b off s e => by have := hA7 b off s e; omega) 1 _).ne1 (g0 := O) (fun _ b off s e => by have := hA7 b off s e; omega) 2 _)
      have PX1 := Lib.hid (show ∀ b off s, A7 = some ⟨b, off, s⟩ → b ≠ p from fun b off s e => by have := hA7 b off s e; omega)
      have PX2 := Lib.hid (show 0 < n7 → ∀ b off s, A7 = some ⟨b, off, s⟩ → b ≠ w.heap.size + 1 from fun _ b off s e => by have := hA7 b off s e; omega)
      replace OWN := Lib.hid (((OWN.out.far (p := ⟨O, 0, none⟩) nb (.slice A7 n7 c7)).far (p := ⟨O, 1, none⟩) nb (.int .i64 g.per)).far (p := ⟨O, 2, none⟩) nb (.int .i64 g.inc))
      replace E := Lib.hid (((E.out.seto 0 (.slice A7 n7 c7)).seto 1 (.int .i64 g.per)).seto 2 (.int .i64 g.inc))
      simp only [List.setIfInBounds_toArray, List.set_cons_succ, List.set_cons_zero] at E
      have HC7 := Lib.hid hc7
      clear hI7 hA7 hlz hc7 IA nb
      generalize hwe : ((w5.setCell ⟨O, 0, none⟩ (.slice A7 n7 c7)).setCell ⟨O, 1, none⟩ (.int .i64 g.per)).setCell ⟨O, 2, none⟩ (.int .i64 g.inc) = w6 at *
      clear hwe
      obtain ⟨B8, d8, e8, hc8, hI8, hf8⟩ := OWN.out.ints
      injection e8 with e1 e2 e3
      subst e1 e3
      have JX := Lib.hid hI8; have QX := Lib.hid hf8
      clear hI8 hf8 hc8
      obtain ⟨⟨o0, o1, o2, o3, o4⟩, _, hlo⟩ := E.out.ob.q5
      obtain ⟨⟨r0, r1, r2, r3, r4⟩, ⟨y0, y1, y2, y3, y4⟩, hlr⟩ := E.out.rb.q5
      go_wp2_with fail
      have rb := E.out.rb.str5 (.slice A7 n7 c7) (.int .i64 g.per) (.int .i64 g.inc) (.int .i64 fr) (.slice B1 m d1)
      exact bodyPost_ret (v := .agg #[.slice A7 n7 c7, .int .i64 g.per, .int .i64 g.inc, .int .i64 fr, .slice B1 m d1]) (by simp [results, Try.results45, go_sem, rb.cell]) rfl
        ⟨g, fr, cs, A7, n7, c7, B1, m, d1, by omega, by omega, HC7.out, rfl, IX.out.ne5 PX2.out _ _ _ _ _, JX.out.ne5 (fun _ b off s e => by have := QX.out b off s e; omega) _ _ _ _ _, PX1.out, (fun b off s e => by have := QX.out b off s e; omega), E.out.s.sto5 (by omega) _ _ _ _ _, E.out.k.sto5 (by omega) _ _ _ _ _⟩
    · have dz0 : (z == 0) = false := by simpa using z0
      by_cases z1 : z = 1
      · subst z1
        clear dz0 z0
        go_wp2_with fail
        refine (srcZero2_any p 6 _ (by exact E.out.s) (by omega) (by omega)).mono ?_
        rintro e w5 ⟨g, A7, n7, c7, hlz, hc7, rfl, hI7, hA7, hS, hk⟩
        have hn7 : n7 ≤ 1000 := by have h2 : g.vals.length = n7 := hI7.1; have h3 := hlz.1.len; omega
        have hlw := E.out.ob.lt
        replace E := Lib.hid (E.out.kept hS hk); replace IA := Lib.hid (IA.out.kept0 (fun h0 b off s e => (AP.out b off s e h0).1) hk); replace OWN := Lib.hid (OWN.out.kept (fun e => by have := (OWN.out.blk_lt _ e).1; omega) hk)
        clear hS hk
        clear o0 o1 o2 o3 o4 v0 v1 v2 v3 v4 hlo
        obtain ⟨⟨o0, o1, o2, o3, o4⟩, ⟨v0, v1, v2, v3, v4⟩, hlo⟩ := E.out.ob.q5
        go_upto_region 13 with fail
        clear o0 o1 o2 o3 o4 v0 v1 v2 v3 v4 hlo
        have nb := OWN.out.ne_blk E.out.ob (by decide)
        have IX := Lib.hid (show Ints (((w5.setCell ⟨O, 0, none⟩ (.slice A7 n7 c7)).setCell ⟨O, 1, none⟩ (.int .i64 g.per)).setCell ⟨O, 2, none⟩ (.int .i64 g.inc)) _ A7 n7 g.vals from ((hI7.ne1 (g0 := O) (fun _ b off s e => by have := hA7 b off s e; omega) 0 _).ne1 (g0 := O) (fun _ b off s e => by have := hA7 b off s e; omega) 1 _).ne1 (g0 := O) (fun _ b off s e => by have := hA7 b off s e; omega) 2 _)
        have PX1 := Lib.hid (show ∀ b off s, A7 = some ⟨b, off, s⟩ → b ≠ p from fun b off s e => by have := hA7 b off s e; omega)
        have PX2 := Lib.hid (show 0 < n7 → ∀ b off s, A7 = some ⟨b, off, s⟩ → b ≠ w.heap.size + 1 from fun _ b off s e => by have := hA7 b off s e; omega)
        replace OWN := Lib.hid (((OWN.out.far (p := ⟨O, 0, none⟩) nb (.slice A7 n7 c7)).far (p := ⟨O, 1, none⟩) nb (.int .i64 g.per)).far (p := ⟨O, 2, none⟩) nb (.int .i64 g.inc))
        replace E := Lib.hid (((E.out.seto 0 (.slice A7 n7 c7)).seto 1 (.int .i64 g.per)).seto 2 (.int .i64 g.inc))
        simp only [List.setIfInBounds_toArray, List.set_cons_succ, List.set_cons_zero] at E
        have HC7 := Lib.hid hc7
        clear hI7 hA7 hlz hc7 IA nb
        generalize hwe : ((w5.setCell ⟨O, 0, none⟩ (.slice A7 n7 c7)).setCell ⟨O, 1, none⟩ (.int .i64 g.per)).setCell ⟨O, 2, none⟩ (.int .i64 g.inc) = w6 at *
        clear hwe
        obtain ⟨B8, d8, e8, hc8, hI8, hf8⟩ := OWN.out.ints
        injection e8 with e1 e2 e3
        subst e1 e3
        have JX := Lib.hid hI8; have QX := Lib.hid hf8
        clear hI8 hf8 hc8
        obtain ⟨⟨o0, o1, o2, o3, o4⟩, _, hlo⟩ := E.out.ob.q5
        obtain ⟨⟨r0, r1, r2, r3, r4⟩, ⟨y0, y1, y2, y3, y4⟩, hlr⟩ := E.out.rb.q5
        go_wp2_with fail
        have rb := E.out.rb.str5 (.slice A7 n7 c7) (.int .i64 g.per) (.int .i64 g.inc) (.int .i64 fr) (.slice B1 m d1)
        exact bodyPost_ret (v := .agg #[.slice A7 n7 c7, .int .i64 g.per, .int .i64 g.inc, .int .i64 fr, .slice B1 m d1]) (by simp [results, Try.results45, go_sem, rb.cell]) rfl
          ⟨g, fr, cs, A7, n7, c7, B1, m, d1, by omega, by omega, HC7.out, rfl, IX.out.ne5 PX2.out _ _ _ _ _, JX.out.ne5 (fun _ b off s e => by have := QX.out b off s e; omega) _ _ _ _ _, PX1.out, (fun b off s e => by have := QX.out b off s e; omega), E.out.s.sto5 (by omega) _ _ _ _ _, E.out.k.sto5 (by omega) _ _ _ _ _⟩
      · have dz1 : (z == 1) = false := by simpa using z1
        by_cases z2 : z = 2
        · subst z2
          clear dz0 z0 dz1 z1
          go_upto_region 9 with fail
          replace E := Lib.hid E.out.drew; replace OWN := Lib.hid OWN.out.drew
          replace IA := Lib.hid (show Ints w4.drew w4.drew.heap.size A n r.vals from IA.out)
          clear o0 o1 o2 o3 o4 v0 v1 v2 v3 v4 hlo
          obtain ⟨⟨o0, o1, o2, o3, o4⟩, ⟨v0, v1, v2, v3, v4⟩, hlo⟩ := E.out.ob.q5
          have hF : True := trivial
          refine wp_region_T (fun _ => True) (fun w' => w'.cell? ⟨O, 3, none⟩ = some (.int .i64 fr)) 7 (by kernel_rfl) (by exact hF) (by exact o3) (fun _ => ?_)
          clear o0 o1 o2 o3 o4 v0 v1 v2 v3 v4 hlo
          generalize hwd : w4.drew = wd at *
          clear hwd
          obtain ⟨⟨o0, o1, o2, o3, o4⟩, ⟨v0, v1, v2, v3, v4⟩, hlo⟩ := E.out.ob.q5
          have hG := o3
          refine wpAnyT_take (i := 0) (oi := _) (v := ?_) (by simp only [g8a, g8z]; rfl) (by kernel_rfl) (by kernel_rfl) (by kernel_rfl) (by rfl) (by exact fun _ _ _ h => h) (Or.inl ⟨by rfl, ?_⟩) ⟨(by exact hF), fun _ => (by exact hG)⟩ (fun _ => ?_)
          rotate_left 1
          · (intro w hSw; (try dsimp only at hSw); go_simp; try with_reducible rfl)
          all_goals ((try simp only [Act.put]); try simp only [g8b, g8c, g8d])
          refine wpAnyT_takeG (i := 1) (oi := _) (v := ?_) (by simp only [g8a, g8s, g8z]; rfl) (by kernel_rfl) (by kernel_rfl) (by kernel_rfl) (by rfl) (by kernel_rfl) (by kernel_rfl) (by exact fun _ _ _ h => h) (Or.inl ⟨by rfl, ?_⟩) ⟨(by exact hF), fun _ => (by exact hG)⟩ (fun _ => ?_)
          rotate_left 1
          · (intro w hSw; (try dsimp only at hSw); go_simp; try with_reducible rfl)
          all_goals ((try simp only [Act.put]); try simp only [g8b, g8c, g8d])
          refine wpAnyT_take (i := 2) (oi := _) (v := ?_) (by simp only [g8a, g8s, g8z]; rfl) (by kernel_rfl) (by kernel_rfl) (by kernel_rfl) (by rfl) (by exact fun _ _ _ h => h) (Or.inl ⟨by rfl, ?_⟩) ⟨(by exact hF), fun _ => (by exact hG)⟩ (fun _ => ?_)
          rotate_left 1
          · (intro w hSw; (try dsimp only at hSw); go_simp; try with_reducible rfl)
          all_goals ((try simp only [Act.put]); try simp only [g8b, g8c, g8d])
          refine wpAnyT_ready (rs := [3]) (by kernel_rfl) (by simp) ?_
          refine (AllReadyT.cons (by simp only [g8a, g8s, g8z]; rfl) (fun K hK => ?_) AllReadyT.nil)
          rw [if_pos (by rfl)]
          go_simp
          refine (n_any p 3 _ (by exact E.out.s) (by omega) (by omega)).mono ?_
          rintro e wa ⟨k, hk0, hk1, rfl, hS, hk⟩
          clear hG
          replace E := Lib.hid (E.out.kept hS hk); replace IA := Lib.hid (IA.out.kept0 (fun h0 b off s e => (AP.out b off s e h0).1) hk); replace OWN := Lib.hid (OWN.out.kept (fun e => by have := (OWN.out.blk_lt _ e).1; omega) hk)
          clear hS hk
          clear o0 o1 o2 o3 o4 v0 v1 v2 v3 v4 hlo
          obtain ⟨⟨o0, o1, o2, o3, o4⟩, ⟨v0, v1, v2, v3, v4⟩, hlo⟩ := E.out.ob.q5
          have hG := o3
          refine hK.out _ _ ⟨(by exact hF), fun _ => (by exact hG)⟩ (fun _ => ?_)
          clear hK K
          (try simp only [Act.put]); try simp only [g8b, g8c, g8d]
          have ek1 : IntKind.i64.wrap (k - 1) = k - 1 := IntWalk.i64_in _ (by omega)
          obtain ⟨y, hy⟩ : ∃ y, y = IntKind.i64.wrap (fr + (k - 1)) := ⟨_, rfl⟩
          have ey := hy.symm
          clear hy
          refine wpAnyT_take (i := 4) (oi := _) (v := ?_) (by simp only [g8a, g8s, g8z]; rfl) (by kernel_rfl) (by kernel_rfl) (by kernel_rfl) (by rfl) (by exact fun _ _ _ h => h) (Or.inl ⟨by rfl, ?_⟩) ⟨(by exact hF), fun _ => (by exact hG)⟩ (fun _ => ?_)
          rotate_left 1
          · (intro w hSw; (try dsimp only at hSw); go_simp; try with_reducible rfl)
          all_goals ((try simp only [Act.put]); try simp only [g8b, g8c, g8d])
          refine wpAnyT_take (i := 5) (oi := _) (v := ?_) (by simp only [g8a, g8s, g8z]; rfl) (by kernel_rfl) (by kernel_rfl) (by kernel_rfl) (by rfl) (by exact fun _ _ _ h => h) (Or.inl ⟨by rfl, ?_⟩) ⟨(by exact hF), fun _ => (by exact hG)⟩ (fun _ => ?_)
          rotate_left 1
          · (intro w hSw; (try dsimp only at hSw); go_simp; try with_reducible rfl)
          all_goals ((try simp only [Act.put]); try simp only [g8b, g8c, g8d])
          refine wpAnyT_take (i := 6) (oi := _) (v := ?_) (by simp only [g8a, g8s, g8z]; rfl) (by kernel_rfl) (by kernel_rfl) (by kernel_rfl) (by rfl) (by exact fun _ _ _ h => h) (Or.inl ⟨by rfl, ?_⟩) ⟨(by exact hF), fun _ => (by exact hG)⟩ (fun _ => ?_)
          rotate_left 1
          · (intro w hSw; (try dsimp only at hSw); go_simp; try with_reducible rfl)
          all_goals ((try simp only [Act.put]); try simp only [g8b, g8c, g8d])
          refine wpAnyT_ready (rs := [7]) (by kernel_rfl) (by simp) ?_
          refine (AllReadyT.cons (by simp only [g8a, g8s, g8z]; rfl) (fun K hK => ?_) AllReadyT.nil)
          rw [if_pos (by rfl)]
          go_simp
          clear hG ek1 ey
          replace OWN := Lib.hid (OWN.out.far (p := ⟨O, 3, none⟩) (OWN.out.ne_blk E.out.ob (by decide)) (.int .i64 y))
          replace IA := Lib.hid (IA.out.ne1 (g0 := O) (fun h0 b off s e => by have := (AP.out b off s e h0).2; omega) 3 (.int .i64 y))
          replace E := Lib.hid (E.out.seto 3 (.int .i64 y))
          simp only [List.setIfInBounds_toArray, List.set_cons_succ, List.set_cons_zero] at E
          clear o0 o1 o2 o3 o4 v0 v1 v2 v3 v4 hlo
          generalize hwe : wa.setCell ⟨O, 3, none⟩ (.int .i64 y) = we at *
          clear hwe
          refine hK.out _ _ ⟨(by exact hF), fun h => Bool.noConfusion (show true = false from h)⟩ (fun _ => ?_)
          clear hK K
          (try simp only [Act.put]); try simp only [g8b, g8c, g8d]
          refine wpAnyT_done (by kernel_rfl) ?_ _
          have IX := IA
          have PX1 := HAP
          have PX2 := Lib.hid (show 0 < n → ∀ b off s, A = some ⟨b, off, s⟩ → b ≠ w.heap.size + 1 from fun h0 b off s e => by have := (AP.out b off s e h0).2; omega)
          obtain ⟨B8, d8, e8, hc8, hI8, hf8⟩ := OWN.out.ints
          injection e8 with e1 e2 e3
          subst e1 e3
          have JX := Lib.hid hI8; have QX := Lib.hid hf8
          clear hI8 hf8 hc8
          obtain ⟨⟨o0, o1, o2, o3, o4⟩, _, hlo⟩ := E.out.ob.q5
          obtain ⟨⟨r0, r1, r2, r3, r4⟩, ⟨y0, y1, y2, y3, y4⟩, hlr⟩ := E.out.rb.q5
          go_wp2_with fail
          have rb := E.out.rb.str5 (.slice A n c) (.int .i64 r.per) (.int .i64 r.inc) (.int .i64 y) (.slice B1 m d1)
          exact bodyPost_ret (v := .agg #[.slice A n c, .int .i64 r.per, .int .i64 r.inc, .int .i64 y, .slice B1 m d1]) (by simp [results, Try.results45, go_sem, rb.cell]) rfl
            ⟨r, y, cs, A, n, c, B1, m, d1, by omega, by omega, HNC.out, rfl, IX.out.ne5 PX2.out _ _ _ _ _, JX.out.ne5 (fun _ b off s e => by have := QX.out b off s e; omega) _ _ _ _ _, PX1.out, (fun b off s e => by have := QX.out b off s e; omega), E.out.s.sto5 (by omega) _ _ _ _ _, E.out.k.sto5 (by omega) _ _ _ _ _⟩
        · have dz2 : (z == 2) = false := by simpa using z2
          by_cases z3 : z = 3
          · subst z3
            clear dz0 z0 dz1 z1 dz2 z2
            by_cases hm0 : m = 0
            · subst hm0
              go_upto_region 13 with fail
              clear o0 o1 o2 o3 o4 v0 v1 v2 v3 v4 hlo
              have IX := IA
              have PX1 := HAP
              have PX2 := Lib.hid (show 0 < n → ∀ b off s, A = some ⟨b, off, s⟩ → b ≠ w.heap.size + 1 from fun h0 b off s e => by have := (AP.out b off s e h0).2; omega)
              obtain ⟨B8, d8, e8, hc8, hI8, hf8⟩ := OWN.out.ints
              injection e8 with e1 e2 e3
              subst e1 e3
              have JX := Lib.hid hI8; have QX := Lib.hid hf8
              clear hI8 hf8 hc8
              obtain ⟨⟨o0, o1, o2, o3, o4⟩, _, hlo⟩ := E.out.ob.q5
              obtain ⟨⟨r0, r1, r2, r3, r4⟩, ⟨y0, y1, y2, y3, y4⟩, hlr⟩ := E.out.rb.q5
              go_wp2_with fail
              have rb := E.out.rb.str5 (.slice A n c) (.int .i64 r.per) (.int .i64 r.inc) (.int .i64 fr) (.slice B1 0 d1)
              exact bodyPost_ret (v := .agg #[.slice A n c, .int .i64 r.per, .int .i64 r.inc, .int .i64 fr, .slice B1 0 d1]) (by simp [results, Try.results45, go_sem, rb.cell]) rfl
                ⟨r, fr, cs, A, n, c, B1, 0, d1, by omega, by omega, HNC.out, rfl, IX.out.ne5 PX2.out _ _ _ _ _, JX.out.ne5 (fun _ b off s e => by have := QX.out b off s e; omega) _ _ _ _ _, PX1.out, (fun b off s e => by have := QX.out b off s e; omega), E.out.s.sto5 (by omega) _ _ _ _ _, E.out.k.sto5 (by omega) _ _ _ _ _⟩
            · have dm : decide ((0 : Int) < (m : Int)) = true := by simp; omega
              have dm' : decide (0 < m) = true := by simp; omega
              obtain ⟨g, cg, hv, hg, hcg, row⟩ := OWN.out.row (by omega)
              injection hv with e1 e2 e3
              subst e1 e3
              have HCL := Lib.hid OWN.out.len
              have hOg : O ≠ g := fun e => (OWN.out.ne_blk E.out.ob (by decide)) (by rw [e]; rfl)
              have ROW := Lib.hid row
              have hmi : (0 : Int) < m := by omega
              clear row OWN
              go_upto_region 12 with fail
              clear dm dm'
              replace E := Lib.hid E.out.drew; replace ROW := Lib.hid (RowI.drew ROW.out)
              replace IA := Lib.hid (show Ints w4.drew w4.drew.heap.size A n r.vals from IA.out)
              clear o0 o1 o2 o3 o4 v0 v1 v2 v3 v4 hlo
              obtain ⟨⟨o0, o1, o2, o3, o4⟩, ⟨v0, v1, v2, v3, v4⟩, hlo⟩ := E.out.ob.q5
              refine wp_region_held_drew (S := fun w' => w'.cell? ⟨O, 4, none⟩ = some (.slice (some ⟨g, 0, none⟩) m d1)) (by kernel_rfl) (by exact o4) (fun hHeld => ?_)
              clear o0 o1 o2 o3 o4 v0 v1 v2 v3 v4 hlo
              generalize hwd : w4.drew = wd at *
              clear hwd
              obtain ⟨⟨o0, o1, o2, o3, o4⟩, ⟨v0, v1, v2, v3, v4⟩, hlo⟩ := E.out.ob.q5
              refine wpAnyH_take (i := 0) (oi := _) (v := ?_) (by simp only [g8a, g8z]; rfl) (by kernel_rfl) (by kernel_rfl) (by kernel_rfl) (by exact fun _ _ _ h => h) (Or.inl ⟨by rfl, ?_⟩) (by assumption) ?_
              rotate_left 1
              · (intro w hSw; (try dsimp only at hSw); go_simp; try with_reducible rfl)
              all_goals ((try simp only [Act.put]); try simp only [g8b, g8c, g8d])
              refine wpAnyH_take (i := 1) (oi := _) (v := ?_) (by simp only [g8a, g8s, g8z]; rfl) (by kernel_rfl) (by kernel_rfl) (by kernel_rfl) (by exact fun _ _ _ h => h) (Or.inl ⟨by rfl, ?_⟩) (by assumption) ?_
              rotate_left 1
              · (intro w hSw; (try dsimp only at hSw); go_simp; try with_reducible rfl)
              all_goals ((try simp only [Act.put]); try simp only [g8b, g8c, g8d])
              refine wpAnyH_take (i := 2) (oi := _) (v := ?_) (by simp only [g8a, g8s, g8z]; rfl) (by kernel_rfl) (by kernel_rfl) (by kernel_rfl) (by exact fun _ _ _ h => h) (Or.inl ⟨by rfl, ?_⟩) (by assumption) ?_
              rotate_left 1
              · (intro w hSw; (try dsimp only at hSw); go_simp; try with_reducible rfl)
              all_goals ((try simp only [Act.put]); try simp only [g8b, g8c, g8d])
              refine wpAnyH_take (i := 3) (oi := _) (v := ?_) (by simp only [g8a, g8s, g8z]; rfl) (by kernel_rfl) (by kernel_rfl) (by kernel_rfl) (by exact fun _ _ _ h => h) (Or.inl ⟨by rfl, ?_⟩) (by assumption) ?_
              rotate_left 1
              · (intro w hSw; (try dsimp only at hSw); go_simp; try with_reducible rfl)
              all_goals ((try simp only [Act.put]); try simp only [g8b, g8c, g8d])
              refine wpAnyH_take (i := 4) (oi := _) (v := ?_) (by simp only [g8a, g8s, g8z]; rfl) (by kernel_rfl) (by kernel_rfl) (by kernel_rfl) (by exact fun _ _ _ h => h) (Or.inl ⟨by rfl, ?_⟩) (by assumption) ?_
              rotate_left 1
              · (intro w hSw; (try dsimp only at hSw); go_simp; try with_reducible rfl)
              all_goals ((try simp only [Act.put]); try simp only [g8b, g8c, g8d])
              refine wpAnyH_take (i := 5) (oi := _) (v := ?_) (by simp only [g8a, g8s, g8z]; rfl) (by kernel_rfl) (by kernel_rfl) (by kernel_rfl) (by exact fun _ _ _ h => h) (Or.inl ⟨by rfl, ?_⟩) (by assumption) ?_
              rotate_left 1
              · (intro w hSw; (try dsimp only at hSw); go_simp; try with_reducible rfl)
              all_goals ((try simp only [Act.put]); try simp only [g8b, g8c, g8d])
              refine wpAnyH_take (i := 9) (oi := _) (v := ?_) (by simp only [g8a, g8s, g8z]; rfl) (by kernel_rfl) (by kernel_rfl) (by kernel_rfl) (by exact fun _ _ _ h => h) (Or.inl ⟨by rfl, ?_⟩) (by assumption) ?_
              rotate_left 1
              · (intro w hSw; (try dsimp only at hSw); go_simp; try with_reducible rfl)
              all_goals ((try simp only [Act.put]); try simp only [g8b, g8c, g8d])
              refine wpAnyH_ready (rs := [6]) (by kernel_rfl) (by simp) ?_
              refine (AllReadyH.cons (by simp only [g8a, g8s, g8z]; rfl) (fun K hK => ?_) AllReadyH.nil)
              rw [if_pos (by rfl)]
              go_simp
              refine (n_any p m _ (by exact E.out.s) (by omega) (by omega)).mono ?_
              rintro e wa ⟨jz, hj0, hj1, rfl, hS, hk⟩
              obtain ⟨j, rfl⟩ := Int.eq_ofNat_of_zero_le hj0
              have hj : j < m := by omega
              clear hj0
              replace E := Lib.hid (E.out.kept hS hk); replace IA := Lib.hid (IA.out.kept0 (fun h0 b off s e => (AP.out b off s e h0).1) hk); replace ROW := Lib.hid (ROW.out.kept (by omega) hk)
              clear hS hk hHeld
              clear o0 o1 o2 o3 o4 v0 v1 v2 v3 v4 hlo
              obtain ⟨⟨o0, o1, o2, o3, o4⟩, ⟨v0, v1, v2, v3, v4⟩, hlo⟩ := E.out.ob.q5
              refine hK.out _ _ (by exact o4) (fun hHeld => ?_)
              clear hK K
              (try simp only [Act.put]); try simp only [g8b, g8c, g8d]
              refine wpAnyH_take (i := 7) (oi := _) (v := ?_) (by simp only [g8a, g8s, g8z]; rfl) (by kernel_rfl) (by kernel_rfl) (by kernel_rfl) (by exact fun _ _ _ h => h) (Or.inl ⟨by rfl, ?_⟩) (by assumption) ?_
              rotate_left 1
              · (intro w hSw; (try dsimp only at hSw); go_simp; try with_reducible rfl)
              all_goals ((try simp only [Act.put]); try simp only [g8b, g8c, g8d])
              obtain ⟨x, hx⟩ : ∃ x, x = nth cs j := ⟨_, rfl⟩
              have HX := Lib.hid hx
              clear hx
              refine wpAnyH_ready (rs := [8, 10]) (by kernel_rfl) (by simp) ?_
              refine (AllReadyH.cons (by simp only [g8a, g8s, g8z]; rfl) (fun K hK => ?_) (AllReadyH.cons (by simp only [g8a, g8s, g8z]; rfl) (fun K hK => ?_) AllReadyH.nil))
              · have hck := ROW.out.cell j (by rw [HCL.out]; exact hj)
                rw [← HX.out] at hck
                have hgl := ROW.out.lt
                rw [if_pos (by rfl)]
                go_simp
                clear hck hgl hHeld
                refine hK.out _ _ (by exact o4) (fun hHeld => ?_)
                clear hK K
                (try simp only [Act.put]); try simp only [g8b, g8c, g8d]
                refine wpAnyH_ready (rs := [10]) (by kernel_rfl) (by simp) ?_
                refine (AllReadyH.cons (by simp only [g8a, g8s, g8z]; rfl) (fun K hK => ?_) AllReadyH.nil)
                rw [if_pos (by rfl)]
                go_simp
                refine (n_any p 5 _ (by exact E.out.s) (by omega) (by omega)).mono ?_
                rintro e wb ⟨k, hk0, hk1, rfl, hS, hk⟩
                replace E := Lib.hid (E.out.kept hS hk); replace IA := Lib.hid (IA.out.kept0 (fun h0 b off s e => (AP.out b off s e h0).1) hk); replace ROW := Lib.hid (ROW.out.kept (by omega) hk)
                clear hS hk hHeld
                clear o0 o1 o2 o3 o4 v0 v1 v2 v3 v4 hlo
                obtain ⟨⟨o0, o1, o2, o3, o4⟩, ⟨v0, v1, v2, v3, v4⟩, hlo⟩ := E.out.ob.q5
                refine hK.out _ _ (by exact o4) (fun hHeld => ?_)
                clear hK K
                (try simp only [Act.put]); try simp only [g8b, g8c, g8d]
                have ek1 : IntKind.i64.wrap (k - 2) = k - 2 := IntWalk.i64_in _ (by omega)
                refine wpAnyH_take (i := 11) (oi := _) (v := ?_) (by simp only [g8a, g8s, g8z]; rfl) (by kernel_rfl) (by kernel_rfl) (by kernel_rfl) (by exact fun _ _ _ h => h) (Or.inl ⟨by rfl, ?_⟩) (by assumption) ?_
                rotate_left 1
                · (intro w hSw; (try dsimp only at hSw); go_simp; try with_reducible rfl)
                all_goals ((try simp only [Act.put]); try simp only [g8b, g8c, g8d])
                obtain ⟨y, hy⟩ : ∃ y, y = IntKind.i64.wrap (x + (k - 2)) := ⟨_, rfl⟩
                have ey := hy.symm
                clear hy
                refine wpAnyH_take (i := 12) (oi := _) (v := ?_) (by simp only [g8a, g8s, g8z]; rfl) (by kernel_rfl) (by kernel_rfl) (by kernel_rfl) (by exact fun _ _ _ h => h) (Or.inl ⟨by rfl, ?_⟩) (by assumption) ?_
                rotate_left 1
                · (intro w hSw; (try dsimp only at hSw); go_simp; try with_reducible rfl)
                all_goals ((try simp only [Act.put]); try simp only [g8b, g8c, g8d])
                refine wpAnyH_take (i := 13) (oi := _) (v := ?_) (by simp only [g8a, g8s, g8z]; rfl) (by kernel_rfl) (by kernel_rfl) (by kernel_rfl) (by exact fun _ _ _ h => h) (Or.inl ⟨by rfl, ?_⟩) (by assumption) ?_
                rotate_left 1
                · (intro w hSw; (try dsimp only at hSw); go_simp; try with_reducible rfl)
                all_goals ((try simp only [Act.put]); try simp only [g8b, g8c, g8d])
                have hck := ROW.out.cell j (by rw [HCL.out]; exact hj)
                have hfz := ROW.out.frozen j
                have hgl := ROW.out.lt
                refine wpAnyH_ready (rs := [14]) (by kernel_rfl) (by simp) ?_
                refine (AllReadyH.cons (by simp only [g8a, g8s, g8z]; rfl) (fun K hK => ?_) AllReadyH.nil)
                rw [if_pos (by rfl)]
                go_simp
                clear hck hfz hgl hHeld
                replace E := Lib.hid (E.out.far hg hOg j (.int .i64 y)); replace IA := Lib.hid (IA.out.ne1 (g0 := g) (fun h0 b off s e => by have := (AP.out b off s e h0).2; omega) j (.int .i64 y)); replace ROW := Lib.hid (ROW.out.set_ j (by rw [HCL.out]; exact hj) y)
                clear o0 o1 o2 o3 o4 v0 v1 v2 v3 v4 hlo
                generalize hwe : wb.setCell ⟨g, j, none⟩ (.int .i64 y) = we at *
                clear hwe
                obtain ⟨⟨o0, o1, o2, o3, o4⟩, ⟨v0, v1, v2, v3, v4⟩, hlo⟩ := E.out.ob.q5
                refine hK.out _ _ (by exact o4) (fun hHeld => ?_)
                clear hK K
                (try simp only [Act.put]); try simp only [g8b, g8c, g8d]
                refine wpAnyH_done (by kernel_rfl) ?_ _
                clear hHeld
                clear o0 o1 o2 o3 o4 v0 v1 v2 v3 v4 hlo
                have JX := Lib.hid (show Ints we we.heap.size (some ⟨g, 0, none⟩) m (cs.set j y) from by have h1 := ROW.out.ints; rw [List.length_set, HCL.out] at h1; exact h1)
                have QX := Lib.hid (show ∀ b off s, some (⟨g, 0, none⟩ : Addr) = some ⟨b, off, s⟩ → w.heap.size + 1 + 1 ≤ b from fun b off s e => by injection e with e; injection e with e; omega)
                have IX := IA
                have PX1 := HAP
                have PX2 := Lib.hid (show 0 < n → ∀ b off s, A = some ⟨b, off, s⟩ → b ≠ w.heap.size + 1 from fun h0 b off s e => by have := (AP.out b off s e h0).2; omega)
                obtain ⟨⟨o0, o1, o2, o3, o4⟩, _, hlo⟩ := E.out.ob.q5
                obtain ⟨⟨r0, r1, r2, r3, r4⟩, ⟨y0, y1, y2, y3, y4⟩, hlr⟩ := E.out.rb.q5
                go_wp2_with fail
                have rb := E.out.rb.str5 (.slice A n c) (.int .i64 r.per) (.int .i64 r.inc) (.int .i64 fr) (.slice (some ⟨g, 0, none⟩) m d1)
                exact bodyPost_ret (v := .agg #[.slice A n c, .int .i64 r.per, .int .i64 r.inc, .int .i64 fr, .slice (some ⟨g, 0, none⟩) m d1]) (by simp [results, Try.results45, go_sem, rb.cell]) rfl
                  ⟨r, fr, (cs.set j y), A, n, c, (some ⟨g, 0, none⟩), m, d1, by omega, by omega, HNC.out, rfl, IX.out.ne5 PX2.out _ _ _ _ _, JX.out.ne5 (fun _ b off s e => by have := QX.out b off s e; omega) _ _ _ _ _, PX1.out, (fun b off s e => by have := QX.out b off s e; omega), E.out.s.sto5 (by omega) _ _ _ _ _, E.out.k.sto5 (by omega) _ _ _ _ _⟩
              · rw [if_pos (by rfl)]
                go_simp
                refine (n_any p 5 _ (by exact E.out.s) (by omega) (by omega)).mono ?_
                rintro e wb ⟨k, hk0, hk1, rfl, hS, hk⟩
                replace E := Lib.hid (E.out.kept hS hk); replace IA := Lib.hid (IA.out.kept0 (fun h0 b off s e => (AP.out b off s e h0).1) hk); replace ROW := Lib.hid (ROW.out.kept (by omega) hk)
                clear hS hk hHeld
                clear o0 o1 o2 o3 o4 v0 v1 v2 v3 v4 hlo
                obtain ⟨⟨o0, o1, o2, o3, o4⟩, ⟨v0, v1, v2, v3, v4⟩, hlo⟩ := E.out.ob.q5
                refine hK.out _ _ (by exact o4) (fun hHeld => ?_)
                clear hK K
                (try simp only [Act.put]); try simp only [g8b, g8c, g8d]
                have ek1 : IntKind.i64.wrap (k - 2) = k - 2 := IntWalk.i64_in _ (by omega)
                refine wpAnyH_take (i := 11) (oi := _) (v := ?_) (by simp only [g8a, g8s, g8z]; rfl) (by kernel_rfl) (by kernel_rfl) (by kernel_rfl) (by exact fun _ _ _ h => h) (Or.inl ⟨by rfl, ?_⟩) (by assumption) ?_
                rotate_left 1
                · (intro w hSw; (try dsimp only at hSw); go_simp; try with_reducible rfl)
                all_goals ((try simp only [Act.put]); try simp only [g8b, g8c, g8d])
                refine wpAnyH_ready (rs := [8]) (by kernel_rfl) (by simp) ?_
                refine (AllReadyH.cons (by simp only [g8a, g8s, g8z]; rfl) (fun K hK => ?_) AllReadyH.nil)
                have hck := ROW.out.cell j (by rw [HCL.out]; exact hj)
                rw [← HX.out] at hck
                have hgl := ROW.out.lt
                rw [if_pos (by rfl)]
                go_simp
                clear hck hgl hHeld
                refine hK.out _ _ (by exact o4) (fun hHeld => ?_)
                clear hK K
                (try simp only [Act.put]); try simp only [g8b, g8c, g8d]
                obtain ⟨y, hy⟩ : ∃ y, y = IntKind.i64.wrap (x + (k - 2)) := ⟨_, rfl⟩
                have ey := hy.symm
                clear hy
                refine wpAnyH_take (i := 12) (oi := _) (v := ?_) (by simp only [g8a, g8s, g8z]; rfl) (by kernel_rfl) (by kernel_rfl) (by kernel_rfl) (by exact fun _ _ _ h => h) (Or.inl ⟨by rfl, ?_⟩) (by assumption) ?_
                rotate_left 1
                · (intro w hSw; (try dsimp only at hSw); go_simp; try with_reducible rfl)
                all_goals ((try simp only [Act.put]); try simp only [g8b, g8c, g8d])
                refine wpAnyH_take (i := 13) (oi := _) (v := ?_) (by simp only [g8a, g8s, g8z]; rfl) (by kernel_rfl) (by kernel_rfl) (by kernel_rfl) (by exact fun _ _ _ h => h) (Or.inl ⟨by rfl, ?_⟩) (by assumption) ?_
                rotate_left 1
                · (intro w hSw; (try dsimp only at hSw); go_simp; try with_reducible rfl)
                all_goals ((try simp only [Act.put]); try simp only [g8b, g8c, g8d])
                have hck := ROW.out.cell j (by rw [HCL.out]; exact hj)
                have hfz := ROW.out.frozen j
                have hgl := ROW.out.lt
                refine wpAnyH_ready (rs := [14]) (by kernel_rfl) (by simp) ?_
                refine (AllReadyH.cons (by simp only [g8a, g8s, g8z]; rfl) (fun K hK => ?_) AllReadyH.nil)
                rw [if_pos (by rfl)]
                go_simp
                clear hck hfz hgl hHeld
                replace E := Lib.hid (E.out.far hg hOg j (.int .i64 y)); replace IA := Lib.hid (IA.out.ne1 (g0 := g) (fun h0 b off s e => by have := (AP.out b off s e h0).2; omega) j (.int .i64 y)); replace ROW := Lib.hid (ROW.out.set_ j (by rw [HCL.out]; exact hj) y)
                clear o0 o1 o2 o3 o4 v0 v1 v2 v3 v4 hlo
                generalize hwe : wb.setCell ⟨g, j, none⟩ (.int .i64 y) = we at *
                clear hwe
                obtain ⟨⟨o0, o1, o2, o3, o4⟩, ⟨v0, v1, v2, v3, v4⟩, hlo⟩ := E.out.ob.q5
                refine hK.out _ _ (by exact o4) (fun hHeld => ?_)
                clear hK K
                (try simp only [Act.put]); try simp only [g8b, g8c, g8d]
                refine wpAnyH_done (by kernel_rfl) ?_ _
                clear hHeld
                clear o0 o1 o2 o3 o4 v0 v1 v2 v3 v4 hlo
                have JX := Lib.hid (show Ints we we.heap.size (some ⟨g, 0, none⟩) m (cs.set j y) from by have h1 := ROW.out.ints; rw [List.length_set, HCL.out] at h1; exact h1)
                have QX := Lib.hid (show ∀ b off s, some (⟨g, 0, none⟩ : Addr) = some ⟨b, off, s⟩ → w.heap.size + 1 + 1 ≤ b from fun b off s e => by injection e with e; injection e with e; omega)
                have IX := IA
                have PX1 := HAP
                have PX2 := Lib.hid (show 0 < n → ∀ b off s, A = some ⟨b, off, s⟩ → b ≠ w.heap.size + 1 from fun h0 b off s e => by have := (AP.out b off s e h0).2; omega)
                obtain ⟨⟨o0, o1, o2, o3, o4⟩, _, hlo⟩ := E.out.ob.q5
                obtain ⟨⟨r0, r1, r2, r3, r4⟩, ⟨y0, y1, y2, y3, y4⟩, hlr⟩ := E.out.rb.q5
                go_wp2_with fail
                have rb := E.out.rb.str5 (.slice A n c) (.int .i64 r.per) (.int .i64 r.inc) (.int .i64 fr) (.slice (some ⟨g, 0, none⟩) m d1)
                exact bodyPost_ret (v := .agg #[.slice A n c, .int .i64 r.per, .int .i64 r.inc, .int .i64 fr, .slice (some ⟨g, 0, none⟩) m d1]) (by simp [results, Try.results45, go_sem, rb.cell]) rfl
                  ⟨r, fr, (cs.set j y), A, n, c, (some ⟨g, 0, none⟩), m, d1, by omega, by omega, HNC.out, rfl, IX.out.ne5 PX2.out _ _ _ _ _, JX.out.ne5 (fun _ b off s e => by have := QX.out b off s e; omega) _ _ _ _ _, PX1.out, (fun b off s e => by have := QX.out b off s e; omega), E.out.s.sto5 (by omega) _ _ _ _ _, E.out.k.sto5 (by omega) _ _ _ _ _⟩
          · have dz3 : (z == 3) = false := by simpa using z3
            clear z0 z1 z2 z3
            have hmd : (m : Int) ≤ d1 := by have := (Own.two OWN.out).1; omega
            have emm : IntKind.i64.wrap ((m : Int) + 1) = (m : Int) + 1 := IntWalk.i64_in _ (by omega)
            go_upto_region 3 with fail
            clear dz0 dz1 dz2 dz3
            replace E := Lib.hid E.out.drew; replace OWN := Lib.hid OWN.out.drew
            replace IA := Lib.hid (show Ints w4.drew w4.drew.heap.size A n r.vals from IA.out)
            clear o0 o1 o2 o3 o4 v0 v1 v2 v3 v4 hlo
            obtain ⟨⟨o0, o1, o2, o3, o4⟩, ⟨v0, v1, v2, v3, v4⟩, hlo⟩ := E.out.ob.q5
            have hF : True := trivial
            refine wp_region_T (fun _ => True) (fun w' => w'.cell? ⟨O, 4, none⟩ = some (.slice B1 m d1)) 10 (by kernel_rfl) (by exact hF) (by exact o4) (fun _ => ?_)
            clear o0 o1 o2 o3 o4 v0 v1 v2 v3 v4 hlo
            generalize hwd : w4.drew = wd at *
            clear hwd
            obtain ⟨⟨o0, o1, o2, o3, o4⟩, ⟨v0, v1, v2, v3, v4⟩, hlo⟩ := E.out.ob.q5
            have hG := o4
            refine wpAnyT_take (i := 0) (oi := _) (v := ?_) (by simp only [g8a, g8z]; rfl) (by kernel_rfl) (by kernel_rfl) (by kernel_rfl) (by rfl) (by exact fun _ _ _ h => h) (Or.inl ⟨by rfl, ?_⟩) ⟨(by exact hF), fun _ => (by exact hG)⟩ (fun _ => ?_)
            rotate_left 1
            · (intro w hSw; (try dsimp only at hSw); go_simp; try with_reducible rfl)
            all_goals ((try simp only [Act.put]); try simp only [g8b, g8c, g8d])
            refine wpAnyT_takeG (i := 1) (oi := _) (v := ?_) (by simp only [g8a, g8s, g8z]; rfl) (by kernel_rfl) (by kernel_rfl) (by kernel_rfl) (by rfl) (by kernel_rfl) (by kernel_rfl) (by exact fun _ _ _ h => h) (Or.inl ⟨by rfl, ?_⟩) ⟨(by exact hF), fun _ => (by exact hG)⟩ (fun _ => ?_)
            rotate_left 1
            · (intro w hSw; (try dsimp only at hSw); go_simp; try with_reducible rfl)
            all_goals ((try simp only [Act.put]); try simp only [g8b, g8c, g8d])
            refine wpAnyT_take (i := 2) (oi := _) (v := ?_) (by simp only [g8a, g8s, g8z]; rfl) (by kernel_rfl) (by kernel_rfl) (by kernel_rfl) (by rfl) (by exact fun _ _ _ h => h) (Or.inl ⟨by rfl, ?_⟩) ⟨(by exact hF), fun _ => (by exact hG)⟩ (fun _ => ?_)
            rotate_left 1
            · (intro w hSw; (try dsimp only at hSw); go_simp; try with_reducible rfl)
            all_goals ((try simp only [Act.put]); try simp only [g8b, g8c, g8d])
            refine wpAnyT_take (i := 3) (oi := _) (v := ?_) (by simp only [g8a, g8s, g8z]; rfl) (by kernel_rfl) (by kernel_rfl) (by kernel_rfl) (by rfl) (by exact fun _ _ _ h => h) (Or.inl ⟨by rfl, ?_⟩) ⟨(by exact hF), fun _ => (by exact hG)⟩ (fun _ => ?_)
            rotate_left 1
            · (intro w hSw; (try dsimp only at hSw); go_simp; try with_reducible rfl)
            all_goals ((try simp only [Act.put]); try simp only [g8b, g8c, g8d])
            refine wpAnyT_takeG (i := 4) (oi := _) (v := ?_) (by simp only [g8a, g8s, g8z]; rfl) (by kernel_rfl) (by kernel_rfl) (by kernel_rfl) (by rfl) (by kernel_rfl) (by kernel_rfl) (by exact fun _ _ _ h => h) (Or.inl ⟨by rfl, ?_⟩) ⟨(by exact hF), fun _ => (by exact hG)⟩ (fun _ => ?_)
            rotate_left 1
            · (intro w hSw; (try dsimp only at hSw); go_simp; try with_reducible rfl)
            all_goals ((try simp only [Act.put]); try simp only [g8b, g8c, g8d])
            refine wpAnyT_take (i := 5) (oi := _) (v := ?_) (by simp only [g8a, g8s, g8z]; rfl) (by kernel_rfl) (by kernel_rfl) (by kernel_rfl) (by rfl) (by exact fun _ _ _ h => h) (Or.inl ⟨by rfl, ?_⟩) ⟨(by exact hF), fun _ => (by exact hG)⟩ (fun _ => ?_)
            rotate_left 1
            · (intro w hSw; (try dsimp only at hSw); go_simp; try with_reducible rfl)
            all_goals ((try simp only [Act.put]); try simp only [g8b, g8c, g8d])
            refine wpAnyT_take (i := 6) (oi := _) (v := ?_) (by simp only [g8a, g8s, g8z]; rfl) (by kernel_rfl) (by kernel_rfl) (by kernel_rfl) (by rfl) (by exact fun _ _ _ h => h) (Or.inl ⟨by rfl, ?_⟩) ⟨(by exact hF), fun _ => (by exact hG)⟩ (fun _ => ?_)
            rotate_left 1
            · (intro w hSw; (try dsimp only at hSw); go_simp; try with_reducible rfl)
            all_goals ((try simp only [Act.put]); try simp only [g8b, g8c, g8d])
            refine wpAnyT_ready (rs := [7]) (by kernel_rfl) (by simp) ?_
            refine (AllReadyT.cons (by simp only [g8a, g8s, g8z]; rfl) (fun K hK => ?_) AllReadyT.nil)
            rw [if_pos (by rfl)]
            go_simp
            refine (n_any p (m + 1) _ (by exact E.out.s) (by omega) (by omega)).mono ?_
            rintro e wa ⟨kz, hk0, hk1, rfl, hS, hk⟩
            obtain ⟨k, rfl⟩ := Int.eq_ofNat_of_zero_le hk0
            clear hk0 hG
            replace E := Lib.hid (E.out.kept hS hk); replace IA := Lib.hid (IA.out.kept0 (fun h0 b off s e => (AP.out b off s e h0).1) hk); replace OWN := Lib.hid (OWN.out.kept (fun e => by have := (OWN.out.blk_lt _ e).1; omega) hk)
            clear hS hk
            clear o0 o1 o2 o3 o4 v0 v1 v2 v3 v4 hlo
            obtain ⟨⟨o0, o1, o2, o3, o4⟩, ⟨v0, v1, v2, v3, v4⟩, hlo⟩ := E.out.ob.q5
            have hG := o4
            refine hK.out _ _ ⟨(by exact hF), fun _ => (by exact hG)⟩ (fun _ => ?_)
            clear hK K
            (try simp only [Act.put]); try simp only [g8b, g8c, g8d]
            have hkm : (k : Int) ≤ m := by omega
            have hkd : (k : Int) ≤ d1 := by omega
            refine wpAnyT_take (i := 8) (oi := _) (v := ?_) (by simp only [g8a, g8s, g8z]; rfl) (by kernel_rfl) (by kernel_rfl) (by kernel_rfl) (by rfl) (by exact fun _ _ _ h => h) (Or.inl ⟨by rfl, ?_⟩) ⟨(by exact hF), fun _ => (by exact hG)⟩ (fun _ => ?_)
            rotate_left 1
            · (intro w hSw; (try dsimp only at hSw); go_simp; try with_reducible rfl)
            all_goals ((try simp only [Act.put]); try simp only [g8b, g8c, g8d])
            refine wpAnyT_take (i := 9) (oi := _) (v := ?_) (by simp only [g8a, g8s, g8z]; rfl) (by kernel_rfl) (by kernel_rfl) (by kernel_rfl) (by rfl) (by exact fun _ _ _ h => h) (Or.inl ⟨by rfl, ?_⟩) ⟨(by exact hF), fun _ => (by exact hG)⟩ (fun _ => ?_)
            rotate_left 1
            · (intro w hSw; (try dsimp only at hSw); go_simp; try with_reducible rfl)
            all_goals ((try simp only [Act.put]); try simp only [g8b, g8c, g8d])
            refine wpAnyT_ready (rs := [10]) (by kernel_rfl) (by simp) ?_
            refine (AllReadyT.cons (by simp only [g8a, g8s, g8z]; rfl) (fun K hK => ?_) AllReadyT.nil)
            rw [if_pos (by rfl)]
            go_simp
            clear hG
            replace OWN := Lib.hid (OWN.out.far (p := ⟨O, 4, none⟩) (OWN.out.ne_blk E.out.ob (by decide)) (.slice B1 k d1))
            replace IA := Lib.hid (IA.out.ne1 (g0 := O) (fun h0 b off s e => by have := (AP.out b off s e h0).2; omega) 4 (.slice B1 k d1))
            replace E := Lib.hid (E.out.seto 4 (.slice B1 k d1))
            simp only [List.setIfInBounds_toArray, List.set_cons_succ, List.set_cons_zero] at E
            clear o0 o1 o2 o3 o4 v0 v1 v2 v3 v4 hlo
            generalize hwe : wa.setCell ⟨O, 4, none⟩ (.slice B1 k d1) = we at *
            clear hwe
            refine hK.out _ _ ⟨(by exact hF), fun h => Bool.noConfusion (show true = false from h)⟩ (fun _ => ?_)
            clear hK K
            (try simp only [Act.put]); try simp only [g8b, g8c, g8d]
            refine wpAnyT_done (by kernel_rfl) ?_ _
            clear hmd hkd emm
            have IX := IA
            have PX1 := HAP
            have PX2 := Lib.hid (show 0 < n → ∀ b off s, A = some ⟨b, off, s⟩ → b ≠ w.heap.size + 1 from fun h0 b off s e => by have := (AP.out b off s e h0).2; omega)
            obtain ⟨B8, d8, e8, hc8, hI8, hf8⟩ := OWN.out.ints
            injection e8 with e1 e2 e3
            subst e1 e3
            have JX := Lib.hid hI8; have QX := Lib.hid hf8
            clear hI8 hf8 hc8
            replace JX := Lib.hid (JX.out.head (m := k) (by omega))
            clear OWN
            obtain ⟨⟨o0, o1, o2, o3, o4⟩, _, hlo⟩ := E.out.ob.q5
            obtain ⟨⟨r0, r1, r2, r3, r4⟩, ⟨y0, y1, y2, y3, y4⟩, hlr⟩ := E.out.rb.q5
            go_wp2_with fail
            have rb := E.out.rb.str5 (.slice A n c) (.int .i64 r.per) (.int .i64 r.inc) (.int .i64 fr) (.slice B1 k d1)
            exact bodyPost_ret (v := .agg #[.slice A n c, .int .i64 r.per, .int .i64 r.inc, .int .i64 fr, .slice B1 k d1]) (by simp [results, Try.results45, go_sem, rb.cell]) rfl
              ⟨r, fr, (cs.take k), A, n, c, B1, k, d1, by omega, by omega, HNC.out, rfl, IX.out.ne5 PX2.out _ _ _ _ _, JX.out.ne5 (fun _ b off s e => by have := QX.out b off s e; omega) _ _ _ _ _, PX1.out, (fun b off s e => by have := QX.out b off s e; omega), E.out.s.sto5 (by omega) _ _ _ _ _, E.out.k.sto5 (by omega) _ _ _ _ _⟩
end Go.Proofs.Ythdibkmjoiipgaa
