/- deconvolution.Of: what it returns. -/
import Derived.Test.YtbkimphcmmmaiaaDcBoth
import Derived.Test.YtbkimphcmmmaiaaTab
import Derived.Test.YtbkimphcmmmaiaaTokLaw
import Derived.Test.YtbkimphcmmmaiaaPwLaw
import Derived.Test.YtbkimphcmmmaiaaPwKit
import Derived.Test.YtbkimphcmmmaiaaRefSame
import Derived.Deep.DeepCutAuto
import Derived.WalkMore
import Derived.StillTailTactics
namespace Go.Proofs.Ytbkimphcmmmaiaa
open Go.RowKit
set_option linter.unusedVariables false

/-- the values before tick t are h's, the one at t is v, and none behind is known -/
def MidV (h : Nat → Int) (vs : List Int) (n t : Nat) (v : Int) : Prop := vs.length = n ∧ (∀ x, x < t → nth vs x = h x) ∧ nth vs t = v ∧ ∀ x, t < x → nth vs x = 0
theorem MidV.start {h : Nat → Int} {vs : List Int} {n t : Nat} (H : UpTo h vs n t) (hz : ∀ x, t ≤ x → nth vs x = 0) : MidV h vs n t 0 := ⟨H.1, H.2, hz t (Nat.le_refl _), fun x hx => hz x (by omega)⟩
theorem MidV.set {h : Nat → Int} {vs : List Int} {n t : Nat} {v : Int} (H : MidV h vs n t v) (ht : t < n) (w : Int) : MidV h (vs.set t w) n t w := by
  obtain ⟨h1, h2, h3, h4⟩ := H
  refine ⟨by rw [List.length_set]; exact h1, fun x hx => ?_, ?_, fun x hx => ?_⟩
  · rw [nth_set _ _ _ _ (by omega), if_neg (by omega)]; exact h2 x hx
  · rw [nth_set _ _ _ _ (by omega), if_pos rfl]
  · rw [nth_set _ _ _ _ (by omega), if_neg (by omega)]; exact h4 x hx
theorem MidV.next {h : Nat → Int} {vs : List Int} {n t : Nat} {v : Int} (H : MidV h vs n t v) (hv : h t = v) : UpTo h vs n (t + 1) ∧ ∀ x, t + 1 ≤ x → nth vs x = 0 :=
  ⟨⟨H.1, fun x hx => by
    rcases Nat.lt_or_ge x t with h1 | h1
    · exact H.2.1 x h1
    · obtain rfl : x = t := by omega
      rw [H.2.2.1, hv]⟩, fun x hx => H.2.2.2 x (by omega)⟩
theorem dc_at_inf {a b : Cv} (ha : a.Ok) {h : Nat → Int} (H : DcF a b h) {t u : Nat} (hu : t + u ≤ 4000) (hb : ¬ b.infAt u) (he : a.at (t + u) = inf) : h t = inf := by
  obtain ⟨i, v, A, h1, h2⟩ := H t
  obtain ⟨rfl, _⟩ := h1.unique (not_ab (t := u) hb (by rw [Nat.add_comm]; exact (ha.at_bd (n := t + u) (by omega)).2.2 he))
  rw [h2, if_pos rfl]
theorem dc_at_fin {a b : Cv} {h : Nat → Int} (H : DcF a b h) {t v A : Nat} (h1 : AheadS a b t false v A) : h t = (v : Int) := by
  obtain ⟨i, w, B, h2, h3⟩ := H t
  obtain ⟨rfl, rfl, _⟩ := h2.unique h1
  rw [h3, if_neg (by simp)]
/-- what of returns -/
def OfS (a b : Cv) (r : Cv) (er : Int) : Prop := ∃ h, DcF a b h ∧ MadeS h r er
theorem inf_made {r : Cv} {er : Int} (h : r = (chk [inf] 1 0).1 ∧ er = (chk [inf] 1 0).2) : MadeS (fun _ => inf) r er := by
  obtain ⟨rfl, rfl⟩ := h
  refine chk_made (.inr ⟨rfl, rfl, by simp, fun t ht => ?_, fun t ht => ?_, fun t _ => rfl⟩) (by omega) (by omega)
  · have : t = 0 := by simpa using ht
    rw [this]; rfl
  · simp at ht
/-- the blocks of a call of of -/
structure OE (w wx : World) (A : Option Addr) (n c : Nat) (a : Cv) (B : Option Addr) (m d : Nat) (b : Cv) (K : Int) (l : Bool) : Prop where
  pb : Blk wx w.heap.size 101 (dpA A n c a B m d b K l)
  ia : Ints wx w.heap.size A n a.vals
  ib : Ints wx w.heap.size B m b.vals
  rb : Blk wx (w.heap.size + 1) 31 #[.slice none 0 0, .int .i64 0, .int .i64 0]
  bw : Below w.heap.size w wx
section
variable {w wx wy : World} {A B : Option Addr} {n c m d : Nat} {a b : Cv} {K : Int} {l : Bool}
theorem OE.new (hA : Ints w w.heap.size A n a.vals) (hB : Ints w w.heap.size B m b.vals) : OE w ((w.alloc (.cells (dpA A n c a B m d b K l) 101)).alloc (.cells #[.slice none 0 0, .int .i64 0, .int .i64 0] 31)) A n c a B m d b K l := by
  have rb := Blk.new (w.alloc (.cells (dpA A n c a B m d b K l) 101)) 31 #[.slice none 0 0, .int .i64 0, .int .i64 0]
  rw [World.size_alloc] at rb
  exact ⟨(Blk.new _ _ _).alloc _, (hA.alloc (Nat.le_refl _) _).alloc (by simp) _, (hB.alloc (Nat.le_refl _) _).alloc (by simp) _, rb, bthen (balloc _ _) (balloc _ _)⟩
theorem OE.below (h : OE w wx A n c a B m d b K l) (hb : Below wx.heap.size wx wy) : OE w wy A n c a B m d b K l := ⟨h.pb.below hb h.pb.lt, h.ia.below (hb.mono h.bw.size), h.ib.below (hb.mono h.bw.size), h.rb.below hb h.rb.lt, bthen h.bw hb⟩
theorem OE.alloc (h : OE w wx A n c a B m d b K l) (o : Obj) : OE w (wx.alloc o) A n c a B m d b K l := h.below (balloc _ o)
theorem OE.drew (h : OE w wx A n c a B m d b K l) : OE w wx.drew A n c a B m d b K l := ⟨h.pb, h.ia, h.ib, h.rb, Below.drew h.bw⟩
theorem OE.set (h : OE w wx A n c a B m d b K l) {g : Nat} (hg : w.heap.size + 1 < g) (i : Nat) (u : Value) : OE w (wx.setCell ⟨g, i, none⟩ u) A n c a B m d b K l :=
  ⟨h.pb.far (by show w.heap.size ≠ g; omega) _, h.ia.keep (fun q hq => World.cell?_setCell_other _ _ _ _ (fun e => by subst e; simp at hq; omega)), h.ib.keep (fun q hq => World.cell?_setCell_other _ _ _ _ (fun e => by subst e; simp at hq; omega)),
    h.rb.far (by show w.heap.size + 1 ≠ g; omega) _, h.bw.setCell (by show w.heap.size ≤ g; omega) _⟩
theorem OE.ja (h : OE w wx A n c a B m d b K l) : Ints wx wx.heap.size A n a.vals := h.ia.more h.bw.size
theorem OE.jb (h : OE w wx A n c a B m d b K l) : Ints wx wx.heap.size B m b.vals := h.ib.more h.bw.size
theorem OE.cells (h : OE w wx A n c a B m d b K l) : (wx.cell? ⟨w.heap.size, 0, none⟩ = some (.slice A n c) ∧ wx.cell? ⟨w.heap.size, 1, none⟩ = some (.int .i64 a.per) ∧ wx.cell? ⟨w.heap.size, 2, none⟩ = some (.int .i64 a.inc)) ∧
    (wx.cell? ⟨w.heap.size, 3, none⟩ = some (.slice B m d) ∧ wx.cell? ⟨w.heap.size, 4, none⟩ = some (.int .i64 b.per) ∧ wx.cell? ⟨w.heap.size, 5, none⟩ = some (.int .i64 b.inc)) ∧ (wx.cell? ⟨w.heap.size, 6, none⟩ = some (.int .i64 K) ∧ wx.cell? ⟨w.heap.size, 7, none⟩ = some (.bool l)) ∧ w.heap.size + 1 < wx.heap.size := by
  have q := fun i => h.pb.cell i
  have q0 := q 0; have q1 := q 1; have q2 := q 2; have q3 := q 3; have q4 := q 4; have q5 := q 5; have q6 := q 6; have q7 := q 7
  simp [dpA] at q0 q1 q2 q3 q4 q5 q6 q7
  exact ⟨⟨q0, q1, q2⟩, ⟨q3, q4, q5⟩, ⟨q6, q7⟩, h.rb.lt⟩
end
theorem of1_any (Q gv n : Nat) (h : Nat → Int) (vs : List Int) (t : Nat) (w : World) (hV : Blk w Q 22 #[.slice (some ⟨gv, 0, none⟩) n n]) (hR : RowI w gv vs) (hu : UpTo h vs n n) (ht : t < n) :
    Calls Try.prog 139 (#[.int .i64 t] ++ #[.pointer (some ⟨Q, 0, none⟩)]) w fun e w' => e = .returned (.int .i64 (h t)) ∧ Below w.heap.size w w' := by
  show Calls _ _ #[.int .i64 t, .pointer (some ⟨Q, 0, none⟩)] _ _
  have q0 := hV.cell 0
  have s0 := hR.cell t (by rw [hu.1]; exact ht)
  rw [hu.2 t ht] at s0
  simp at q0
  have hl := hR.lt; have hlq := hV.lt
  have hti : (t : Int) < n := by omega
  clear hV hR hu
  go_enter Try.func139, Try.ntmps139
  go_wp2_with fail
  go_ret
  exact ⟨rfl, Below.refl _ _⟩
set_option maxHeartbeats 4000000 in
set_option maxRecDepth 100000 in
theorem dcof_any (A B : Option Addr) (n m c d : Nat) (a b : Cv) (l : Bool) (w : World) (hA : Ints w w.heap.size A n a.vals) (hB : Ints w w.heap.size B m b.vals) (ha : a.Ok) (hb : b.Ok) (h0 : b.at 0 = 0) (hc : comm a.per.toNat b.per.toNat ≤ 120)
    (hl : l = true ↔ b.Fin ∧ a.Fin ∧ 0 < ordD a b) (hbn : nth b.vals (b.vals.length - 1) = inf → ∀ u, u < b.vals.length - b.per.toNat → b.at u ≠ inf) :
    Calls Try.prog 79 #[.agg (dpA A n c a B m d b (dcK a b : Nat) l)] w (RetSK (OfS a b) w) := by
  have a1 := ha.n1; have a2 := ha.n2; have a3 := ha.p1; have a4 := ha.p2; have a5 := ha.pn; have a6 := ha.i1; have a7 := ha.i2
  have b1 := hb.n1; have b2 := hb.n2; have b3 := hb.p1; have b4 := hb.p2; have b5 := hb.pn; have b6 := hb.i1; have b7 := hb.i2
  have hln : a.vals.length = n := hA.1
  have hlm : b.vals.length = m := hB.1
  rw [hln] at a1 a2 a5
  rw [hlm] at b1 b2 b5
  have hK := dcK_le ha hb (by unfold ordC; exact hc)
  obtain ⟨KN, hKN⟩ : ∃ KN, KN = dcK a b := ⟨_, rfl⟩
  rw [← hKN] at hK ⊢
  obtain ⟨KI, hKI⟩ : ∃ KI : Int, KI = KN := ⟨_, rfl⟩
  rw [← hKI]
  have E := Lib.hid (OE.new (c := c) (d := d) (K := KI) (l := l) hA hB)
  have HA := Lib.hid ha; have HB := Lib.hid hb; have H0 := Lib.hid h0; have HC := Lib.hid hc; have HL := Lib.hid hl; have HBN := Lib.hid hbn; have HKN := Lib.hid hKN; have HKI := Lib.hid hKI; have HLN := Lib.hid hln; have HLM := Lib.hid hlm
  have hK0 : 0 ≤ KI := by omega
  have hK1 : KI ≤ 520 := by omega
  clear hA hB ha hb h0 hc hl hbn hKN hln hlm hKI
  unfold dpA at E
  unfold dpA
  go_enter Try.func79, Try.ntmps79
  go_wp2_with fail
  go_step3
  go_upto_region 1 with fail
  generalize hwe : (w.alloc (.cells #[.slice A n c, .int .i64 a.per, .int .i64 a.inc, .slice B m d, .int .i64 b.per, .int .i64 b.inc, .int .i64 KI, .bool l] 101)).alloc (.cells #[.slice none 0 0, .int .i64 0, .int .i64 0] 31) = we at *
  clear hwe
  have E : Hid (OE w we A n c a B m d b KI l) := E
  generalize (Value.agg #[.slice A n c, .int .i64 a.per, .int .i64 a.inc, .slice B m d, .int .i64 b.per, .int .i64 b.inc, .int .i64 KI, .bool l]) = v0
  have LO1 := Lib.hid (show ∀ z : Bool, z = (nth b.vals (m - 1) != inf) → (z = true ↔ b.Fin) from fun z hz => by
    rw [hz, bne_iff_ne, ← HLM.out]; exact ⟨fun h => ⟨HB.out, h⟩, fun h => h.2⟩)
  have LO2 := Lib.hid (show ∀ z : Bool, z = (nth a.vals (n - 1) != inf) → (z = true ↔ a.Fin) from fun z hz => by
    rw [hz, bne_iff_ne, ← HLN.out]; exact ⟨fun h => ⟨HA.out, h⟩, fun h => h.2⟩)
  go_cut [24] (fun s24 wx => ∃ cb : Bool, s24 = .bool cb ∧ (cb = true ↔ Loose a b) ∧ OE w wx A n c a B m d b KI l)
  case first =>
    obtain ⟨fb, hfb⟩ : ∃ z, z = (nth b.vals (m - 1) != inf) := ⟨_, rfl⟩
    obtain ⟨fa, hfa⟩ : ∃ z, z = (nth a.vals (n - 1) != inf) := ⟨_, rfl⟩
    have HFB := Lib.hid hfb; have HFA := Lib.hid hfa
    clear hfb hfa
    have CB := Lib.hid (show (l || (!fa && fb)) = true ↔ Loose a b from by
      have h1 := LO1.out _ HFB.out
      have h2 := LO2.out _ HFA.out
      have h3 := HL.out
      unfold Loose
      rw [Bool.or_eq_true, Bool.and_eq_true, h3, h1, Bool.not_eq_true', ← h2]
      cases fa
      · simp
      · simp)
    obtain ⟨⟨f0, f1, f2⟩, ⟨g0, g1, g2⟩, ⟨p6, p7⟩, hlf⟩ := E.out.cells
    cases hlv : l
    case true =>
      go_wp2_with fail
      go_meet
      have cb := CB.out
      rw [hlv] at cb
      exact ⟨_, rfl, cb, E.out⟩
    case false =>
      go_wp2_with fail
      refine (finite_any A n c a.per a.inc a.vals _ (by exact E.out.ja) (by omega) (by omega)).mono ?_
      rw [← HFA.out]
      rintro e wq ⟨rfl, hb⟩
      replace E := Lib.hid (E.out.below hb)
      try (replace TF := Lib.hid (TF.out.below hb TF.out.lt))
      try (replace TG := Lib.hid (TG.out.below hb TG.out.lt))
      clear hb
      clear f0 f1 f2 g0 g1 g2 p6 p7 hlf
      obtain ⟨⟨f0, f1, f2⟩, ⟨g0, g1, g2⟩, ⟨p6, p7⟩, hlf⟩ := E.out.cells
      cases hfav : fa
      case true =>
        go_wp2_with fail
        go_meet
        have cb := CB.out
        rw [hlv, hfav] at cb
        exact ⟨_, rfl, cb, E.out⟩
      case false =>
        go_wp2_with fail
        refine (finite_any B m d b.per b.inc b.vals _ (by exact E.out.jb) (by omega) (by omega)).mono ?_
        rw [← HFB.out]
        rintro e wq2 ⟨rfl, hb⟩
        replace E := Lib.hid (E.out.below hb)
        try (replace TF := Lib.hid (TF.out.below hb TF.out.lt))
        try (replace TG := Lib.hid (TG.out.below hb TG.out.lt))
        clear hb
        clear f0 f1 f2 g0 g1 g2 p6 p7 hlf
        obtain ⟨⟨f0, f1, f2⟩, ⟨g0, g1, g2⟩, ⟨p6, p7⟩, hlf⟩ := E.out.cells
        go_wp2_with fail
        go_meet
        have cb := CB.out
        rw [hlv, hfav] at cb
        exact ⟨_, rfl, cb, E.out⟩
  case rest =>
    clear E
    obtain ⟨cb, rfl, hcb, hE⟩ := hcut
    have E := Lib.hid hE; have CB := Lib.hid hcb
    clear hE hcb
    cases cb
    case true =>
      have HS := Lib.hid (CB.out.1 rfl)
      have il := ints_litC wc [inf]
      simp only [List.map_cons, List.map_nil] at il
      unfold inf at il
      have IL := Lib.hid il
      have E := Lib.hid (E.out.alloc (.cells #[.int .i64 4611686018427387904] 3))
      clear il CB
      go_wp2_with fail
      refine (endingK_any (some ⟨wc.heap.size, 0, none⟩) 1 1 [4611686018427387904] _ (by exact IL.out) (by omega)).mono ?_
      rintro e w5 ⟨A5, n5, c5, hc5, rfl, hI5, hA5, hb⟩
      obtain ⟨h, hh⟩ := dc_exists HA.out HB.out
      have he := dc_loose HA.out HS.out hh
      have F := Lib.hid (show OfS a b (chk [inf] 1 0).1 (chk [inf] 1 0).2 from ⟨h, hh, by rw [he]; exact inf_made ⟨rfl, rfl⟩⟩)
      unfold inf at F
      generalize (chk [4611686018427387904] 1 0).1 = f at *
      generalize (chk [4611686018427387904] 1 0).2 = er at *
      have hsz := E.out.rb.lt
      have E := Lib.hid (E.out.below hb)
      have HI5 := Lib.hid hI5; have HA5 := Lib.hid hA5
      clear hI5 hA5 hb he hh
      -- the curve f with the error er is returned
      obtain ⟨⟨r0, r1, r2⟩, ⟨y0, y1, y2⟩, hlr⟩ := E.out.rb.c3
      go_wp2_with fail
      have rb := E.out.rb.store3 (.slice A5 n5 c5) (.int .i64 f.per) (.int .i64 f.inc)
      try rw [Exit.noGoto_ret]
      refine bodyPost_ret (v := .tuple #[.agg #[.slice A5 n5 c5, .int .i64 f.per, .int .i64 f.inc], .int .i64 er]) (by simp [results, Try.results79, go_sem, rb.cell]) rfl ?_
      exact ⟨f, er, F.out, retK_store3' hc5 HA5.out (by omega) (by exact hsz) HI5.out E.out.bw⟩
    case false =>
      have NL := Lib.hid (show ¬ Loose a b from fun h => by have := CB.out.2 h; cases this)
      clear CB
      obtain ⟨⟨f0, f1, f2⟩, ⟨g0, g1, g2⟩, ⟨p6, p7⟩, hlf⟩ := E.out.cells
      go_upto_region 3 with fail
      go_wp2_with fail
      refine (start_any A n c a.per a.inc _ (by omega) (by omega) (by omega)).mono ?_
      rintro e w2 ⟨rfl, hb⟩
      replace E := Lib.hid (E.out.below hb)
      try (replace TF := Lib.hid (TF.out.below hb TF.out.lt))
      try (replace TG := Lib.hid (TG.out.below hb TG.out.lt))
      clear hb
      clear f0 f1 f2 g0 g1 g2 p6 p7 hlf
      obtain ⟨⟨f0, f1, f2⟩, ⟨g0, g1, g2⟩, ⟨p6, p7⟩, hlf⟩ := E.out.cells
      have e1 : IntKind.i64.wrap ((n : Int) - a.per + a.per) = (n : Int) := by rw [IntWalk.i64_in _ (by omega)]; omega
      have e1' : (n : Int) - a.per + a.per = (n : Int) := by omega
      obtain ⟨M, hM⟩ : ∃ M : Nat, M = n + KN := ⟨_, rfl⟩
      have e2 : IntKind.i64.wrap ((n : Int) + KI) = (M : Int) := by rw [IntWalk.i64_in _ (by omega), HKI.out]; omega
      have e2' : (n : Int) + KI = (M : Int) := by rw [HKI.out]; omega
      have hM1 : M ≤ 1000 := by omega
      have e3 : IntKind.i64.wrap (M : Int) = (M : Int) := IntWalk.i64_in _ (by omega)
      have HM := Lib.hid hM
      clear hM
      go_upto_region 5 with fail
      go_cut [6, 7] (fun s6 s7 wx => ∃ g1 g2 : Nat, s6 = .slice (some ⟨g1, 0, none⟩) M M ∧ s7 = .slice (some ⟨g2, 0, none⟩) KN KN ∧ RowI wx g1 (tab a.at 0 M) ∧ RowI wx g2 (tab b.at 0 KN) ∧ OE w wx A n c a B m d b KI l)
      case first =>
        have E := Lib.hid E.out.drew
        clear f0 f1 f2 g0 g1 g2 p6 p7 hlf
        obtain ⟨⟨f0, f1, f2⟩, ⟨g0, g1, g2⟩, ⟨p6, p7⟩, hlf⟩ := E.out.cells
        refine wp_region_held_drew (S := (fun w' => w'.cell? ⟨w.heap.size, 0, none⟩ = some (.slice A n c) ∧ w'.cell? ⟨w.heap.size, 1, none⟩ = some (.int .i64 a.per) ∧ w'.cell? ⟨w.heap.size, 2, none⟩ = some (.int .i64 a.inc) ∧ w'.cell? ⟨w.heap.size, 3, none⟩ = some (.slice B m d) ∧ w'.cell? ⟨w.heap.size, 4, none⟩ = some (.int .i64 b.per) ∧ w'.cell? ⟨w.heap.size, 5, none⟩ = some (.int .i64 b.inc) ∧ w'.cell? ⟨w.heap.size, 6, none⟩ = some (.int .i64 KI) ∧ w'.cell? ⟨w.heap.size, 7, none⟩ = some (.bool l))) (by kernel_rfl) (by exact ⟨f0, f1, f2, g0, g1, g2, p6, p7⟩) (fun hHeld => ?_)
        generalize hwd : w2.drew = wd at *
        clear hwd
        refine wpAnyH_take (i := 0) (oi := _) (v := ?_) (by simp only [List.getElem?_toArray, List.getElem?_cons_zero]; rfl) (by kernel_rfl) (by kernel_rfl) (by kernel_rfl) (by exact fun _ _ _ h => h) (Or.inl ⟨by rfl, ?_⟩) (by assumption) ?_
        rotate_left 1
        · (intro w hSw; (try dsimp only at hSw); go_simp; try with_reducible rfl)
        all_goals try simp only [Act.put]
        all_goals try simp only [List.setIfInBounds_toArray]
        all_goals try simp only [List.set_cons_succ]
        all_goals try simp only [List.set_cons_zero]
        refine wpAnyH_take (i := 1) (oi := _) (v := ?_) (by simp only [List.getElem?_toArray, List.getElem?_cons_succ, List.getElem?_cons_zero]; rfl) (by kernel_rfl) (by kernel_rfl) (by kernel_rfl) (by exact fun _ _ _ h => h) (Or.inl ⟨by rfl, ?_⟩) (by assumption) ?_
        rotate_left 1
        · (intro w hSw; (try dsimp only at hSw); go_simp; try with_reducible rfl)
        all_goals try simp only [Act.put]
        all_goals try simp only [List.setIfInBounds_toArray]
        all_goals try simp only [List.set_cons_succ]
        all_goals try simp only [List.set_cons_zero]
        refine wpAnyH_take (i := 2) (oi := _) (v := ?_) (by simp only [List.getElem?_toArray, List.getElem?_cons_succ, List.getElem?_cons_zero]; rfl) (by kernel_rfl) (by kernel_rfl) (by kernel_rfl) (by exact fun _ _ _ h => h) (Or.inl ⟨by rfl, ?_⟩) (by assumption) ?_
        rotate_left 1
        · (intro w hSw; (try dsimp only at hSw); go_simp; try with_reducible rfl)
        all_goals try simp only [Act.put]
        all_goals try simp only [List.setIfInBounds_toArray]
        all_goals try simp only [List.set_cons_succ]
        all_goals try simp only [List.set_cons_zero]
        refine wpAnyH_take (i := 3) (oi := _) (v := ?_) (by simp only [List.getElem?_toArray, List.getElem?_cons_succ, List.getElem?_cons_zero]; rfl) (by kernel_rfl) (by kernel_rfl) (by kernel_rfl) (by exact fun _ _ _ h => h) (Or.inl ⟨by rfl, ?_⟩) (by assumption) ?_
        rotate_left 1
        · (intro w hSw; (try dsimp only at hSw); go_simp; try with_reducible rfl)
        all_goals try simp only [Act.put]
        all_goals try simp only [List.setIfInBounds_toArray]
        all_goals try simp only [List.set_cons_succ]
        all_goals try simp only [List.set_cons_zero]
        refine wpAnyH_take (i := 4) (oi := _) (v := ?_) (by simp only [List.getElem?_toArray, List.getElem?_cons_succ, List.getElem?_cons_zero]; rfl) (by kernel_rfl) (by kernel_rfl) (by kernel_rfl) (by exact fun _ _ _ h => h) (Or.inl ⟨by rfl, ?_⟩) (by assumption) ?_
        rotate_left 1
        · (intro w hSw; (try dsimp only at hSw); go_simp; try with_reducible rfl)
        all_goals try simp only [Act.put]
        all_goals try simp only [List.setIfInBounds_toArray]
        all_goals try simp only [List.set_cons_succ]
        all_goals try simp only [List.set_cons_zero]
        refine wpAnyH_take (i := 5) (oi := _) (v := ?_) (by simp only [List.getElem?_toArray, List.getElem?_cons_succ, List.getElem?_cons_zero]; rfl) (by kernel_rfl) (by kernel_rfl) (by kernel_rfl) (by exact fun _ _ _ h => h) (Or.inl ⟨by rfl, ?_⟩) (by assumption) ?_
        rotate_left 1
        · (intro w hSw; (try dsimp only at hSw); go_simp; try with_reducible rfl)
        all_goals try simp only [Act.put]
        all_goals try simp only [List.setIfInBounds_toArray]
        all_goals try simp only [List.set_cons_succ]
        all_goals try simp only [List.set_cons_zero]
        refine wpAnyH_take (i := 7) (oi := _) (v := ?_) (by simp only [List.getElem?_toArray, List.getElem?_cons_succ, List.getElem?_cons_zero]; rfl) (by kernel_rfl) (by kernel_rfl) (by kernel_rfl) (by exact fun _ _ _ h => h) (Or.inl ⟨by rfl, ?_⟩) (by assumption) ?_
        rotate_left 1
        · (intro w hSw; (try dsimp only at hSw); go_simp; try with_reducible rfl)
        all_goals try simp only [Act.put]
        all_goals try simp only [List.setIfInBounds_toArray]
        all_goals try simp only [List.set_cons_succ]
        all_goals try simp only [List.set_cons_zero]
        refine wpAnyH_take (i := 8) (oi := _) (v := ?_) (by simp only [List.getElem?_toArray, List.getElem?_cons_succ, List.getElem?_cons_zero]; rfl) (by kernel_rfl) (by kernel_rfl) (by kernel_rfl) (by exact fun _ _ _ h => h) (Or.inl ⟨by rfl, ?_⟩) (by assumption) ?_
        rotate_left 1
        · (intro w hSw; (try dsimp only at hSw); go_simp; try with_reducible rfl)
        all_goals try simp only [Act.put]
        all_goals try simp only [List.setIfInBounds_toArray]
        all_goals try simp only [List.set_cons_succ]
        all_goals try simp only [List.set_cons_zero]
        refine wpAnyH_take (i := 9) (oi := _) (v := ?_) (by simp only [List.getElem?_toArray, List.getElem?_cons_succ, List.getElem?_cons_zero]; rfl) (by kernel_rfl) (by kernel_rfl) (by kernel_rfl) (by exact fun _ _ _ h => h) (Or.inl ⟨by rfl, ?_⟩) (by assumption) ?_
        rotate_left 1
        · (intro w hSw; (try dsimp only at hSw); go_simp; try with_reducible rfl)
        all_goals try simp only [Act.put]
        all_goals try simp only [List.setIfInBounds_toArray]
        all_goals try simp only [List.set_cons_succ]
        all_goals try simp only [List.set_cons_zero]
        refine wpAnyH_take (i := 10) (oi := _) (v := ?_) (by simp only [List.getElem?_toArray, List.getElem?_cons_succ, List.getElem?_cons_zero]; rfl) (by kernel_rfl) (by kernel_rfl) (by kernel_rfl) (by exact fun _ _ _ h => h) (Or.inl ⟨by rfl, ?_⟩) (by assumption) ?_
        rotate_left 1
        · (intro w hSw; (try dsimp only at hSw); go_simp; try with_reducible rfl)
        all_goals try simp only [Act.put]
        all_goals try simp only [List.setIfInBounds_toArray]
        all_goals try simp only [List.set_cons_succ]
        all_goals try simp only [List.set_cons_zero]
        refine wpAnyH_ready (rs := [6]) (by kernel_rfl) (by simp) ?_
        refine (AllReadyH.cons (by simp only [List.getElem?_toArray, List.getElem?_cons_succ, List.getElem?_cons_zero]; rfl) (fun K hK => ?_) AllReadyH.nil)
        rw [if_pos (by rfl)]
        go_simp
        refine (table_any A n c a.per a.inc M a.vals _ (by exact E.out.ja) HA.out (by omega)).mono ?_
        rintro e w3 ⟨q1, rfl, hr1, hq1, hb⟩
        have T1 := Lib.hid hr1
        clear hr1 hHeld
        replace E := Lib.hid (E.out.below hb)
        try (replace TF := Lib.hid (TF.out.below hb TF.out.lt))
        try (replace TG := Lib.hid (TG.out.below hb TG.out.lt))
        clear hb
        clear f0 f1 f2 g0 g1 g2 p6 p7 hlf
        obtain ⟨⟨f0, f1, f2⟩, ⟨g0, g1, g2⟩, ⟨p6, p7⟩, hlf⟩ := E.out.cells
        refine hK.out _ _ (by exact ⟨f0, f1, f2, g0, g1, g2, p6, p7⟩) (fun hHeld => ?_)
        clear hK K
        try simp only [Act.put]
        try simp only [List.setIfInBounds_toArray]
        try simp only [List.set_cons_succ]
        try simp only [List.set_cons_zero]
        refine wpAnyH_ready (rs := [11]) (by kernel_rfl) (by simp) ?_
        refine (AllReadyH.cons (by simp only [List.getElem?_toArray, List.getElem?_cons_succ, List.getElem?_cons_zero]; rfl) (fun K hK => ?_) AllReadyH.nil)
        rw [if_pos (by rfl)]
        go_simp
        rw [HKI.out]
        refine (table_any B m d b.per b.inc KN b.vals _ (by exact E.out.jb) HB.out (by omega)).mono ?_
        rintro e w4 ⟨q2, rfl, hr2, hq2, hb⟩
        have T2 := Lib.hid hr2
        have T1 := Lib.hid (T1.out.below hb T1.out.lt)
        clear hr2 hHeld
        replace E := Lib.hid (E.out.below hb)
        try (replace TF := Lib.hid (TF.out.below hb TF.out.lt))
        try (replace TG := Lib.hid (TG.out.below hb TG.out.lt))
        clear hb
        clear f0 f1 f2 g0 g1 g2 p6 p7 hlf
        obtain ⟨⟨f0, f1, f2⟩, ⟨g0, g1, g2⟩, ⟨p6, p7⟩, hlf⟩ := E.out.cells
        refine hK.out _ _ (by exact ⟨f0, f1, f2, g0, g1, g2, p6, p7⟩) (fun hHeld => ?_)
        clear hK K
        try simp only [Act.put]
        try simp only [List.setIfInBounds_toArray]
        try simp only [List.set_cons_succ]
        try simp only [List.set_cons_zero]
        refine wpAnyH_take (i := 12) (oi := _) (v := ?_) (by simp only [List.getElem?_toArray, List.getElem?_cons_succ, List.getElem?_cons_zero]; rfl) (by kernel_rfl) (by kernel_rfl) (by kernel_rfl) (by exact fun _ _ _ h => h) (Or.inl ⟨by rfl, ?_⟩) (by assumption) ?_
        rotate_left 1
        · (intro w hSw; (try dsimp only at hSw); go_simp; try with_reducible rfl)
        all_goals try simp only [Act.put]
        all_goals try simp only [List.setIfInBounds_toArray]
        all_goals try simp only [List.set_cons_succ]
        all_goals try simp only [List.set_cons_zero]
        refine wpAnyH_take (i := 13) (oi := _) (v := ?_) (by simp only [List.getElem?_toArray, List.getElem?_cons_succ, List.getElem?_cons_zero]; rfl) (by kernel_rfl) (by kernel_rfl) (by kernel_rfl) (by exact fun _ _ _ h => h) (Or.inl ⟨by rfl, ?_⟩) (by assumption) ?_
        rotate_left 1
        · (intro w hSw; (try dsimp only at hSw); go_simp; try with_reducible rfl)
        all_goals try simp only [Act.put]
        all_goals try simp only [List.setIfInBounds_toArray]
        all_goals try simp only [List.set_cons_succ]
        all_goals try simp only [List.set_cons_zero]
        refine wpAnyH_done (by kernel_rfl) ?_ _
        go_wp2_with fail
        go_meet
        exact ⟨_, _, rfl, rfl, T1.out, T2.out, E.out⟩
      case rest =>
        clear E e1 e1' e2 e2' e3
        clear f0 f1 f2 g0 g1 g2 p6 p7 hlf
        obtain ⟨q1, q2, rfl, rfl, h1, h2, hE⟩ := hcut
        have E := Lib.hid hE; have T1 := Lib.hid h1; have T2 := Lib.hid h2
        clear hE h1 h2
        obtain ⟨h, hh⟩ := dc_exists HA.out HB.out
        have H := Lib.hid hh
        clear hh
        obtain ⟨i0, hi0, hz0, hy1, hy2⟩ := info_parts info_int
        have hq1 := T1.out.lt; have hq2 := T2.out.lt; have hrl := E.out.rb.lt
        go_upto_region 7 with (at_make; refine wpList_make_full _ rfl _ _ 22 rfl wc.heap.size 3 i0 _ 1 Try.underlying22 hi0 hz0 hy1 .i64 .i64 _ _ n rfl rfl rfl rfl (by rw [hy2]; omega) (by unfold maxLen; omega) (by simp) ?_; intro w5 own1 grow1)
        have hb5 : Below wc.heap.size wc w5 := (Below.refl _ _).grown grow1 (by simp) (by simp)
        have SM := Lib.hid ((own_zeros2 own1).alloc (.cells #[.slice (some ⟨wc.heap.size, 0, none⟩) n n] 22))
        replace E := Lib.hid ((E.out.below hb5).alloc (.cells #[.slice (some ⟨wc.heap.size, 0, none⟩) n n] 22))
        replace T1 := Lib.hid ((T1.out.below hb5 hq1).alloc (.cells #[.slice (some ⟨wc.heap.size, 0, none⟩) n n] 22)); replace T2 := Lib.hid ((T2.out.below hb5 hq2).alloc (.cells #[.slice (some ⟨wc.heap.size, 0, none⟩) n n] 22))
        have VB := Lib.hid (Blk.new w5 22 #[.slice (some ⟨wc.heap.size, 0, none⟩) n n])
        have hgv : wc.heap.size < w5.heap.size := (own_zeros2 own1).lt
        clear hi0 hz0 hy1 hy2 own1 grow1 hb5
        generalize hwe : w5.alloc (.cells #[.slice (some ⟨wc.heap.size, 0, none⟩) n n] 22) = w6 at *
        clear hwe
        generalize w5.heap.size = Q at *
        generalize wc.heap.size = gv at *
        obtain ⟨v0', hlq⟩ : _ ∧ _ := ⟨VB.out.cell 0, VB.out.lt⟩
        simp at v0'
        go_wp2_with fail
        go_step3
        go_wp2_with fail
        clear v0' hlq
        go_loopg [9, 10, 11, 53] n (fun gg s9 s10 s11 s53 wx => ∃ (t : Nat) (vs : List Int), t + gg = n ∧ s53 = .int .i64 t ∧ UpTo h vs n t ∧ Hid (∀ x, t ≤ x → nth vs x = 0) ∧ RowI wx gv vs ∧ Blk wx Q 22 #[.slice (some ⟨gv, 0, none⟩) n n] ∧ RowI wx q1 (tab a.at 0 M) ∧ RowI wx q2 (tab b.at 0 KN) ∧ OE w wx A n c a B m d b KI l)
        case atStart => exact ⟨0, List.replicate n 0, by omega, rfl, ⟨by simp, fun x hx => by omega⟩, Lib.hid (fun x hx => nth_replicate _ _), SM.out, VB.out, T1.out, T2.out, E.out⟩
        case round =>
          clear SM VB T1 T2 E
          obtain ⟨t, vs, htg, rfl, hu, hz, hR, hV, hT1, hT2, hE⟩ := hrel
          have SM := Lib.hid hR; have VB := Lib.hid hV; have T1 := Lib.hid hT1; have T2 := Lib.hid hT2; have E := Lib.hid hE; have HU := Lib.hid hu
          clear hR hV hT1 hT2 hE hu
          obtain ⟨go, hgo⟩ : ∃ go : Nat, go = gk := ⟨_, rfl⟩
          subst hgo
          by_cases ht : t < n
          · have hti : (t : Int) < n := by omega
            go_wp2_with fail
            go_loopg [10, 11, 58] KN (fun gg s10 s11 s58 wx => ∃ (u v A0 : Nat) (vs : List Int), u + gg = KN ∧ s58 = .int .i64 u ∧ AhI a b t u v A0 ∧ MidV h vs n t v ∧ RowI wx gv vs ∧ Blk wx Q 22 #[.slice (some ⟨gv, 0, none⟩) n n] ∧ RowI wx q1 (tab a.at 0 M) ∧ RowI wx q2 (tab b.at 0 KN) ∧ OE w wx A n c a B m d b KI l)
            case atStart => exact ⟨0, 0, 0, vs, by omega, rfl, AhI.zero _ _ _, MidV.start HU.out hz.out, SM.out, VB.out, T1.out, T2.out, E.out⟩
            case round =>
              clear SM VB T1 T2 E HU hz
              obtain ⟨u, v, A0, vs, hug, rfl, hI, hmv, hR, hV, hT1, hT2, hE⟩ := hrel
              have SM := Lib.hid hR; have VB := Lib.hid hV; have T1 := Lib.hid hT1; have T2 := Lib.hid hT2; have E := Lib.hid hE; have MV := Lib.hid hmv; have HI := Lib.hid hI
              clear hR hV hT1 hT2 hE hmv hI
              by_cases hu : u < KN
              · have hui : (u : Int) < KN := by omega
                have c2 := T2.out.cell u (by rw [tab_length]; exact hu)
                rw [tab_nth _ _ _ _ hu, Nat.zero_add] at c2
                have htu : t + u < M := by have := HM.out; omega
                have c1 := T1.out.cell (t + u) (by rw [tab_length]; exact htu)
                rw [tab_nth _ _ _ _ htu, Nat.zero_add] at c1
                obtain ⟨xb, hxb⟩ : ∃ xb, xb = b.at u := ⟨_, rfl⟩
                obtain ⟨xa, hxa⟩ : ∃ xa, xa = a.at (t + u) := ⟨_, rfl⟩
                rw [← hxb] at c2
                rw [← hxa] at c1
                have HXB := Lib.hid hxb; have HXA := Lib.hid hxa
                have bi := Lib.hid (show ¬ b.infAt u from fun hi => by
                  have h1 := HKN.out
                  unfold dcK at h1
                  rw [if_pos hi.1] at h1
                  exact HBN.out hi.1 u (by omega) hi.2)
                clear hxb hxa
                obtain ⟨tu, htu'⟩ : ∃ tu : Nat, tu = t + u := ⟨_, rfl⟩
                rw [← htu'] at c1 htu
                have HXT := Lib.hid (show xa = a.at tu from by rw [htu']; exact HXA.out)
                have e5 : IntKind.i64.wrap ((t : Int) + (u : Int)) = (tu : Int) := by rw [IntWalk.i64_in _ (by omega)]; omega
                have e5' : (t : Int) + (u : Int) = (tu : Int) := by omega
                have e7 : IntKind.i64.wrap (tu : Int) = (tu : Int) := IntWalk.i64_in _ (by omega)
                have htuI : (tu : Int) < (M : Int) := by omega
                clear htu'
                obtain ⟨w0', hlq⟩ : _ ∧ _ := ⟨VB.out.cell 0, VB.out.lt⟩
                simp at w0'
                have s0 := SM.out.cell t (by rw [MV.out.1]; exact ht)
                rw [MV.out.2.2.1] at s0
                have z0 := SM.out.frozen t
                have hl1 := T1.out.lt; have hl2 := T2.out.lt; have hls := SM.out.lt
                by_cases hxi : xa = inf
                · have F := Lib.hid ((MV.out.set ht inf).next (dc_at_inf HA.out H.out (by omega) bi.out (by rw [← HXA.out]; exact hxi)))
                  unfold inf at hxi F
                  rw [hxi] at c1
                  clear hxi HXA
                  go_wp2_with fail
                  go_roundg (go - 1)
                  case measure => omega
                  case rel => exact ⟨t + 1, _, by omega, by go_num, F.out.1, Lib.hid F.out.2, SM.out.set_ t (by rw [MV.out.1]; exact ht) _, VB.out.far (by show Q ≠ gv; omega) _, T1.out.far (by show q1 ≠ gv; omega) _, T2.out.far (by show q2 ≠ gv; omega) _, E.out.set (by omega) t _⟩
                · have dx : (xa == 4611686018427387904) = false := by unfold inf at hxi; simpa using hxi
                  have hna : ¬ a.infAt (u + t) := fun hi => hxi (by rw [HXA.out, Nat.add_comm]; exact hi.2)
                  have HNA := Lib.hid hna
                  have hxa0 := at_near HA.out (t := t + u) (by omega)
                  have hxb0 := at_near HB.out (t := u) (by omega)
                  rw [← HXA.out] at hxa0
                  rw [← HXB.out] at hxb0
                  have hxa1 := hxa0.1
                  have hxa2 := hxa0.2.resolve_left hxi
                  have hxb1 := hxb0.1
                  have hxb2 : xb ≤ 1152921504606846976 := by
                    rcases hxb0.2 with h1 | h1
                    · exfalso
                      rcases HB.out.fin_or with fb | ib
                      · have h2 := fb.at_bd u
                        have : (u : Int) * 1073741824 ≤ 2000 * 1073741824 := Int.mul_le_mul_of_nonneg_right (by omega) (by omega)
                        rw [← HXB.out, h1] at h2
                        unfold inf at h2
                        omega
                      · exact bi.out ⟨ib, by rw [← HXB.out]; exact h1⟩
                    · exact h1
                  clear hxi hxa0 hxb0 hna
                  have e6 : IntKind.i64.wrap (xa - xb) = xa - xb := IntWalk.i64_in _ (by omega)
                  by_cases hmx : (v : Int) < xa - xb
                  · have NI := Lib.hid (HI.out.more (d := (xa - xb).toNat) bi.out HNA.out (by rw [Nat.add_comm, ← HXA.out, ← HXB.out]; omega) (by omega))
                    have hm2 : (if (v : Int) < xa - xb then xa - xb else (v : Int)) = xa - xb := if_pos hmx
                    go_upto_region 15 with fail
                    replace SM := Lib.hid (RowI.drew SM.out); replace VB := Lib.hid (Blk.drew VB.out); replace T1 := Lib.hid (RowI.drew T1.out); replace T2 := Lib.hid (RowI.drew T2.out); replace E := Lib.hid E.out.drew
                    go_still_tail 16, (by kernel_rfl)
                    change wpList _ _ _ _ _ wr.drew
                    clear w0' hlq s0 z0 c1 c2 hl1 hl2 hls
                    generalize hwd : wr.drew = wd at *
                    clear hwd
                    have c1 := T1.out.cell tu (by rw [tab_length]; exact htu)
                    rw [tab_nth _ _ _ _ htu, Nat.zero_add, ← HXT.out] at c1
                    obtain ⟨w0', hlq⟩ : _ ∧ _ := ⟨VB.out.cell 0, VB.out.lt⟩
                    simp at w0'
                    have s0 := SM.out.cell t (by rw [MV.out.1]; exact ht)
                    rw [MV.out.2.2.1] at s0
                    have z0 := SM.out.frozen t
                    have hl1 := T1.out.lt; have hl2 := T2.out.lt; have hls := SM.out.lt
                    go_wp2_with fail
                    go_roundg (gk - 1)
                    case measure => omega
                    case rel => exact ⟨u + 1, (xa - xb).toNat, _, _, by omega, by go_num, NI.out, by rw [show (((xa - xb).toNat : Nat) : Int) = xa - xb by omega]; exact MV.out.set ht _, SM.out.set_ t (by rw [MV.out.1]; exact ht) _, VB.out.far (by show Q ≠ gv; omega) _, T1.out.far (by show q1 ≠ gv; omega) _, T2.out.far (by show q2 ≠ gv; omega) _, E.out.set (by omega) t _⟩
                  · have NI := Lib.hid (HI.out.less (.inr ⟨HNA.out, by rw [Nat.add_comm, ← HXA.out, ← HXB.out]; omega⟩))
                    have hm2 : (if (v : Int) < xa - xb then xa - xb else (v : Int)) = (v : Int) := if_neg hmx
                    go_upto_region 15 with fail
                    replace SM := Lib.hid (RowI.drew SM.out); replace VB := Lib.hid (Blk.drew VB.out); replace T1 := Lib.hid (RowI.drew T1.out); replace T2 := Lib.hid (RowI.drew T2.out); replace E := Lib.hid E.out.drew
                    go_still_tail 16, (by kernel_rfl)
                    change wpList _ _ _ _ _ wr.drew
                    clear w0' hlq s0 z0 c1 c2 hl1 hl2 hls
                    generalize hwd : wr.drew = wd at *
                    clear hwd
                    have c1 := T1.out.cell tu (by rw [tab_length]; exact htu)
                    rw [tab_nth _ _ _ _ htu, Nat.zero_add, ← HXT.out] at c1
                    obtain ⟨w0', hlq⟩ : _ ∧ _ := ⟨VB.out.cell 0, VB.out.lt⟩
                    simp at w0'
                    have s0 := SM.out.cell t (by rw [MV.out.1]; exact ht)
                    rw [MV.out.2.2.1] at s0
                    have z0 := SM.out.frozen t
                    have hl1 := T1.out.lt; have hl2 := T2.out.lt; have hls := SM.out.lt
                    go_wp2_with fail
                    go_roundg (gk - 1)
                    case measure => omega
                    case rel => exact ⟨u + 1, v, _, _, by omega, by go_num, NI.out, MV.out.set ht _, SM.out.set_ t (by rw [MV.out.1]; exact ht) _, VB.out.far (by show Q ≠ gv; omega) _, T1.out.far (by show q1 ≠ gv; omega) _, T2.out.far (by show q2 ≠ gv; omega) _, E.out.set (by omega) t _⟩
              · have huK : u = KN := by omega
                subst huK
                have F := Lib.hid (MV.out.next (dc_at_fin H.out ((show AhI a b t (dcK a b) v A0 from by rw [← HKN.out]; exact HI.out).doneK HA.out HB.out NL.out)))
                go_wp2_with fail
                go_roundg (go - 1)
                case measure => omega
                case rel => exact ⟨t + 1, _, by omega, by go_num, F.out.1, Lib.hid F.out.2, SM.out, VB.out, T1.out, T2.out, E.out⟩
          · have htn : n = t := by omega
            subst htn
            clear ht htg hz
            obtain ⟨⟨f0, f1, f2⟩, ⟨g0, g1, g2⟩, ⟨p6, p7⟩, hlf⟩ := E.out.cells
            go_wp2_with fail
            refine (buildK_any 139 #[.pointer (some ⟨Q, 0, none⟩)] ((n : Int) - a.per) a.per a.inc h _ (by omega) (by omega) (by omega) (by omega) (by omega) (by omega)
              (fun k hk => by
                rcases dc_bd HA.out HB.out (by unfold ordC; exact HC.out) NL.out H.out (k := k) (by omega) with h1 | h1
                · rw [h1]; unfold inf; omega
                · omega)
              (fun x w1 hx hb => of1_any Q gv n h vs x w1 (VB.out.below hb VB.out.lt) (SM.out.below hb SM.out.lt) HU.out (by omega)) (fun x w => by kernel_rfl)).mono ?_
            rintro e w5 ⟨f, er, hS, A5, n5, c5, hc5, rfl, hI5, hA5, hb⟩
            have F := Lib.hid (show OfS a b f er from ⟨h, H.out, dc_made HA.out HB.out (by unfold ordC; exact HC.out) NL.out H0.out H.out (by
              have e9 : ((n : Int) - a.per).toNat = a.vals.length - a.per.toNat := by rw [HLN.out]; omega
              rw [e9] at hS; exact hS)⟩)
            have hsz := E.out.rb.lt
            have E := Lib.hid (E.out.below hb)
            have HI5 := Lib.hid hI5; have HA5 := Lib.hid hA5
            clear hS hI5 hA5 hb
            clear f0 f1 f2 g0 g1 g2 p6 p7 hlf
            -- the curve f with the error er is returned
            obtain ⟨⟨r0, r1, r2⟩, ⟨y0, y1, y2⟩, hlr⟩ := E.out.rb.c3
            go_wp2_with fail
            have rb := E.out.rb.store3 (.slice A5 n5 c5) (.int .i64 f.per) (.int .i64 f.inc)
            try rw [Exit.noGoto_ret]
            refine bodyPost_ret (v := .tuple #[.agg #[.slice A5 n5 c5, .int .i64 f.per, .int .i64 f.inc], .int .i64 er]) (by simp [results, Try.results79, go_sem, rb.cell]) rfl ?_
            exact ⟨f, er, F.out, retK_store3' hc5 HA5.out (by omega) (by exact hsz) HI5.out E.out.bw⟩
end Go.Proofs.Ytbkimphcmmmaiaa
