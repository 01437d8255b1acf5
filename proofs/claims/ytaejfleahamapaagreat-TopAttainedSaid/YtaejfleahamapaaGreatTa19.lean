/- (*netcalculuskeep.Src).Zero: what it draws. -/
import Derived.Deep.LoopGhost
import Derived.Deep.DeepCutAuto
import Derived.BigRegion
import Derived.Test.YtaejfleahamapaaGreatTa17
import Derived.Test.YtaejfleahamapaaGreatTa16
import Derived.Test.YtaejfleahamapaaGreatTa18
import Derived.Test.YtaejfleahamapaaGreatTa14
import Derived.Test.YtaejfleahamapaaGreatTa3
import Derived.Test.YtaejfleahamapaaGreatTa1
import Derived.Test.YtaejfleahamapaaGreatTa8
namespace Go.Proofs.YtaejfleahamapaaGreat
set_option linter.unusedVariables false
set_option linter.unusedSimpArgs false
section
open Go.RowKit
theorem fin_pre {a : Cv} (h : a.Fin) (t : Nat) (ht : t ≤ 4000) : 0 ≤ a.at t ∧ a.at t ≤ 4300000000000 ∧ a.at t ≠ 4611686018427387904 := by
 have h1 := h.at_bd t
 have h2 : (t : Int) * 1073741824 ≤ 4000 * 1073741824 := Int.mul_le_mul_of_nonneg_right (by omega) (by omega)
 omega
set_option maxRecDepth 100000 in
set_option maxHeartbeats 1000000 in
theorem graw_any (A B : Option Addr) (n m c d : Nat) (a b : Cv) (fr co dr : Int) (t : Nat) (w : World) (hA : Ints w w.heap.size A n a.vals) (hB : Ints w w.heap.size B m b.vals) (fa : a.Fin) (fb : b.Fin) (ht : t ≤ 2000) :
 Calls Tryz.prog 187 #[.agg (gpA A n c a B m d b fr co dr), .int .i64 t] w fun e w' => e = .returned (.int .i64 (dif a b t)) ∧ Below w.heap.size w w' := by
 unfold gpA
 have GB := hi_ (Blk.new w 234 #[.slice A n c, .int .i64 a.per, .int .i64 a.inc, .slice B m d, .int .i64 b.per, .int .i64 b.inc, .int .i64 fr, .int .i64 co, .int .i64 dr])
 have BW := hi_ (balloc w (.cells #[.slice A n c, .int .i64 a.per, .int .i64 a.inc, .slice B m d, .int .i64 b.per, .int .i64 b.inc, .int .i64 fr, .int .i64 co, .int .i64 dr] 234))
 have IA := hi_ (hA.ext BW.out); have IB := hi_ (hB.ext BW.out)
 have la := hA.1; have lb := hB.1
 have ha1 := fa.1.n1; have ha2 := fa.1.n2; have hap := fa.1.p1; have hap2 := fa.1.p2; have hai := fa.1.i1; have hai2 := fa.1.i2; have hapn := fa.1.pn
 have hb1 := fb.1.n1; have hb2 := fb.1.n2; have hbp := fb.1.p1; have hbp2 := fb.1.p2; have hbi := fb.1.i1; have hbi2 := fb.1.i2; have hbpn := fb.1.pn
 rw [la] at ha1 ha2 hapn
 rw [lb] at hb1 hb2 hbpn
 obtain ⟨va, hva⟩ : ∃ v, v = a.at t := ⟨_, rfl⟩
 obtain ⟨vb, hvb⟩ : ∃ v, v = b.at t := ⟨_, rfl⟩
 obtain ⟨p1, p2, p3⟩ := fin_pre fa t (by omega)
 obtain ⟨q1, q2, q3⟩ := fin_pre fb t (by omega)
 rw [← hva] at p1 p2 p3
 rw [← hvb] at q1 q2 q3
 have HVA := hi_ hva; have HVB := hi_ hvb
 have FA := hi_ fa; have FB := hi_ fb
 have e1 : IntKind.i64.wrap (va - vb) = va - vb := IntWalk.i64_in _ (by omega)
 have d1 : (va == 4611686018427387904) = false := by simpa using p3
 have d2 : (vb == 4611686018427387904) = false := by simpa using q3
 rw [show dif a b t = va - vb from by unfold dif; rw [hva, hvb]]
 clear hva hvb hA hB la lb fa fb
 go_enter Tryz.func187, Tryz.ntmps187
 go_upto_region 1 with fail
 generalize hwe : w.alloc (.cells #[.slice A n c, .int .i64 a.per, .int .i64 a.inc, .slice B m d, .int .i64 b.per, .int .i64 b.inc, .int .i64 fr, .int .i64 co, .int .i64 dr] 234) = w1 at *
 clear hwe
 go_cut [5, 6] (fun s5 s6 wx => s5 = .int .i64 va ∧ s6 = .int .i64 vb ∧ Below w.heap.size w wx)
 case first =>
  replace GB := hi_ (Blk.drew GB.out); replace BW := hi_ (Below.drew BW.out)
  have IA := hi_ (show Ints w1.drew w1.drew.heap.size A n a.vals from IA.out); have IB := hi_ (show Ints w1.drew w1.drew.heap.size B m b.vals from IB.out)
  obtain ⟨x0, x1, x2, x3, x4, x5⟩ : _ ∧ _ ∧ _ ∧ _ ∧ _ ∧ _ := ⟨GB.out.cell 0, GB.out.cell 1, GB.out.cell 2, GB.out.cell 3, GB.out.cell 4, GB.out.cell 5⟩
  simp at x0 x1 x2 x3 x4 x5
  have hlx := GB.out.lt
  refine wp_region_held_drew (S := (fun w' => w'.cell? ⟨w.heap.size, 0, none⟩ = some (.slice A n c) ∧ w'.cell? ⟨w.heap.size, 1, none⟩ = some (.int .i64 a.per) ∧ w'.cell? ⟨w.heap.size, 2, none⟩ = some (.int .i64 a.inc) ∧ w'.cell? ⟨w.heap.size, 3, none⟩ = some (.slice B m d) ∧ w'.cell? ⟨w.heap.size, 4, none⟩ = some (.int .i64 b.per) ∧ w'.cell? ⟨w.heap.size, 5, none⟩ = some (.int .i64 b.inc))) (by kernel_rfl) (by exact ⟨x0, x1, x2, x3, x4, x5⟩) (fun hHeld => ?_)
  clear x0 x1 x2 x3 x4 x5 hlx
  generalize hwd : w1.drew = wd at *
  clear hwd
  obtain ⟨x0, x1, x2, x3, x4, x5⟩ : _ ∧ _ ∧ _ ∧ _ ∧ _ ∧ _ := ⟨GB.out.cell 0, GB.out.cell 1, GB.out.cell 2, GB.out.cell 3, GB.out.cell 4, GB.out.cell 5⟩
  simp at x0 x1 x2 x3 x4 x5
  have hlx := GB.out.lt
  refine tkO [0, 1, 2, 4, 5, 6] ?_; (iterate 6 refine tkI ?_); refine tkX ?_
  refine rdy2 3 (fun K hK => ?_)
  go_simp
  refine (at_any A n c a.per a.inc t a.vals _ (by exact IA.out) (by omega) hap hapn hai (by omega) FA.out.1.nn (by omega) (by omega)).mono ?_
  rintro e wa ⟨rfl, hb⟩
  rw [Int.toNat_natCast, ← HVA.out]
  replace GB := hi_ (GB.out.below hb GB.out.lt); replace BW := hi_ (bthen BW.out hb); replace IB := hi_ (IB.out.ext hb)
  clear hb hHeld
  clear x0 x1 x2 x3 x4 x5 hlx
  obtain ⟨x0, x1, x2, x3, x4, x5⟩ : _ ∧ _ ∧ _ ∧ _ ∧ _ ∧ _ := ⟨GB.out.cell 0, GB.out.cell 1, GB.out.cell 2, GB.out.cell 3, GB.out.cell 4, GB.out.cell 5⟩
  simp at x0 x1 x2 x3 x4 x5
  have hlx := GB.out.lt
  refine bkS hK (by exact ⟨x0, x1, x2, x3, x4, x5⟩) (fun hHeld => ?_); clear hK K
  refine rdy2 7 (fun K hK => ?_)
  go_simp
  refine (at_any B m d b.per b.inc t b.vals _ (by exact IB.out) (by omega) hbp hbpn hbi (by omega) FB.out.1.nn (by omega) (by omega)).mono ?_
  rintro e wb ⟨rfl, hb⟩
  rw [Int.toNat_natCast, ← HVB.out]
  replace GB := hi_ (GB.out.below hb GB.out.lt); replace BW := hi_ (bthen BW.out hb)
  clear hb hHeld
  clear x0 x1 x2 x3 x4 x5 hlx
  obtain ⟨x0, x1, x2, x3, x4, x5⟩ : _ ∧ _ ∧ _ ∧ _ ∧ _ ∧ _ := ⟨GB.out.cell 0, GB.out.cell 1, GB.out.cell 2, GB.out.cell 3, GB.out.cell 4, GB.out.cell 5⟩
  simp at x0 x1 x2 x3 x4 x5
  have hlx := GB.out.lt
  refine bkS hK (by exact ⟨x0, x1, x2, x3, x4, x5⟩) (fun hHeld => ?_); clear hK K
  refine tkO [8, 9] ?_; (iterate 2 refine tkI ?_); refine tkX ?_
  refine dnH ?_
  go_wp2_with fail
  go_meet
  exact ⟨rfl, rfl, BW.out⟩
 case rest =>
  obtain ⟨rfl, rfl, bw⟩ := hcut
  clear GB BW IA IB HVA HVB FA FB
  go_wp2_with fail
  go_ret
  exact ⟨rfl, bw⟩
theorem small_ne9 {x : Int} (h : x ≤ 4300000000000) : x ≠ inf := by
 intro e
 rw [e] at h
 exact absurd h (by decide)
theorem nf_fin' {f a : Cv} (hf : f.Fin) (h : NF f.at a) (ho : a.Ok) : a.Fin := by
 refine ⟨ho, fun e => ?_⟩
 have h1 := ho.at_inf e (t := a.vals.length) (by omega)
 have h2 := ho.n2
 rw [h.at, ← show f.at a.vals.length = f.at a.vals.length from rfl] at h1
 have := (fin_pre hf a.vals.length (by omega)).2.2
 exact this h1
def RestS (f g : Cv) (r : Cv) (er : Int) : Prop := ∃ a b, NF f.at a ∧ NF g.at b ∧ a.Fin ∧ b.Fin ∧
 ((120 < ordC a b ∧ r = Cv.none ∧ er = 3) ∨ (ordC a b ≤ 120 ∧ ((RstBad a b ∧ r = Cv.none ∧ er = 3) ∨ (¬ RstBad a b ∧ MadeS (restV a b) r er))))
theorem rest1_any (V G N c0 : Nat) (zs : List Int) (h : Nat → Int) (t : Nat) (w : World) (hV : Blk w V 22 #[.slice (some ⟨G, 0, none⟩) N c0]) (hG : RowI w G zs) (hz : zs.length = N) (hv : nth zs t = h t) (ht : t < N) :
 Calls Tryz.prog 188 (#[.int .i64 t] ++ #[.pointer (some ⟨V, 0, none⟩)]) w fun e w' => e = .returned (.int .i64 (h t)) ∧ Below w.heap.size w w' := by
 show Calls _ _ #[.int .i64 t, .pointer (some ⟨V, 0, none⟩)] _ _
 have v0 := hV.cell 0
 simp at v0
 have hvl := hV.lt
 have q := hG.cell t (by omega)
 have hgl := hG.lt
 rw [hv] at q
 have hti : (t : Int) < N := by omega
 clear hV hG
 go_enter Tryz.func188, Tryz.ntmps188
 go_wp2_with fail
 go_ret
 exact ⟨rfl, Below.refl _ _⟩
structure RsE (w wx : World) (GB : Nat) (A : Option Addr) (n c : Nat) (a : Cv) (B : Option Addr) (m d : Nat) (b : Cv) : Prop where
 gb : Blk wx GB 234 #[.slice A n c, .int .i64 a.per, .int .i64 a.inc, .slice B m d, .int .i64 b.per, .int .i64 b.inc, .int .i64 (ordF a b : Nat), .int .i64 (ordC a b : Nat), .int .i64 (ordD a b)]
 ia : Ints wx wx.heap.size A n a.vals
 ib : Ints wx wx.heap.size B m b.vals
 rb : Blk wx (w.heap.size + 1 + 1) 26 #[.slice none 0 0, .int .i64 0, .int .i64 0]
 bw : Below w.heap.size w wx
 ap : (∀ g o s, A = some ⟨g, o, s⟩ → g < GB) ∧ (∀ g o s, B = some ⟨g, o, s⟩ → g < GB)
section
variable {w wx wy : World} {GB n c m d : Nat} {A B : Option Addr} {a b : Cv}
theorem RsE.below (h : RsE w wx GB A n c a B m d b) (hb : Below wx.heap.size wx wy) : RsE w wy GB A n c a B m d b := ⟨h.gb.below hb h.gb.lt, h.ia.ext hb, h.ib.ext hb, h.rb.below hb h.rb.lt, bthen h.bw hb, h.ap⟩
theorem RsE.drew (h : RsE w wx GB A n c a B m d b) : RsE w wx.drew GB A n c a B m d b := ⟨h.gb, h.ia, h.ib, h.rb, Below.drew h.bw, h.ap⟩
theorem RsE.far (h : RsE w wx GB A n c a B m d b) {g i : Nat} {v : Value} (h1 : GB < g) (h2 : w.heap.size + 1 + 1 < g) : RsE w (wx.setCell ⟨g, i, none⟩ v) GB A n c a B m d b :=
 have s := (Sto.refl g wx).set i v
 ⟨h.gb.sto s (by omega), h.ia.sto s (fun b o t e => by have := h.ap.1 b o t e; omega), h.ib.sto s (fun b o t e => by have := h.ap.2 b o t e; omega), h.rb.sto s (by omega), h.bw.setCell (by show w.heap.size ≤ g; omega) _, h.ap⟩
theorem RsE.cells (h : RsE w wx GB A n c a B m d b) : (wx.cell? ⟨GB, 0, none⟩ = some (.slice A n c) ∧ wx.cell? ⟨GB, 1, none⟩ = some (.int .i64 a.per) ∧ wx.cell? ⟨GB, 2, none⟩ = some (.int .i64 a.inc) ∧ wx.cell? ⟨GB, 3, none⟩ = some (.slice B m d) ∧ wx.cell? ⟨GB, 4, none⟩ = some (.int .i64 b.per) ∧ wx.cell? ⟨GB, 5, none⟩ = some (.int .i64 b.inc)) ∧
 wx.cell? ⟨GB, 6, none⟩ = some (.int .i64 (ordF a b : Nat)) ∧ wx.cell? ⟨GB, 7, none⟩ = some (.int .i64 (ordC a b : Nat)) ∧ wx.cell? ⟨GB, 8, none⟩ = some (.int .i64 (ordD a b)) ∧ GB < wx.heap.size :=
 ⟨⟨h.gb.cell 0, h.gb.cell 1, h.gb.cell 2, h.gb.cell 3, h.gb.cell 4, h.gb.cell 5⟩, h.gb.cell 6, h.gb.cell 7, h.gb.cell 8, h.gb.lt⟩
end
set_option maxHeartbeats 4000000 in
set_option maxRecDepth 100000 in
theorem rest_any (A0 B0 : Option Addr) (n0 m0 c0 d0 : Nat) (p i q j : Int) (xs ys : List Int) (w : World) (hA : Ints w w.heap.size A0 n0 xs) (hB : Ints w w.heap.size B0 m0 ys) (hn : (n0 : Int) ≤ 1000000) (hm : (m0 : Int) ≤ 1000000) (hf : Cv.Fin ⟨xs, p, i⟩) (hg : Cv.Fin ⟨ys, q, j⟩) :
 Calls Tryz.prog 181 #[.agg #[.slice A0 n0 c0, .int .i64 p, .int .i64 i], .agg #[.slice B0 m0 d0, .int .i64 q, .int .i64 j]] w (RetS (RestS ⟨xs, p, i⟩ ⟨ys, q, j⟩) w) := by
 have P := hi_ ((PS.new (c := c0) (p := p) (i := i) (d := d0) (q := q) (j := j) hA hB).alloc (.cells #[.slice none 0 0, .int .i64 0, .int .i64 0] 26))
 have rb := Blk.new ((w.alloc (.cells #[.slice A0 n0 c0, .int .i64 p, .int .i64 i] 26)).alloc (.cells #[.slice B0 m0 d0, .int .i64 q, .int .i64 j] 26)) 26 #[.slice none 0 0, .int .i64 0, .int .i64 0]
 rw [World.size_alloc, World.size_alloc] at rb
 have RB := hi_ rb
 have HF := hi_ hf; have HG := hi_ hg
 clear hA hB rb hf hg
 go_enter Tryz.func181, Tryz.ntmps181
 obtain ⟨f0, f1, f2, g0, g1, g2, hlf, hlg⟩ := P.out.cells
 go_wp2_with fail
 refine (rmboth_any A0 B0 n0 m0 c0 d0 p i q j xs ys _ P.out.ia P.out.ib hn hm).mono ?_
 clear f0 f1 f2 g0 g1 g2 hlf hlg
 rintro e w1 (⟨er, hbad, rfl, hb⟩ | ⟨_, _, a, b, A, n, c, B, m, d, na, nb, oa, ob, hC, rfl, hIA, hIB, hAl, hBl, hb⟩)
 ·-- no gap: the common period is too long
  rcases hbad with ⟨h, _⟩ | ⟨_, _, rfl, a, b, na, nb, oa, ob, hC⟩
  ·exact absurd ⟨HF.out.1, HG.out.1⟩ h
  have F := hi_ (show RestS ⟨xs, p, i⟩ ⟨ys, q, j⟩ Cv.none 3 from ⟨a, b, na, nb, nf_fin' HF.out na oa, nf_fin' HG.out nb ob, .inl ⟨hC, rfl, rfl⟩⟩)
  replace RB := hi_ ((RB.out.below hb RB.out.lt).alloc (.cells zero9 234)); have BW := hi_ (bthen (bthen P.out.bw hb) (balloc _ (.cells zero9 234)))
  clear hb hC na nb oa ob
  unfold zero9 at RB BW ⊢
  obtain ⟨⟨r0, r1, r2⟩, ⟨y0, y1, y2⟩, hlr⟩ := RB.out.c3
  go_wp2_with fail
  have rb := RB.out.store3 (.slice none 0 0) (.int .i64 0) (.int .i64 0)
  exact bodyPost_ret (v := .tuple #[.agg #[.slice none 0 0, .int .i64 0, .int .i64 0], .int .i64 3]) (by simp [results, Tryz.results181, go_sem, rb.cell]) rfl (retS_none F.out (bst3 BW.out (by omega) _ _ _))
 have fa := nf_fin' HF.out na oa
 have fb := nf_fin' HG.out nb ob
 have hO := ord_b oa ob
 have hCC : ordC a b ≤ 120 := hC
 have hF0 := hO.f0; have hC1 := hO.c1; have hD1 := hO.d1; have hD2 := hO.d2
 have la := hIA.1; have lb := hIB.1
 have ha1 := oa.n1; have ha2 := oa.n2; have hb1 := ob.n1; have hb2 := ob.n2
 rw [la] at ha1 ha2
 rw [lb] at hb1 hb2
 have hs1 := hb.size
 simp only [World.size_alloc] at hs1 hAl hBl
 have E := hi_ (show RsE w (w1.alloc (.cells (gpA A n c a B m d b (ordF a b : Nat) (ordC a b : Nat) (ordD a b)) 234)) w1.heap.size A n c a B m d b from
  ⟨Blk.new _ _ _, hIA.alloc' _, hIB.alloc' _, (RB.out.below hb RB.out.lt).alloc _, bthen (bthen P.out.bw hb) (balloc _ _),
   (fun g o s e => by
    obtain ⟨g', o', e', hl, _⟩ := hIA.2 (by omega)
    rw [e] at e'; cases e'; exact hl), (fun g o s e => by
    obtain ⟨g', o', e', hl, _⟩ := hIB.2 (by omega)
    rw [e] at e'; cases e'; exact hl)⟩)
 have NA := hi_ na; have NB := hi_ nb; have FA := hi_ fa; have FB := hi_ fb
 have hGB : w.heap.size + 1 + 1 < w1.heap.size := by omega
 clear hIA hIB hAl hBl hb P RB na nb fa fb la lb hs1
 unfold gpA at E ⊢
 go_upto_region 4 with fail
 generalize hwe : w1.alloc (.cells #[.slice A n c, .int .i64 a.per, .int .i64 a.inc, .slice B m d, .int .i64 b.per, .int .i64 b.inc, .int .i64 (ordF a b : Nat), .int .i64 (ordC a b : Nat), .int .i64 (ordD a b)] 234) = w2 at *
 clear hwe
 generalize w1.heap.size = GB at *
 obtain ⟨F, hF⟩ : ∃ F, F = ordF a b := ⟨_, rfl⟩
 obtain ⟨C, hCe⟩ : ∃ C, C = ordC a b := ⟨_, rfl⟩
 obtain ⟨D, hDe⟩ : ∃ D, D = ordD a b := ⟨_, rfl⟩
 obtain ⟨f1, hf1⟩ : ∃ f1 : Nat, f1 = F + C := ⟨_, rfl⟩
 rw [← hF] at hF0
 rw [← hCe] at hCC hC1
 rw [← hDe] at hD1 hD2
 have e1 : IntKind.i64.wrap ((F : Int) + (C : Int)) = (f1 : Int) := by rw [IntWalk.i64_in _ (by omega)]; omega
 have hf1b : f1 ≤ 520 := by omega
 have HFe := hi_ hF; have HCe := hi_ hCe; have HDe := hi_ hDe; have Hf1 := hi_ hf1
 have z1 : (nth a.vals (n - 1) != inf) = true := by have := FA.out.2; rw [show a.vals.length = n from E.out.ia.1] at this; simpa using this
 have z2 : (nth b.vals (m - 1) != inf) = true := by have := FB.out.2; rw [show b.vals.length = m from E.out.ib.1] at this; simpa using this
 have Z1 := hi_ z1; have Z2 := hi_ z2
 clear z1 z2 hC hf1
 obtain ⟨⟨x0, x1, x2, x3, x4, x5⟩, x6, x7, x8, hlx⟩ := E.out.cells
 rw [← hF] at x6
 rw [← hCe] at x7
 rw [← hDe] at x8
 have X6 := hi_ (fun (wq : World) (h : RsE w wq GB A n c a B m d b) => (by obtain ⟨_, h6, h7, h8, _⟩ := h.cells; rw [hF, hCe, hDe]; exact ⟨h6, h7, h8⟩ : wq.cell? ⟨GB, 6, none⟩ = some (.int .i64 F) ∧ wq.cell? ⟨GB, 7, none⟩ = some (.int .i64 C) ∧ wq.cell? ⟨GB, 8, none⟩ = some (.int .i64 D)))
 clear hF hCe hDe
 go_wp2_with fail
 refine (finite_any A n c a.per a.inc a.vals _ (by exact E.out.ia) (by omega) (by omega)).mono ?_
 rw [Z1.out]
 rintro e w3 ⟨rfl, hb⟩
 replace E := hi_ (E.out.below hb)
 clear hb e1
 clear x0 x1 x2 x3 x4 x5 x6 x7 x8 hlx
 obtain ⟨⟨x0, x1, x2, x3, x4, x5⟩, -, -, -, hlx⟩ := E.out.cells
 obtain ⟨x6, x7, x8⟩ := X6.out _ E.out
 go_wp2_with fail
 refine (finite_any B m d b.per b.inc b.vals _ (by exact E.out.ib) (by omega) (by omega)).mono ?_
 rw [Z2.out]
 rintro e w4 ⟨rfl, hb⟩
 replace E := hi_ (E.out.below hb)
 clear hb
 clear x0 x1 x2 x3 x4 x5 x6 x7 x8 hlx
 obtain ⟨⟨x0, x1, x2, x3, x4, x5⟩, -, -, -, hlx⟩ := E.out.cells
 obtain ⟨x6, x7, x8⟩ := X6.out _ E.out
 obtain ⟨z, hz⟩ : ∃ z, z = decide (0 < D) := ⟨_, rfl⟩
 have ez : decide (D > 0) = z := hz.symm
 have ez' : decide (0 < D) = z := hz.symm
 have HZ := hi_ hz
 clear hz
 go_upto_if 43 with (fail)
 go_cut [8, 9, 10] (fun s8 s9 s10 wx => s8 = .int .i64 (rstFrom a b : Nat) ∧ s9 = .int .i64 (rstPer a b : Nat) ∧ s10 = .int .i64 (rstInc a b) ∧ RsE w wx GB A n c a B m d b)
 case first =>
  cases z
  case false =>
   have hd : ¬ 0 < ordD a b := by rw [← HDe.out]; exact of_decide_eq_false HZ.out.symm
   have r1 : rstFrom a b = f1 := by unfold rstFrom; rw [if_neg hd, ← HFe.out, ← HCe.out, Hf1.out]
   have r2 : rstPer a b = 1 := by unfold rstPer; rw [if_neg hd]
   have r3 : rstInc a b = 0 := by unfold rstInc; rw [if_neg hd]
   have R1 := hi_ r1; have R2 := hi_ r2; have R3 := hi_ r3
   clear hd r1 r2 r3 ez ez'
   go_wp2_with fail
   go_meet
   exact ⟨by rw [R1.out], by rw [R2.out]; rfl, by rw [R3.out], E.out⟩
  case true =>
   have hd : 0 < ordD a b := by rw [← HDe.out]; exact of_decide_eq_true HZ.out.symm
   have r1 : rstFrom a b = max 400 f1 := by unfold rstFrom; rw [if_pos hd, ← HFe.out, ← HCe.out, Hf1.out]
   have r2 : rstPer a b = C := by unfold rstPer; rw [if_pos hd, HCe.out]
   have r3 : rstInc a b = D := by unfold rstInc; rw [if_pos hd, HDe.out]
   obtain ⟨f2, hf2⟩ : ∃ f2 : Nat, f2 = max 400 f1 := ⟨_, rfl⟩
   rw [← hf2] at r1
   have hmx : (if (400 : Int) < (f1 : Int) then (f1 : Int) else 400) = (f2 : Int) := by rw [hf2]; split <;> omega
   have R1 := hi_ r1; have R2 := hi_ r2; have R3 := hi_ r3
   clear hd r1 r2 r3 hf2 ez ez'
   go_wp2_with fail
   go_region
   all_goals
    go_wp2_with fail
    go_meet
    exact ⟨by rw [R1.out], by rw [R2.out], by rw [R3.out], E.out.drew⟩
 case rest =>
  clear E X6 HZ
  clear x0 x1 x2 x3 x4 x5 x6 x7 x8 hlx
  obtain ⟨rfl, rfl, rfl, hE⟩ := hcut
  have E := hi_ hE
  clear hE
  obtain ⟨fr, hfr⟩ : ∃ fr, fr = rstFrom a b := ⟨_, rfl⟩
  obtain ⟨pr, hpr⟩ : ∃ pr, pr = rstPer a b := ⟨_, rfl⟩
  obtain ⟨ic, hic⟩ : ∃ ic, ic = rstInc a b := ⟨_, rfl⟩
  rw [← hfr, ← hpr, ← hic]
  have hfr1 : F + C ≤ fr := by rw [hfr]; unfold rstFrom; split <;> rw [← HFe.out, ← HCe.out] <;> omega
  have hfr2 : fr ≤ 520 := by rw [hfr]; unfold rstFrom; split <;> rw [← HFe.out, ← HCe.out] <;> omega
  have hpr1 : 1 ≤ pr := by rw [hpr]; unfold rstPer; split <;> (try rw [← HCe.out]) <;> omega
  have hpr2 : pr ≤ 120 := by rw [hpr]; unfold rstPer; split <;> (try rw [← HCe.out]) <;> omega
  have hic1 : 0 ≤ ic := by rw [hic]; unfold rstInc; split <;> omega
  have hic2 : ic ≤ 128849018880 := by rw [hic]; unfold rstInc; split <;> (try rw [← HDe.out]) <;> omega
  have HFR := hi_ hfr; have HPR := hi_ hpr; have HIC := hi_ hic
  clear hfr hpr hic
  obtain ⟨N, hN⟩ : ∃ N : Nat, N = fr + pr := ⟨_, rfl⟩
  have e1 : IntKind.i64.wrap ((fr : Int) + (pr : Int)) = (N : Int) := by rw [IntWalk.i64_in _ (by omega)]; omega
  have hNb : N ≤ 640 := by omega
  have hN1 : fr < N := by omega
  have HN := hi_ hN
  clear hN
  obtain ⟨i0, hi0, hz0, hy1, hy2⟩ := info_parts info_int
  go_upto_region 8 with (at_make; refine wpList_make_full _ rfl _ _ 22 rfl wc.heap.size 3 i0 _ 1 Tryz.underlying22 hi0 hz0 hy1 .i64 .i64 _ _ N rfl rfl rfl rfl (by rw [hy2]; omega) (by unfold maxLen; omega) (by simp) ?_; intro w5 own1 grow1)
  have hb3 : Below wc.heap.size wc w5 := (Below.refl _ _).grown grow1 (by simp) (by simp)
  have SM := hi_ ((own_zeros2 own1).below (balloc w5 (.cells #[.slice (some ⟨wc.heap.size, 0, none⟩) N N] 22)) (own_zeros2 own1).lt)
  have VB := hi_ (Blk.new w5 22 #[.slice (some ⟨wc.heap.size, 0, none⟩) N N])
  have hGl := E.out.gb.lt
  have hRl := E.out.rb.lt
  have hsz := hb3.size
  have hgv : wc.heap.size < w5.heap.size := (own_zeros2 own1).lt
  have E := hi_ ((E.out.below hb3).below (balloc w5 (.cells #[.slice (some ⟨wc.heap.size, 0, none⟩) N N] 22)))
  clear hi0 hz0 hy1 hy2 own1 grow1 hb3 e1
  generalize hwe : w5.alloc (.cells #[.slice (some ⟨wc.heap.size, 0, none⟩) N N] 22) = w6 at *
  clear hwe
  generalize wc.heap.size = G at *
  generalize w5.heap.size = V at *
  have hvl := VB.out.lt
  have v0 := VB.out.cell 0
  simp at v0
  go_wp2_with fail
  clear v0 hvl
  go_loopg [12, 13, 56] N (fun gg s12 s13 s56 wx => ∃ (k : Nat) (zs : List Int), k + gg = N ∧ s56 = .int .i64 k ∧ s12 = .int .i64 (rmx (dif a b) 0 (min k (ordF a b))) ∧ s13 = .int .i64 (tailV a b (k - ordF a b)) ∧ UpTo (restV a b) zs N k ∧ RowI wx G zs ∧ Blk wx V 22 #[.slice (some ⟨G, 0, none⟩) N N] ∧ RsE w wx GB A n c a B m d b ∧ Hid (fr < k → ¬ RstBad a b))
  case atStart => exact ⟨0, List.replicate N 0, by omega, rfl, by rw [Nat.zero_min]; rfl, by rw [Nat.zero_sub]; rfl, ⟨by simp, fun x hx => by omega⟩, SM.out, VB.out, E.out, hi_ (fun h => by omega)⟩
  case round =>
   clear SM VB E
   obtain ⟨k, zs, hkg, rfl, rfl, rfl, hu, hR, hV, hE, NBD⟩ := hrel
   have SM := hi_ hR; have E := hi_ hE; have HU := hi_ hu; have VB := hi_ hV
   clear hR hE hu hV
   obtain ⟨mk, hmk⟩ : ∃ v, v = rmx (dif a b) 0 (min k (ordF a b)) := ⟨_, rfl⟩
   obtain ⟨tk, htk⟩ : ∃ v, v = tailV a b (k - ordF a b) := ⟨_, rfl⟩
   rw [← hmk, ← htk]
   have HMK := hi_ hmk; have HTK := hi_ htk
   clear hmk htk
   by_cases hk : k < N
   case pos =>
    have hki : (k : Int) < N := by omega
    obtain ⟨⟨x0, x1, x2, x3, x4, x5⟩, x6, x7, x8, hlx⟩ := E.out.cells
    go_wp2_with fail
    refine (graw_any A B n m c d a b _ _ _ k _ (by exact E.out.ia) (by exact E.out.ib) FA.out FB.out (by omega)).mono ?_
    obtain ⟨dv, hdv⟩ : ∃ v, v = dif a b k := ⟨_, rfl⟩
    rw [← hdv]
    have HDV := hi_ hdv
    clear hdv
    rintro e wa ⟨rfl, hb⟩
    have hsl := SM.out.lt; have hvl := VB.out.lt
    replace E := hi_ (E.out.below hb); replace SM := hi_ (SM.out.below hb hsl); replace VB := hi_ (VB.out.below hb hvl)
    clear x0 x1 x2 x3 x4 x5 x6 x7 x8 hlx
    clear hb hsl hvl
    obtain ⟨mn, hmn⟩ : ∃ v, v = rmx (dif a b) 0 (min (k + 1) (ordF a b)) := ⟨_, rfl⟩
    obtain ⟨tn, htn⟩ : ∃ v, v = tailV a b (k + 1 - ordF a b) := ⟨_, rfl⟩
    obtain ⟨⟨x0, x1, x2, x3, x4, x5⟩, x6, x7, x8, hlx⟩ := E.out.cells
    go_upto_if 65 with (fail)
    go_cut [12, 13] (fun s12 s13 wx => s12 = .int .i64 mn ∧ s13 = .int .i64 tn ∧ wx = wa)
    case first =>
     clear x0 x1 x2 x3 x4 x5
     by_cases hkF : k < ordF a b
     ·have q1 : mn = if mk < dv then dv else mk := by
       rw [hmn, HMK.out, HDV.out, show min (k + 1) (ordF a b) = min k (ordF a b) + 1 by omega]
       show max (rmx (dif a b) 0 (min k (ordF a b))) (dif a b (min k (ordF a b))) = _
       rw [show min k (ordF a b) = k by omega]
       split <;> omega
      have q2 : tn = tk := by rw [htn, HTK.out, show k + 1 - ordF a b = k - ordF a b by omega]
      have q1' : (if mk < dv then dv else mk) = mn := q1.symm
      have hkf : ¬ (ordF a b : Int) ≤ (k : Int) := by omega
      have hkf' : (k : Int) < (ordF a b : Int) := by omega
      have Q2 := hi_ q2
      clear q1 q2 hmn htn
      go_wp2_with fail
      go_meet
      exact ⟨rfl, by rw [Q2.out], rfl⟩
     ·have q1 : tn = if tk < dv then dv else tk := by
       rw [htn, HTK.out, HDV.out, show k + 1 - ordF a b = k - ordF a b + 1 by omega]
       show max (tailV a b (k - ordF a b)) (dif a b (ordF a b + (k - ordF a b))) = _
       rw [show ordF a b + (k - ordF a b) = k by omega]
       split <;> omega
      have q2 : mn = mk := by rw [hmn, HMK.out, show min (k + 1) (ordF a b) = min k (ordF a b) by omega]
      have q1' : (if tk < dv then dv else tk) = tn := q1.symm
      have hkf : (ordF a b : Int) ≤ (k : Int) := by omega
      have Q2 := hi_ q2
      clear q1 q2 hmn htn
      go_wp2_with fail
      go_meet
      exact ⟨by rw [Q2.out], rfl, rfl⟩
    case rest =>
    obtain ⟨rfl, rfl, rfl⟩ := hcut
    have HMN := hi_ hmn; have HTN := hi_ htn
    obtain ⟨v, hv⟩ : ∃ v, v = restV a b k := ⟨_, rfl⟩
    have q1 : (if mn < tn then tn else mn) = v := by
     rw [hv, rest_val, hmn, htn]
     split <;> omega
    have F1 := hi_ (HU.out.step hk)
    rw [← hv] at F1
    have q0 := SM.out.cell k (by rw [HU.out.1]; exact hk)
    have z0 := SM.out.frozen k
    have hlt := SM.out.lt
    have v0 := VB.out.cell 0
    simp at v0
    have hvl := VB.out.lt
    clear hmn htn hv
    go_upto_region 17 with fail
    have hGG : GB < G := by omega
    have S2 := hi_ (SM.out.set_ k (by rw [HU.out.1]; exact hk) v)
    have V2 := hi_ (VB.out.far (p := ⟨G, k, none⟩) (by show V ≠ G; omega) (.int .i64 v))
    have E2 := hi_ (E.out.far (g := G) (i := k) (v := .int .i64 v) hGG (by omega))
    generalize hws : wc.setCell ⟨G, k, none⟩ (.int .i64 v) = ws at *
    clear hws q0 z0 hlt v0 hvl SM VB E
    clear x0 x1 x2 x3 x4 x5 x6 x7 x8 hlx
    have hfrF : ordF a b < fr := by rw [← HFe.out]; omega
    by_cases hkf : k = fr
    case neg =>
     have d1 : ((k : Int) == (fr : Int)) = false := by simp; omega
     have NB2 := hi_ (show fr < k + 1 → ¬ RstBad a b from fun h => NBD.out (by omega))
     go_wp2_with fail
     go_roundg (gk - 1)
     case measure => omega
     case rel => exact ⟨k + 1, _, by omega, by go_num, by rw [HMN.out], by rw [HTN.out], F1.out, S2.out, V2.out, E2.out, NB2⟩
    case pos =>
    have d1 : ((k : Int) == (fr : Int)) = true := by simp; omega
    by_cases hic : 0 < ic
    case neg =>
     have d2 : decide (0 < ic) = false := by simpa using hic
     have NB2 := hi_ (show fr < k + 1 → ¬ RstBad a b from fun _ h => hic (by rw [HIC.out]; unfold rstInc; rw [if_pos h.1]; exact h.1))
     clear hkf
     go_wp2_with fail
     go_roundg (gk - 1)
     case measure => omega
     case rel => exact ⟨k + 1, _, by omega, by go_num, by rw [HMN.out], by rw [HTN.out], F1.out, S2.out, V2.out, E2.out, NB2⟩
    case pos =>
    have d2 : decide (0 < ic) = true := by simpa using hic
    have hD0 : 0 < ordD a b := by
     rw [HIC.out] at hic
     unfold rstInc at hic
     split at hic
     ·assumption
     ·omega
    have EM : mn = rmx (dif a b) 0 (ordF a b) := by rw [HMN.out, show min (k + 1) (ordF a b) = ordF a b by omega]
    have ET : tn = tailV a b (rstFrom a b + 1 - ordF a b) := by rw [HTN.out, ← HFR.out, hkf]
    by_cases hlt : tn < mn
    case neg =>
     have d3 : decide (tn < mn) = false := by simpa using hlt
     have NB2 := hi_ (show fr < k + 1 → ¬ RstBad a b from fun _ h => hlt (by rw [EM, ET]; exact h.2))
     clear hkf EM ET
     go_wp2_with fail
     go_roundg (gk - 1)
     case measure => omega
     case rel => exact ⟨k + 1, _, by omega, by go_num, by rw [HMN.out], by rw [HTN.out], F1.out, S2.out, V2.out, E2.out, NB2⟩
    case pos =>
     have d3 : decide (tn < mn) = true := by simpa using hlt
     have F := hi_ (show RestS ⟨xs, p, i⟩ ⟨ys, q, j⟩ Cv.none 3 from ⟨a, b, NA.out, NB.out, FA.out, FB.out, .inr ⟨by rw [← HCe.out]; exact hCC, .inl ⟨⟨hD0, by rw [← EM, ← ET]; exact hlt⟩, rfl, rfl⟩⟩⟩)
     have RB := hi_ E2.out.rb; have BW := hi_ E2.out.bw
     clear hkf EM ET
     obtain ⟨⟨r0, r1, r2⟩, ⟨y0, y1, y2⟩, hlr⟩ := RB.out.c3
     go_wp2_with fail
     have rb := RB.out.store3 (.slice none 0 0) (.int .i64 0) (.int .i64 0)
     exact bodyPost_ret (v := .tuple #[.agg #[.slice none 0 0, .int .i64 0, .int .i64 0], .int .i64 3]) (by simp [results, Tryz.results181, go_sem, rb.cell]) rfl (retS_none F.out (bst3 BW.out (by omega) _ _ _))
   case neg =>
    have hki : ¬ (k : Int) < N := by omega
    have hkN : k = N := by omega
    have NBB := hi_ (NBD.out (by omega))
    have HDN := hi_ (show UpTo (restV a b) zs N N by have h9 := HU.out; rw [hkN] at h9; exact h9)
    have hsl := SM.out.lt; have hvl := VB.out.lt
    have fr0 : ((fr : Nat) : Int).toNat = fr := Int.toNat_natCast _
    have pr0 : ((pr : Nat) : Int).toNat = pr := Int.toNat_natCast _
    have HBD := hi_ (fun (t : Nat) (ht : t < N) => (⟨rmx_ge _ _ _, rmx_le (by omega) (fun j hj => by
     have h1 := fin_pre FA.out j (by omega)
     have h2 := fin_pre FB.out j (by omega)
     unfold dif
     omega)⟩ : 0 ≤ restV a b t ∧ restV a b t ≤ 4300000000000))
    clear hk hkg hkN
    go_wp2_with fail
    refine (buildK_any 188 #[.pointer (some ⟨V, 0, none⟩)] fr pr ic (restV a b) _ (by omega) (by omega) (by omega) (by omega) hic1 (by omega)
     (fun k hk => by have := HBD.out k (by rw [HN.out]; omega); omega)
     (hi_ (fun t w4 ht hb => rest1_any V G N N zs (restV a b) t w4 (VB.out.below hb hvl) (SM.out.below hb hsl) HDN.out.1 (HDN.out.2 t (by rw [HN.out]; omega)) (by rw [HN.out]; omega))) (fun x w => by kernel_rfl)).mono ?_
    rw [fr0, pr0]
    rintro e w7 ⟨f, er, hS, A5, n5, c5, hc5, rfl, hI5, hA5, hb⟩
    have hM := build_made (h := restV a b) (s := fr) (p := pr) (i := ic) (by omega) (fun t u h1 _ h => absurd h (small_ne9 (HBD.out t (by rw [HN.out]; omega)).2)) (fun _ => by
     rw [HFR.out, HPR.out, HIC.out]
     exact rest_per FA.out FB.out (by rw [← HCe.out]; exact hC1) NBB.out) hS
    have F := hi_ (show RestS ⟨xs, p, i⟩ ⟨ys, q, j⟩ f er from ⟨a, b, NA.out, NB.out, FA.out, FB.out, .inr ⟨by rw [← HCe.out]; exact hCC, .inr ⟨NBB.out, hM⟩⟩⟩)
    have hsz5 := E.out.rb.lt
    have RB := hi_ (E.out.rb.below hb E.out.rb.lt); have BW := hi_ (bthen E.out.bw hb)
    have HI5 := hi_ hI5; have HA5 := hi_ hA5
    clear hS hI5 hA5 hb hM E SM VB
    obtain ⟨⟨r0, r1, r2⟩, ⟨y0, y1, y2⟩, hlr⟩ := RB.out.c3
    go_wp2_with fail
    have rb := RB.out.store3 (.slice A5 n5 c5) (.int .i64 f.per) (.int .i64 f.inc)
    exact bodyPost_ret (v := .tuple #[.agg #[.slice A5 n5 c5, .int .i64 f.per, .int .i64 f.inc], .int .i64 er]) (by simp [results, Tryz.results181, go_sem, rb.cell]) rfl (retS_store F.out HA5.out (by omega) (by omega) HI5.out BW.out)
end
section
open Go.RowKit
theorem serve_any (c : Int) (w : World) (h1 : 1 ≤ c) (h2 : c ≤ 4000) : Calls Tryz.prog 26 #[.int .i64 c] w (RetC (lineCv c) 0 w) := by
 have RB := hi_ (Blk.new w 26 #[.slice none 0 0, .int .i64 0, .int .i64 0])
 have BW := hi_ (balloc w (.cells #[.slice none 0 0, .int .i64 0, .int .i64 0] 26))
 have e : lineC c = (lineCv c, 0) := by unfold lineC; rw [if_neg (by omega), if_neg (by omega)]; rfl
 go_enter Tryz.func26, Tryz.ntmps26
 go_upto_region 1 with fail
 generalize hwe : w.alloc (.cells #[.slice none 0 0, .int .i64 0, .int .i64 0] 26) = w1 at *
 clear hwe
 have d1 : decide (c < 1) = false := by simp; omega
 have d2 : decide ((4000 : Int) < c) = false := by simp; omega
 go_wp2_with fail
 refine (line_any c _).mono ?_
 rw [e]
 rintro e w2 ⟨A, n, d, rfl, hI, hA, hb⟩
 have hrw := RB.out.lt
 replace RB := hi_ (RB.out.below hb RB.out.lt); replace BW := hi_ (bthen BW.out hb)
 have HI := hi_ hI; have HA := hi_ hA
 clear hI hA hb
 obtain ⟨⟨r0, r1, r2⟩, ⟨y0, y1, y2⟩, hlr⟩ := RB.out.c3
 go_wp2_with fail
 have rb := RB.out.store3 (.slice A n d) (.int .i64 (lineCv c).per) (.int .i64 (lineCv c).inc)
 refine bodyPost_ret (v := .tuple #[.agg #[.slice A n d, .int .i64 (lineCv c).per, .int .i64 (lineCv c).inc], .int .i64 0]) (by simp [results, Tryz.results26, go_sem, rb.cell]) rfl ?_
 exact ⟨A, n, d, rfl, HI.out.sto (Sto.three w.heap.size w2 _ _ _) (fun b off s e => by have := HA.out b off s e; omega), (fun b off s e => by have := HA.out b off s e; omega), bst3 BW.out (Nat.le_refl _) _ _ _⟩
def blkV (zs : List SZ) (cl : Nat) : Int := (zs.drop (cl + 1)).foldl (fun m x => max m (x.hi - 1)) 0
def PrS (cap : Int) (cl : Nat) (fs : List Cv) (zs : List SZ) (r : Cv) (er : Int) : Prop :=
 ∃ o e, TotR cvZ (fs.take cl) o e ∧ ((e ≠ 0 ∧ r = Cv.none ∧ er = e) ∨ (e = 0 ∧ ∃ o2 e2, RaiseS o (blkV zs cl) o2 e2 ∧ ((e2 ≠ 0 ∧ r = Cv.none ∧ er = e2) ∨ (e2 = 0 ∧ RestS (lineCv cap) o2 r er))))
theorem foldl_max_bd : ∀ (l : List SZ) (m : Int), (∀ x ∈ l, x.hi ≤ 1500) → 0 ≤ m → m ≤ 1500 → 0 ≤ l.foldl (fun m x => max m (x.hi - 1)) m ∧ l.foldl (fun m x => max m (x.hi - 1)) m ≤ 1500
 | [], m, _, h1, h2 => ⟨h1, h2⟩
 | x :: l, m, h, h1, h2 => foldl_max_bd l _ (fun y hy => h y (List.mem_cons_of_mem _ hy)) (by show 0 ≤ max m (x.hi - 1); omega) (by have := h x (List.mem_cons_self ..); show max m (x.hi - 1) ≤ 1500; omega)
theorem RowO.take {w : World} {b o : Nat} {xs : List CR} (h : RowO w b o xs) (m : Nat) : RowO w b o (xs.take m) :=
 ⟨h.lt, fun k j x hx hj => by
  rw [List.getElem?_take] at hx
  split at hx
  ·exact h.cell k j x hx hj
  ·exact absurd hx (by simp), fun x hx => h.inn x (List.mem_of_mem_take hx)⟩
theorem sum_len {f g r : Cv} {er : Int} (h : SumS f g r er) : r.vals.length ≤ 400 := by
 rcases h with ⟨_, rfl, _⟩ | ⟨_, _, a, b, _, _, ⟨_, rfl, _⟩ | ⟨_, g, _, ⟨hl, rfl, _⟩ | ⟨_, rfl, _⟩⟩⟩
 ·decide
 ·decide
 ·exact hl.1
 ·decide
theorem cvZ_len : cvZ.vals.length ≤ 400 := by decide
theorem tot_len : ∀ {fs : List Cv} {s r : Cv} {er : Int}, s.vals.length ≤ 400 → TotR s fs r er → r.vals.length ≤ 400
 | [], _, _, _, hs, h => by rw [h.1]; exact hs
 | _ :: _, _, _, _, _, ⟨t, e, h1, h2⟩ => by
   rcases h2 with ⟨_, h2⟩ | ⟨_, rfl, _⟩
   ·exact tot_len (sum_len h1) h2
   ·decide
theorem raise_len {f r : Cv} {d er : Int} (h : RaiseS f d r er) : r.vals.length ≤ 400 := by
 rcases h with ⟨_, rfl, _⟩ | ⟨_, _, rfl, _⟩ | ⟨_, _, _, a, _, ⟨_, hl, _⟩ | ⟨_, rfl, _⟩⟩
 ·decide
 ·decide
 ·exact hl.1
 ·decide
structure PrE (w wx : World) (g o : Nat) (xs : List CR) (A : Option Addr) (n c : Nat) (zs : List SZ) : Prop where
 row : RowO wx g o xs
 sz : LsZ wx A n c zs
 rb : Blk wx w.heap.size 26 #[.slice none 0 0, .int .i64 0, .int .i64 0]
 bw : Below w.heap.size w wx
theorem PrE.below {w wx wy : World} {g o n c : Nat} {xs : List CR} {A : Option Addr} {zs : List SZ} (h : PrE w wx g o xs A n c zs) (hb : Below wx.heap.size wx wy) : PrE w wy g o xs A n c zs := ⟨h.row.below hb, h.sz.below hb, h.rb.below hb h.rb.lt, bthen h.bw hb⟩
set_option maxHeartbeats 4000000 in
set_option maxRecDepth 100000 in
theorem prCurve_any (cap : Int) (cl g o n c q s d : Nat) (xs : List CR) (zs : List SZ) (w : World) (hc1 : 1 ≤ cap) (hc2 : cap ≤ 4000) (hcl : cl < n) (hn : n ≤ 6) (hnc : n ≤ c) (hnd : n ≤ d) (hx : xs.length = n) (hrow : RowO w g o xs) (hfin : ∀ x ∈ xs, x.f.Fin) (hlen : ∀ x ∈ xs, x.n ≤ 1000)
 (hz : zs.length = n) (hrz : RowZ w q s zs) (hg : ∀ x ∈ zs, x.Good) :
 Calls Tryz.prog 178 #[.int .i64 cap, .int .i64 cl, .slice (some ⟨g, o, none⟩) n c, .slice (some ⟨q, s, none⟩) n d] w (RetS (PrS cap cl (xs.map CR.f) zs) w) := by
 have E := hi_ (show PrE w (w.alloc (.cells #[.slice none 0 0, .int .i64 0, .int .i64 0] 26)) g o xs (some ⟨q, s, none⟩) n d zs from ⟨hrow.below (balloc _ _), ⟨hz, hnd, by omega, fun _ => ⟨q, s, rfl, hrz.below (balloc _ _)⟩⟩, Blk.new _ _ _, balloc _ _⟩)
 have HG := hi_ hg; have HX := hi_ hx; have HFI := hi_ hfin; have HLE := hi_ hlen; have HZ := hi_ hz
 clear hrow hrz hg hx hfin hlen hz
 go_enter Tryz.func178, Tryz.ntmps178
 go_upto_region 1 with fail
 generalize hwe : w.alloc (.cells #[.slice none 0 0, .int .i64 0, .int .i64 0] 26) = w1 at *
 clear hwe
 go_wp2_with fail
 refine (pcheck_any cap cl (some ⟨q, s, none⟩) n d zs _ E.out.sz HG.out hc1 hc2 (by omega) hn (by omega) (by omega)).mono ?_
 rintro e w2 ⟨rfl, hb⟩
 replace E := hi_ (E.out.below hb)
 clear hb
 have d0 : ((n : Int) != (n : Int)) = false := by simp
 go_wp2_with fail
 go_loopg [35] n (fun gg s35 wx => ∃ k : Nat, k + gg = n ∧ s35 = .int .i64 k ∧ PrE w wx g o xs (some ⟨q, s, none⟩) n d zs)
 case atStart => exact ⟨0, by omega, rfl, E.out⟩
 case round =>
  clear E
  obtain ⟨k, hkg, rfl, hE⟩ := hrel
  have E := hi_ hE
  clear hE
  by_cases hk : k < n
  case pos =>
   have hki : (k : Int) < n := by omega
   obtain ⟨x, hx, hI, x0, x1, x2⟩ := E.out.row.get (k := k) (by rw [HX.out]; exact hk)
   have hgl := E.out.row.lt
   have hmem := List.mem_of_getElem? hx
   have hok := (HFI.out x hmem).1
   have hxn := HLE.out x hmem
   have HI := hi_ (hI.alloc' (.cells #[.slice x.A x.n x.c, .int .i64 x.f.per, .int .i64 x.f.inc] 26))
   have BX := hi_ (Blk.new wr 26 #[.slice x.A x.n x.c, .int .i64 x.f.per, .int .i64 x.f.inc])
   replace E := hi_ (E.out.below (balloc wr (.cells #[.slice x.A x.n x.c, .int .i64 x.f.per, .int .i64 x.f.inc] 26)))
   have OKB := hi_ (Cv.okB_true hok)
   clear hI hmem hok hx
   go_upto_region 9 with fail
   clear x0 x1 x2 hgl
   generalize hwe : wr.alloc (.cells #[.slice x.A x.n x.c, .int .i64 x.f.per, .int .i64 x.f.inc] 26) = we at *
   clear hwe
   generalize wr.heap.size = Zx at *
   obtain ⟨⟨x0, x1, x2⟩, _, hlx⟩ := BX.out.c3
   go_wp2_with fail
   refine (valid_any x.A x.n x.c x.f.per x.f.inc x.f.vals _ (by exact HI.out) (by omega)).mono ?_
   rw [OKB.out]
   rintro e wf ⟨rfl, hb⟩
   replace E := hi_ (E.out.below hb)
   clear hb x0 x1 x2 hlx HI BX
   go_wp2_with fail
   go_roundg (gk - 1)
   case measure => omega
   case rel => exact ⟨k + 1, by omega, by go_num, E.out⟩
  case neg =>
   have hki : ¬ (k : Int) < n := by omega
   clear hk hkg
   obtain ⟨m, hm⟩ : ∃ m : Nat, m = n - (cl + 1) := ⟨_, rfl⟩
   have e1 : IntKind.i64.wrap ((cl : Int) + 1) = ((cl + 1 : Nat) : Int) := by rw [IntWalk.i64_in _ (by omega)]; omega
   go_upto_region 13 with fail
   go_cut [47, 48, 49] (fun s47 s48 s49 wx => ∃ (A' : Option Addr) (d' : Nat), s47 = .slice A' m d' ∧ (0 < m → A' = some ⟨q, s + (cl + 1) * 2, none⟩) ∧ s48 = .int .i64 m ∧ s49 = .int .i64 0 ∧ wx = wr)
   case first =>
    have HM := hi_ hm
    clear hm
    go_wp2_with fail
    ·subst h
     go_meet
     exact ⟨_, _, by rw [HM.out], fun hm0 => by (have := HM.out; omega), by rw [HM.out], rfl, rfl⟩
    ·go_meet
     exact ⟨_, _, by rw [HM.out], fun _ => rfl, by rw [HM.out], rfl, rfl⟩
   case rest =>
    obtain ⟨A', d', rfl, hA', rfl, rfl, rfl⟩ := hcut
    have HA' := hi_ hA'
    have HM := hi_ hm
    have hm6 : m ≤ 6 := by omega
    have HDR := hi_ (show (zs.drop (cl + 1)).length = m by rw [List.length_drop, HZ.out, HM.out])
    clear hA' hm e1
    go_wp2_with fail
    go_loopg [13, 49] m (fun gg s13 s49 wx => ∃ k : Nat, k + gg = m ∧ s49 = .int .i64 k ∧ s13 = .int .i64 (((zs.drop (cl + 1)).take k).foldl (fun m x => max m (x.hi - 1)) 0) ∧ PrE w wx g o xs (some ⟨q, s, none⟩) n d zs)
    case atStart => exact ⟨0, by omega, rfl, rfl, E.out⟩
    case round =>
     clear E
     obtain ⟨k, hkg, rfl, rfl, hE⟩ := hrel
     have E := hi_ hE
     clear hE
     by_cases hk : k < m
     case pos =>
      have hki : (k : Int) < m := by omega
      obtain ⟨q', s', e9, hrz⟩ := E.out.sz.2.2.2 (by omega)
      cases e9
      obtain ⟨x, hx, x0, x1⟩ := (hrz.drop (cl + 1)).get (k := k) (by rw [HDR.out]; exact hk)
      have hql := hrz.lt
      obtain ⟨g1, g2, g3⟩ := HG.out x (List.mem_of_mem_drop (List.mem_of_getElem? hx))
      obtain ⟨v, hv⟩ : ∃ v, v = ((zs.drop (cl + 1)).take k).foldl (fun m x => max m (x.hi - 1)) 0 := ⟨_, rfl⟩
      obtain ⟨v2, hv2⟩ : ∃ v, v = ((zs.drop (cl + 1)).take (k + 1)).foldl (fun m x => max m (x.hi - 1)) 0 := ⟨_, rfl⟩
      have ev : v2 = max v (x.hi - 1) := by
       rw [hv2, hv, List.take_add_one, hx]
       simp
      rw [← hv]
      have e2 : IntKind.i64.wrap (x.hi - 1) = x.hi - 1 := IntWalk.i64_in _ (by omega)
      have e3 : (if v < x.hi - 1 then x.hi - 1 else v) = v2 := by rw [ev]; split <;> omega
      have HV2 := hi_ hv2
      have hA2 := HA'.out (by omega)
      subst hA2
      clear hrz hx hv hv2 ev
      have BX := hi_ (Blk.new wr 67 #[.int .i64 x.lo, .int .i64 x.hi])
      replace E := hi_ (E.out.below (balloc wr (.cells #[.int .i64 x.lo, .int .i64 x.hi] 67)))
      go_upto_region 16 with fail
      clear x0 x1 hql
      generalize hwe : wr.alloc (.cells #[.int .i64 x.lo, .int .i64 x.hi] 67) = we at *
      clear hwe
      generalize wr.heap.size = Zx at *
      have x1 := BX.out.cell 1
      simp at x1
      have hlx := BX.out.lt
      go_wp2_with fail
      go_roundg (gk - 1)
      case measure => omega
      case rel => exact ⟨k + 1, by omega, by go_num, by rw [HV2.out], E.out⟩
     case neg =>
      have hki : ¬ (k : Int) < m := by omega
      have hkm : k = m := by omega
      obtain ⟨v, hv⟩ : ∃ v, v = ((zs.drop (cl + 1)).take k).foldl (fun m x => max m (x.hi - 1)) 0 := ⟨_, rfl⟩
      have HV := hi_ (show v = blkV zs cl by rw [hv, hkm, List.take_of_length_le (by rw [HDR.out]; exact Nat.le_refl _)]; rfl)
      have hvb := foldl_max_bd (zs.drop (cl + 1)) 0 (fun x hx => (HG.out x (List.mem_of_mem_drop hx)).2.2) (by omega) (by omega)
      have hv1 : 0 ≤ v := by rw [HV.out]; exact hvb.1
      have hv2 : v ≤ 1500 := by rw [HV.out]; exact hvb.2
      rw [← hv]
      clear hv hvb hk hkg hkm
      go_wp2_with fail
      refine (total_anyO (some ⟨g, o, none⟩) cl c (xs.take cl) wr (by rw [List.length_take, HX.out]; omega) (by omega) (fun _ => ⟨g, o, rfl, E.out.row.take cl⟩) (fun x hx => by have := HLE.out x (List.mem_of_mem_take hx); omega)).mono ?_
      rintro e wa ⟨f1, er1, hS1, A1, m1, d1, rfl, hI1, hA1, hb⟩
      rw [List.map_take] at hS1
      have T1 := hi_ hS1
      have hm1 : m1 ≤ 400 := by have h1 := tot_len cvZ_len hS1; have h2 : f1.vals.length = m1 := hI1.1; omega
      have I1 := hi_ (hI1.alloc' (.cells #[.slice A1 m1 d1, .int .i64 f1.per, .int .i64 f1.inc] 26))
      have HA1 := hi_ hA1
      have BO := hi_ (Blk.new wa 26 #[.slice A1 m1 d1, .int .i64 f1.per, .int .i64 f1.inc])
      have hwa := (E.out.rb.below hb E.out.rb.lt).lt
      replace E := hi_ ((E.out.below hb).below (balloc wa (.cells #[.slice A1 m1 d1, .int .i64 f1.per, .int .i64 f1.inc] 26)))
      clear hS1 hI1 hA1 hb
      go_upto_region 19 with fail
      generalize hwe : wa.alloc (.cells #[.slice A1 m1 d1, .int .i64 f1.per, .int .i64 f1.inc] 26) = wb at *
      clear hwe
      generalize wa.heap.size = Zo at *
      by_cases he1 : er1 = 0
      case neg =>
       have c1 : (er1 == 0) = false := by simpa using he1
       have c2 : (er1 != 0) = true := by simpa using he1
       have F := hi_ (show PrS cap cl (xs.map CR.f) zs Cv.none er1 from ⟨f1, er1, T1.out, .inl ⟨he1, rfl, rfl⟩⟩)
       clear he1
       have RB := hi_ E.out.rb; have BW := hi_ E.out.bw
       obtain ⟨⟨r0, r1, r2⟩, ⟨y0, y1, y2⟩, hlr⟩ := RB.out.c3
       go_wp2_with fail
       have rb := RB.out.store3 (.slice none 0 0) (.int .i64 0) (.int .i64 0)
       exact bodyPost_ret (v := .tuple #[.agg #[.slice none 0 0, .int .i64 0, .int .i64 0], .int .i64 er1]) (by simp [results, Tryz.results178, go_sem, rb.cell]) rfl (retS_none F.out (bst3 BW.out (Nat.le_refl _) _ _ _))
      case pos =>
      subst he1
      have FO := hi_ (tot_fin cvZ_fin (fun f hf => by
       obtain ⟨x, hx, rfl⟩ := List.mem_map.1 (List.mem_of_mem_take hf)
       exact HFI.out x hx) T1.out).1
      obtain ⟨⟨o0, o1, o2⟩, ⟨p0, p1, p2⟩, hlo⟩ := BO.out.c3
      go_wp2_with fail
      refine (praise_any A1 m1 d1 f1.per f1.inc v f1.vals wb (by exact I1.out) (by omega)).mono ?_
      rintro e wf ⟨f2, er2, hS2, A2, m2, d2, rfl, hI2, hA2, hb⟩
      have T2 := hi_ hS2
      have hm2 : m2 ≤ 400 := by have h1 := raise_len hS2; have h2 : f2.vals.length = m2 := hI2.1; omega
      replace BO := hi_ (BO.out.below hb BO.out.lt)
      have hzf := BO.out.lt
      have hA2z := hi_ (show ∀ b off s, A2 = some ⟨b, off, s⟩ → b ≠ Zo from fun b off s e => by have := hA2 b off s e; omega)
      have I2 := hi_ (hI2.sto (Sto.three Zo wf (.slice A2 m2 d2) (.int .i64 f2.per) (.int .i64 f2.inc)) hA2z.out)
      replace E := hi_ (E.out.below hb)
      have B2 := hi_ (BO.out.store3 (.slice A2 m2 d2) (.int .i64 f2.per) (.int .i64 f2.inc))
      have ER := hi_ (E.out.rb.sto (Sto.three Zo wf (.slice A2 m2 d2) (.int .i64 f2.per) (.int .i64 f2.inc)) (by omega))
      have EB := hi_ (bst3 E.out.bw (show w.heap.size ≤ Zo by omega) (.slice A2 m2 d2) (.int .i64 f2.per) (.int .i64 f2.inc))
      clear hS2 hI2 hA2 hb o0 o1 o2 p0 p1 p2 hlo I1 E
      obtain ⟨⟨o0, o1, o2⟩, ⟨p0, p1, p2⟩, hlo⟩ := BO.out.c3
      go_upto_region 21 with fail
      clear BO o0 o1 o2 p0 p1 p2 hlo
      generalize hws : ((wf.setCell ⟨Zo, 0, none⟩ (.slice A2 m2 d2)).setCell ⟨Zo, 1, none⟩ (.int .i64 f2.per)).setCell ⟨Zo, 2, none⟩ (.int .i64 f2.inc) = ws at *
      clear hws
      by_cases he2 : er2 = 0
      case neg =>
       have c2 : (er2 != 0) = true := by simpa using he2
       have F := hi_ (show PrS cap cl (xs.map CR.f) zs Cv.none er2 from ⟨f1, 0, T1.out, .inr ⟨rfl, f2, er2, by rw [← HV.out]; exact T2.out, .inl ⟨he2, rfl, rfl⟩⟩⟩)
       clear he2
       obtain ⟨⟨r0, r1, r2⟩, ⟨y0, y1, y2⟩, hlr⟩ := ER.out.c3
       go_wp2_with fail
       have rb := ER.out.store3 (.slice none 0 0) (.int .i64 0) (.int .i64 0)
       exact bodyPost_ret (v := .tuple #[.agg #[.slice none 0 0, .int .i64 0, .int .i64 0], .int .i64 er2]) (by simp [results, Tryz.results178, go_sem, rb.cell]) rfl (retS_none F.out (bst3 EB.out (Nat.le_refl _) _ _ _))
      case pos =>
      subst he2
      have FR := hi_ (raiseS_fin FO.out hv1 (by omega) T2.out).1
      go_wp2_with fail
      refine (serve_any cap ws hc1 hc2).mono ?_
      rintro e wg ⟨A3, m3, d3, rfl, hI3, hA3, hb⟩
      have hm3 : m3 ≤ 1 := by have h1 : (lineCv cap).vals.length = m3 := hI3.1; rw [← h1]; exact Nat.le_refl 1
      have I3 := hi_ (hI3.alloc' (.cells #[.slice A3 m3 d3, .int .i64 (lineCv cap).per, .int .i64 (lineCv cap).inc] 26))
      have B3 := hi_ (Blk.new wg 26 #[.slice A3 m3 d3, .int .i64 (lineCv cap).per, .int .i64 (lineCv cap).inc])
      have hwg := (ER.out.below hb ER.out.lt).lt
      replace I2 := hi_ ((I2.out.ext hb).alloc' (.cells #[.slice A3 m3 d3, .int .i64 (lineCv cap).per, .int .i64 (lineCv cap).inc] 26))
      replace B2 := hi_ ((B2.out.below hb B2.out.lt).alloc (.cells #[.slice A3 m3 d3, .int .i64 (lineCv cap).per, .int .i64 (lineCv cap).inc] 26))
      replace ER := hi_ ((ER.out.below hb ER.out.lt).alloc (.cells #[.slice A3 m3 d3, .int .i64 (lineCv cap).per, .int .i64 (lineCv cap).inc] 26))
      replace EB := hi_ (bthen (bthen EB.out hb) (balloc wg (.cells #[.slice A3 m3 d3, .int .i64 (lineCv cap).per, .int .i64 (lineCv cap).inc] 26)))
      clear hI3 hA3 hb
      go_upto_region 24 with fail
      generalize hwe : wg.alloc (.cells #[.slice A3 m3 d3, .int .i64 (lineCv cap).per, .int .i64 (lineCv cap).inc] 26) = wi at *
      clear hwe
      generalize wg.heap.size = Zl at *
      obtain ⟨⟨o0, o1, o2⟩, -, hlo⟩ := B2.out.c3
      obtain ⟨⟨l0, l1, l2⟩, -, hll⟩ := B3.out.c3
      go_wp2_with fail
      refine (rest_any A3 A2 m3 m2 d3 d2 (lineCv cap).per (lineCv cap).inc f2.per f2.inc (lineCv cap).vals f2.vals wi (by exact I3.out) (by exact I2.out) (by omega) (by omega) (line_fin (c := cap) (by omega) (by omega)) FR.out).mono ?_
      rintro e wj ⟨f, er, hS, A5, m5, d5, rfl, hI5, hA5, hb⟩
      have F := hi_ (show PrS cap cl (xs.map CR.f) zs f er from ⟨f1, 0, T1.out, .inr ⟨rfl, f2, 0, by rw [← HV.out]; exact T2.out, .inr ⟨rfl, hS⟩⟩⟩)
      have hwi : w.heap.size < wi.heap.size := ER.out.lt
      replace ER := hi_ (ER.out.below hb ER.out.lt); replace EB := hi_ (bthen EB.out hb)
      have HI5 := hi_ hI5; have HA5 := hi_ hA5
      clear hS hI5 hA5 hb I2 B2 I3 B3 o0 o1 o2 hlo l0 l1 l2 hll
      obtain ⟨⟨r0, r1, r2⟩, ⟨y0, y1, y2⟩, hlr⟩ := ER.out.c3
      go_wp2_with fail
      have rb := ER.out.store3 (.slice A5 m5 d5) (.int .i64 f.per) (.int .i64 f.inc)
      exact bodyPost_ret (v := .tuple #[.agg #[.slice A5 m5 d5, .int .i64 f.per, .int .i64 f.inc], .int .i64 er]) (by simp [results, Tryz.results178, go_sem, rb.cell]) rfl (retS_store F.out HA5.out (Nat.le_refl _) (by omega) HI5.out EB.out)
end
section
open Go.RowKit
theorem draw_less {most : Nat} {zs ys : List Int} {p i : Int} (h : DrawC most ⟨zs, p, i⟩) (hf : nth zs (zs.length - 1) ≠ inf) (hl : ys.length = zs.length) (hy : ∀ j, j < zs.length → nth ys j = nth zs j - nth zs 0) : DrawC most ⟨ys, p, i⟩ ∧ Cv.Fin ⟨ys, p, i⟩ := by
 have ok := h.ok
 have hF : Cv.Fin ⟨zs, p, i⟩ := ⟨ok, hf⟩
 have hn1 : 1 ≤ zs.length := ok.n1
 have hpn : p ≤ zs.length := ok.pn
 have hp1 : 1 ≤ p := ok.p1
 have h0 : ∀ j, j < zs.length → 0 ≤ nth zs 0 ∧ nth zs 0 ≤ nth zs j ∧ nth zs j ≤ 400 := fun j hj => by
  have a := ok.le 0 j (Nat.zero_le _) hj
  have b := (ok.nn 0).1
  have c := (h.small j hj).elim (fun e => absurd e (hF.ne j hj).1) id
  exact ⟨b, a, c⟩
 have hbd : ∀ j, j < ys.length → 0 ≤ nth ys j ∧ nth ys j ≤ 400 := fun j hj => by
  have a := h0 j (by omega)
  rw [hy j (by omega)]
  omega
 have hlast : nth ys (ys.length - 1) ≠ inf := by
  have := hbd (ys.length - 1) (by omega)
  unfold inf; omega
 have hok : Cv.Ok ⟨ys, p, i⟩ := by
  refine ⟨by show 1 ≤ ys.length; omega, by show ys.length ≤ 400; rw [hl]; exact ok.n2, hp1, ok.p2, by show p ≤ (ys.length : Nat); omega, ok.i1, ok.i2, fun k hk => (okv_iff _).2 (.inr (by have := hbd k hk; show nth ys k ≤ _; omega)), (hbd 0 (by omega)).1, ?_, fun e => absurd e hlast, fun _ => ?_⟩
  ·intro k hk
   have hk' : k + 1 < ys.length := hk
   show nth ys k ≤ nth ys (k + 1)
   rw [hy k (by omega), hy (k + 1) (by omega)]
   have := ok.mono k (by show k + 1 < zs.length; omega)
   have this' : nth zs k ≤ nth zs (k + 1) := this
   omega
  ·show nth ys (ys.length - 1) ≤ nth ys (ys.length - p.toNat) + i
   rw [hl, hy _ (by omega), hy _ (by omega)]
   have := ok.wrap hf
   have this' : nth zs (zs.length - 1) ≤ nth zs (zs.length - p.toNat) + i := this
   omega
 have hat : ∀ t, Cv.at ⟨ys, p, i⟩ t = Cv.at ⟨zs, p, i⟩ t - nth zs 0 := fun t => by
  have hF2 : Cv.Fin ⟨ys, p, i⟩ := ⟨hok, hlast⟩
  refine Cv.FinL.unique (f := ⟨ys, p, i⟩) (h := fun t => Cv.at ⟨zs, p, i⟩ t - nth zs 0) hF2.toL (fun t ht => ?_) (fun t ht => ?_) t
  ·have ht' : t < ys.length := ht
   show nth ys t = Cv.at ⟨zs, p, i⟩ t - nth zs 0
   rw [hy t (by omega), Cv.at_lt (f := ⟨zs, p, i⟩) (by show t < zs.length; omega)]
  ·show Cv.at ⟨zs, p, i⟩ (t + p.toNat) - nth zs 0 = Cv.at ⟨zs, p, i⟩ t - nth zs 0 + i
   have ht' : ys.length - p.toNat ≤ t := ht
   have := hF.toL.step t (by show zs.length - p.toNat ≤ t; omega)
   have this' : Cv.at ⟨zs, p, i⟩ (t + p.toNat) = Cv.at ⟨zs, p, i⟩ t + i := this
   omega
 obtain ⟨s4, q4, b4, h41, h42, h43⟩ := h.p4
 exact ⟨⟨hok, by show ys.length ≤ _; rw [hl]; exact h.len, h.per, h.inc, fun k hk => .inr (hbd k hk).2, h.slope, ⟨s4, q4, b4, h41, h42, fun t ht => by rw [hat, hat, h43 t ht]; omega⟩⟩, hok, hlast⟩
theorem draw_zero {most : Nat} {x y : Int} (hm : 1 ≤ most) (hx0 : 0 ≤ x) (hx1 : x ≤ 4) (hy0 : 0 ≤ y) (hy1 : y ≤ 1) : DrawC most ⟨[0, 4, 4 + x], 1 + y, 8⟩ ∧ Cv.Fin ⟨[0, 4, 4 + x], 1 + y, 8⟩ := by
 have n0 : nth [0, 4, 4 + x] 0 = 0 := rfl
 have n1 : nth [0, 4, 4 + x] 1 = 4 := rfl
 have n2 : nth [0, 4, 4 + x] 2 = 4 + x := rfl
 have hk3 : ∀ k, k < 3 → 0 ≤ nth [0, 4, 4 + x] k ∧ nth [0, 4, 4 + x] k ≤ 8 := fun k hk => by
  have : k = 0 ∨ k = 1 ∨ k = 2 := by omega
  rcases this with rfl | rfl | rfl <;> omega
 have hlast : nth [0, 4, 4 + x] ([0, 4, 4 + x].length - 1) ≠ inf := by
  show nth [0, 4, 4 + x] 2 ≠ inf
  rw [n2]; unfold inf; omega
 have hok : Cv.Ok ⟨[0, 4, 4 + x], 1 + y, 8⟩ := by
  refine ⟨by show 1 ≤ 3; omega, by show 3 ≤ 400; omega, by show 1 ≤ 1 + y; omega, by show 1 + y ≤ 120; omega, by show 1 + y ≤ (3 : Nat); omega, by show (0 : Int) ≤ 8; omega, by show (8 : Int) ≤ _; omega, ?_, by show 0 ≤ nth [0, 4, 4 + x] 0; omega, ?_, fun e => absurd e hlast, fun _ => ?_⟩
  ·intro k hk
   have hk' : k < 3 := hk
   exact (okv_iff _).2 (.inr (by have := hk3 k hk'; show nth [0, 4, 4 + x] k ≤ _; omega))
  ·intro k hk
   have hk' : k + 1 < 3 := hk
   show nth [0, 4, 4 + x] k ≤ nth [0, 4, 4 + x] (k + 1)
   have : k = 0 ∨ k = 1 := by omega
   rcases this with rfl | rfl
   ·show nth [0, 4, 4 + x] 0 ≤ nth [0, 4, 4 + x] 1
    omega
   ·show nth [0, 4, 4 + x] 1 ≤ nth [0, 4, 4 + x] 2
    omega
  ·show nth [0, 4, 4 + x] 2 ≤ nth [0, 4, 4 + x] (3 - (1 + y).toNat) + 8
   have := (hk3 (3 - (1 + y).toNat) (by omega)).1
   have hy : y = 0 ∨ y = 1 := by omega
   rcases hy with rfl | rfl
   ·rw [show 3 - ((1 : Int) + 0).toNat = 2 from rfl]; omega
   ·rw [show 3 - ((1 : Int) + 1).toNat = 1 from rfl]; omega
 exact ⟨⟨hok, by show 3 ≤ most + 8; omega, by show 1 + y ≤ 8; omega, by show (8 : Int) ≤ 1000; omega, fun k hk => .inr (by have := hk3 k hk; show nth [0, 4, 4 + x] k ≤ 400; omega), by show (8 : Int) ≤ 9 * (1 + y); omega, ⟨_, (1 + y).toNat, 8, by omega, by omega, (show Cv.Fin ⟨[0, 4, 4 + x], 1 + y, 8⟩ from ⟨hok, hlast⟩).toL.step⟩⟩, hok, hlast⟩
theorem Thaw.kept {p : Nat} {w w' : World} {A : Option Addr} (h : Thaw w A) (hne : ∀ b off s, A = some ⟨b, off, s⟩ → b ≠ p) (k : Kept w.heap.size p w w') : Thaw w' A := fun b off s e => by
 obtain ⟨cs, hc⟩ := h b off s e
 exact ⟨cs, hc.kept (hne b off s e) k⟩
set_option maxHeartbeats 4000000 in
set_option maxRecDepth 100000 in
theorem srcZero4_any (p : Nat) (most : Int) (w : World) (hS : SrcAt w p) (hm1 : 1 ≤ most) (hm2 : most ≤ 12) :
 Calls Tryz.prog 8 #[.pointer (some ⟨p, 0, none⟩), .int .i64 most] w (RetD3 (fun f => (DrawC most.toNat f ∧ f.Fin) ∧ nth f.vals 0 = 0) p w) := by
 have hpl := hS.lt
 go_enter Tryz.func8, Tryz.ntmps8
 go_wp2_with fail
 refine (srcCurve4_any p most _ (hS.alloc _) hm1 hm2).mono ?_
 rintro e w1 ⟨f, A, n, c, hD, hnc0, rfl, hI, hA, hS1, hk, hth⟩
 as_aux_lemma =>
 have TH := hi_ (hth.alloc (.cells #[.slice A n c, .int .i64 f.per, .int .i64 f.inc] 26))
 clear hth
 have rb := (Blk.new w 26 #[.slice none 0 0, .int .i64 0, .int .i64 0]).kept (by omega) hk
 have RB := hi_ (rb.alloc (.cells #[.slice A n c, .int .i64 f.per, .int .i64 f.inc] 26))
 have FB := hi_ (Blk.new w1 26 #[.slice A n c, .int .i64 f.per, .int .i64 f.inc])
 have SS := hi_ (hS1.alloc (.cells #[.slice A n c, .int .i64 f.per, .int .i64 f.inc] 26))
 have KK := hi_ (kall (kstep (kall (Kept.refl w.heap.size p w) _) hk) (.cells #[.slice A n c, .int .i64 f.per, .int .i64 f.inc] 26))
 have IA := hi_ (hI.alloc' (.cells #[.slice A n c, .int .i64 f.per, .int .i64 f.inc] 26))
 have hF1 : w.heap.size + 1 ≤ w1.heap.size := by have := hk.size; simpa using this
 have HA := hi_ (show ∀ b off s, A = some ⟨b, off, s⟩ → w.heap.size + 1 ≤ b ∧ b ≠ w1.heap.size from fun b off s e => by
  have h1 := hA b off s e
  have h0 : 0 < n := by have h2 := hD.ok.n1; rw [hI.1] at h2; exact h2
  obtain ⟨b', off', e', hb, _⟩ := hI.2 h0
  rw [e] at e'; cases e'
  simp at h1
  omega)
 have HD := hi_ hD
 have HNC := hi_ hnc0
 clear rb hk hS1 hI hA hD hS hnc0
 have f0 := FB.out.cell 0; have f1 := FB.out.cell 1; have f2 := FB.out.cell 2
 simp at f0 f1 f2
 have hlf := FB.out.lt
 go_wp2_with fail
 clear f0 f1 f2 hlf
 go_loopg [] 1 (fun gg wx => ∃ (f : Cv) (A : Option Addr) (n c : Nat), Blk wx w1.heap.size 26 #[.slice A n c, .int .i64 f.per, .int .i64 f.inc] ∧ Ints wx wx.heap.size A n f.vals ∧
  (∀ b off s, A = some ⟨b, off, s⟩ → w.heap.size + 1 ≤ b ∧ b ≠ w1.heap.size) ∧ DrawC most.toNat f ∧ (gg = 0 → f.Fin) ∧ gg ≤ 1 ∧ n ≤ c ∧ Blk wx w.heap.size 26 #[.slice none 0 0, .int .i64 0, .int .i64 0] ∧ SrcAt wx p ∧ Kept w.heap.size p w wx ∧ Thaw wx A)
 case atStart => exact ⟨f, A, n, c, FB.out, IA.out, HA.out, HD.out, (fun h => by omega), Nat.le_refl _, HNC.out, RB.out, SS.out, KK.out, TH.out⟩
 case round =>
  as_aux_lemma =>
  clear FB IA HA HD RB SS KK HNC TH
  obtain ⟨f, A, n, c, fb, ia, ha, hd, hgf, hg1, hnc, rb, ss, kk, th⟩ := hrel
  have HNC := hi_ hnc
  have TH := hi_ th
  clear hnc th
  have FB := hi_ fb; have IA := hi_ ia; have HA := hi_ ha; have HD := hi_ hd; have HGF := hi_ hgf; have RB := hi_ rb; have SS := hi_ ss; have KK := hi_ kk
  clear fb ia ha hd hgf rb ss kk
  have f0 := FB.out.cell 0; have f1 := FB.out.cell 1; have f2 := FB.out.cell 2; have v0 := FB.out.frozen 0; have v1 := FB.out.frozen 1; have v2 := FB.out.frozen 2
  simp at f0 f1 f2
  have hlf := FB.out.lt
  have hnl : f.vals.length = n := IA.out.1
  have hn1 : 1 ≤ n := by rw [← hnl]; exact HD.out.ok.n1
  have hn2 : n ≤ 20 := by rw [← hnl]; have := HD.out.len; omega
  obtain ⟨b, off, hAe, hbl, hcell⟩ := IA.out.2 (by omega)
  subst hAe
  obtain ⟨m, rfl⟩ : ∃ m, n = m + 1 := ⟨n - 1, by omega⟩
  have hlast := hcell m (by omega)
  have hfirst := hcell 0 (by omega)
  rw [Nat.add_zero] at hfirst
  have HCELL := hi_ hcell; have HNL := hi_ hnl
  clear hcell hnl
  obtain ⟨x, hx⟩ : ∃ x, x = nth f.vals m := ⟨_, rfl⟩
  rw [← hx] at hlast
  by_cases hxi : x = 4611686018427387904
  ·have b1 : (x == 4611686018427387904) = true := by simpa using hxi
   have hg : gk = 1 := by
    rcases Nat.lt_or_ge 0 gk with h | h
    ·omega
    ·exfalso
     have h1 := (HGF.out (by omega)).2
     rw [HNL.out, Nat.add_sub_cancel, ← hx] at h1
     exact h1 hxi
   have hpw := SS.out.lt
   have hlf0 := FB.out.lt
   clear hx hxi hfirst
   go_wp2_with fail
   refine (n_any p 5 _ SS.out (by omega) (by omega)).mono ?_
   rintro e w2 ⟨z, hz0, hz1, rfl, hS2, hk2⟩
   have FB := hi_ (FB.out.kept (by omega) hk2); have RB := hi_ (RB.out.kept (by omega) hk2); have KK := hi_ (kstep KK.out hk2)
   have IL := hi_ (ints_lit w2 [0, 4, 4 + z])
   have TL := hi_ (show Thaw (w2.alloc (.cells ([0, 4, 4 + z].map (Value.int .i64)).toArray 3)) (some ⟨w2.heap.size, 0, none⟩) from fun b off s e => by cases e; exact ⟨_, Blk.new w2 _ _⟩)
   have SS := hi_ (hS2.alloc (.cells ([0, 4, 4 + z].map (Value.int .i64)).toArray 3))
   have sz2 := hk2.size
   clear f0 f1 f2 v0 v1 v2 hlf hS2 hk2 hlast
   go_wp2_with fail
   refine (n_any p 2 _ SS.out (by omega) (by omega)).mono ?_
   rintro e w3 ⟨y, hy0, hy1, rfl, hS3, hk3⟩
   have FB := hi_ ((FB.out.alloc _).kept (by omega) hk3); have RB := hi_ ((RB.out.alloc _).kept (by omega) hk3); have KK := hi_ (kstep (kall KK.out _) hk3)
   have IL := hi_ (IL.out.kept (fun b off s e => by cases e; omega) hk3)
   have TL := hi_ (TL.out.kept (fun b off s e => by cases e; omega) hk3)
   have hne : ∀ b off s, (some ⟨w2.heap.size, 0, none⟩ : Option Addr) = some ⟨b, off, s⟩ → b ≠ w1.heap.size := fun b off s e => by cases e; omega
   have hDZ := draw_zero (most := most.toNat) (x := z) (y := y) (by omega) hz0 (by omega) hy0 (by omega)
   have f0 := FB.out.cell 0; have f1 := FB.out.cell 1; have f2 := FB.out.cell 2; have v0 := FB.out.frozen 0; have v1 := FB.out.frozen 1; have v2 := FB.out.frozen 2
   simp at f0 f1 f2
   have hlf := FB.out.lt
   go_wp2_with fail
   go_roundg 0
   case measure => omega
   case rel => exact ⟨⟨[0, 4, 4 + z], 1 + y, 8⟩, some ⟨w2.heap.size, 0, none⟩, 3, 3, FB.out.store3 _ _ _, by
    have i3 := ((IL.out.setCell (p := ⟨w1.heap.size, 0, none⟩) hne (.slice (some ⟨w2.heap.size, 0, none⟩) 3 3)).setCell (p := ⟨w1.heap.size, 1, none⟩) hne (.int .i64 (1 + y))).setCell (p := ⟨w1.heap.size, 2, none⟩) hne (.int .i64 8)
    simpa using i3, (fun b off s e => by cases e; omega), hDZ.1, (fun _ => hDZ.2), by omega, Nat.le_refl _, ((RB.out.far (by show w.heap.size ≠ w1.heap.size; omega) _).far (by show w.heap.size ≠ w1.heap.size; omega) _).far (by show w.heap.size ≠ w1.heap.size; omega) _, hS3.far3 (by omega), KK.out.set3 (by omega), ((TL.out.set _ _ rfl).set _ _ rfl).set _ _ rfl⟩
  ·have b1 : (x == 4611686018427387904) = false := by simpa using hxi
   have hfin : f.Fin := ⟨HD.out.ok, by rw [HNL.out, Nat.add_sub_cancel, ← hx]; exact hxi⟩
   obtain ⟨v, hv⟩ : ∃ v, v = nth f.vals 0 := ⟨_, rfl⟩
   rw [← hv] at hfirst
   have HFIN := hi_ hfin; have HV := hi_ hv
   have r0 := RB.out.cell 0; have r1 := RB.out.cell 1; have r2 := RB.out.cell 2; have u0 := RB.out.frozen 0; have u1 := RB.out.frozen 1; have u2 := RB.out.frozen 2
   simp at r0 r1 r2
   have hlr := RB.out.lt
   clear hx hxi hfin hv
   by_cases hv0 : 0 < v
   ·have d0 : decide (0 < v) = true := by simpa using hv0
    have hlf0 := FB.out.lt
    clear hv0 r0 r1 r2 u0 u1 u2
    go_wp2_with (at_builtin; refine wpList_app rfl _ _ 22 rfl Tryz.underlying22 wr.heap.size (.slice (some ⟨wr.heap.size, 0, none⟩) 0 0) 0 [] rfl (Own.empty_ wr (Nat.le_refl _)) _ (some ⟨b, off, none⟩) (m + 1) c f.vals rfl (IA.out.alloc' _) (by omega) (by simp) ?_; intro v1 w4 own1 grow1 at1; simp only [Nat.zero_add, List.nil_append] at own1; have hb4 : Below wr.heap.size wr w4 := (balloc _ _).grown grow1 (by simp) (by simp [Value.ownBlock]); obtain ⟨g, c4, rfl, hg, hc4, hrow⟩ := own1.row (by omega); have FB := hi_ (FB.out.below hb4 FB.out.lt); have RB := hi_ (RB.out.below hb4 RB.out.lt); have SS := hi_ (SS.out.ext hb4); have KK := hi_ (kbel KK.out hb4); have ROW := hi_ hrow; have hgl := hrow.lt; clear own1 grow1 at1 hrow hb4 f0 f1 f2 v0 v1 v2 hlf hlast hfirst; have f0 := FB.out.cell 0; have f1 := FB.out.cell 1; have f2 := FB.out.cell 2; have z0 := FB.out.frozen 0; simp at f0 f1 f2; have hlf := FB.out.lt)
    have hgF : w1.heap.size ≠ g := by omega
    have FB := hi_ (FB.out.set_ 0 (.slice (some ⟨g, 0, none⟩) (m + 1) c4))
    have RB := hi_ (RB.out.far (p := ⟨w1.heap.size, 0, none⟩) (by show w.heap.size ≠ w1.heap.size; omega) (.slice (some ⟨g, 0, none⟩) (m + 1) c4))
    have SS := hi_ (SS.out.far (a := ⟨w1.heap.size, 0, none⟩) (by show p < w1.heap.size; omega) (.slice (some ⟨g, 0, none⟩) (m + 1) c4))
    have KK := hi_ (KK.out.setCell (a := ⟨w1.heap.size, 0, none⟩) (.inr (by show w.heap.size ≤ w1.heap.size; omega)) (.slice (some ⟨g, 0, none⟩) (m + 1) c4))
    have ROW := hi_ (ROW.out.far (p := ⟨w1.heap.size, 0, none⟩) (by show g ≠ w1.heap.size; omega) (.slice (some ⟨g, 0, none⟩) (m + 1) c4))
    clear f0 f1 f2 z0 hlf
    go_loopg [45] (m + 1) (fun gg s45 wx => ∃ (k : Nat) (ys : List Int), k + gg = m + 1 ∧ s45 = .int .i64 k ∧ RowI wx g ys ∧ Hid (ys.length = m + 1 ∧ ∀ j, j < m + 1 → nth ys j = if j < k then nth f.vals j - v else nth f.vals j) ∧
     Blk wx w1.heap.size 26 #[.slice (some ⟨g, 0, none⟩) (m + 1) c4, .int .i64 f.per, .int .i64 f.inc] ∧ Blk wx w.heap.size 26 #[.slice none 0 0, .int .i64 0, .int .i64 0] ∧ SrcAt wx p ∧ Kept w.heap.size p w wx)
    case atStart => exact ⟨0, f.vals, by omega, rfl, ROW.out, ⟨HNL.out, fun j hj => by rw [if_neg (by omega)]⟩, FB.out, RB.out, SS.out, KK.out⟩
    case round =>
     as_aux_lemma =>
     clear ROW FB RB SS KK IA HA HCELL
     obtain ⟨k, ys, hkg, rfl, row, hys, fb, rb, ss, kk⟩ := hrel
     have ROW := hi_ row; have FB := hi_ fb; have RB := hi_ rb; have SS := hi_ ss; have KK := hi_ kk; have HYS := hi_ hys
     clear row fb rb ss kk hys
     have f0 := FB.out.cell 0; have f1 := FB.out.cell 1; have f2 := FB.out.cell 2
     simp at f0 f1 f2
     have hlf := FB.out.lt
     by_cases hk : k < m + 1
     ·have hki : (k : Int) < (m : Int) + 1 := by omega
      have hck := ROW.out.cell k (by have := HYS.out.out.1; omega)
      have hzk := ROW.out.frozen k
      obtain ⟨y, hy⟩ : ∃ y, y = nth ys k := ⟨_, rfl⟩
      have hyf : y = nth f.vals k := by rw [hy, HYS.out.out.2 k hk, if_neg (by omega)]
      have hyb := HD.out.ok.nn k
      have hvb := HD.out.ok.nn 0
      rw [← hyf] at hyb
      rw [← HV.out] at hvb
      rw [← hy] at hck
      have HY := hi_ hyf
      have hgl2 := ROW.out.lt
      clear hy hyf
      go_wp2_with fail
      go_roundg (gk - 1)
      case measure => omega
      case rel => exact ⟨k + 1, ys.set k (y - v), by omega, by go_num, ROW.out.set_ k (by have := HYS.out.out.1; omega) _, ⟨by rw [List.length_set]; exact HYS.out.out.1, fun j hj => by
       rw [nth_set _ _ _ _ (by have := HYS.out.out.1; omega)]
       by_cases e : j = k
       ·rw [if_pos e, if_pos (by omega), HY.out, e]
       ·rw [if_neg e, HYS.out.out.2 j hj]
        by_cases e2 : j < k
        ·rw [if_pos e2, if_pos (by omega)]
        ·rw [if_neg e2, if_neg (by omega)]⟩, FB.out.far (by show w1.heap.size ≠ g; omega) _, RB.out.far (by show w.heap.size ≠ g; omega) _, SS.out.far (by show p < g; omega) _, KK.out.setCell (.inr (by show w.heap.size ≤ g; omega)) _⟩
     ·have hkm : k = m + 1 := by omega
      clear hk hkg
      subst hkm
      have hdl := draw_less (most := most.toNat) (zs := f.vals) (ys := ys) (p := f.per) (i := f.inc) HD.out HFIN.out.2 (by rw [HYS.out.out.1, HNL.out]) (fun j hj => by rw [HNL.out] at hj; rw [HYS.out.out.2 j hj, if_pos hj, HV.out])
      have hyl := HYS.out.out.1
      have IY := hi_ ROW.out.ints
      rw [hyl] at IY
      have r0 := RB.out.cell 0; have r1 := RB.out.cell 1; have r2 := RB.out.cell 2; have u0 := RB.out.frozen 0; have u1 := RB.out.frozen 1; have u2 := RB.out.frozen 2
      simp at r0 r1 r2
      have hlr := RB.out.lt
      have hne2 : ∀ b' off' s, (some ⟨g, 0, none⟩ : Option Addr) = some ⟨b', off', s⟩ → b' ≠ w.heap.size := fun b' off' s e => by cases e; omega
      have HDL := hi_ (show (DrawC most.toNat ⟨ys, f.per, f.inc⟩ ∧ Cv.Fin ⟨ys, f.per, f.inc⟩) ∧ nth ys 0 = 0 from ⟨hdl, by rw [HYS.out.out.2 0 (by omega), if_pos (by omega), HV.out]; omega⟩)
      clear hdl
      go_wp2_with fail
      have rb := RB.out.store3 (.slice (some ⟨g, 0, none⟩) (m + 1) c4) (.int .i64 f.per) (.int .i64 f.inc)
      refine bodyPost_ret (v := .agg #[.slice (some ⟨g, 0, none⟩) (m + 1) c4, .int .i64 f.per, .int .i64 f.inc]) (by simp [results, Tryz.results8, go_sem, rb.cell]) rfl
       ⟨⟨ys, f.per, f.inc⟩, _, m + 1, c4, HDL.out, hc4, rfl, ?_, (fun b' off' s e => by cases e; omega), SS.out.far3 hpl, KK.out.set3 (Nat.le_refl _), (((show Thaw _ (some ⟨g, 0, none⟩) from fun b' off' s e => by cases e; exact ⟨_, ROW.out.choose_spec.1⟩).set _ _ rfl).set _ _ rfl).set _ _ rfl⟩
      have i3 := ((IY.out.setCell (p := ⟨w.heap.size, 0, none⟩) hne2 (.slice (some ⟨g, 0, none⟩) (m + 1) c4)).setCell (p := ⟨w.heap.size, 1, none⟩) hne2 (.int .i64 f.per)).setCell (p := ⟨w.heap.size, 2, none⟩) hne2 (.int .i64 f.inc)
      simpa using i3
   ·have d0 : decide (0 < v) = false := by simpa using hv0
    have HV0 := hi_ (show nth f.vals 0 = 0 from by have := (HD.out.ok.nn 0).1; rw [← HV.out] at this ⊢; omega)
    have hne2 : ∀ b' off' s, (some ⟨b, off, none⟩ : Option Addr) = some ⟨b', off', s⟩ → b' ≠ w.heap.size := fun b' off' s e => by have := HA.out b' off' s e; omega
    clear hv0
    go_wp2_with fail
    have rb := RB.out.store3 (.slice (some ⟨b, off, none⟩) (m + 1) c) (.int .i64 f.per) (.int .i64 f.inc)
    refine bodyPost_ret (v := .agg #[.slice (some ⟨b, off, none⟩) (m + 1) c, .int .i64 f.per, .int .i64 f.inc]) (by simp [results, Tryz.results8, go_sem, rb.cell]) rfl
     ⟨f, _, m + 1, c, ⟨⟨HD.out, HFIN.out⟩, HV0.out⟩, HNC.out, rfl, ?_, (fun b' off' s e => by have := HA.out b' off' s e; omega), SS.out.far3 hpl, KK.out.set3 (Nat.le_refl _), ((TH.out.set _ _ rfl).set _ _ rfl).set _ _ rfl⟩
    have i3 := ((IA.out.setCell (p := ⟨w.heap.size, 0, none⟩) hne2 (.slice (some ⟨b, off, none⟩) (m + 1) c)).setCell (p := ⟨w.heap.size, 1, none⟩) hne2 (.int .i64 f.per)).setCell (p := ⟨w.heap.size, 2, none⟩) hne2 (.int .i64 f.inc)
    simpa using i3
end
end Go.Proofs.YtaejfleahamapaaGreat
