/- The closures of two curves, in plain words: the examples of the chapter. -/
import Derived.Test.YthdibkmjoiipgaaClLaw
import Derived.Test.YthdibkmjoiipgaaClPv
import Derived.Test.YthdibkmjoiipgaaRefAt
import Derived.Test.YthdibkmjoiipgaaRefValid
import Derived.Test.YthdibkmjoiipgaaRefSame
import Derived.Test.YthdibkmjoiipgaaEnvL
import Derived.Test.YthdibkmjoiipgaaRefExc
namespace Go.Proofs.Ythdibkmjoiipgaa
set_option linter.unusedVariables false

theorem cert_ex {a h : Cv} (hfit : ∀ t, 1 ≤ t → t < clF a h + clL a h → ∃ s, s < t ∧ ClFit a h t s) {cs : List Int} (P : PvAtC a h cs) : ClAt a h (clF a h : Nat) cs := by
  refine ⟨rfl, P.1, ?_, fun t h1 h2 => ?_⟩
  · obtain ⟨u, e, h3, _⟩ := P.2 0 (by rw [P.1]; unfold clF; omega)
    rw [e, show u = 0 by omega]
    rfl
  · obtain ⟨u, e, h3, h4, h5⟩ := P.2 t h2
    obtain ⟨s, h6, h7⟩ := hfit t h1 (by rw [← P.1]; exact h2)
    have hu : u < t := by
      rcases Nat.lt_or_ge u t with k | k
      · exact k
      · exact absurd h7 (h5 s (by omega))
    rw [e]
    exact ⟨by omega, by rw [Int.toNat_natCast]; exact h4 hu⟩
/-- a curve that has all that a certificate wants is the closure -/
theorem cl_made {f a h : Cv} (hf : f.Ok) (ha : NF f.at a) (h60 : a.vals.length ≤ 60) (hh : h.Ok) (nh : NF h.at h) (h0 : nth h.vals 0 = 0) (hl : clL a h ≤ 120) (hle : LEC h a) (hB : AddB h)
    (hfit : ∀ t, 1 ≤ t → t < clF a h + clL a h → ∃ s, s < t ∧ ClFit a h t s) : ∃ cs, PvC f h (clF a h : Nat) cs 0 := by
  obtain ⟨cs, hp⟩ := pvAtC_exists a h
  have ck : CkC f h (clF a h : Nat) cs := ⟨hf, hh, nh, h0, a, ha, hl, cert_ex hfit hp, hle, hB⟩
  have e : a.at = f.at := funext ha.at
  exact ⟨cs, .inr ⟨hf, a, ha, .inr ⟨h60, h, 0, .inl ⟨rfl, hh, nh, fun t ht => by rw [e]; exact ck_clo ck t (by omega)⟩, .inr ⟨rfl, cs, hp, .inl ⟨ck, rfl, rfl, rfl, rfl⟩⟩⟩⟩⟩
theorem nf_gen {h : Cv} (F : h.Fin) (hq : ∀ (q s : Nat) (b : Int), 1 ≤ q → q < h.per.toNat → ¬ Per h.at s q b) (hs : h.vals.length = h.per.toNat ∨ h.at (h.vals.length - h.per.toNat - 1) + h.inc ≠ h.at (h.vals.length - 1)) : NF h.at h :=
  .inl ⟨F.1.p1, F.1.pn, fun t ht => (Cv.at_lt ht).symm, F.toL.step, fun q s b h1 h2 => by
    rcases Nat.lt_or_ge q h.per.toNat with k | k
    · exact absurd h2 (hq q s b h1 k)
    · exact k, hs, fun t ht => by rw [Cv.at_lt ht]; exact (F.ne t ht).1⟩
theorem per_cross {u : Nat → Int} {s s' p q : Nat} {i b : Int} (h1 : Per u s p i) (h2 : Per u s' q b) : (q : Int) * i = (p : Int) * b := by
  have a := h1.mul q (max s s') (by omega)
  have c := h2.mul p (max s s') (by omega)
  rw [Nat.mul_comm] at c
  omega
theorem lec_by {h f : Cv} (H : h.Fin) (F : f.Fin) {s p : Nat} {i j : Int} (hp : 1 ≤ p) (h1 : Per h.at s p i) (h2 : Per f.at s p j) (hij : i ≤ j) (hb : ∀ n, n < s + p → h.at n ≤ f.at n) : LEC h f := fun n => by
  refine .inr ⟨H.not_infAt n, ?_⟩
  induction n using Nat.strongRecOn with
  | _ n ih =>
    by_cases e : n < s + p
    · exact hb n e
    · have a := h1 (n - p) (by omega); have b := h2 (n - p) (by omega); have c := ih (n - p) (by omega)
      rw [show n - p + p = n by omega] at a b
      omega
theorem up_by {zs : List Int} (h : ∀ k, k < zs.length - 1 → nth zs k ≤ nth zs (k + 1)) : ∀ k, k + 1 < zs.length → nth zs k ≤ nth zs (k + 1) := fun k hk => h k (by omega)
theorem add_by {h : Cv} (k : ∀ s, s < h.vals.length → ∀ u, u < h.vals.length → h.at (s + u) ≤ pl (h.at s) (h.at u)) : AddB h := fun s u hs hu => k s hs u hu
/-- the first example, and its closure -/
def af1 : Cv := ⟨[0, 4, 4], 1, 5⟩
def ah1 : Cv := ⟨[0, 4], 2, 4⟩
/-- the second one -/
def af2 : Cv := ⟨[0, 10, 12, 14], 1, 9⟩
def ah2 : Cv := ⟨[0, 10, 12, 14, 23], 3, 14⟩
/-- a line -/
def af3 : Cv := ⟨[0], 1, 3⟩
theorem af1_fin : af1.Fin := ⟨⟨by decide, by decide, by decide, by decide, by decide, by decide, by decide, by decide, by decide, up_by (by decide), fun h => absurd h (by decide), fun _ => by decide⟩, by decide⟩
theorem ah1_fin : ah1.Fin := ⟨⟨by decide, by decide, by decide, by decide, by decide, by decide, by decide, by decide, by decide, up_by (by decide), fun h => absurd h (by decide), fun _ => by decide⟩, by decide⟩
theorem af2_fin : af2.Fin := ⟨⟨by decide, by decide, by decide, by decide, by decide, by decide, by decide, by decide, by decide, up_by (by decide), fun h => absurd h (by decide), fun _ => by decide⟩, by decide⟩
theorem ah2_fin : ah2.Fin := ⟨⟨by decide, by decide, by decide, by decide, by decide, by decide, by decide, by decide, by decide, up_by (by decide), fun h => absurd h (by decide), fun _ => by decide⟩, by decide⟩
theorem af3_fin : af3.Fin := ⟨⟨by decide, by decide, by decide, by decide, by decide, by decide, by decide, by decide, by decide, up_by (by decide), fun h => absurd h (by decide), fun _ => by decide⟩, by decide⟩
theorem af1_nf : NF af1.at af1 := nf_gen af1_fin (fun q s b h1 h2 => by have h3 : q < 1 := h2; omega) (.inr (by decide))
theorem af2_nf : NF af2.at af2 := nf_gen af2_fin (fun q s b h1 h2 => by have h3 : q < 1 := h2; omega) (.inr (by decide))
theorem af3_nf : NF af3.at af3 := nf_gen af3_fin (fun q s b h1 h2 => by have h3 : q < 1 := h2; omega) (.inl rfl)
theorem ah1_per : Per ah1.at 0 2 4 := ah1_fin.toL.step
theorem ah2_per : Per ah2.at 2 3 14 := ah2_fin.toL.step
theorem ah1_nf : NF ah1.at ah1 := nf_gen ah1_fin (fun q s b h1 h2 h => by
  have h3 : q < 2 := h2
  obtain rfl : q = 1 := by omega
  have a := per_cross ah1_per h
  have c := ah1_per.mul s 0 (by omega)
  have d := ah1_per.mul s 1 (by omega)
  have e := h (0 + s * 2) (by omega)
  rw [show 0 + s * 2 + 1 = 1 + s * 2 by omega, c, d] at e
  have z : ah1.at 0 = 0 := by decide
  have o : ah1.at 1 = 4 := by decide
  omega) (.inl rfl)
theorem ah2_nf : NF ah2.at ah2 := nf_gen ah2_fin (fun q s b h1 h2 h => by
  have h3 : q < 3 := h2
  have a := per_cross ah2_per h
  have : q = 1 ∨ q = 2 := by omega
  rcases this with rfl | rfl <;> omega) (.inr (by decide))
theorem ah1_cl : ∃ cs, PvC af1 ah1 (clF af1 ah1 : Nat) cs 0 := by
  have hl : clL af1 ah1 = 2 := by unfold clL; rw [if_pos ah1_fin]; rfl
  have hF : clF af1 ah1 = 5 := by unfold clF; rw [hl]; rfl
  refine cl_made af1_fin.1 af1_nf (by decide) ah1_fin.1 ah1_nf rfl (by omega) (lec_by (s := 2) ah1_fin af1_fin (by omega) (ah1_per.mono (by omega)) (af1_fin.toL.step.mul 2) (by decide) (by decide)) (add_by (by decide)) fun t h1 h2 => ?_
  rw [hl, hF] at h2
  have : t = 1 ∨ t = 2 ∨ t = 3 ∨ t = 4 ∨ t = 5 ∨ t = 6 := by omega
  rcases this with rfl | rfl | rfl | rfl | rfl | rfl
  · exact ⟨0, by omega, .inl ⟨rfl, by decide, .inl (by omega)⟩⟩
  · exact ⟨0, by omega, .inl ⟨rfl, by decide, .inl (by omega)⟩⟩
  · exact ⟨1, by omega, .inr ⟨by omega, by omega, by decide, .inl (by omega)⟩⟩
  · exact ⟨2, by omega, .inr ⟨by omega, by omega, by decide, .inl (by omega)⟩⟩
  · exact ⟨1, by omega, .inr ⟨by omega, by omega, by decide, .inr (by decide)⟩⟩
  · exact ⟨2, by omega, .inr ⟨by omega, by omega, by decide, .inr (by decide)⟩⟩
theorem ah2_cl : ∃ cs, PvC af2 ah2 (clF af2 ah2 : Nat) cs 0 := by
  have hl : clL af2 ah2 = 3 := by unfold clL; rw [if_pos ah2_fin]; rfl
  have hF : clF af2 ah2 = 8 := by unfold clF; rw [hl]; rfl
  refine cl_made af2_fin.1 af2_nf (by decide) ah2_fin.1 ah2_nf rfl (by omega) (lec_by (s := 3) ah2_fin af2_fin (by omega) (ah2_per.mono (by omega)) (af2_fin.toL.step.mul 3) (by decide) (by decide)) (add_by (by decide)) fun t h1 h2 => ?_
  rw [hl, hF] at h2
  have : t = 1 ∨ t = 2 ∨ t = 3 ∨ t = 4 ∨ t = 5 ∨ t = 6 ∨ t = 7 ∨ t = 8 ∨ t = 9 ∨ t = 10 := by omega
  rcases this with rfl | rfl | rfl | rfl | rfl | rfl | rfl | rfl | rfl | rfl
  · exact ⟨0, by omega, .inl ⟨rfl, by decide, .inl (by omega)⟩⟩
  · exact ⟨0, by omega, .inl ⟨rfl, by decide, .inl (by omega)⟩⟩
  · exact ⟨0, by omega, .inl ⟨rfl, by decide, .inl (by omega)⟩⟩
  · exact ⟨0, by omega, .inl ⟨rfl, by decide, .inl (by omega)⟩⟩
  · exact ⟨2, by omega, .inr ⟨by omega, by omega, by decide, .inl (by omega)⟩⟩
  · exact ⟨3, by omega, .inr ⟨by omega, by omega, by decide, .inl (by omega)⟩⟩
  · exact ⟨3, by omega, .inr ⟨by omega, by omega, by decide, .inl (by omega)⟩⟩
  · exact ⟨3, by omega, .inr ⟨by omega, by omega, by decide, .inr (by decide)⟩⟩
  · exact ⟨3, by omega, .inr ⟨by omega, by omega, by decide, .inr (by decide)⟩⟩
  · exact ⟨3, by omega, .inr ⟨by omega, by omega, by decide, .inr (by decide)⟩⟩
theorem af3_add : AddB af3 := add_by (by decide)
end Go.Proofs.Ythdibkmjoiipgaa
namespace Go.Proofs.Ythdibkmjoiipgaa
open Go.RowKit
set_option linter.unusedVariables false
theorem ah1_v2 : ah1.at 2 = 4 := by decide
theorem ah1_v3 : ah1.at 3 = 8 := by decide
theorem ah1_v5 : ah1.at 5 = 12 := by decide
theorem ah2_v9 : ah2.at 9 = 42 := by decide
theorem ah2_value : ah2.value 9 = (42, 0) := by
  unfold Cv.value
  rw [if_pos (Cv.okB_true ah2_fin.1), if_neg (by omega)]
  exact Prod.ext ah2_v9 rfl
set_option maxHeartbeats 2000000 in
set_option maxRecDepth 100000 in
theorem awake9_any (w : World) : Calls Try.prog 33 #[] w fun e w' => e = .returned (.bool true) ∧ Below w.heap.size w w' := by
  have I1 := Lib.hid (ints_litC w [0, 4, 4])
  have BW := Lib.hid (balloc w (.cells ([0, 4, 4].map (Value.int .i64)).toArray 3))
  go_enter Try.func33, Try.ntmps33
  go_wp2_with fail
  refine (clof_any (some ⟨w.heap.size, 0, none⟩) 3 3 af1 _ (show Ints _ _ _ 3 [0, 4, 4] from by have := I1.out; simpa using this) (by omega)).mono ?_
  rintro e w2 ⟨r, er, hS, A5, n5, c5, hc5, rfl, hI5, hA5, hb⟩
  obtain ⟨rfl, rfl⟩ := ClS.unique hS (by obtain ⟨cs, hcs⟩ := ah1_cl; exact ⟨_, cs, hcs⟩)
  have hn5 : n5 = 2 := hI5.1.symm
  subst hn5
  replace BW := Lib.hid (bthen (bthen BW.out hb) (balloc _ (.cells #[.slice A5 2 c5, .int .i64 ah1.per, .int .i64 ah1.inc] 46)))
  have VH := Lib.hid (Vr.new (c := c5) hI5)
  clear I1 hS hc5 hI5 hA5 hb
  go_upto_region 2 with fail
  generalize hwe : w2.alloc (.cells #[.slice A5 2 c5, .int .i64 ah1.per, .int .i64 ah1.inc] 46) = w3 at *
  clear hwe
  generalize w2.heap.size = ZH at *
  have I1 := Lib.hid (ints_litC w3 [0, 10, 12, 14])
  have hbq := balloc w3 (.cells ([0, 10, 12, 14].map (Value.int .i64)).toArray 3)
  go_wp2_with fail
  refine (clprv_any (some ⟨w3.heap.size, 0, none⟩) 4 4 af2 _ (show Ints _ _ _ 4 [0, 10, 12, 14] from by have := I1.out; simpa using this) (by omega)).mono ?_
  rintro e w4 ⟨r, fr, cs, er, hS, A6, n6, c6, B6, m6, d6, hc6, hd6, rfl, hI6, hJ6, hA6, hB6, hb⟩
  obtain ⟨rfl, rfl, _, rfl⟩ := PvC.unique hS (by exact Classical.choose_spec ah2_cl)
  have hn6 : n6 = 5 := hI6.1.symm
  subst hn6
  have hb := bthen (bthen hbq hb) (balloc _ (.cells #[.slice A6 5 c6, .int .i64 ah2.per, .int .i64 ah2.inc, .int .i64 (clF af2 ah2 : Nat), .slice B6 m6 d6] 63))
  replace VH := Lib.hid (VH.out.below hb); replace BW := Lib.hid (bthen BW.out hb)
  have ZB := Lib.hid (Blk.new w4 63 #[.slice A6 5 c6, .int .i64 ah2.per, .int .i64 ah2.inc, .int .i64 (clF af2 ah2 : Nat), .slice B6 m6 d6])
  have I6 := Lib.hid (hI6.alloc' (.cells #[.slice A6 5 c6, .int .i64 ah2.per, .int .i64 ah2.inc, .int .i64 (clF af2 ah2 : Nat), .slice B6 m6 d6] 63))
  clear I1 hbq hS hc6 hd6 hI6 hJ6 hA6 hB6 hb
  go_upto_region 3 with fail
  generalize hwe : w4.alloc (.cells #[.slice A6 5 c6, .int .i64 ah2.per, .int .i64 ah2.inc, .int .i64 (clF af2 ah2 : Nat), .slice B6 m6 d6] 63) = w5 at *
  clear hwe
  generalize w4.heap.size = ZP at *
  obtain ⟨⟨p0, p1, p2, p3, p4⟩, _, hlp⟩ := ZB.out.q5
  go_wp2_with fail
  refine (value_any A6 5 c6 ah2.per ah2.inc 9 ah2.vals _ (by exact I6.out) (by omega)).mono ?_
  rw [show Cv.value ⟨ah2.vals, ah2.per, ah2.inc⟩ 9 = (42, 0) from ah2_value]
  rintro e w6 ⟨rfl, hb⟩
  replace VH := Lib.hid (VH.out.below hb); replace BW := Lib.hid (bthen BW.out hb)
  clear hb p0 p1 p2 p3 p4 hlp ZB I6
  have I1 := Lib.hid (ints_litC w6 [0])
  have hbq := balloc w6 (.cells ([0].map (Value.int .i64)).toArray 3)
  go_wp2_with fail
  refine (subaddF_any (some ⟨w6.heap.size, 0, none⟩) 1 1 1 3 [0] _ (by have := I1.out; simpa using this) (by omega)).mono ?_
  rintro e w7 ⟨bs, er, hS, rfl, hb⟩
  obtain ⟨rfl, rfl⟩ := SaS.unique hS (show SaS ⟨[0], 1, 3⟩ true 0 from .inr ⟨af3_fin.1, ⟨af3, af3_nf, ⟨fun _ => af3_add, fun _ => rfl⟩⟩, rfl⟩)
  have hb := bthen hbq hb
  replace VH := Lib.hid (VH.out.below hb); replace BW := Lib.hid (bthen BW.out hb)
  clear I1 hbq hS hb
  obtain ⟨⟨h0, h1, h2⟩, hlh⟩ := VH.out.c
  go_wp2_with fail
  refine (refValid_any A5 2 c5 2 4 [0, 4] _ (by exact VH.out.ints) (by omega)).mono ?_
  rw [show Cv.okB ⟨[0, 4], 2, 4⟩ = true from Cv.okB_true ah1_fin.1]
  rintro e w8 ⟨rfl, hb⟩
  replace VH := Lib.hid (VH.out.below hb); replace BW := Lib.hid (bthen BW.out hb)
  clear hb
  clear h0 h1 h2 hlh
  obtain ⟨⟨h0, h1, h2⟩, hlh⟩ := VH.out.c
  go_wp2_with fail
  refine (refAt_any A5 2 c5 2 4 2 [0, 4] _ (by exact VH.out.ints) (by omega) (by omega) (by omega) (by omega) (by omega) (by exact ah1_fin.1.nn) (by omega) (by omega)).mono ?_
  rw [show Cv.at ⟨[0, 4], 2, 4⟩ (2 : Int).toNat = 4 from ah1_v2]
  rintro e w9 ⟨rfl, hb⟩
  replace VH := Lib.hid (VH.out.below hb); replace BW := Lib.hid (bthen BW.out hb)
  clear hb
  clear h0 h1 h2 hlh
  obtain ⟨⟨h0, h1, h2⟩, hlh⟩ := VH.out.c
  go_wp2_with fail
  refine (refAt_any A5 2 c5 2 4 3 [0, 4] _ (by exact VH.out.ints) (by omega) (by omega) (by omega) (by omega) (by omega) (by exact ah1_fin.1.nn) (by omega) (by omega)).mono ?_
  rw [show Cv.at ⟨[0, 4], 2, 4⟩ (3 : Int).toNat = 8 from ah1_v3]
  rintro e wa ⟨rfl, hb⟩
  replace VH := Lib.hid (VH.out.below hb); replace BW := Lib.hid (bthen BW.out hb)
  clear hb
  clear h0 h1 h2 hlh
  obtain ⟨⟨h0, h1, h2⟩, hlh⟩ := VH.out.c
  go_wp2_with fail
  refine (refAt_any A5 2 c5 2 4 5 [0, 4] _ (by exact VH.out.ints) (by omega) (by omega) (by omega) (by omega) (by omega) (by exact ah1_fin.1.nn) (by omega) (by omega)).mono ?_
  rw [show Cv.at ⟨[0, 4], 2, 4⟩ (5 : Int).toNat = 12 from ah1_v5]
  rintro e wb ⟨rfl, hb⟩
  replace VH := Lib.hid (VH.out.below hb); replace BW := Lib.hid (bthen BW.out hb)
  clear hb
  clear h0 h1 h2 hlh
  obtain ⟨⟨h0, h1, h2⟩, hlh⟩ := VH.out.c
  clear h0 h1 h2 hlh
  have bw := BW.out
  go_wp2_with fail
  go_ret
  exact ⟨rfl, bw⟩
end Go.Proofs.Ythdibkmjoiipgaa
namespace Go.Proofs.Ythdibkmjoiipgaa
set_option linter.unusedVariables false

theorem atm_true {f g : Cv} {b : Bool} (hf : f.Ok) (hg : g.Ok) (h : LEC f g) (H : AtM f g b) : b = true := by
  rcases H with ⟨_, _, k⟩ | ⟨k, _⟩
  · exact k.2 fun n => h.up n
  · exact absurd ⟨hf, hg⟩ k
/-- what Of returns of a valid curve -/
theorem cl_er {f r : Cv} {er : Int} (hf : f.Ok) (H : ClS f r er) : (er = 0 ∧ ∃ fr cs, CkC f r fr cs) ∨ (er = 3 ∧ r = Cv.none) := by
  obtain ⟨fr, cs, H⟩ := H
  rcases pv_er hf H with rfl | h
  · exact .inl ⟨rfl, fr, cs, pv_ck H⟩
  · exact .inr h
/-- whatever it returns is short -/
theorem cl_len {f r : Cv} {er : Int} (H : ClS f r er) : r.vals.length ≤ 400 := by
  obtain ⟨fr, cs, H⟩ := H
  rcases H with ⟨_, rfl, _⟩ | ⟨_, a, ha, ⟨_, rfl, _⟩ | ⟨_, g, e0, hc, ⟨_, rfl, _⟩ | ⟨_, cs0, hp, ⟨h1, rfl, _⟩ | ⟨_, rfl, _⟩⟩⟩⟩
  · exact Nat.zero_le _
  · exact Nat.zero_le _
  · exact Nat.zero_le _
  · exact h1.2.1.n2
  · exact Nat.zero_le _
end Go.Proofs.Ythdibkmjoiipgaa
