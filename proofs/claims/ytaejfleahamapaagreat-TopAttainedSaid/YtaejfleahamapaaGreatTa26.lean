/- server.Run of a line with priorities. -/
import Derived.Test.YtaejfleahamapaaGreatTa13
import Derived.Test.YtaejfleahamapaaGreatTa15
import Derived.Test.YtaejfleahamapaaGreatTa24
import Derived.Test.YtaejfleahamapaaGreatTa16
import Derived.Test.YtaejfleahamapaaGreatTa25
import Derived.Test.YtaejfleahamapaaGreatTa1
namespace Go.Proofs.YtaejfleahamapaaGreat
set_option linter.unusedVariables false
set_option linter.unusedSimpArgs false
section
def alpha15 (t : Nat) : Int := if t = 0 then 0 else 30
theorem valid15 : Valid ps15 := by
 refine ⟨by decide, fun x hx => ?_, fun k j x y h hx hy => ?_⟩
 ·simp [ps15] at hx
  rw [hx]
  unfold PK.Good
  decide
 ·have h1 := List.mem_of_getElem? hx; have h2 := List.mem_of_getElem? hy
  simp [ps15] at h1 h2
  rw [h1, h2]
  exact Int.le_refl _
theorem least15 {zs : List Int} (h : LeastV 0 ps15 zs) (t : Nat) : nth zs (min t (endN ps15)) = alpha15 t := by
 have eN : endN ps15 = 1 := by decide
 have a0 : aV 0 ps15 0 = 0 := by decide
 have a1 : aV 0 ps15 1 = 30 := by decide
 have ht : ∀ x ∈ ps15, x.tm = 0 := by intro x hx; simp [ps15] at hx; rw [hx]
 rw [eN]
 unfold alpha15
 by_cases h0 : t = 0
 ·subst h0
  rw [if_pos rfl]
  rcases h.att 0 (by omega) with e | ⟨x, hx, u, h1, h2, h3, h4⟩
  ·exact e
  ·have e1 := ht x hx
   have : u = 0 := by omega
   subst this
   rw [show min 0 1 = 0 from rfl, h4, e1]
   omega
 ·rw [if_neg h0, show min t 1 = 1 by omega]
  have hc := h.covers ⟨0, 0, 15⟩ 1 (by simp [ps15]) (by show (0 : Int) ≤ 1; omega) (by rw [eN]; decide)
  have e2 : (1 - (0 : Int)).toNat = 1 := rfl
  simp only [a1, a0, e2] at hc
  rcases h.att 1 (by omega) with e | ⟨x, hx, u, h1, h2, h3, h4⟩
  ·omega
  ·have e1 := ht x hx
   rw [eN] at h2
   rw [e1] at h1 h4
   rcases (show u = 0 ∨ u = 1 by omega) with e | e <;> subst e
   ·rw [a0] at h4; omega
   ·rw [a1, a0] at h4; omega
theorem up15 : Up0 alpha15 := ⟨by decide, fun t => by unfold alpha15; split <;> split <;> omega⟩
theorem curve15 {f : Cv} {er : Int} (h : LfS 0 ps15 f er) : er = 0 ∧ f.Fin ∧ ∀ t, f.at t = alpha15 t := by
 obtain ⟨zs, h1, h2⟩ := h
 have m := (h2.congr (h' := alpha15) (fun t => least15 h1 t)).toL
 obtain ⟨e, _, n, fi⟩ := made_fin (s := 1) (p := 1) (i := 0) m up15 (by omega) (fun t ht => by unfold alpha15; rw [if_neg (by omega), if_neg (by omega)]; omega) (by omega) (by omega) (fun t ht => by unfold alpha15; split <;> omega) (by omega)
 exact ⟨e, fi, n.at⟩
theorem rest10 {o r : Cv} {er : Int} (ho : o.Ok) (hz : ∀ t, o.at t = 0) (h : RestS (lineCv 10) o r er) : er = 0 ∧ r.Fin ∧ ∀ t : Nat, r.at t = 10 * t := by
 obtain ⟨a, b, ha, hb, fa, fb, h⟩ := h
 have ea : a = lnC 10 := ha.unique (ln_nf (by omega) (by omega))
 have eb : b = ⟨[0], 1, 0⟩ := nf_zero hb (fun t => by rw [hb.at]; exact hz t)
 subst ea eb
 have hC : ordC (lnC 10) ⟨[0], 1, 0⟩ = 1 := by decide
 have hF : ordF (lnC 10) ⟨[0], 1, 0⟩ = 0 := by decide
 have hD : dif (lnC 10) ⟨[0], 1, 0⟩ = fun t : Nat => 10 * (t : Int) := funext fun t => by
  unfold dif
  rw [ln_at (by omega) (by omega), show (⟨[0], 1, 0⟩ : Cv).at t = 0 from zero_nf.at t]
  omega
 have hR : ∀ t : Nat, restV (lnC 10) ⟨[0], 1, 0⟩ t = 10 * t := fun t => by
  unfold restV
  rw [hD]
  refine Int.le_antisymm (rmx_le (by omega) (fun j hj => by omega)) ?_
  exact rmx_val (fun t : Nat => 10 * (t : Int)) 0 (show t < t + 1 by omega)
 have hnb : ¬ RstBad (lnC 10) ⟨[0], 1, 0⟩ := by
  rintro ⟨_, h2⟩
  rw [hF] at h2
  have h3 := rmx_val (fun j => dif (lnC 10) ⟨[0], 1, 0⟩ (0 + j)) (-4611686018427387904) (show 0 < rstFrom (lnC 10) ⟨[0], 1, 0⟩ + 1 - 0 by omega)
  have h4 : tailV (lnC 10) ⟨[0], 1, 0⟩ (rstFrom (lnC 10) ⟨[0], 1, 0⟩ + 1 - 0) = rmx (fun j => dif (lnC 10) ⟨[0], 1, 0⟩ (0 + j)) (-4611686018427387904) (rstFrom (lnC 10) ⟨[0], 1, 0⟩ + 1 - 0) := by
   unfold tailV
   rw [hF]
  rw [h4] at h2
  have h5 : rmx (dif (lnC 10) ⟨[0], 1, 0⟩) 0 0 = 0 := rfl
  have h6 : dif (lnC 10) ⟨[0], 1, 0⟩ (0 + 0) = 0 := by rw [hD]; rfl
  rw [h6] at h3
  omega
 rcases h with ⟨h, _⟩ | ⟨_, ⟨h, _⟩ | ⟨_, h⟩⟩
 ·omega
 ·exact absurd h hnb
 ·have m := (h.congr (h' := fun t : Nat => 10 * (t : Int)) hR).toL
  obtain ⟨e, _, n, fi⟩ := made_fin (s := 0) (p := 1) (i := 10) m ⟨by decide, fun t => by omega⟩ (by omega) (fun t ht => by omega) (by omega) (by omega) (fun t ht => by omega) (by omega)
  exact ⟨e, fi, n.at⟩
theorem pr10 {f g : Cv} {er : Int} (h : PrS 10 0 [f] [⟨15, 15⟩] g er) : er = 0 ∧ g.Fin ∧ ∀ t : Nat, g.at t = 10 * t := by
 obtain ⟨o, e, h1, h⟩ := h
 obtain ⟨rfl, rfl⟩ : o = cvZ ∧ e = 0 := h1
 rcases h with ⟨h, _⟩ | ⟨_, o2, e2, h2, h⟩
 ·exact absurd rfl h
 have hb : blkV [⟨15, 15⟩] 0 = 0 := rfl
 rw [hb] at h2
 have zf := cvZ_fin
 have hv : ∀ t, raiseV cvZ 0 t = 0 := fun t => by
  rcases Nat.eq_zero_or_pos t with e | e
  ·subst e; exact raiseV_zero
  ·rw [raiseV_fin e (zf.not_infAt t), cvZ_at]; rfl
 obtain ⟨e3, ok, n, _⟩ := made_fin (s := 0) (p := 1) (i := 0) (RaiseS.made zf.1 (by omega) (by omega) h2) ⟨by rw [hv]; omega, fun t => by rw [hv, hv]; omega⟩ (by omega) (fun t ht => by rw [hv, hv]; rfl) (by omega) (by omega) (fun t ht => by rw [hv]; omega) (by omega)
 rcases h with ⟨h, _⟩ | ⟨_, h⟩
 ·exact absurd e3 h
 ·exact rest10 ok (fun t => by rw [n.at, hv]) h
theorem nf_per1 {h : Nat → Int} {a : Cv} {s : Nat} {i : Int} (ha : NF h a) (P : Per h s 1 i) (hn : ∀ t, t < s + 1 → h t ≠ inf) : a.per = 1 := by
 obtain ⟨g, hg, _, h2⟩ := nf_exists (by omega) P hn
 obtain rfl := ha.unique (.inl hg)
 have := hg.p1
 omega
theorem delay15 {f : Cv} {i : Bool} {v A er : Int} (hf : f.Fin) (hv : ∀ t, f.at t = alpha15 t) (h : MsS 10 0 [f] [⟨15, 15⟩] f i v A er) : er = 0 ∧ v = 2 := by
 obtain ⟨g, e, hp, h⟩ := h
 obtain ⟨rfl, gf, gv⟩ := pr10 hp
 rcases h with ⟨h, _⟩ | ⟨_, h⟩
 ·exact absurd rfl h
 rcases h with ⟨h, _⟩ | ⟨_, _, _, rfl, v', A', rfl, rfl, h⟩
 ·refine absurd ?_ (h.not hf.1 gf.1)
  obtain ⟨a, ha⟩ := hf.1.nf
  obtain ⟨b, hb⟩ := gf.1.nf
  have a1 : a.per = 1 := nf_per1 (s := 1) (i := 0) ha (fun t ht => by rw [hv, hv]; unfold alpha15; rw [if_neg (by omega), if_neg (by omega)]; omega) (fun t _ => by rw [hv]; unfold alpha15 inf; split <;> omega)
  have b1 : b.per = 1 := nf_per1 (s := 0) (i := 10) hb (fun t ht => by rw [gv, gv]; omega) (fun t ht => by rw [gv]; unfold inf; omega)
  refine ⟨a, b, ha, hb, ?_⟩
  rw [a1, b1]
  decide
 have le : ∀ t u, LeAt f g t u ↔ alpha15 t ≤ 10 * (u : Int) := fun t u => by
  unfold LeAt
  rw [hv, gv]
  constructor
  ·rintro (h | h)
   ·exact absurd h (gf.not_infAt u)
   ·exact h.2
  ·exact fun h => .inr ⟨hf.not_infAt t, h⟩
 have k : DelayS f g false 2 1 := by
  refine .inr ⟨rfl, fun t => ?_, fun h => by omega, fun u hu => ⟨fun h => ?_, fun t ht => ?_⟩⟩
  ·rw [le]; unfold alpha15; split <;> omega
  ·rw [le] at h
   obtain rfl : u = 1 := by omega
   exact absurd h (by decide)
  ·rw [le]
   obtain rfl : t = 0 := by omega
   show (0 : Int) ≤ _
   omega
 obtain ⟨_, rfl, _⟩ := h.unique gf.1 k
 exact ⟨rfl, rfl⟩
theorem pv10 {r : Cv} {fr : Int} {cs : List Int} {er : Int} (h : PvS (lineCv 10) (lineCv 10) r fr cs er) : er = 0 ∧ CkS (lineCv 10) (lineCv 10) r fr cs := by
 obtain ⟨rfl, rfl⟩ := CvS.unique h.1 (ln_cvs (r := 10) (q := 10) (by omega) (by omega) (by omega))
 exact ⟨rfl, pv_check h⟩
end
section
open Go.RowKit
-- ranks the kind, prrun_any cap cls A n c ps ticks the contract, RunOf cap cls ps ticks (PrC cls ps) () what holds
set_option maxHeartbeats 2000000 in
theorem ranksrun_any (k cap : Int) (cls : Nat) (AW AS : Option Addr) (nW cW nS cS : Nat) (A : Option Addr) (n c : Nat) (ps : List PK) (ticks : Nat) (w : World) (hT : LsT w A n c ps) (hv : Valid ps) (hfl : ∀ x ∈ ps, x.fl < cls) (hc1 : 1 ≤ cap) (hc2 : cap ≤ 4000) (hl1 : 1 ≤ cls) (hl2 : cls ≤ 6) (ht : ticks ≤ 2000) :
 Calls Tryz.prog 177 #[.agg #[], .agg #[.int .i64 k, .int .i64 cap, .int .i64 cls, .slice AW nW cW, .slice AS nS cS], .slice A n c, .int .i64 ticks] w (RetRn n cls ticks (RunOf cap cls ps ticks (PrC cls ps) ()) w) := by
 obtain ⟨P, hP⟩ : ∃ P, P = (RunOf cap cls ps ticks (PrC cls ps) ()) := ⟨_, rfl⟩
 rw [← hP]
 have b0 := balloc w (.cells #[] 163)
 have b1 := bthen b0 (balloc _ (.cells #[.int .i64 k, .int .i64 cap, .int .i64 cls, .slice AW nW cW, .slice AS nS cS] 44))
 have l1 := (Blk.new (w.alloc (.cells #[] 163)) 44 #[.int .i64 k, .int .i64 cap, .int .i64 cls, .slice AW nW cW, .slice AS nS cS]).alloc (.cells #[.slice none 0 0, .slice none 0 0] 62)
 have rb := Blk.new ((w.alloc (.cells #[] 163)).alloc (.cells #[.int .i64 k, .int .i64 cap, .int .i64 cls, .slice AW nW cW, .slice AS nS cS] 44)) 62 #[.slice none 0 0, .slice none 0 0]
 simp only [World.size_alloc] at rb l1
 have RB := hi_ rb; have L1 := hi_ l1
 have BW := hi_ (bthen b1 (balloc _ (.cells #[.slice none 0 0, .slice none 0 0] 62)))
 have HS := hi_ (show w.heap.size + 3 = (((w.alloc (.cells #[] 163)).alloc (.cells #[.int .i64 k, .int .i64 cap, .int .i64 cls, .slice AW nW cW, .slice AS nS cS] 44)).alloc (.cells #[.slice none 0 0, .slice none 0 0] 62)).heap.size by simp [World.size_alloc])
 have HT := hi_ (hT.below BW.out); have HV := hi_ hv; have HF := hi_ hfl
 have HP := hi_ hP
 clear b0 b1 rb l1 hT hv hfl hP
 go_enter Tryz.func177, Tryz.ntmps177
 go_upto_region 1 with fail
 generalize hwe : ((w.alloc (.cells #[] 163)).alloc (.cells #[.int .i64 k, .int .i64 cap, .int .i64 cls, .slice AW nW cW, .slice AS nS cS] 44)).alloc (.cells #[.slice none 0 0, .slice none 0 0] 62) = w1 at *
 clear hwe
 obtain ⟨f0, f1, f2, f3, f4⟩ : _ ∧ _ ∧ _ ∧ _ ∧ _ := ⟨L1.out.cell 0, L1.out.cell 1, L1.out.cell 2, L1.out.cell 3, L1.out.cell 4⟩
 simp at f0 f1 f2 f3 f4
 have hlf := L1.out.lt
 go_wp2_with fail
 refine (prrun_any cap cls A n c ps ticks w1 HT.out HV.out HF.out hc1 hc2 hl1 hl2 ht).mono ?_
 rw [← HP.out]
 rintro e w9 ⟨done, sent, gD, gS, gcs, hP, rfl, hd, hs, hh, hb⟩
 have F := hi_ hP; have D := hi_ hd; have SS := hi_ hs
 replace RB := hi_ (RB.out.below hb RB.out.lt); replace BW := hi_ (bthen BW.out hb)
 have HH := hi_ (show w.heap.size + 3 ≤ gD ∧ w.heap.size + 3 ≤ gS ∧ ∀ (c g : Nat), gcs[c]? = some g → w.heap.size + 3 ≤ g by rw [HS.out]; exact hh)
 have HSZ := hi_ (show w.heap.size + 3 ≤ w9.heap.size by have := hb.size; have := HS.out; omega)
 clear hP hd hs hh hb f0 f1 f2 f3 f4 hlf
 obtain ⟨⟨c0, c1⟩, ⟨z0, z1⟩, hl0⟩ : (_ ∧ _) ∧ (_ ∧ _) ∧ _ := ⟨⟨RB.out.cell 0, RB.out.cell 1⟩, ⟨RB.out.frozen 0, RB.out.frozen 1⟩, RB.out.lt⟩
 simp at c0 c1
 go_wp2_with fail
 have rb := (RB.out.set_ 0 (.slice (some ⟨gD, 0, none⟩) n n)).set_ 1 (.slice (some ⟨gS, 0, none⟩) cls cls)
 simp only [List.setIfInBounds_toArray, List.set_cons_zero, List.set_cons_succ] at rb
 have kk := (set_kx w9 (w.heap.size + 1 + 1) 0 (.slice (some ⟨gD, 0, none⟩) n n)).trans (set_kx _ (w.heap.size + 1 + 1) 1 (.slice (some ⟨gS, 0, none⟩) cls cls))
 obtain ⟨k1, k2, k3⟩ := HH.out
 have hR : RetRn n cls ticks P w (.returned (.tuple #[.agg #[.slice (some ⟨gD, 0, none⟩) n n, .slice (some ⟨gS, 0, none⟩) cls cls], .int .i64 0])) ((w9.setCell ⟨(w.heap.size + 1 + 1), 0, none⟩ (.slice (some ⟨gD, 0, none⟩) n n)).setCell ⟨(w.heap.size + 1 + 1), 1, none⟩ (.slice (some ⟨gS, 0, none⟩) cls cls)) :=
  ⟨done, sent, gD, gS, gcs, F.out, rfl, D.out.kx kk (by omega), SS.out.kx kk (by omega) (fun c g hg => by have := k3 c g hg; omega), ⟨by omega, by omega, fun c g hg => by have := k3 c g hg; omega⟩, below_kx BW.out kk (fun k hk => by omega) (by have := BW.out.size; omega)⟩
 exact bodyPost_ret (v := .tuple #[.agg #[.slice (some ⟨gD, 0, none⟩) n n, .slice (some ⟨gS, 0, none⟩) cls cls], .int .i64 0]) (by simp [results, Tryz.results177, go_sem, rb.cell]) rfl hR
-- ranks the kind, 2 its number, RunOf cap cls ps ticks (PrC cls ps) () what holds
set_option maxHeartbeats 2000000 in
set_option maxRecDepth 100000 in
theorem srun2_any (k cap : Int) (cls : Nat) (AW AS : Option Addr) (nW cW nS cS : Nat) (A : Option Addr) (n c : Nat) (ps : List PK) (ticks : Nat) (w : World) (hT : LsT w A n c ps) (hv : Valid ps) (hfl : ∀ x ∈ ps, x.fl < cls) (hc1 : 1 ≤ cap) (hc2 : cap ≤ 4000) (hl1 : 1 ≤ cls) (hl2 : cls ≤ 6) (ht : ticks ≤ 2000) (hk : k = 2) (hck : ChkOk w #[.int .i64 k, .int .i64 cap, .int .i64 cls, .slice AW nW cW, .slice AS nS cS]) :
 Calls Tryz.prog 22 #[.agg #[.int .i64 k, .int .i64 cap, .int .i64 cls, .slice AW nW cW, .slice AS nS cS], .slice A n c, .int .i64 ticks] w (RetRn n cls ticks (RunOf cap cls ps ticks (PrC cls ps) ()) w) := by
 obtain ⟨P, hP⟩ : ∃ P, P = (RunOf cap cls ps ticks (PrC cls ps) ()) := ⟨_, rfl⟩
 rw [← hP]
 subst hk
 have b1 := balloc w (.cells #[.int .i64 2, .int .i64 cap, .int .i64 cls, .slice AW nW cW, .slice AS nS cS] 44)
 have l1 := (Blk.new w 44 #[.int .i64 2, .int .i64 cap, .int .i64 cls, .slice AW nW cW, .slice AS nS cS]).alloc (.cells #[.slice none 0 0, .slice none 0 0] 62)
 have rb := Blk.new (w.alloc (.cells #[.int .i64 2, .int .i64 cap, .int .i64 cls, .slice AW nW cW, .slice AS nS cS] 44)) 62 #[.slice none 0 0, .slice none 0 0]
 simp only [World.size_alloc] at rb
 have RB := hi_ rb; have L1 := hi_ l1
 have BW := hi_ (bthen b1 (balloc _ (.cells #[.slice none 0 0, .slice none 0 0] 62)))
 have HS := hi_ (show w.heap.size + 2 = ((w.alloc (.cells #[.int .i64 2, .int .i64 cap, .int .i64 cls, .slice AW nW cW, .slice AS nS cS] 44)).alloc (.cells #[.slice none 0 0, .slice none 0 0] 62)).heap.size by simp [World.size_alloc])
 have HT := hi_ (hT.below BW.out); have HV := hi_ hv; have HF := hi_ hfl; have HCK := hi_ (hck.below BW.out)
 have HP := hi_ hP
 clear b1 rb l1 hT hv hfl hP hck
 go_enter Tryz.func22, Tryz.ntmps22
 go_upto_region 1 with fail
 generalize hwe : (w.alloc (.cells #[.int .i64 2, .int .i64 cap, .int .i64 cls, .slice AW nW cW, .slice AS nS cS] 44)).alloc (.cells #[.slice none 0 0, .slice none 0 0] 62) = w1 at *
 clear hwe
 obtain ⟨f0, f1, f2, f3, f4⟩ : _ ∧ _ ∧ _ ∧ _ ∧ _ := ⟨L1.out.cell 0, L1.out.cell 1, L1.out.cell 2, L1.out.cell 3, L1.out.cell 4⟩
 simp at f0 f1 f2 f3 f4
 have hlf := L1.out.lt
 go_wp2_with fail
 refine (HCK.out w1 (Below.refl _ _)).mono ?_
 rintro e w2 ⟨rfl, hb⟩
 replace L1 := hi_ (L1.out.below hb L1.out.lt); replace RB := hi_ (RB.out.below hb RB.out.lt); replace BW := hi_ (bthen BW.out hb); replace HT := hi_ (HT.out.below hb)
 replace HS := hi_ (show w.heap.size + 2 ≤ w2.heap.size by have := hb.size; have := HS.out; omega)
 clear hb f0 f1 f2 f3 f4 hlf HCK
 obtain ⟨f0, f1, f2, f3, f4⟩ : _ ∧ _ ∧ _ ∧ _ ∧ _ := ⟨L1.out.cell 0, L1.out.cell 1, L1.out.cell 2, L1.out.cell 3, L1.out.cell 4⟩
 simp at f0 f1 f2 f3 f4
 have hlf := L1.out.lt
 go_wp2_with fail
 refine (kind_any 2 (by omega) (by omega) _).mono ?_
 rintro e w3 ⟨rfl, hb⟩
 simp only [schedV]
 replace L1 := hi_ (L1.out.below hb L1.out.lt); replace RB := hi_ (RB.out.below hb RB.out.lt); replace BW := hi_ (bthen BW.out hb); replace HT := hi_ (HT.out.below hb)
 replace HS := hi_ (show w.heap.size + 2 ≤ w3.heap.size by have := hb.size; have := HS.out; omega)
 clear hb f0 f1 f2 f3 f4 hlf
 obtain ⟨f0, f1, f2, f3, f4⟩ : _ ∧ _ ∧ _ ∧ _ ∧ _ := ⟨L1.out.cell 0, L1.out.cell 1, L1.out.cell 2, L1.out.cell 3, L1.out.cell 4⟩
 simp at f0 f1 f2 f3 f4
 have hlf := L1.out.lt
 go_wp2_with fail
 refine (ranksrun_any 2 cap cls AW AS nW cW nS cS A n c ps ticks w3 HT.out HV.out HF.out hc1 hc2 hl1 hl2 ht).mono ?_
 rw [← HP.out]
 rintro e w9 ⟨done, sent, gD, gS, gcs, hP, rfl, hd, hs, hh, hb⟩
 have F := hi_ hP; have D := hi_ hd; have SS := hi_ hs
 replace RB := hi_ (RB.out.below hb RB.out.lt); replace BW := hi_ (bthen BW.out hb)
 have HH := hi_ (show w.heap.size + 2 ≤ gD ∧ w.heap.size + 2 ≤ gS ∧ ∀ (c g : Nat), gcs[c]? = some g → w.heap.size + 2 ≤ g by
  have := HS.out
  exact ⟨by omega, by omega, fun c g hg => by have := hh.2.2 c g hg; omega⟩)
 have HSZ := hi_ (show w.heap.size + 2 ≤ w9.heap.size by have := hb.size; have := HS.out; omega)
 clear hP hd hs hh hb f0 f1 f2 f3 f4 hlf
 obtain ⟨⟨c0, c1⟩, ⟨z0, z1⟩, hl0⟩ : (_ ∧ _) ∧ (_ ∧ _) ∧ _ := ⟨⟨RB.out.cell 0, RB.out.cell 1⟩, ⟨RB.out.frozen 0, RB.out.frozen 1⟩, RB.out.lt⟩
 simp at c0 c1
 go_wp2_with fail
 have rb := (RB.out.set_ 0 (.slice (some ⟨gD, 0, none⟩) n n)).set_ 1 (.slice (some ⟨gS, 0, none⟩) cls cls)
 simp only [List.setIfInBounds_toArray, List.set_cons_zero, List.set_cons_succ] at rb
 have kk := (set_kx w9 (w.heap.size + 1) 0 (.slice (some ⟨gD, 0, none⟩) n n)).trans (set_kx _ (w.heap.size + 1) 1 (.slice (some ⟨gS, 0, none⟩) cls cls))
 obtain ⟨k1, k2, k3⟩ := HH.out
 have hR : RetRn n cls ticks P w (.returned (.tuple #[.agg #[.slice (some ⟨gD, 0, none⟩) n n, .slice (some ⟨gS, 0, none⟩) cls cls], .int .i64 0])) ((w9.setCell ⟨(w.heap.size + 1), 0, none⟩ (.slice (some ⟨gD, 0, none⟩) n n)).setCell ⟨(w.heap.size + 1), 1, none⟩ (.slice (some ⟨gS, 0, none⟩) cls cls)) :=
  ⟨done, sent, gD, gS, gcs, F.out, rfl, D.out.kx kk (by omega), SS.out.kx kk (by omega) (fun c g hg => by have := k3 c g hg; omega), ⟨by omega, by omega, fun c g hg => by have := k3 c g hg; omega⟩, below_kx BW.out kk (fun k hk => by omega) (by have := BW.out.size; omega)⟩
 exact bodyPost_ret (v := .tuple #[.agg #[.slice (some ⟨gD, 0, none⟩) n n, .slice (some ⟨gS, 0, none⟩) cls cls], .int .i64 0]) (by simp [results, Tryz.results22, go_sem, rb.cell]) rfl hR
end
end Go.Proofs.YtaejfleahamapaaGreat
