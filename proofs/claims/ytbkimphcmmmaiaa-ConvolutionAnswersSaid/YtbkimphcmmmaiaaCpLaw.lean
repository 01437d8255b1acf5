/- Convolution: certificates, in plain words. -/
import Derived.Test.YtbkimphcmmmaiaaCvFn
import Derived.Test.YtbkimphcmmmaiaaDevLaw
namespace Go.Proofs.Ytbkimphcmmmaiaa
open Go.RowKit
set_option linter.unusedVariables false

/-- the horizon -/
def cvH (a b h : Cv) : Nat := max (cst a + cst b) (cst h) + ordC a b
/-- the split s repeats for the tick t -/
def RepQ (a b : Cv) (q : Int) (t s : Nat) : Prop := (a.Fin ∧ gnA a b = q ∧ cst a ≤ s) ∨ (b.Fin ∧ gnB a b = q ∧ cst b ≤ t - s)
def Rep (a b h : Cv) (t s : Nat) : Prop := RepQ a b (gnl h (ordC a b)) t s
/-- the split s serves for the tick t -/
def SpOk (a b h : Cv) (t s : Nat) : Prop := s ≤ t ∧ pl (a.at s) (b.at (t - s)) = h.at t ∧ (t < cvH a b h ∨ h.at t = inf ∨ Rep a b h t s)
open Classical in
/-- how much the convolution grows in a common period -/
noncomputable def slopeC (a b : Cv) : Int := if a.Fin then (if b.Fin then min (gnA a b) (gnB a b) else gnA a b) else (if b.Fin then gnB a b else inf)
section
variable {a b h : Cv}
theorem slopeC_ff (fa : a.Fin) (fb : b.Fin) : slopeC a b = min (gnA a b) (gnB a b) := by unfold slopeC; rw [if_pos fa, if_pos fb]
theorem slopeC_fi (fa : a.Fin) (fb : ¬ b.Fin) : slopeC a b = gnA a b := by unfold slopeC; rw [if_pos fa, if_neg fb]
theorem slopeC_if (fa : ¬ a.Fin) (fb : b.Fin) : slopeC a b = gnB a b := by unfold slopeC; rw [if_neg fa, if_pos fb]
theorem slopeC_ii (fa : ¬ a.Fin) (fb : ¬ b.Fin) : slopeC a b = inf := by unfold slopeC; rw [if_neg fa, if_neg fb]
theorem pl_csp (ha : a.Ok) (hb : b.Ok) {t s : Nat} (ht : t ≤ 2000) (h : CSp a b t s) : pl (a.at s) (b.at (t - s)) = a.at s + b.at (t - s) := by
  have h0 := h.1
  unfold pl
  rw [if_neg]
  rintro (e | e)
  · exact h.2.1 ((nfa_at ha (by omega)).1 e)
  · exact h.2.2 ((nfa_at hb (by omega)).1 e)
theorem pl_not (ha : a.Ok) (hb : b.Ok) {t s : Nat} (ht : t ≤ 2000) (hs : s ≤ t) (h : ¬ CSp a b t s) : pl (a.at s) (b.at (t - s)) = inf := by
  unfold pl
  rw [if_pos]
  refine Classical.byContradiction fun k => h ⟨hs, fun e => k (.inl e.2), fun e => k (.inr e.2)⟩
/-- both are infinite in the end -/
theorem cp_ii (ha : a.Ok) (hb : b.Ok) (fa : ¬ a.Fin) (fb : ¬ b.Fin) {D : Nat → Int} (H : CvF a b D) {t : Nat} (ht : cst a + cst b ≤ t) : D t = inf := by
  refine (H t).unique (CvT.none fun u hu => ?_)
  unfold cst at ht
  rcases Nat.lt_or_ge u (a.vals.length - a.per.toNat) with k | k
  · exact hu.2.2 (hb.infAt_start (notfin_inf hb fb) (by omega))
  · exact hu.2.1 (ha.infAt_start (notfin_inf ha fa) k)
theorem csp_swap {t s : Nat} (h : CSp b a t s) : CSp a b t (t - s) := h.symm
theorem gnA_fi (ha : a.Ok) (hb : b.Ok) (fb : ¬ b.Fin) : ordC a b = a.per.toNat ∧ gnA a b = a.inc := gn_of_inf ha hb (notfin_inf hb fb)
theorem att_high (fa : a.Fin) (fb : b.Fin) (hG : gnA a b < gnB a b) (fh : h.Fin) (H : CvF a b h.at) {t : Nat} (ht : cvH a b h ≤ t) : Att a.at b.at (cst a) t (h.at t) := by
  have hp := fh.1.p1
  unfold cvH at ht
  exact att_of_per (gnA_per fa fb.1 (s := cst a) (Nat.le_refl _)) (gnB_per fa.1 fb (s := cst b) (Nat.le_refl _)) hG (cvF_fin fa fb H) (q := h.per.toNat) (S := cst h) (by omega) fh.toL.step (by omega) (by omega)
theorem cp_ff_per (fa : a.Fin) (fb : b.Fin) (hG : gnA a b < gnB a b) (fh : h.Fin) (H : CvF a b h.at) : ∃ T, Per h.at T (ordC a b) (gnA a b) := by
  refine ⟨cvH a b h, att_per (gnA_per fa fb.1 (s := cst a) (Nat.le_refl _)) (gnB_per fa.1 fb (s := cst b) (Nat.le_refl _)) hG (cvF_fin fa fb H) (gnA_per fa fb.1 (s := cst a) (Nat.le_refl _)) (by unfold cvH; omega) fun t ht => att_high fa fb hG fh H ht⟩
/-- how a finite convolution grows -/
theorem cp_per (ha : a.Ok) (hb : b.Ok) (fh : h.Fin) (H : CvF a b h.at) : ∃ T, Per h.at T (ordC a b) (slopeC a b) := by
  by_cases fa : a.Fin
  · by_cases fb : b.Fin
    · rw [slopeC_ff fa fb]
      rcases (show gnA a b = gnB a b ∨ gnA a b < gnB a b ∨ gnB a b < gnA a b by omega) with k | k | k
      · have h2 := gnB_per fa.1 fb (s := cst b) (Nat.le_refl _)
        rw [← k] at h2
        rw [show min (gnA a b) (gnB a b) = gnA a b by omega]
        exact ⟨_, conv_eq (gnA_per fa fb.1 (s := cst a) (Nat.le_refl _)) h2 (cvF_fin fa fb H)⟩
      · rw [show min (gnA a b) (gnB a b) = gnA a b by omega]
        exact cp_ff_per fa fb k fh H
      · rw [show min (gnA a b) (gnB a b) = gnB a b by omega]
        have := cp_ff_per fb fa (by rw [gnA_swap ha hb, gnB_swap ha hb]; exact k) fh H.symm
        rwa [ordC_symm hb ha, gnA_swap ha hb] at this
    · rw [slopeC_fi fa fb, (gnA_fi ha hb fb).1, (gnA_fi ha hb fb).2]
      exact ⟨_, cv_one fa hb (notfin_inf hb fb) H (fin_at_ne fh (by omega))⟩
  · by_cases fb : b.Fin
    · rw [slopeC_if fa fb, ← gnA_swap ha hb, ordC_symm ha hb, (gnA_fi hb ha fa).1, (gnA_fi hb ha fa).2]
      exact ⟨_, cv_one fb ha (notfin_inf ha fa) H.symm (fin_at_ne fh (by omega))⟩
    · have h1 := cst_le ha; have h2 := cst_le hb
      exact absurd (cp_ii ha hb fa fb H (Nat.le_refl _)) (fin_at_ne fh (by omega))
theorem cp_gnl (ha : a.Ok) (hb : b.Ok) (fh : h.Fin) (hn : NF h.at h) (H : CvF a b h.at) : h.per.toNat ∣ ordC a b ∧ gnl h (ordC a b) = slopeC a b := by
  obtain ⟨T, hT⟩ := cp_per ha hb fh H
  have hc := (ord_b ha hb).c1
  have hd := hn.per_dvd hc hT
  refine ⟨hd, ?_⟩
  have q2 := fh.toL.step.mul (ordC a b / h.per.toNat)
  rw [Nat.div_mul_cancel hd] at q2
  have q3 := hT (max T (h.vals.length - h.per.toNat)) (by omega)
  have q4 := q2 (max T (h.vals.length - h.per.toNat)) (by omega)
  unfold gnl
  omega
theorem Rep.symm (ha : a.Ok) (hb : b.Ok) {t s : Nat} (hs : s ≤ t) (h1 : Rep b a h t s) : Rep a b h t (t - s) := by
  unfold Rep RepQ at *
  rw [gnA_swap ha hb, gnB_swap ha hb, ordC_symm hb ha] at h1
  rcases h1 with ⟨h1, h2, h3⟩ | ⟨h1, h2, h3⟩
  · exact .inr ⟨h1, h2, by omega⟩
  · exact .inl ⟨h1, h2, h3⟩
theorem cvH_symm (ha : a.Ok) (hb : b.Ok) : cvH a b h = cvH b a h := by unfold cvH; rw [ordC_symm ha hb]; omega
theorem slopeC_symm (ha : a.Ok) (hb : b.Ok) : slopeC a b = slopeC b a := by
  by_cases fa : a.Fin <;> by_cases fb : b.Fin
  · rw [slopeC_ff fa fb, slopeC_ff fb fa, gnA_swap ha hb, gnB_swap ha hb]; omega
  · rw [slopeC_fi fa fb, slopeC_if fb fa, gnB_swap ha hb]
  · rw [slopeC_if fa fb, slopeC_fi fb fa, gnA_swap ha hb]
  · rw [slopeC_ii fa fb, slopeC_ii fb fa]
/-- behind the horizon some split repeats -/
theorem cp_rep (ha : a.Ok) (hb : b.Ok) (fh : h.Fin) (hn : NF h.at h) (H : CvF a b h.at) {t : Nat} (ht : cvH a b h ≤ t) : ∃ s, CSp a b t s ∧ h.at t = a.at s + b.at (t - s) ∧ Rep a b h t s := by
  have hg := (cp_gnl ha hb fh hn H).2
  have hT : cst a + cst b ≤ t := by unfold cvH at ht; omega
  have sp : (∃ s, CSp a b t s) → ∃ s, CSp a b t s ∧ h.at t = a.at s + b.at (t - s) := by
    rintro ⟨s, hs⟩
    rcases (H t).cases with ⟨h1, _⟩ | ⟨h1, _⟩
    · exact absurd hs (h1 s)
    · exact h1
  by_cases fa : a.Fin
  · by_cases fb : b.Fin
    · rw [slopeC_ff fa fb] at hg
      have cs : ∀ s, s ≤ t → CSp a b t s := fun s hs => ⟨hs, fa.not_infAt _, fb.not_infAt _⟩
      rcases (show gnA a b = gnB a b ∨ gnA a b < gnB a b ∨ gnB a b < gnA a b by omega) with k | k | k
      · obtain ⟨s, h1, h2⟩ := sp ⟨t, cs t (Nat.le_refl _)⟩
        refine ⟨s, h1, h2, ?_⟩
        rcases Nat.lt_or_ge s (cst a) with q | q
        · exact .inr ⟨fb, by omega, by omega⟩
        · exact .inl ⟨fa, by omega, q⟩
      · obtain ⟨s, h1, h2, h3⟩ := att_high fa fb k fh H ht
        exact ⟨s, cs s h2, h3, .inl ⟨fa, by omega, h1⟩⟩
      · obtain ⟨s, h1, h2, h3⟩ := att_high fb fa (by rw [gnA_swap ha hb, gnB_swap ha hb]; exact k) fh H.symm (by rw [cvH_symm hb ha]; exact ht)
        refine ⟨t - s, cs _ (by omega), by rw [show t - (t - s) = s by omega]; omega, .inr ⟨fb, by omega, by omega⟩⟩
    · rw [slopeC_fi fa fb] at hg
      have h0 : ¬ b.infAt 0 := fun e => by
        refine absurd ((H 0).unique (CvT.none fun s hs => hs.2.2 ?_)) (fin_at_ne fh (by omega))
        exact e.later hb (Nat.zero_le _)
      obtain ⟨s, h1, h2⟩ := sp ⟨t, Nat.le_refl _, fa.not_infAt _, by rw [Nat.sub_self]; exact h0⟩
      refine ⟨s, h1, h2, .inl ⟨fa, by omega, ?_⟩⟩
      rcases Nat.lt_or_ge s (cst a) with q | q
      · exact absurd (hb.infAt_start (notfin_inf hb fb) (by unfold cst at *; omega)) h1.2.2
      · exact q
  · by_cases fb : b.Fin
    · rw [slopeC_if fa fb] at hg
      have h0 : ¬ a.infAt 0 := fun e => by
        refine absurd ((H 0).unique (CvT.none fun s hs => hs.2.1 ?_)) (fin_at_ne fh (by omega))
        exact e.later ha (Nat.zero_le _)
      obtain ⟨s, h1, h2⟩ := sp ⟨0, Nat.zero_le _, h0, fb.not_infAt _⟩
      refine ⟨s, h1, h2, .inr ⟨fb, by omega, ?_⟩⟩
      have hs := h1.1
      rcases Nat.lt_or_ge (t - s) (cst b) with q | q
      · exact absurd (ha.infAt_start (notfin_inf ha fa) (by unfold cst at *; omega)) h1.2.1
      · exact q
    · have h1 := cst_le ha; have h2 := cst_le hb
      exact absurd (cp_ii ha hb fa fb H (Nat.le_refl _)) (fin_at_ne fh (by omega))
/-- each tick has a split that serves -/
theorem cp_split (ha : a.Ok) (hb : b.Ok) (hh : h.Ok) (hn : NF h.at h) (H : CvF a b h.at) {t : Nat} (ht : t ≤ 2000) : ∃ s, SpOk a b h t s := by
  by_cases hi : h.at t = inf
  · refine ⟨0, Nat.zero_le _, ?_, .inr (.inl hi)⟩
    rw [hi]
    refine pl_not ha hb ht (Nat.zero_le _) ?_
    rcases cv_bd ha hb H ht with ⟨h1, _⟩ | h1
    · exact h1 0
    · unfold inf at hi; omega
  · rcases Nat.lt_or_ge t (cvH a b h) with k | k
    · rcases (H t).cases with ⟨_, h1⟩ | ⟨⟨s, h1, h2⟩, _⟩
      · exact absurd h1 hi
      · exact ⟨s, h1.1, by rw [pl_csp ha hb ht h1, h2], .inl k⟩
    · have fh : h.Fin := by
        rcases hh.fin_or with k1 | k1
        · exact k1
        · exact absurd (hh.infAt_start k1 (by unfold cvH cst at k; omega)).2 hi
      obtain ⟨s, h1, h2, h3⟩ := cp_rep ha hb fh hn H k
      exact ⟨s, h1.1, by rw [pl_csp ha hb ht h1, h2], .inr (.inr h3)⟩
/-- below all sums -/
theorem cp_below (ha : a.Ok) (hb : b.Ok) (H : CvF a b h.at) {s u : Nat} (ht : s + u ≤ 2000) : h.at (s + u) ≤ pl (a.at s) (b.at u) := by
  have e : s + u - s = u := by omega
  by_cases hc : CSp a b (s + u) s
  · have := pl_csp ha hb ht hc
    rw [e] at this
    rw [this]
    rcases (H (s + u)).cases with ⟨h1, _⟩ | ⟨_, h1⟩
    · exact absurd hc (h1 s)
    · have := h1 s hc
      rwa [e] at this
  · have := pl_not ha hb ht (Nat.le_add_right _ _) hc
    rw [e] at this
    rw [this]
    have := (cv_small ha hb H ht).2
    unfold inf; omega
/-- the form of the convolution -/
def RightS (a b h : Cv) : Prop := (h.Fin ↔ (a.Fin ∨ b.Fin) ∧ nth a.vals 0 ≠ inf ∧ nth b.vals 0 ≠ inf) ∧ (h.Fin → h.per.toNat ∣ ordC a b ∧ gnl h (ordC a b) = slopeC a b)
theorem at0 (ha : a.Ok) : a.at 0 = nth a.vals 0 := Cv.at_lt (by have := ha.n1; omega)
theorem cp_fin (ha : a.Ok) (hb : b.Ok) (hh : h.Ok) (H : CvF a b h.at) : h.Fin ↔ (a.Fin ∨ b.Fin) ∧ nth a.vals 0 ≠ inf ∧ nth b.vals 0 ≠ inf := by
  have s1 := cst_le ha; have s2 := cst_le hb
  constructor
  · intro fh
    refine ⟨?_, fun e => ?_, fun e => ?_⟩
    · refine Classical.byContradiction fun k => ?_
      exact absurd (cp_ii ha hb (fun h => k (.inl h)) (fun h => k (.inr h)) H (Nat.le_refl _)) (fin_at_ne fh (by omega))
    · rw [← at0 ha] at e
      exact absurd ((H 0).unique (CvT.none fun s hs => hs.2.1 (((nfa_at ha (by omega)).1 e).later ha (Nat.zero_le _)))) (fin_at_ne fh (by omega))
    · rw [← at0 hb] at e
      exact absurd ((H 0).unique (CvT.none fun s hs => hs.2.2 (((nfa_at hb (by omega)).1 e).later hb (Nat.zero_le _)))) (fin_at_ne fh (by omega))
  · rintro ⟨h1, h2, h3⟩
    refine hh.fin_or.resolve_right fun ih => ?_
    have hi := (hh.infAt_start ih (Nat.le_refl _)).2
    have hs := cst_le hh
    unfold cst at hs
    rw [← at0 ha] at h2
    rw [← at0 hb] at h3
    rcases cv_bd ha hb H (t := h.vals.length - h.per.toNat) (by omega) with ⟨k, _⟩ | k
    · rcases h1 with fa | fb
      · exact k _ ⟨Nat.le_refl _, fa.not_infAt _, by rw [Nat.sub_self]; exact fun e => h3 e.2⟩
      · exact k 0 ⟨Nat.zero_le _, fun e => h2 e.2, fb.not_infAt _⟩
    · unfold inf at hi; omega
theorem cp_right (ha : a.Ok) (hb : b.Ok) (hh : h.Ok) (hn : NF h.at h) (H : CvF a b h.at) : RightS a b h := ⟨cp_fin ha hb hh H, fun fh => cp_gnl ha hb fh hn H⟩
/-- how far it must be looked -/
def BelowS (a b h : Cv) : Prop := ∀ s u, s < max (cst a) (cst h) + ordC a b → u < max (cst b) (cst h) + ordC a b → h.at (s + u) ≤ pl (a.at s) (b.at u)
/-- the splits of a certificate -/
def AttS (a b h : Cv) (fr : Int) (cs : List Int) : Prop := fr = (cvH a b h : Nat) ∧ cs.length = cvH a b h + ordC a b ∧ ∀ t, t < cs.length → 0 ≤ nth cs t ∧ SpOk a b h t (nth cs t).toNat
/-- what a certificate must say -/
def CertC (a b h : Cv) (fr : Int) (cs : List Int) : Prop := RightS a b h ∧ AttS a b h fr cs ∧ BelowS a b h
/-- what Check accepts -/
def CkS (f g h : Cv) (fr : Int) (cs : List Int) : Prop :=
  f.Ok ∧ g.Ok ∧ ∃ a b, NF f.at a ∧ NF g.at b ∧ comm a.per.toNat b.per.toNat ≤ 120 ∧ h.Ok ∧ NF h.at h ∧ CertC a b h fr cs
/-- the numbers of a certificate -/
def PvAt (a b h : Cv) (cs : List Int) : Prop := cs.length = cvH a b h + ordC a b ∧ ∀ t, t < cs.length → ∃ u : Nat, nth cs t = u ∧ SpOk a b h t u ∧ ∀ x, x < u → ¬ SpOk a b h t x
theorem PvAt.unique {cs ds : List Int} (H : PvAt a b h cs) (K : PvAt a b h ds) : cs = ds := by
  refine list_ext (by rw [H.1, K.1]) (fun t ht => ?_)
  obtain ⟨u, h1, h2, h3⟩ := H.2 t ht
  obtain ⟨v, k1, k2, k3⟩ := K.2 t (by rw [K.1, ← H.1]; exact ht)
  rw [h1, k1]
  rcases Nat.lt_trichotomy u v with e | e | e
  · exact absurd h2 (k3 u e)
  · rw [e]
  · exact absurd k2 (h3 v e)
end
/-- what Prove returns -/
def PvS (f g r : Cv) (fr : Int) (cs : List Int) (er : Int) : Prop :=
  CvS f g r er ∧ ((er ≠ 0 ∧ fr = 0 ∧ cs = []) ∨ (er = 0 ∧ ∃ a b, NF f.at a ∧ NF g.at b ∧ fr = (cvH a b r : Nat) ∧ PvAt a b r cs))
theorem PvS.unique {f g r r' : Cv} {fr fr' : Int} {cs cs' : List Int} {er er' : Int} (H : PvS f g r fr cs er) (K : PvS f g r' fr' cs' er') : r = r' ∧ fr = fr' ∧ cs = cs' ∧ er = er' := by
  obtain ⟨H0, H⟩ := H
  obtain ⟨K0, K⟩ := K
  obtain ⟨rfl, rfl⟩ := H0.unique K0
  rcases H with ⟨h1, rfl, rfl⟩ | ⟨h1, a, b, h2, h3, rfl, h4⟩ <;> rcases K with ⟨k1, rfl, rfl⟩ | ⟨k1, a', b', k2, k3, rfl, k4⟩
  · exact ⟨rfl, rfl, rfl, rfl⟩
  · exact absurd k1 h1
  · exact absurd h1 k1
  · obtain rfl := NF.unique h2 k2
    obtain rfl := NF.unique h3 k3
    exact ⟨rfl, rfl, h4.unique k4, rfl⟩
/-- a convolution that has been made, of normal forms -/
theorem cvS_nf {f g r : Cv} (H : CvS f g r 0) : f.Ok ∧ g.Ok ∧ ∃ a b, NF f.at a ∧ NF g.at b ∧ a.Ok ∧ b.Ok ∧ comm a.per.toNat b.per.toNat ≤ 120 ∧ r.Ok ∧ NF r.at r ∧ CvF a b r.at ∧ CvF f g r.at := by
  rcases H with ⟨_, _, h⟩ | ⟨hf, hg, a, b, ha, hb, H⟩
  · cases h
  · obtain ⟨hao, _⟩ := nf_small hf ha
    obtain ⟨hbo, _⟩ := nf_small hg hb
    rcases H with ⟨_, _, h⟩ | ⟨hc, h, h1, h2⟩
    · cases h
    · rcases h2.get (cv_up hao hbo h1) with ⟨_, h3, h4⟩ | ⟨h3, _⟩
      · have e : r.at = h := by funext t; exact h4.at t
        rw [← e] at h1 h4
        exact ⟨hf, hg, a, b, ha, hb, hao, hbo, hc, h3, h4, h1, h1.nf hf hg ha hb⟩
      · cases h3
/-- what Prove returns is accepted -/
theorem pv_check {f g r : Cv} {fr : Int} {cs : List Int} (H : PvS f g r fr cs 0) : CkS f g r fr cs := by
  obtain ⟨H, K⟩ := H
  obtain ⟨hf, hg, a, b, hna, hnb, hao, hbo, hc, hr, hrn, hC, _⟩ := cvS_nf H
  rcases K with ⟨h, _⟩ | ⟨_, a', b', hna', hnb', rfl, hlen, hall⟩
  · exact absurd rfl h
  · obtain rfl := NF.unique hna hna'
    obtain rfl := NF.unique hnb hnb'
    have hc' : ordC a b ≤ 120 := hc
    have s1 := cst_le hao; have s2 := cst_le hbo; have s3 := cst_le hr
    refine ⟨hf, hg, a, b, hna, hnb, hc, hr, hrn, cp_right hao hbo hr hrn hC, ⟨rfl, hlen, fun t ht => ?_⟩, fun s u hs hu => cp_below hao hbo hC (by omega)⟩
    obtain ⟨u, h1, h2, _⟩ := hall t ht
    rw [h1]
    exact ⟨by omega, by rwa [Int.toNat_natCast]⟩
end Go.Proofs.Ytbkimphcmmmaiaa
