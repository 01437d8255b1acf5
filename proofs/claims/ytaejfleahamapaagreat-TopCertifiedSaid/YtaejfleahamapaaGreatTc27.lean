/- (convolution.pair).horizon and repeats: the walks. -/
import Derived.Test.YtaejfleahamapaaGreatTc26
import Derived.Test.YtaejfleahamapaaGreatTc11
import Derived.Test.YtaejfleahamapaaGreatTc18
import Derived.Test.YtaejfleahamapaaGreatTc5
import Derived.Test.YtaejfleahamapaaGreatTc2
namespace Go.Proofs.YtaejfleahamapaaGreat
open Go.RowKit
set_option linter.unusedVariables false

def cvH (a b h : Cv) : Nat := max (cst a + cst b) (cst h) + ordC a b
def RepQ (a b : Cv) (q : Int) (t s : Nat) : Prop := (a.Fin ∧ gnA a b = q ∧ cst a ≤ s) ∨ (b.Fin ∧ gnB a b = q ∧ cst b ≤ t - s)
def Rep (a b h : Cv) (t s : Nat) : Prop := RepQ a b (gnl h (ordC a b)) t s
def SpOk (a b h : Cv) (t s : Nat) : Prop := s ≤ t ∧ pl (a.at s) (b.at (t - s)) = h.at t ∧ (t < cvH a b h ∨ h.at t = inf ∨ Rep a b h t s)
open Classical in
noncomputable def slopeC (a b : Cv) : Int := if a.Fin then (if b.Fin then min (gnA a b) (gnB a b) else gnA a b) else (if b.Fin then gnB a b else inf)
section
variable {a b h : Cv}
theorem slopeC_ff (fa : a.Fin) (fb : b.Fin) : slopeC a b = min (gnA a b) (gnB a b) := by unfold slopeC; rw [if_pos fa, if_pos fb]
theorem slopeC_fi (fa : a.Fin) (fb : ¬ b.Fin) : slopeC a b = gnA a b := by unfold slopeC; rw [if_pos fa, if_neg fb]
theorem slopeC_if (fa : ¬ a.Fin) (fb : b.Fin) : slopeC a b = gnB a b := by unfold slopeC; rw [if_neg fa, if_pos fb]
theorem pl_csp (ha : a.Ok) (hb : b.Ok) {t s : Nat} (ht : t ≤ 2000) (h : CSp a b t s) : pl (a.at s) (b.at (t - s)) = a.at s + b.at (t - s) := by
  have h0 := h.1
  unfold pl
  rw [if_neg]
  rintro (e | e)
  · exact h.2.1 ((nfa_at ha (by omega)).1 e)
  · exact h.2.2 ((nfa_at hb (by omega)).1 e)
theorem pl_not (ha : a.Ok) (hb : b.Ok) {t s : Nat} (ht : t ≤ 2000) (hs : s ≤ t) (h : ¬ CSp a b t s) : pl (a.at s) (b.at (t - s)) = inf := by
  unfold pl
  rw [if_pos]
  refine Classical.byContradiction fun k => h ⟨hs, fun e => k (.inl e.2), fun e => k (.inr e.2)⟩
theorem cp_ii (ha : a.Ok) (hb : b.Ok) (fa : ¬ a.Fin) (fb : ¬ b.Fin) {D : Nat → Int} (H : CvF a b D) {t : Nat} (ht : cst a + cst b ≤ t) : D t = inf := by
  refine (H t).unique (CvT.none fun u hu => ?_)
  unfold cst at ht
  rcases Nat.lt_or_ge u (a.vals.length - a.per.toNat) with k | k
  · exact hu.2.2 (hb.infAt_start (notfin_inf hb fb) (by omega))
  · exact hu.2.1 (ha.infAt_start (notfin_inf ha fa) k)
theorem gnA_fi (ha : a.Ok) (hb : b.Ok) (fb : ¬ b.Fin) : ordC a b = a.per.toNat ∧ gnA a b = a.inc := gn_of_inf ha hb (notfin_inf hb fb)
theorem att_high (fa : a.Fin) (fb : b.Fin) (hG : gnA a b < gnB a b) (fh : h.Fin) (H : CvF a b h.at) {t : Nat} (ht : cvH a b h ≤ t) : Att a.at b.at (cst a) t (h.at t) := by
  have hp := fh.1.p1
  unfold cvH at ht
  exact att_of_per (gnA_per fa fb.1 (s := cst a) (Nat.le_refl _)) (gnB_per fa.1 fb (s := cst b) (Nat.le_refl _)) hG (cvF_fin fa fb H) (q := h.per.toNat) (S := cst h) (by omega) fh.toL.step (by omega) (by omega)
theorem cp_ff_per (fa : a.Fin) (fb : b.Fin) (hG : gnA a b < gnB a b) (fh : h.Fin) (H : CvF a b h.at) : ∃ T, Per h.at T (ordC a b) (gnA a b) := by
  refine ⟨cvH a b h, att_per (gnA_per fa fb.1 (s := cst a) (Nat.le_refl _)) (gnB_per fa.1 fb (s := cst b) (Nat.le_refl _)) hG (cvF_fin fa fb H) (gnA_per fa fb.1 (s := cst a) (Nat.le_refl _)) (by unfold cvH; omega) fun t ht => att_high fa fb hG fh H ht⟩
theorem cp_per (ha : a.Ok) (hb : b.Ok) (fh : h.Fin) (H : CvF a b h.at) : ∃ T, Per h.at T (ordC a b) (slopeC a b) := by
  by_cases fa : a.Fin
  · by_cases fb : b.Fin
    · rw [slopeC_ff fa fb]
      rcases (show gnA a b = gnB a b ∨ gnA a b < gnB a b ∨ gnB a b < gnA a b by omega) with k | k | k
      · have h2 := gnB_per fa.1 fb (s := cst b) (Nat.le_refl _)
        rw [← k] at h2
        rw [show min (gnA a b) (gnB a b) = gnA a b by omega]
        exact ⟨_, conv_eq (gnA_per fa fb.1 (s := cst a) (Nat.le_refl _)) h2 (cvF_fin fa fb H)⟩
      · rw [show min (gnA a b) (gnB a b) = gnA a b by omega]
        exact cp_ff_per fa fb k fh H
      · rw [show min (gnA a b) (gnB a b) = gnB a b by omega]
        have := cp_ff_per fb fa (by rw [gnA_swap ha hb, gnB_swap ha hb]; exact k) fh H.symm
        rwa [ordC_symm hb ha, gnA_swap ha hb] at this
    · rw [slopeC_fi fa fb, (gnA_fi ha hb fb).1, (gnA_fi ha hb fb).2]
      exact ⟨_, cv_one fa hb (notfin_inf hb fb) H (fin_at_ne fh (by omega))⟩
  · by_cases fb : b.Fin
    · rw [slopeC_if fa fb, ← gnA_swap ha hb, ordC_symm ha hb, (gnA_fi hb ha fa).1, (gnA_fi hb ha fa).2]
      exact ⟨_, cv_one fb ha (notfin_inf ha fa) H.symm (fin_at_ne fh (by omega))⟩
    · have h1 := cst_le ha; have h2 := cst_le hb
      exact absurd (cp_ii ha hb fa fb H (Nat.le_refl _)) (fin_at_ne fh (by omega))
theorem cp_gnl (ha : a.Ok) (hb : b.Ok) (fh : h.Fin) (hn : NF h.at h) (H : CvF a b h.at) : h.per.toNat ∣ ordC a b ∧ gnl h (ordC a b) = slopeC a b := by
  obtain ⟨T, hT⟩ := cp_per ha hb fh H
  have hc := (ord_b ha hb).c1
  have hd := hn.per_dvd hc hT
  refine ⟨hd, ?_⟩
  have q2 := fh.toL.step.mul (ordC a b / h.per.toNat)
  rw [Nat.div_mul_cancel hd] at q2
  have q3 := hT (max T (h.vals.length - h.per.toNat)) (by omega)
  have q4 := q2 (max T (h.vals.length - h.per.toNat)) (by omega)
  unfold gnl
  omega
theorem Rep.symm (ha : a.Ok) (hb : b.Ok) {t s : Nat} (hs : s ≤ t) (h1 : Rep b a h t s) : Rep a b h t (t - s) := by
  unfold Rep RepQ at *
  rw [gnA_swap ha hb, gnB_swap ha hb, ordC_symm hb ha] at h1
  rcases h1 with ⟨h1, h2, h3⟩ | ⟨h1, h2, h3⟩
  · exact .inr ⟨h1, h2, by omega⟩
  · exact .inl ⟨h1, h2, h3⟩
theorem cvH_symm (ha : a.Ok) (hb : b.Ok) : cvH a b h = cvH b a h := by unfold cvH; rw [ordC_symm ha hb]; omega
theorem cp_rep (ha : a.Ok) (hb : b.Ok) (fh : h.Fin) (hn : NF h.at h) (H : CvF a b h.at) {t : Nat} (ht : cvH a b h ≤ t) : ∃ s, CSp a b t s ∧ h.at t = a.at s + b.at (t - s) ∧ Rep a b h t s := by
  have hg := (cp_gnl ha hb fh hn H).2
  have hT : cst a + cst b ≤ t := by unfold cvH at ht; omega
  have sp : (∃ s, CSp a b t s) → ∃ s, CSp a b t s ∧ h.at t = a.at s + b.at (t - s) := by
    rintro ⟨s, hs⟩
    rcases (H t).cases with ⟨h1, _⟩ | ⟨h1, _⟩
    · exact absurd hs (h1 s)
    · exact h1
  by_cases fa : a.Fin
  · by_cases fb : b.Fin
    · rw [slopeC_ff fa fb] at hg
      have cs : ∀ s, s ≤ t → CSp a b t s := fun s hs => ⟨hs, fa.not_infAt _, fb.not_infAt _⟩
      rcases (show gnA a b = gnB a b ∨ gnA a b < gnB a b ∨ gnB a b < gnA a b by omega) with k | k | k
      · obtain ⟨s, h1, h2⟩ := sp ⟨t, cs t (Nat.le_refl _)⟩
        refine ⟨s, h1, h2, ?_⟩
        rcases Nat.lt_or_ge s (cst a) with q | q
        · exact .inr ⟨fb, by omega, by omega⟩
        · exact .inl ⟨fa, by omega, q⟩
      · obtain ⟨s, h1, h2, h3⟩ := att_high fa fb k fh H ht
        exact ⟨s, cs s h2, h3, .inl ⟨fa, by omega, h1⟩⟩
      · obtain ⟨s, h1, h2, h3⟩ := att_high fb fa (by rw [gnA_swap ha hb, gnB_swap ha hb]; exact k) fh H.symm (by rw [cvH_symm hb ha]; exact ht)
        refine ⟨t - s, cs _ (by omega), by rw [show t - (t - s) = s by omega]; omega, .inr ⟨fb, by omega, by omega⟩⟩
    · rw [slopeC_fi fa fb] at hg
      have h0 : ¬ b.infAt 0 := fun e => by
        refine absurd ((H 0).unique (CvT.none fun s hs => hs.2.2 ?_)) (fin_at_ne fh (by omega))
        exact e.later hb (Nat.zero_le _)
      obtain ⟨s, h1, h2⟩ := sp ⟨t, Nat.le_refl _, fa.not_infAt _, by rw [Nat.sub_self]; exact h0⟩
      refine ⟨s, h1, h2, .inl ⟨fa, by omega, ?_⟩⟩
      rcases Nat.lt_or_ge s (cst a) with q | q
      · exact absurd (hb.infAt_start (notfin_inf hb fb) (by unfold cst at *; omega)) h1.2.2
      · exact q
  · by_cases fb : b.Fin
    · rw [slopeC_if fa fb] at hg
      have h0 : ¬ a.infAt 0 := fun e => by
        refine absurd ((H 0).unique (CvT.none fun s hs => hs.2.1 ?_)) (fin_at_ne fh (by omega))
        exact e.later ha (Nat.zero_le _)
      obtain ⟨s, h1, h2⟩ := sp ⟨0, Nat.zero_le _, h0, fb.not_infAt _⟩
      refine ⟨s, h1, h2, .inr ⟨fb, by omega, ?_⟩⟩
      have hs := h1.1
      rcases Nat.lt_or_ge (t - s) (cst b) with q | q
      · exact absurd (ha.infAt_start (notfin_inf ha fa) (by unfold cst at *; omega)) h1.2.1
      · exact q
    · have h1 := cst_le ha; have h2 := cst_le hb
      exact absurd (cp_ii ha hb fa fb H (Nat.le_refl _)) (fin_at_ne fh (by omega))
theorem cp_split (ha : a.Ok) (hb : b.Ok) (hh : h.Ok) (hn : NF h.at h) (H : CvF a b h.at) {t : Nat} (ht : t ≤ 2000) : ∃ s, SpOk a b h t s := by
  by_cases hi : h.at t = inf
  · refine ⟨0, Nat.zero_le _, ?_, .inr (.inl hi)⟩
    rw [hi]
    refine pl_not ha hb ht (Nat.zero_le _) ?_
    rcases cv_bd ha hb H ht with ⟨h1, _⟩ | h1
    · exact h1 0
    · unfold inf at hi; omega
  · rcases Nat.lt_or_ge t (cvH a b h) with k | k
    · rcases (H t).cases with ⟨_, h1⟩ | ⟨⟨s, h1, h2⟩, _⟩
      · exact absurd h1 hi
      · exact ⟨s, h1.1, by rw [pl_csp ha hb ht h1, h2], .inl k⟩
    · have fh : h.Fin := by
        rcases hh.fin_or with k1 | k1
        · exact k1
        · exact absurd (hh.infAt_start k1 (by unfold cvH cst at k; omega)).2 hi
      obtain ⟨s, h1, h2, h3⟩ := cp_rep ha hb fh hn H k
      exact ⟨s, h1.1, by rw [pl_csp ha hb ht h1, h2], .inr (.inr h3)⟩
theorem cp_below (ha : a.Ok) (hb : b.Ok) (H : CvF a b h.at) {s u : Nat} (ht : s + u ≤ 2000) : h.at (s + u) ≤ pl (a.at s) (b.at u) := by
  have e : s + u - s = u := by omega
  by_cases hc : CSp a b (s + u) s
  · have := pl_csp ha hb ht hc
    rw [e] at this
    rw [this]
    rcases (H (s + u)).cases with ⟨h1, _⟩ | ⟨_, h1⟩
    · exact absurd hc (h1 s)
    · have := h1 s hc
      rwa [e] at this
  · have := pl_not ha hb ht (Nat.le_add_right _ _) hc
    rw [e] at this
    rw [this]
    have := (cv_small ha hb H ht).2
    unfold inf; omega
def RightS (a b h : Cv) : Prop := (h.Fin ↔ (a.Fin ∨ b.Fin) ∧ nth a.vals 0 ≠ inf ∧ nth b.vals 0 ≠ inf) ∧ (h.Fin → h.per.toNat ∣ ordC a b ∧ gnl h (ordC a b) = slopeC a b)
theorem at0 (ha : a.Ok) : a.at 0 = nth a.vals 0 := Cv.at_lt (by have := ha.n1; omega)
theorem cp_fin (ha : a.Ok) (hb : b.Ok) (hh : h.Ok) (H : CvF a b h.at) : h.Fin ↔ (a.Fin ∨ b.Fin) ∧ nth a.vals 0 ≠ inf ∧ nth b.vals 0 ≠ inf := by
  have s1 := cst_le ha; have s2 := cst_le hb
  constructor
  · intro fh
    refine ⟨?_, fun e => ?_, fun e => ?_⟩
    · refine Classical.byContradiction fun k => ?_
      exact absurd (cp_ii ha hb (fun h => k (.inl h)) (fun h => k (.inr h)) H (Nat.le_refl _)) (fin_at_ne fh (by omega))
    · rw [← at0 ha] at e
      exact absurd ((H 0).unique (CvT.none fun s hs => hs.2.1 (((nfa_at ha (by omega)).1 e).later ha (Nat.zero_le _)))) (fin_at_ne fh (by omega))
    · rw [← at0 hb] at e
      exact absurd ((H 0).unique (CvT.none fun s hs => hs.2.2 (((nfa_at hb (by omega)).1 e).later hb (Nat.zero_le _)))) (fin_at_ne fh (by omega))
  · rintro ⟨h1, h2, h3⟩
    refine hh.fin_or.resolve_right fun ih => ?_
    have hi := (hh.infAt_start ih (Nat.le_refl _)).2
    have hs := cst_le hh
    unfold cst at hs
    rw [← at0 ha] at h2
    rw [← at0 hb] at h3
    rcases cv_bd ha hb H (t := h.vals.length - h.per.toNat) (by omega) with ⟨k, _⟩ | k
    · rcases h1 with fa | fb
      · exact k _ ⟨Nat.le_refl _, fa.not_infAt _, by rw [Nat.sub_self]; exact fun e => h3 e.2⟩
      · exact k 0 ⟨Nat.zero_le _, fun e => h2 e.2, fb.not_infAt _⟩
    · unfold inf at hi; omega
theorem cp_right (ha : a.Ok) (hb : b.Ok) (hh : h.Ok) (hn : NF h.at h) (H : CvF a b h.at) : RightS a b h := ⟨cp_fin ha hb hh H, fun fh => cp_gnl ha hb fh hn H⟩
def BelowS (a b h : Cv) : Prop := ∀ s u, s < max (cst a) (cst h) + ordC a b → u < max (cst b) (cst h) + ordC a b → h.at (s + u) ≤ pl (a.at s) (b.at u)
def AttS (a b h : Cv) (fr : Int) (cs : List Int) : Prop := fr = (cvH a b h : Nat) ∧ cs.length = cvH a b h + ordC a b ∧ ∀ t, t < cs.length → 0 ≤ nth cs t ∧ SpOk a b h t (nth cs t).toNat
def CertC (a b h : Cv) (fr : Int) (cs : List Int) : Prop := RightS a b h ∧ AttS a b h fr cs ∧ BelowS a b h
def CkS (f g h : Cv) (fr : Int) (cs : List Int) : Prop :=
  f.Ok ∧ g.Ok ∧ ∃ a b, NF f.at a ∧ NF g.at b ∧ comm a.per.toNat b.per.toNat ≤ 120 ∧ h.Ok ∧ NF h.at h ∧ CertC a b h fr cs
def PvAt (a b h : Cv) (cs : List Int) : Prop := cs.length = cvH a b h + ordC a b ∧ ∀ t, t < cs.length → ∃ u : Nat, nth cs t = u ∧ SpOk a b h t u ∧ ∀ x, x < u → ¬ SpOk a b h t x
theorem PvAt.unique {cs ds : List Int} (H : PvAt a b h cs) (K : PvAt a b h ds) : cs = ds := by
  refine list_ext (by rw [H.1, K.1]) (fun t ht => ?_)
  obtain ⟨u, h1, h2, h3⟩ := H.2 t ht
  obtain ⟨v, k1, k2, k3⟩ := K.2 t (by rw [K.1, ← H.1]; exact ht)
  rw [h1, k1]
  rcases Nat.lt_trichotomy u v with e | e | e
  · exact absurd h2 (k3 u e)
  · rw [e]
  · exact absurd k2 (h3 v e)
end
def PvS (f g r : Cv) (fr : Int) (cs : List Int) (er : Int) : Prop :=
  CvS f g r er ∧ ((er ≠ 0 ∧ fr = 0 ∧ cs = []) ∨ (er = 0 ∧ ∃ a b, NF f.at a ∧ NF g.at b ∧ fr = (cvH a b r : Nat) ∧ PvAt a b r cs))
theorem PvS.unique {f g r r' : Cv} {fr fr' : Int} {cs cs' : List Int} {er er' : Int} (H : PvS f g r fr cs er) (K : PvS f g r' fr' cs' er') : r = r' ∧ fr = fr' ∧ cs = cs' ∧ er = er' := by
  obtain ⟨H0, H⟩ := H
  obtain ⟨K0, K⟩ := K
  obtain ⟨rfl, rfl⟩ := H0.unique K0
  rcases H with ⟨h1, rfl, rfl⟩ | ⟨h1, a, b, h2, h3, rfl, h4⟩ <;> rcases K with ⟨k1, rfl, rfl⟩ | ⟨k1, a', b', k2, k3, rfl, k4⟩
  · exact ⟨rfl, rfl, rfl, rfl⟩
  · exact absurd k1 h1
  · exact absurd h1 k1
  · obtain rfl := NF.unique h2 k2
    obtain rfl := NF.unique h3 k3
    exact ⟨rfl, rfl, h4.unique k4, rfl⟩
theorem cvS_nf {f g r : Cv} (H : CvS f g r 0) : f.Ok ∧ g.Ok ∧ ∃ a b, NF f.at a ∧ NF g.at b ∧ a.Ok ∧ b.Ok ∧ comm a.per.toNat b.per.toNat ≤ 120 ∧ r.Ok ∧ NF r.at r ∧ CvF a b r.at ∧ CvF f g r.at := by
  rcases H with ⟨_, _, h⟩ | ⟨hf, hg, a, b, ha, hb, H⟩
  · cases h
  · obtain ⟨hao, _⟩ := nf_small hf ha
    obtain ⟨hbo, _⟩ := nf_small hg hb
    rcases H with ⟨_, _, h⟩ | ⟨hc, h, h1, h2⟩
    · cases h
    · rcases h2.get (cv_up hao hbo h1) with ⟨_, h3, h4⟩ | ⟨h3, _⟩
      · have e : r.at = h := by funext t; exact h4.at t
        rw [← e] at h1 h4
        exact ⟨hf, hg, a, b, ha, hb, hao, hbo, hc, h3, h4, h1, h1.nf hf hg ha hb⟩
      · cases h3
theorem pv_check {f g r : Cv} {fr : Int} {cs : List Int} (H : PvS f g r fr cs 0) : CkS f g r fr cs := by
  obtain ⟨H, K⟩ := H
  obtain ⟨hf, hg, a, b, hna, hnb, hao, hbo, hc, hr, hrn, hC, _⟩ := cvS_nf H
  rcases K with ⟨h, _⟩ | ⟨_, a', b', hna', hnb', rfl, hlen, hall⟩
  · exact absurd rfl h
  · obtain rfl := NF.unique hna hna'
    obtain rfl := NF.unique hnb hnb'
    have hc' : ordC a b ≤ 120 := hc
    have s1 := cst_le hao; have s2 := cst_le hbo; have s3 := cst_le hr
    refine ⟨hf, hg, a, b, hna, hnb, hc, hr, hrn, cp_right hao hbo hr hrn hC, ⟨rfl, hlen, fun t ht => ?_⟩, fun s u hs hu => cp_below hao hbo hC (by omega)⟩
    obtain ⟨u, h1, h2, _⟩ := hall t ht
    rw [h1]
    exact ⟨by omega, by rwa [Int.toNat_natCast]⟩
end Go.Proofs.YtaejfleahamapaaGreat

namespace Go.Proofs.YtaejfleahamapaaGreat
open Go.RowKit
set_option linter.unusedVariables false

def lnC (r : Int) : Cv := ⟨[0], 1, r⟩
theorem ln_ok {r : Int} (h0 : 0 ≤ r) (h1 : r ≤ 1073741824) : (lnC r).Ok :=
  ⟨by show 1 ≤ 1; omega, by show 1 ≤ 400; omega, by show (1 : Int) ≤ 1; omega, by show (1 : Int) ≤ 120; omega, by show (1 : Int) ≤ ((1 : Nat) : Int); omega, h0, h1,
    fun k hk => by
      have hk' : k < 1 := hk
      have e : k = 0 := by omega
      subst e; rfl,
    by show (0 : Int) ≤ 0; omega, fun k hk => by have hk' : k + 1 < 1 := hk; omega, fun h => by exact absurd (show (0 : Int) = inf from h) (by unfold inf; omega), fun _ => by show (0 : Int) ≤ 0 + r; omega⟩
theorem ln_fin {r : Int} (h0 : 0 ≤ r) (h1 : r ≤ 1073741824) : (lnC r).Fin := ⟨ln_ok h0 h1, fun h => absurd (show (0 : Int) = inf from h) (by unfold inf; omega)⟩
theorem ln_at {r : Int} (h0 : 0 ≤ r) (h1 : r ≤ 1073741824) (t : Nat) : (lnC r).at t = t * r := by
  induction t with
  | zero => rw [Cv.at_lt (by show 0 < 1; omega)]; show (0 : Int) = _; omega
  | succ t ih =>
    have h := (ln_fin h0 h1).toL.step t (by show 1 - 1 ≤ t; omega)
    have e : (lnC r).at (t + 1) = (lnC r).at t + r := h
    rw [e, ih]
    rw [show ((t + 1 : Nat) : Int) = (t : Int) + 1 by omega, Int.add_mul, Int.one_mul]
theorem ln_nf {r : Int} (h0 : 0 ≤ r) (h1 : r ≤ 1073741824) : NF (lnC r).at (lnC r) := by
  refine .inl ⟨by show (1 : Int) ≤ 1; omega, by show (1 : Int) ≤ ((1 : Nat) : Int); omega, fun t ht => ?_, (ln_fin h0 h1).toL.step, fun q s b hq _ => hq, .inl rfl, fun t ht => ?_⟩
  · rw [Cv.at_lt ht]
  · have ht' : t < 1 := ht
    have e : t = 0 := by omega
    subst e
    rw [ln_at h0 h1]; unfold inf; omega
theorem ln_conv {r q : Int} (h0 : 0 ≤ r) (h1 : r ≤ q) (h2 : q ≤ 1073741824) : CvF (lnC r) (lnC q) (lnC r).at := fun t => by
  have fr := ln_fin h0 (show r ≤ 1073741824 by omega)
  have fq := ln_fin (show 0 ≤ q by omega) h2
  refine CvT.of (.inr ⟨⟨t, ⟨Nat.le_refl _, fr.not_infAt _, fq.not_infAt _⟩, ?_⟩, fun s hs => ?_⟩)
  · rw [ln_at (by omega) h2, Nat.sub_self]; omega
  · have h3 := hs.1
    rw [ln_at h0 (by omega), ln_at h0 (by omega), ln_at (by omega) h2]
    obtain ⟨u, rfl⟩ : ∃ u, t = s + u := ⟨t - s, by omega⟩
    rw [show s + u - s = u by omega, show ((s + u : Nat) : Int) = (s : Int) + u by omega, Int.add_mul]
    have : (u : Int) * r ≤ (u : Int) * q := Int.mul_le_mul_of_nonneg_left h1 (by omega)
    omega
theorem ln_cvs {r q : Int} (h0 : 0 ≤ r) (h1 : r ≤ q) (h2 : q ≤ 1073741824) : CvS (lnC r) (lnC q) (lnC r) 0 :=
  .inr ⟨ln_ok h0 (by omega), ln_ok (by omega) h2, lnC r, lnC q, ln_nf h0 (by omega), ln_nf (by omega) h2, .inr ⟨(by show comm 1 1 ≤ 120; decide), (lnC r).at, ln_conv h0 h1 h2, .inl ⟨ln_nf h0 (by omega), (ln_ok h0 (by omega)).lim, rfl⟩⟩⟩
end Go.Proofs.YtaejfleahamapaaGreat

namespace Go.Proofs.YtaejfleahamapaaGreat
open Go.RowKit
set_option linter.unusedVariables false

structure CH (w wx : World) (A : Option Addr) (n c : Nat) (a : Cv) (B : Option Addr) (m d : Nat) (b : Cv) (K : Int) (C : Option Addr) (k s : Nat) (h : Cv) : Prop where
  pb : Blk wx w.heap.size 91 (cpA A n c a B m d b K)
  ia : Ints wx w.heap.size A n a.vals
  ib : Ints wx w.heap.size B m b.vals
  hb : Blk wx (w.heap.size + 1) 26 #[.slice C k s, .int .i64 h.per, .int .i64 h.inc]
  ic : Ints wx w.heap.size C k h.vals
  bw : Below w.heap.size w wx
section
variable {w wx wy : World} {A B C : Option Addr} {n c m d k s : Nat} {a b h : Cv} {K : Int}
theorem CH.new (hA : Ints w w.heap.size A n a.vals) (hB : Ints w w.heap.size B m b.vals) (hC : Ints w w.heap.size C k h.vals) :
    CH w ((w.alloc (.cells (cpA A n c a B m d b K) 91)).alloc (.cells #[.slice C k s, .int .i64 h.per, .int .i64 h.inc] 26)) A n c a B m d b K C k s h := by
  have rb := Blk.new (w.alloc (.cells (cpA A n c a B m d b K) 91)) 26 #[.slice C k s, .int .i64 h.per, .int .i64 h.inc]
  rw [World.size_alloc] at rb
  exact ⟨(Blk.new _ _ _).alloc _, (hA.alloc (Nat.le_refl _) _).alloc (by simp) _, (hB.alloc (Nat.le_refl _) _).alloc (by simp) _, rb, (hC.alloc (Nat.le_refl _) _).alloc (by simp) _, bthen (balloc _ _) (balloc _ _)⟩
theorem CH.below (h' : CH w wx A n c a B m d b K C k s h) (hb : Below wx.heap.size wx wy) : CH w wy A n c a B m d b K C k s h :=
  ⟨h'.pb.below hb h'.pb.lt, h'.ia.below (hb.mono h'.bw.size), h'.ib.below (hb.mono h'.bw.size), h'.hb.below hb h'.hb.lt, h'.ic.below (hb.mono h'.bw.size), bthen h'.bw hb⟩
theorem CH.alloc (h' : CH w wx A n c a B m d b K C k s h) (o : Obj) : CH w (wx.alloc o) A n c a B m d b K C k s h := h'.below (balloc wx o)
theorem CH.drew (h' : CH w wx A n c a B m d b K C k s h) : CH w wx.drew A n c a B m d b K C k s h := ⟨h'.pb, h'.ia, h'.ib, h'.hb, h'.ic, Below.drew h'.bw⟩
theorem CH.ja (h' : CH w wx A n c a B m d b K C k s h) : Ints wx wx.heap.size A n a.vals := h'.ia.more h'.bw.size
theorem CH.jb (h' : CH w wx A n c a B m d b K C k s h) : Ints wx wx.heap.size B m b.vals := h'.ib.more h'.bw.size
theorem CH.jc (h' : CH w wx A n c a B m d b K C k s h) : Ints wx wx.heap.size C k h.vals := h'.ic.more h'.bw.size
theorem CH.cells (h' : CH w wx A n c a B m d b K C k s h) : (wx.cell? ⟨w.heap.size, 0, none⟩ = some (.slice A n c) ∧ wx.cell? ⟨w.heap.size, 1, none⟩ = some (.int .i64 a.per) ∧ wx.cell? ⟨w.heap.size, 2, none⟩ = some (.int .i64 a.inc)) ∧
    (wx.cell? ⟨w.heap.size, 3, none⟩ = some (.slice B m d) ∧ wx.cell? ⟨w.heap.size, 4, none⟩ = some (.int .i64 b.per) ∧ wx.cell? ⟨w.heap.size, 5, none⟩ = some (.int .i64 b.inc)) ∧ wx.cell? ⟨w.heap.size, 6, none⟩ = some (.int .i64 K) ∧
    (wx.cell? ⟨w.heap.size + 1, 0, none⟩ = some (.slice C k s) ∧ wx.cell? ⟨w.heap.size + 1, 1, none⟩ = some (.int .i64 h.per) ∧ wx.cell? ⟨w.heap.size + 1, 2, none⟩ = some (.int .i64 h.inc)) ∧ w.heap.size + 1 < wx.heap.size := by
  have q := fun i => h'.pb.cell i
  have q0 := q 0; have q1 := q 1; have q2 := q 2; have q3 := q 3; have q4 := q 4; have q5 := q 5; have q6 := q 6
  have r := fun i => h'.hb.cell i
  have r0 := r 0; have r1 := r 1; have r2 := r 2
  simp [cpA] at q0 q1 q2 q3 q4 q5 q6 r0 r1 r2
  exact ⟨⟨q0, q1, q2⟩, ⟨q3, q4, q5⟩, q6, ⟨r0, r1, r2⟩, h'.hb.lt⟩
end
set_option maxHeartbeats 2000000 in
set_option maxRecDepth 100000 in
theorem cphor_any (A B C : Option Addr) (n m k c d s : Nat) (a b h : Cv) (w : World) (hA : Ints w w.heap.size A n a.vals) (hB : Ints w w.heap.size B m b.vals) (hC : Ints w w.heap.size C k h.vals) (ha : a.Ok) (hb : b.Ok) (hh : h.Ok) (hK : ordC a b ≤ 120) :
    Calls Tryz.prog 41 #[.agg (cpA A n c a B m d b (ordC a b : Nat)), .agg #[.slice C k s, .int .i64 h.per, .int .i64 h.inc]] w (fun e w' => e = .returned (.int .i64 (cvH a b h : Nat)) ∧ Below w.heap.size w w') := by
  have a1 := ha.n1; have a2 := ha.n2; have a3 := ha.p1; have a4 := ha.p2; have a5 := ha.pn; have a6 := ha.i1; have a7 := ha.i2
  have b1 := hb.n1; have b2 := hb.n2; have b3 := hb.p1; have b4 := hb.p2; have b5 := hb.pn; have b6 := hb.i1; have b7 := hb.i2
  have c1' := hh.n1; have c2' := hh.n2; have c3' := hh.p1; have c4' := hh.p2; have c5' := hh.pn; have c6' := hh.i1; have c7' := hh.i2
  have hln : a.vals.length = n := hA.1
  have hlm : b.vals.length = m := hB.1
  have hlk : h.vals.length = k := hC.1
  rw [hln] at a1 a2 a5
  rw [hlm] at b1 b2 b5
  rw [hlk] at c1' c2' c5'
  obtain ⟨K0, hK0⟩ : ∃ K0 : Nat, K0 = ordC a b := ⟨_, rfl⟩
  obtain ⟨KC, hKC⟩ : ∃ KC : Int, KC = (K0 : Int) := ⟨_, rfl⟩
  obtain ⟨X, hX⟩ : ∃ X : Nat, X = cvH a b h := ⟨_, rfl⟩
  obtain ⟨S, hS⟩ : ∃ S : Nat, S = max (cst a + cst b) (cst h) := ⟨_, rfl⟩
  obtain ⟨T, hT⟩ : ∃ T : Nat, T = cst a + cst b := ⟨_, rfl⟩
  have hSX : (X : Int) = (S : Int) + KC := by rw [hX, hS, hKC, hK0]; unfold cvH; omega
  have hTn : (T : Int) = (n : Int) - a.per + ((m : Int) - b.per) := by rw [hT]; unfold cst; rw [hln, hlm]; omega
  have hS2 : S ≤ 800 := by rw [hS]; unfold cst; rw [hln, hlm, hlk]; omega
  have hT2 : T ≤ 800 := by rw [hT]; unfold cst; rw [hln, hlm]; omega
  have hmx : (if (T : Int) < (k : Int) - h.per then (k : Int) - h.per else (T : Int)) = (S : Int) := by
    rw [hS, ← hT]; unfold cst; rw [hlk]; split <;> omega
  have hKb : 0 ≤ KC ∧ KC ≤ 120 := by omega
  have e1 : IntKind.i64.wrap ((S : Int) + KC) = (X : Int) := by rw [IntWalk.i64_in _ (by omega)]; omega
  have e2 : (S : Int) + KC = (X : Int) := by omega
  have e3 : IntKind.i64.wrap (X : Int) = (X : Int) := IntWalk.i64_in _ (by omega)
  have e4 : IntKind.i64.wrap ((n : Int) - a.per + ((m : Int) - b.per)) = (T : Int) := by rw [IntWalk.i64_in _ (by omega)]; omega
  have e5 : (n : Int) - a.per + ((m : Int) - b.per) = (T : Int) := by omega
  have e6 : IntKind.i64.wrap (T : Int) = (T : Int) := IntWalk.i64_in _ (by omega)
  rw [← hX, ← hK0, ← hKC]
  have E := Lib.hid (CH.new (c := c) (d := d) (K := KC) (s := s) (h := h) hA hB hC)
  clear hA hB hC ha hb hh hX hS hT hln hlm hlk hSX hTn hK hK0 hKC
  unfold cpA at E
  unfold cpA
  go_enter Tryz.func41, Tryz.ntmps41
  go_upto_region 1 with fail
  generalize hwe : (w.alloc (.cells #[.slice A n c, .int .i64 a.per, .int .i64 a.inc, .slice B m d, .int .i64 b.per, .int .i64 b.inc, .int .i64 KC] 91)).alloc (.cells #[.slice C k s, .int .i64 h.per, .int .i64 h.inc] 26) = we at *
  clear hwe
  have E : Hid (CH w we A n c a B m d b KC C k s h) := E
  generalize (Value.agg #[.slice A n c, .int .i64 a.per, .int .i64 a.inc, .slice B m d, .int .i64 b.per, .int .i64 b.inc, .int .i64 KC]) = v0
  generalize (Value.agg #[.slice C k s, .int .i64 h.per, .int .i64 h.inc]) = v1
  go_cut [4] (fun s4 wx => s4 = .int .i64 X ∧ CH w wx A n c a B m d b KC C k s h)
  case first =>
    have E := Lib.hid E.out.drew
    obtain ⟨⟨f0, f1, f2⟩, ⟨g0, g1, g2⟩, p6, ⟨h0, h1, h2⟩, hlh⟩ := E.out.cells
    refine wp_region_held_drew (S := (fun w' => w'.cell? ⟨w.heap.size, 0, none⟩ = some (.slice A n c) ∧ w'.cell? ⟨w.heap.size, 1, none⟩ = some (.int .i64 a.per) ∧ w'.cell? ⟨w.heap.size, 2, none⟩ = some (.int .i64 a.inc) ∧ w'.cell? ⟨w.heap.size, 3, none⟩ = some (.slice B m d) ∧ w'.cell? ⟨w.heap.size, 4, none⟩ = some (.int .i64 b.per) ∧ w'.cell? ⟨w.heap.size, 5, none⟩ = some (.int .i64 b.inc) ∧ w'.cell? ⟨w.heap.size, 6, none⟩ = some (.int .i64 KC) ∧ w'.cell? ⟨w.heap.size + 1, 0, none⟩ = some (.slice C k s) ∧ w'.cell? ⟨w.heap.size + 1, 1, none⟩ = some (.int .i64 h.per) ∧ w'.cell? ⟨w.heap.size + 1, 2, none⟩ = some (.int .i64 h.inc))) (by kernel_rfl) (by exact ⟨f0, f1, f2, g0, g1, g2, p6, h0, h1, h2⟩) (fun hHeld => ?_)
    generalize hwd : we.drew = wd at *
    clear hwd
    refine tkS (i := 0) (v := ?_) ?_ ?_
    rotate_left 1
    · (intro w hSw; (try dsimp only at hSw); go_simp; try with_reducible rfl)
    all_goals ((try simp only [Act.put]); try simp only [g8b, g8c, g8d])
    refine tkS (i := 1) (v := ?_) ?_ ?_
    rotate_left 1
    · (intro w hSw; (try dsimp only at hSw); go_simp; try with_reducible rfl)
    all_goals ((try simp only [Act.put]); try simp only [g8b, g8c, g8d])
    refine tkS (i := 3) (v := ?_) ?_ ?_
    rotate_left 1
    · (intro w hSw; (try dsimp only at hSw); go_simp; try with_reducible rfl)
    all_goals ((try simp only [Act.put]); try simp only [g8b, g8c, g8d])
    refine tkS (i := 4) (v := ?_) ?_ ?_
    rotate_left 1
    · (intro w hSw; (try dsimp only at hSw); go_simp; try with_reducible rfl)
    all_goals ((try simp only [Act.put]); try simp only [g8b, g8c, g8d])
    refine tkS (i := 7) (v := ?_) ?_ ?_
    rotate_left 1
    · (intro w hSw; (try dsimp only at hSw); go_simp; try with_reducible rfl)
    all_goals ((try simp only [Act.put]); try simp only [g8b, g8c, g8d])
    refine tkS (i := 10) (v := ?_) ?_ ?_
    rotate_left 1
    · (intro w hSw; (try dsimp only at hSw); go_simp; try with_reducible rfl)
    all_goals ((try simp only [Act.put]); try simp only [g8b, g8c, g8d])
    refine tkS (i := 11) (v := ?_) ?_ ?_
    rotate_left 1
    · (intro w hSw; (try dsimp only at hSw); go_simp; try with_reducible rfl)
    all_goals ((try simp only [Act.put]); try simp only [g8b, g8c, g8d])
    refine wpAnyH_ready (rs := [2]) (by kernel_rfl) (by simp) ?_
    refine (AllReadyH.cons (by simp only [g8a, g8s, g8z]; rfl) (fun K hK => ?_) AllReadyH.nil)
    rw [if_pos (by rfl)]
    go_simp
    refine (start_any A n c a.per a.inc _ (by omega) (by omega) (by omega)).mono ?_
    rintro e w3 ⟨rfl, hb⟩
    replace E := Lib.hid (E.out.below hb)
    clear hb
    try clear hHeld
    clear f0 f1 f2 g0 g1 g2 p6 h0 h1 h2 hlh
    obtain ⟨⟨f0, f1, f2⟩, ⟨g0, g1, g2⟩, p6, ⟨h0, h1, h2⟩, hlh⟩ := E.out.cells
    refine hK.out _ _ (by exact ⟨f0, f1, f2, g0, g1, g2, p6, h0, h1, h2⟩) (fun hHeld => ?_)
    clear hK K
    (try simp only [Act.put]); (try simp only [g8b]); (try simp only [g8c]); (try simp only [g8d])
    refine wpAnyH_ready (rs := [5]) (by kernel_rfl) (by simp) ?_
    refine (AllReadyH.cons (by simp only [g8a, g8s, g8z]; rfl) (fun K hK => ?_) AllReadyH.nil)
    rw [if_pos (by rfl)]
    go_simp
    refine (start_any B m d b.per b.inc _ (by omega) (by omega) (by omega)).mono ?_
    rintro e w4 ⟨rfl, hb⟩
    replace E := Lib.hid (E.out.below hb)
    clear hb
    try clear hHeld
    clear f0 f1 f2 g0 g1 g2 p6 h0 h1 h2 hlh
    obtain ⟨⟨f0, f1, f2⟩, ⟨g0, g1, g2⟩, p6, ⟨h0, h1, h2⟩, hlh⟩ := E.out.cells
    refine hK.out _ _ (by exact ⟨f0, f1, f2, g0, g1, g2, p6, h0, h1, h2⟩) (fun hHeld => ?_)
    clear hK K
    (try simp only [Act.put]); (try simp only [g8b]); (try simp only [g8c]); (try simp only [g8d])
    refine tkS (i := 6) (v := ?_) ?_ ?_
    rotate_left 1
    · (intro w hSw; (try dsimp only at hSw); go_simp; try with_reducible rfl)
    all_goals ((try simp only [Act.put]); try simp only [g8b, g8c, g8d])
    refine wpAnyH_ready (rs := [8]) (by kernel_rfl) (by simp) ?_
    refine (AllReadyH.cons (by simp only [g8a, g8s, g8z]; rfl) (fun K hK => ?_) AllReadyH.nil)
    rw [if_pos (by rfl)]
    go_simp
    refine (start_any C k s h.per h.inc _ (by omega) (by omega) (by omega)).mono ?_
    rintro e w5 ⟨rfl, hb⟩
    replace E := Lib.hid (E.out.below hb)
    clear hb
    try clear hHeld
    clear f0 f1 f2 g0 g1 g2 p6 h0 h1 h2 hlh
    obtain ⟨⟨f0, f1, f2⟩, ⟨g0, g1, g2⟩, p6, ⟨h0, h1, h2⟩, hlh⟩ := E.out.cells
    refine hK.out _ _ (by exact ⟨f0, f1, f2, g0, g1, g2, p6, h0, h1, h2⟩) (fun hHeld => ?_)
    clear hK K
    (try simp only [Act.put]); (try simp only [g8b]); (try simp only [g8c]); (try simp only [g8d])
    refine wpAnyH_ready (rs := [9]) (by kernel_rfl) (by simp) ?_
    refine (AllReadyH.cons (by simp only [g8a, g8s, g8z]; rfl) (fun K hK => ?_) AllReadyH.nil)
    rw [if_pos (by rfl)]
    go_simp
    refine hK.out _ _ (by exact ⟨f0, f1, f2, g0, g1, g2, p6, h0, h1, h2⟩) (fun hHeld => ?_)
    clear hK K
    (try simp only [Act.put]); (try simp only [g8b]); (try simp only [g8c]); (try simp only [g8d])
    refine tkS (i := 12) (v := ?_) ?_ ?_
    rotate_left 1
    · (intro w hSw; (try dsimp only at hSw); go_simp; try with_reducible rfl)
    all_goals ((try simp only [Act.put]); try simp only [g8b, g8c, g8d])
    refine tkS (i := 13) (v := ?_) ?_ ?_
    rotate_left 1
    · (intro w hSw; (try dsimp only at hSw); go_simp; try with_reducible rfl)
    all_goals ((try simp only [Act.put]); try simp only [g8b, g8c, g8d])
    refine wpAnyH_done (by kernel_rfl) ?_ _
    go_wp2_with fail
    go_meet
    exact ⟨rfl, E.out⟩
  case rest =>
    clear E
    obtain ⟨rfl, hE⟩ := hcut
    have bw := hE.bw
    clear hE
    go_wp2_with fail
    go_ret
    exact ⟨rfl, bw⟩
set_option maxHeartbeats 4000000 in
set_option maxRecDepth 100000 in
theorem cprep_any (A B C : Option Addr) (n m k c d s t u : Nat) (a b h : Cv) (w : World) (hA : Ints w w.heap.size A n a.vals) (hB : Ints w w.heap.size B m b.vals) (hC : Ints w w.heap.size C k h.vals) (ha : a.Ok) (hb : b.Ok) (hh : h.Ok) (hK : ordC a b ≤ 120) (hut : u ≤ t) (ht : t ≤ 4000) :
    Calls Tryz.prog 45 #[.agg (cpA A n c a B m d b (ordC a b : Nat)), .agg #[.slice C k s, .int .i64 h.per, .int .i64 h.inc], .int .i64 u, .int .i64 t] w (RetQ (Rep a b h t u) w) := by
  have a1 := ha.n1; have a2 := ha.n2; have a3 := ha.p1; have a4 := ha.p2; have a5 := ha.pn; have a6 := ha.i1; have a7 := ha.i2
  have b1 := hb.n1; have b2 := hb.n2; have b3 := hb.p1; have b4 := hb.p2; have b5 := hb.pn; have b6 := hb.i1; have b7 := hb.i2
  have c1' := hh.n1; have c2' := hh.n2; have c3' := hh.p1; have c4' := hh.p2; have c5' := hh.pn; have c6' := hh.i1; have c7' := hh.i2
  have hln : a.vals.length = n := hA.1
  have hlm : b.vals.length = m := hB.1
  have hlk : h.vals.length = k := hC.1
  rw [hln] at a1 a2 a5
  rw [hlm] at b1 b2 b5
  rw [hlk] at c1' c2' c5'
  obtain ⟨KC, hKC⟩ : ∃ KC : Int, KC = (ordC a b : Nat) := ⟨_, rfl⟩
  obtain ⟨fa, hfa⟩ : ∃ z, z = (nth a.vals (n - 1) != inf) := ⟨_, rfl⟩
  obtain ⟨fb, hfb⟩ : ∃ z, z = (nth b.vals (m - 1) != inf) := ⟨_, rfl⟩
  have LA := Lib.hid (show fa = true ↔ a.Fin from by rw [hfa, bne_iff_ne, ← hln]; exact ⟨fun h => ⟨ha, h⟩, fun h => h.2⟩)
  have LB := Lib.hid (show fb = true ↔ b.Fin from by rw [hfb, bne_iff_ne, ← hlm]; exact ⟨fun h => ⟨hb, h⟩, fun h => h.2⟩)
  obtain ⟨ga, hga⟩ : ∃ z, z = ((KC.toNat / a.per.toNat : Nat) : Int) * a.inc := ⟨_, rfl⟩
  obtain ⟨gb, hgb⟩ : ∃ z, z = ((KC.toNat / b.per.toNat : Nat) : Int) * b.inc := ⟨_, rfl⟩
  obtain ⟨gl, hgl⟩ : ∃ z, z = ((KC.toNat / h.per.toNat : Nat) : Int) * h.inc := ⟨_, rfl⟩
  have HA1 := Lib.hid (show ga = gnA a b from by rw [hga, hKC]; rfl)
  have HB1 := Lib.hid (show gb = gnB a b from by rw [hgb, hKC]; rfl)
  have HL1 := Lib.hid (show gl = gnl h (ordC a b) from by rw [hgl, hKC]; rfl)
  have SA := Lib.hid (show (cst a : Int) = (n : Int) - a.per from by unfold cst; rw [hln]; omega)
  have SB := Lib.hid (show (cst b : Int) = (m : Int) - b.per from by unfold cst; rw [hlm]; omega)
  have hKb : 0 ≤ KC ∧ KC ≤ 120 := by omega
  obtain ⟨hKb1, hKb2⟩ := hKb
  have HFA := Lib.hid hfa; have HFB := Lib.hid hfb; have HGA := Lib.hid hga; have HGB := Lib.hid hgb; have HGL := Lib.hid hgl
  rw [← hKC]
  have E := Lib.hid (CH.new (c := c) (d := d) (K := KC) (s := s) (h := h) hA hB hC)
  clear hA hB hC ha hb hh hln hlm hlk hK hKC hfa hfb hga hgb hgl
  unfold cpA at E
  unfold cpA
  go_enter Tryz.func45, Tryz.ntmps45
  go_upto_region 1 with fail
  generalize hwe : (w.alloc (.cells #[.slice A n c, .int .i64 a.per, .int .i64 a.inc, .slice B m d, .int .i64 b.per, .int .i64 b.inc, .int .i64 KC] 91)).alloc (.cells #[.slice C k s, .int .i64 h.per, .int .i64 h.inc] 26) = we at *
  clear hwe
  have E : Hid (CH w we A n c a B m d b KC C k s h) := E
  generalize (Value.agg #[.slice A n c, .int .i64 a.per, .int .i64 a.inc, .slice B m d, .int .i64 b.per, .int .i64 b.inc, .int .i64 KC]) = v0
  generalize (Value.agg #[.slice C k s, .int .i64 h.per, .int .i64 h.inc]) = v1
  obtain ⟨⟨f0, f1, f2⟩, ⟨g0, g1, g2⟩, p6, ⟨h0, h1, h2⟩, hlh⟩ := E.out.cells
  go_wp2_with fail
  refine (gain_any C k s h.per h.inc KC _ (by omega) (by omega) (by omega) (by omega) (by omega)).mono ?_
  rw [← HGL.out]
  rintro e w1 ⟨rfl, hb⟩
  replace E := Lib.hid (E.out.below hb)
  clear hb
  try clear hHeld
  clear f0 f1 f2 g0 g1 g2 p6 h0 h1 h2 hlh
  obtain ⟨⟨f0, f1, f2⟩, ⟨g0, g1, g2⟩, p6, ⟨h0, h1, h2⟩, hlh⟩ := E.out.cells
  go_wp2_with fail
  refine (finite_any A n c a.per a.inc a.vals _ (by exact E.out.ja) (by omega) (by omega)).mono ?_
  rw [← HFA.out]
  rintro e w2 ⟨rfl, hb⟩
  replace E := Lib.hid (E.out.below hb)
  clear hb
  try clear hHeld
  clear f0 f1 f2 g0 g1 g2 p6 h0 h1 h2 hlh
  obtain ⟨⟨f0, f1, f2⟩, ⟨g0, g1, g2⟩, p6, ⟨h0, h1, h2⟩, hlh⟩ := E.out.cells
  cases fa
  case false =>
    have N1 := Lib.hid (show ¬ (a.Fin ∧ gnA a b = gnl h (ordC a b) ∧ cst a ≤ u) from fun hr => by have := LA.out.2 hr.1; cases this)
    clear f0 f1 f2 p6 h0 h1 h2 g0 g1 g2 hlh
    obtain ⟨⟨f0, f1, f2⟩, ⟨g0, g1, g2⟩, p6, ⟨h0, h1, h2⟩, hlh⟩ := E.out.cells
    go_wp2_with fail
    refine (finite_any B m d b.per b.inc b.vals _ (by exact E.out.jb) (by omega) (by omega)).mono ?_
    rw [← HFB.out]
    rintro e wb ⟨rfl, hb⟩
    replace E := Lib.hid (E.out.below hb)
    clear hb
    try clear hHeld
    clear f0 f1 f2 g0 g1 g2 p6 h0 h1 h2 hlh
    obtain ⟨⟨f0, f1, f2⟩, ⟨g0, g1, g2⟩, p6, ⟨h0, h1, h2⟩, hlh⟩ := E.out.cells
    cases fb
    case false =>
      have FIN := Lib.hid (show ¬ Rep a b h t u from fun hr => hr.elim N1.out (fun hr => by have := LB.out.2 hr.1; cases this))
      have bw := E.out.bw
      go_wp2_with fail
      go_ret
      exact RetQ.no FIN.out bw
    case true =>
      go_wp2_with fail
      refine (gain_any B m d b.per b.inc KC _ (by omega) (by omega) (by omega) (by omega) (by omega)).mono ?_
      rw [← HGB.out]
      rintro e wc ⟨rfl, hb⟩
      replace E := Lib.hid (E.out.below hb)
      clear hb
      try clear hHeld
      clear f0 f1 f2 g0 g1 g2 p6 h0 h1 h2 hlh
      obtain ⟨⟨f0, f1, f2⟩, ⟨g0, g1, g2⟩, p6, ⟨h0, h1, h2⟩, hlh⟩ := E.out.cells
      by_cases q1 : gb = gl
      case neg =>
        have d1 : (gb == gl) = false := by simpa using q1
        have Q1 := Lib.hid q1
        clear q1
        have FIN := Lib.hid (show ¬ Rep a b h t u from fun hr => hr.elim N1.out (fun hr => Q1.out (by rw [HB1.out, HL1.out]; exact hr.2.1)))
        have bw := E.out.bw
        go_wp2_with fail
        go_ret
        exact RetQ.no FIN.out bw
      case pos =>
        have d1 : (gb == gl) = true := by simpa using q1
        have Q1 := Lib.hid q1
        clear q1
        go_wp2_with fail
        refine (start_any B m d b.per b.inc _ (by omega) (by omega) (by omega)).mono ?_
        rintro e wd ⟨rfl, hb⟩
        replace E := Lib.hid (E.out.below hb)
        clear hb
        try clear hHeld
        clear f0 f1 f2 g0 g1 g2 p6 h0 h1 h2 hlh
        obtain ⟨⟨f0, f1, f2⟩, ⟨g0, g1, g2⟩, p6, ⟨h0, h1, h2⟩, hlh⟩ := E.out.cells
        by_cases q2 : (m : Int) - b.per ≤ (t : Int) - (u : Int)
        case neg =>
          have d2 : decide ((m : Int) - b.per ≤ (t : Int) - (u : Int)) = false := by simpa using q2
          have Q2 := Lib.hid q2
          clear q2
          have FIN := Lib.hid (show ¬ Rep a b h t u from fun hr => hr.elim N1.out (fun hr => Q2.out (by have := hr.2.2; have := SB.out; omega)))
          have bw := E.out.bw
          go_wp2_with fail
          go_ret
          exact RetQ.no FIN.out bw
        case pos =>
          have d2 : decide ((m : Int) - b.per ≤ (t : Int) - (u : Int)) = true := by simpa using q2
          have FIN := Lib.hid (show Rep a b h t u from .inr ⟨LB.out.1 (by first | rfl | trivial), by rw [← HB1.out, ← HL1.out]; exact Q1.out, by have := SB.out; omega⟩)
          clear q2
          have bw := E.out.bw
          go_wp2_with fail
          go_ret
          exact RetQ.yes FIN.out bw
  case true =>
    go_wp2_with fail
    refine (gain_any A n c a.per a.inc KC _ (by omega) (by omega) (by omega) (by omega) (by omega)).mono ?_
    rw [← HGA.out]
    rintro e w3 ⟨rfl, hb⟩
    replace E := Lib.hid (E.out.below hb)
    clear hb
    try clear hHeld
    clear f0 f1 f2 g0 g1 g2 p6 h0 h1 h2 hlh
    obtain ⟨⟨f0, f1, f2⟩, ⟨g0, g1, g2⟩, p6, ⟨h0, h1, h2⟩, hlh⟩ := E.out.cells
    by_cases r1 : ga = gl
    case neg =>
      have dr : (ga == gl) = false := by simpa using r1
      have N1 := Lib.hid (show ¬ (a.Fin ∧ gnA a b = gnl h (ordC a b) ∧ cst a ≤ u) from fun hr => r1 (by rw [HA1.out, HL1.out]; exact hr.2.1))
      clear r1
      clear f0 f1 f2 p6 h0 h1 h2 g0 g1 g2 hlh
      obtain ⟨⟨f0, f1, f2⟩, ⟨g0, g1, g2⟩, p6, ⟨h0, h1, h2⟩, hlh⟩ := E.out.cells
      go_wp2_with fail
      refine (finite_any B m d b.per b.inc b.vals _ (by exact E.out.jb) (by omega) (by omega)).mono ?_
      rw [← HFB.out]
      rintro e wb ⟨rfl, hb⟩
      replace E := Lib.hid (E.out.below hb)
      clear hb
      try clear hHeld
      clear f0 f1 f2 g0 g1 g2 p6 h0 h1 h2 hlh
      obtain ⟨⟨f0, f1, f2⟩, ⟨g0, g1, g2⟩, p6, ⟨h0, h1, h2⟩, hlh⟩ := E.out.cells
      cases fb
      case false =>
        have FIN := Lib.hid (show ¬ Rep a b h t u from fun hr => hr.elim N1.out (fun hr => by have := LB.out.2 hr.1; cases this))
        have bw := E.out.bw
        go_wp2_with fail
        go_ret
        exact RetQ.no FIN.out bw
      case true =>
        go_wp2_with fail
        refine (gain_any B m d b.per b.inc KC _ (by omega) (by omega) (by omega) (by omega) (by omega)).mono ?_
        rw [← HGB.out]
        rintro e wc ⟨rfl, hb⟩
        replace E := Lib.hid (E.out.below hb)
        clear hb
        try clear hHeld
        clear f0 f1 f2 g0 g1 g2 p6 h0 h1 h2 hlh
        obtain ⟨⟨f0, f1, f2⟩, ⟨g0, g1, g2⟩, p6, ⟨h0, h1, h2⟩, hlh⟩ := E.out.cells
        by_cases q1 : gb = gl
        case neg =>
          have d1 : (gb == gl) = false := by simpa using q1
          have Q1 := Lib.hid q1
          clear q1
          have FIN := Lib.hid (show ¬ Rep a b h t u from fun hr => hr.elim N1.out (fun hr => Q1.out (by rw [HB1.out, HL1.out]; exact hr.2.1)))
          have bw := E.out.bw
          go_wp2_with fail
          go_ret
          exact RetQ.no FIN.out bw
        case pos =>
          have d1 : (gb == gl) = true := by simpa using q1
          have Q1 := Lib.hid q1
          clear q1
          go_wp2_with fail
          refine (start_any B m d b.per b.inc _ (by omega) (by omega) (by omega)).mono ?_
          rintro e wd ⟨rfl, hb⟩
          replace E := Lib.hid (E.out.below hb)
          clear hb
          try clear hHeld
          clear f0 f1 f2 g0 g1 g2 p6 h0 h1 h2 hlh
          obtain ⟨⟨f0, f1, f2⟩, ⟨g0, g1, g2⟩, p6, ⟨h0, h1, h2⟩, hlh⟩ := E.out.cells
          by_cases q2 : (m : Int) - b.per ≤ (t : Int) - (u : Int)
          case neg =>
            have d2 : decide ((m : Int) - b.per ≤ (t : Int) - (u : Int)) = false := by simpa using q2
            have Q2 := Lib.hid q2
            clear q2
            have FIN := Lib.hid (show ¬ Rep a b h t u from fun hr => hr.elim N1.out (fun hr => Q2.out (by have := hr.2.2; have := SB.out; omega)))
            have bw := E.out.bw
            go_wp2_with fail
            go_ret
            exact RetQ.no FIN.out bw
          case pos =>
            have d2 : decide ((m : Int) - b.per ≤ (t : Int) - (u : Int)) = true := by simpa using q2
            have FIN := Lib.hid (show Rep a b h t u from .inr ⟨LB.out.1 (by first | rfl | trivial), by rw [← HB1.out, ← HL1.out]; exact Q1.out, by have := SB.out; omega⟩)
            clear q2
            have bw := E.out.bw
            go_wp2_with fail
            go_ret
            exact RetQ.yes FIN.out bw
    case pos =>
      have dr : (ga == gl) = true := by simpa using r1
      have R1 := Lib.hid r1
      clear r1
      go_wp2_with fail
      refine (start_any A n c a.per a.inc _ (by omega) (by omega) (by omega)).mono ?_
      rintro e w4 ⟨rfl, hb⟩
      replace E := Lib.hid (E.out.below hb)
      clear hb
      try clear hHeld
      clear f0 f1 f2 g0 g1 g2 p6 h0 h1 h2 hlh
      obtain ⟨⟨f0, f1, f2⟩, ⟨g0, g1, g2⟩, p6, ⟨h0, h1, h2⟩, hlh⟩ := E.out.cells
      by_cases r2 : (n : Int) - a.per ≤ (u : Int)
      case neg =>
        have d9 : decide ((n : Int) - a.per ≤ (u : Int)) = false := by simpa using r2
        have N1 := Lib.hid (show ¬ (a.Fin ∧ gnA a b = gnl h (ordC a b) ∧ cst a ≤ u) from fun hr => r2 (by have := hr.2.2; have := SA.out; omega))
        clear r2
        clear f0 f1 f2 p6 h0 h1 h2 g0 g1 g2 hlh
        obtain ⟨⟨f0, f1, f2⟩, ⟨g0, g1, g2⟩, p6, ⟨h0, h1, h2⟩, hlh⟩ := E.out.cells
        go_wp2_with fail
        refine (finite_any B m d b.per b.inc b.vals _ (by exact E.out.jb) (by omega) (by omega)).mono ?_
        rw [← HFB.out]
        rintro e wb ⟨rfl, hb⟩
        replace E := Lib.hid (E.out.below hb)
        clear hb
        try clear hHeld
        clear f0 f1 f2 g0 g1 g2 p6 h0 h1 h2 hlh
        obtain ⟨⟨f0, f1, f2⟩, ⟨g0, g1, g2⟩, p6, ⟨h0, h1, h2⟩, hlh⟩ := E.out.cells
        cases fb
        case false =>
          have FIN := Lib.hid (show ¬ Rep a b h t u from fun hr => hr.elim N1.out (fun hr => by have := LB.out.2 hr.1; cases this))
          have bw := E.out.bw
          go_wp2_with fail
          go_ret
          exact RetQ.no FIN.out bw
        case true =>
          go_wp2_with fail
          refine (gain_any B m d b.per b.inc KC _ (by omega) (by omega) (by omega) (by omega) (by omega)).mono ?_
          rw [← HGB.out]
          rintro e wc ⟨rfl, hb⟩
          replace E := Lib.hid (E.out.below hb)
          clear hb
          try clear hHeld
          clear f0 f1 f2 g0 g1 g2 p6 h0 h1 h2 hlh
          obtain ⟨⟨f0, f1, f2⟩, ⟨g0, g1, g2⟩, p6, ⟨h0, h1, h2⟩, hlh⟩ := E.out.cells
          by_cases q1 : gb = gl
          case neg =>
            have d1 : (gb == gl) = false := by simpa using q1
            have Q1 := Lib.hid q1
            clear q1
            have FIN := Lib.hid (show ¬ Rep a b h t u from fun hr => hr.elim N1.out (fun hr => Q1.out (by rw [HB1.out, HL1.out]; exact hr.2.1)))
            have bw := E.out.bw
            go_wp2_with fail
            go_ret
            exact RetQ.no FIN.out bw
          case pos =>
            have d1 : (gb == gl) = true := by simpa using q1
            have Q1 := Lib.hid q1
            clear q1
            go_wp2_with fail
            refine (start_any B m d b.per b.inc _ (by omega) (by omega) (by omega)).mono ?_
            rintro e wd ⟨rfl, hb⟩
            replace E := Lib.hid (E.out.below hb)
            clear hb
            try clear hHeld
            clear f0 f1 f2 g0 g1 g2 p6 h0 h1 h2 hlh
            obtain ⟨⟨f0, f1, f2⟩, ⟨g0, g1, g2⟩, p6, ⟨h0, h1, h2⟩, hlh⟩ := E.out.cells
            by_cases q2 : (m : Int) - b.per ≤ (t : Int) - (u : Int)
            case neg =>
              have d2 : decide ((m : Int) - b.per ≤ (t : Int) - (u : Int)) = false := by simpa using q2
              have Q2 := Lib.hid q2
              clear q2
              have FIN := Lib.hid (show ¬ Rep a b h t u from fun hr => hr.elim N1.out (fun hr => Q2.out (by have := hr.2.2; have := SB.out; omega)))
              have bw := E.out.bw
              go_wp2_with fail
              go_ret
              exact RetQ.no FIN.out bw
            case pos =>
              have d2 : decide ((m : Int) - b.per ≤ (t : Int) - (u : Int)) = true := by simpa using q2
              have FIN := Lib.hid (show Rep a b h t u from .inr ⟨LB.out.1 (by first | rfl | trivial), by rw [← HB1.out, ← HL1.out]; exact Q1.out, by have := SB.out; omega⟩)
              clear q2
              have bw := E.out.bw
              go_wp2_with fail
              go_ret
              exact RetQ.yes FIN.out bw
      case pos =>
        have d9 : decide ((n : Int) - a.per ≤ (u : Int)) = true := by simpa using r2
        have FIN := Lib.hid (show Rep a b h t u from .inl ⟨LA.out.1 (by first | rfl | trivial), by rw [← HA1.out, ← HL1.out]; exact R1.out, by have := SA.out; omega⟩)
        clear r2
        have bw := E.out.bw
        go_wp2_with fail
        go_ret
        exact RetQ.yes FIN.out bw
end Go.Proofs.YtaejfleahamapaaGreat

