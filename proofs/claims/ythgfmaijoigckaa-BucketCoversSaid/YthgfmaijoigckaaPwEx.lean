/- Plain words: what Sum, Minimum, Maximum and their like return for two curves with a short common period; the examples of the chapter. -/
import Derived.Test.YthgfmaijoigckaaPwLaw2
import Derived.Test.YthgfmaijoigckaaEx10
namespace Go.Proofs.Ythgfmaijoigckaa
set_option linter.unusedVariables false

/-- the two normal forms have a short common period -/
def Short (f g : Cv) : Prop := ∃ a b, NF f.at a ∧ NF g.at b ∧ comm a.per.toNat b.per.toNat ≤ 120
theorem PairS.made {S : Cv → Cv → Cv → Int → Prop} {f g r : Cv} {er : Int} (hf : f.Ok) (hg : g.Ok) (hp : Short f g) (h : PairS S f g r er) : ∃ a b, NF f.at a ∧ NF g.at b ∧ S a b r er := by
  obtain ⟨a, b, ha, hb, hc⟩ := hp
  rcases h with ⟨h, _⟩ | ⟨_, _, a', b', ha', hb', h⟩
  · exact absurd ⟨hf, hg⟩ h
  · obtain rfl := ha.unique ha'
    obtain rfl := hb.unique hb'
    rcases h with ⟨h, _⟩ | ⟨_, h⟩
    · omega
    · exact ⟨a, b, ha, hb, h⟩
theorem SumS.made {f g r : Cv} {er : Int} (hf : f.Ok) (hg : g.Ok) (hp : Short f g) (h : SumS f g r er) : MadeL (sumV f g) r er := by
  obtain ⟨a, b, ha, hb, h⟩ := PairS.made (S := fun a b r er => MadeS (sumV a b) r er) hf hg hp h
  have h' : MadeS (sumV a b) r er := h
  rw [sumV_nf hf hg ha hb] at h'
  exact h'.toL
theorem ExtS.made {l : Bool} {f g r : Cv} {er : Int} (hf : f.Ok) (hg : g.Ok) (hp : Short f g) (h : ExtS l f g r er) : MadeL (exV l f g) r er := by
  obtain ⟨a, b, ha, hb, h⟩ := PairS.made (S := fun a b r er => MadeL (exV l a b) r er) hf hg hp h
  have h' : MadeL (exV l a b) r er := h
  rwa [exV_nf hf hg ha hb] at h'
theorem OneS.made {lo hi : Int} {S : Cv → Cv → Int → Prop} {f r : Cv} {n er : Int} (hf : f.Ok) (h1 : lo ≤ n) (h2 : n ≤ hi) (h : OneS lo hi S f n r er) : ∃ a, NF f.at a ∧ S a r er := by
  rcases h with ⟨h, _⟩ | ⟨_, h, _⟩ | ⟨_, _, _, a, ha, h⟩
  · exact absurd hf h
  · omega
  · exact ⟨a, ha, h⟩
theorem RaiseS.made {f r : Cv} {n er : Int} (hf : f.Ok) (h1 : 0 ≤ n) (h2 : n ≤ 1073741824) (h : RaiseS f n r er) : MadeL (raiseV f n) r er := by
  obtain ⟨a, ha, h⟩ := OneS.made (S := fun a r er => MadeL (raiseV a n) r er) hf h1 h2 h
  have h' : MadeL (raiseV a n) r er := h
  rwa [raise_nf hf ha] at h'
theorem LowerS.made {f r : Cv} {n er : Int} (hf : f.Ok) (h1 : 0 ≤ n) (h2 : n ≤ 1073741824) (h : LowerS f n r er) : MadeL (lowerV f n) r er := by
  obtain ⟨a, ha, h⟩ := OneS.made (S := fun a r er => MadeL (lowerV a n) r er) hf h1 h2 h
  have h' : MadeL (lowerV a n) r er := h
  rwa [lower_nf hf ha] at h'
theorem AheadFS.made {f r : Cv} {n er : Int} (hf : f.Ok) (h1 : 0 ≤ n) (h2 : n ≤ 1048576) (h : AheadFS f n r er) : MadeL (aheadV f n.toNat) r er := by
  obtain ⟨a, ha, h⟩ := OneS.made (S := fun a r er => MadeL (aheadV a n.toNat) r er) hf h1 h2 h
  have h' : MadeL (aheadV a n.toNat) r er := h
  rwa [ahead_nf ha] at h'
theorem LaterS.made {f r : Cv} {n er : Int} (hf : f.Ok) (h1 : 0 ≤ n) (h2 : n ≤ 1048576) (h : LaterS f n r er) : MadeL (laterV f n.toNat) r er := by
  obtain ⟨a, ha, h⟩ := OneS.made (S := fun a r er => MadeS (laterV a n.toNat) r er) hf h1 h2 h
  have h' : MadeS (laterV a n.toNat) r er := h
  rw [later_nf ha] at h'
  exact h'.toL
theorem ScaleS.made {f r : Cv} {n er : Int} (hf : f.Ok) (h1 : 1 ≤ n) (h2 : n ≤ 1073741824) (h : ScaleS f n r er) : MadeL (scaleV f n) r er := by
  obtain ⟨a, ha, h⟩ := OneS.made (S := fun a r er => MadeS (scaleV a n) r er) hf h1 h2 h
  have h' : MadeS (scaleV a n) r er := h
  rw [scale_nf hf ha] at h'
  exact h'.toL
/-- a known normal form within the limits is what is returned -/
theorem MadeL.is {h : Nat → Int} {f g : Cv} {er : Int} (m : MadeL h f er) (hg : NF h g) (hl : Lim g) : f = g ∧ er = 0 := m.unique (.inl ⟨hg, hl, rfl⟩)

/-! ### The examples of the chapter -/
def exL : Cv := ⟨[0], 1, 3⟩
theorem exL_at (n : Nat) : exL.at n = 3 * n := by
  unfold Cv.at exL
  simp only [List.length_cons, List.length_nil]
  have h1 : (1 : Int).toNat = 1 := rfl
  by_cases h : n < 0 + 1
  · rw [if_pos h, show n = 0 by omega]; rfl
  · rw [if_neg h, h1, Nat.div_one, show n - (n - (0 + 1) + 1) * 1 = 0 by omega, if_neg (by unfold nth inf; simp)]
    have e : nth [0] 0 = 0 := rfl
    rw [e]; omega
theorem exL_fin : exL.Fin := by
  refine ⟨⟨by decide, by decide, by decide, by decide, by decide, by decide, by decide, ?_, by decide, ?_, ?_, by decide⟩, by decide⟩
  · intro k hk
    have hk' : k < 1 := hk
    have : k = 0 := by omega
    subst this; decide
  · intro k hk
    have hk' : k + 1 < 1 := hk
    omega
  · intro h; exact absurd h (by decide)
theorem short_one {f g : Cv} (hf : f.Ok) (hg : g.Ok) (h1 : f.per = 1) (h2 : g.per = 1) : Short f g := by
  obtain ⟨a, ha⟩ := hf.nf
  obtain ⟨b, hb⟩ := hg.nf
  have k1 := nf_small hf ha; have k2 := nf_small hg hb
  have q1 := k1.1.p1; have q2 := k2.1.p1
  refine ⟨a, b, ha, hb, ?_⟩
  rw [show a.per.toNat = 1 by omega, show b.per.toNat = 1 by omega]
  decide
def exM : Cv := ⟨[0, 3, 6, 9, 12, 15, 18, 21, 24], 1, 2⟩
def exW : Cv := ⟨[0, 0, 2], 1, 3⟩
theorem exM_lim : Lim exM := by
  refine ⟨by decide, fun k hk => ?_, by decide, by decide⟩
  have hk' : k < 9 := hk
  have : k = 0 ∨ k = 1 ∨ k = 2 ∨ k = 3 ∨ k = 4 ∨ k = 5 ∨ k = 6 ∨ k = 7 ∨ k = 8 := by omega
  rcases this with rfl | rfl | rfl | rfl | rfl | rfl | rfl | rfl | rfl <;> decide
theorem exW_lim : Lim exW := by
  refine ⟨by decide, fun k hk => ?_, by decide, by decide⟩
  have hk' : k < 3 := hk
  have : k = 0 ∨ k = 1 ∨ k = 2 := by omega
  rcases this with rfl | rfl | rfl <;> decide
theorem exV_ex (t : Nat) : exV true exL exA t = if t ≤ 8 then 3 * (t : Int) else 2 * t + 8 := by
  rw [exV_fin exL_fin exA_fin, pk_true, exL_at, exA_at]
  split <;> split <;> omega
theorem exM_nf : NF (exV true exL exA) exM := by
  have hl : exM.vals.length = 9 := rfl
  have hp : exM.per.toNat = 1 := rfl
  have hi : exM.inc = 2 := rfl
  refine .inl ⟨by decide, by decide, fun t ht => ?_, fun t ht => ?_, fun q s b h1 h2 => h1, .inr ?_, fun t ht => ?_⟩
  · rw [hl] at ht
    rw [exV_ex, if_pos (by omega)]
    have : t = 0 ∨ t = 1 ∨ t = 2 ∨ t = 3 ∨ t = 4 ∨ t = 5 ∨ t = 6 ∨ t = 7 ∨ t = 8 := by omega
    rcases this with rfl | rfl | rfl | rfl | rfl | rfl | rfl | rfl | rfl <;> rfl
  · rw [hl, hp] at ht
    rw [hp, hi, exV_ex, exV_ex, if_neg (by omega)]
    split <;> omega
  · rw [hl, hp, hi, exV_ex, exV_ex]; decide
  · rw [hl] at ht
    rw [exV_ex, if_pos (by omega)]
    unfold inf; omega
theorem lowV_ex (t : Nat) : lowerV exL 4 t = max 0 (3 * (t : Int) - 4) := by rw [lowerV_fin (exL_fin.not_infAt t), exL_at]
theorem exW_nf : NF (lowerV exL 4) exW := by
  have hl : exW.vals.length = 3 := rfl
  have hp : exW.per.toNat = 1 := rfl
  have hi : exW.inc = 3 := rfl
  refine .inl ⟨by decide, by decide, fun t ht => ?_, fun t ht => ?_, fun q s b h1 h2 => h1, .inr ?_, fun t ht => ?_⟩
  · rw [hl] at ht
    rw [lowV_ex]
    have : t = 0 ∨ t = 1 ∨ t = 2 := by omega
    rcases this with rfl | rfl | rfl <;> rfl
  · rw [hl, hp] at ht
    rw [hp, hi, lowV_ex, lowV_ex]
    omega
  · rw [hl, hp, hi, lowV_ex, lowV_ex]; decide
  · rw [lowV_ex]
    rw [hl] at ht
    unfold inf; omega
theorem exM_ok : exM.Ok := nf_lim_ok exM_nf (exV_up exL_fin.1 exA_fin.1) exM_lim
theorem exM_8 : exM.at 8 = 24 := by rw [exM_nf.at, exV_ex]; decide
theorem exM_20 : exM.at 20 = 48 := by rw [exM_nf.at, exV_ex]; decide
end Go.Proofs.Ythgfmaijoigckaa
