/- Convolution: its values, in plain words. -/
import Derived.Test.YtaejfleahamapaaGreatTc11
namespace Go.Proofs.YtaejfleahamapaaGreat
set_option linter.unusedVariables false

def MadeL (h : Nat → Int) (f : Cv) (er : Int) : Prop := (NF h f ∧ Lim f ∧ er = 0) ∨ ((∀ g, NF h g → ¬ Lim g) ∧ f = Cv.none ∧ er = 3)
theorem MadeS.toL {h : Nat → Int} {f : Cv} {er : Int} (m : MadeS h f er) : MadeL h f er := by
  obtain ⟨g, hg, ⟨hl, rfl, rfl⟩ | ⟨hl, rfl, rfl⟩⟩ := m
  · exact .inl ⟨hg, hl, rfl⟩
  · exact .inr ⟨fun g' hg' => by rw [hg'.unique hg]; exact hl, rfl, rfl⟩
theorem MadeL.unique {h : Nat → Int} {f f' : Cv} {e e' : Int} (a : MadeL h f e) (b : MadeL h f' e') : f = f' ∧ e = e' := by
  rcases a with ⟨h1, h2, rfl⟩ | ⟨h1, rfl, rfl⟩ <;> rcases b with ⟨k1, k2, rfl⟩ | ⟨k1, rfl, rfl⟩
  · exact ⟨h1.unique k1, rfl⟩
  · exact absurd h2 (k1 _ h1)
  · exact absurd k2 (h1 _ k1)
  · exact ⟨rfl, rfl⟩
theorem MadeL.congr {h h' : Nat → Int} {f : Cv} {er : Int} (m : MadeL h f er) (e : ∀ t, h t = h' t) : MadeL h' f er := by
  obtain rfl : h = h' := funext e
  exact m
theorem MadeL.get {h : Nat → Int} {f : Cv} {er : Int} (m : MadeL h f er) (H : Up0 h) : (er = 0 ∧ f.Ok ∧ NF h f) ∨ (er = 3 ∧ f = Cv.none) := by
  rcases m with ⟨h1, h2, rfl⟩ | ⟨_, rfl, rfl⟩
  · exact .inl ⟨rfl, nf_lim_ok h1 H h2, h1⟩
  · exact .inr ⟨rfl, rfl⟩
theorem MadeL.none_ {h : Nat → Int} (k : ∀ g, NF h g → ¬ Lim g) : MadeL h Cv.none 3 := .inr ⟨k, rfl, rfl⟩
theorem lim_per {h : Nat → Int} {g : Cv} (hg : NF h g) (hl : Lim g) (hne : h 400 ≠ inf) : ∃ (q : Nat) (b : Int), 1 ≤ q ∧ Per h 400 q b := by
  have h1 := hl.1
  rcases hg with hg | hg
  · have hp1 := hg.p1
    exact ⟨g.per.toNat, g.inc, by omega, hg.per.mono (by omega)⟩
  · exact absurd (hg.from_ 400 (by omega)) hne

/-! ### The lesser or the greater values -/
def pk (l : Bool) (x y : Int) : Int := if l = true then min x y else max x y
open Classical in
noncomputable def exV (l : Bool) (a b : Cv) (t : Nat) : Int :=
  if a.infAt t then (if l = true then b.at t else inf) else if b.infAt t then (if l = true then a.at t else inf) else pk l (a.at t) (b.at t)
section
variable {l : Bool} {a b : Cv}
theorem exV_nf {f g : Cv} (hf : f.Ok) (hg : g.Ok) (ha : NF f.at a) (hb : NF g.at b) : exV l a b = exV l f g := by
  funext t
  unfold exV
  have e1 := ha.inf_iff hf t; have e2 := hb.inf_iff hg t
  rw [ha.at, hb.at]
  by_cases i1 : f.infAt t
  · rw [if_pos i1, if_pos (e1.2 i1)]
  · rw [if_neg i1, if_neg (fun h => i1 (e1.1 h))]
    by_cases i2 : g.infAt t
    · rw [if_pos i2, if_pos (e2.2 i2)]
    · rw [if_neg i2, if_neg (fun h => i2 (e2.1 h))]
end

def gnA (a b : Cv) : Int := (ordC a b / a.per.toNat : Nat) * a.inc
def gnB (a b : Cv) : Int := (ordC a b / b.per.toNat : Nat) * b.inc
theorem gnA_per {a b : Cv} (ha : a.Fin) (hb : b.Ok) {s : Nat} (hs : a.vals.length - a.per.toNat ≤ s) : Per a.at s (ordC a b) (gnA a b) := by
  have hp := ha.1.p1; have hq := hb.p1
  have hk := comm_facts (p := a.per.toNat) (q := b.per.toNat) (by omega) (by omega)
  have := (ha.toL.step.mono hs).mul (ordC a b / a.per.toNat)
  rwa [show ordC a b / a.per.toNat * a.per.toNat = ordC a b from hk.1.symm] at this
theorem gnB_per {a b : Cv} (ha : a.Ok) (hb : b.Fin) {s : Nat} (hs : b.vals.length - b.per.toNat ≤ s) : Per b.at s (ordC a b) (gnB a b) := by
  have hp := ha.p1; have hq := hb.1.p1
  have hk := comm_facts (p := a.per.toNat) (q := b.per.toNat) (by omega) (by omega)
  have := (hb.toL.step.mono hs).mul (ordC a b / b.per.toNat)
  rwa [show ordC a b / b.per.toNat * b.per.toNat = ordC a b from hk.2.1.symm] at this
section
variable {l : Bool} {a b : Cv}
end
def ExtS (l : Bool) : Cv → Cv → Cv → Int → Prop := PairS fun a b r er => MadeL (exV l a b) r er
theorem ExtS.unique {l : Bool} {f g r r' : Cv} {e e' : Int} (h : ExtS l f g r e) (k : ExtS l f g r' e') : r = r' ∧ e = e' := PairS.unique (S := fun a b r er => MadeL (exV l a b) r er) (fun h k => MadeL.unique h k) h k

/-! ### Ahead -/
noncomputable def aheadV (a : Cv) (d t : Nat) : Int := if t = 0 then 0 else a.at (t + d)
section
variable {a : Cv} {d : Nat}
theorem ahead_nf {f : Cv} (ha : NF f.at a) : aheadV a d = aheadV f d := by funext t; unfold aheadV; rw [ha.at]
end
def AheadFS (f : Cv) (d : Int) : Cv → Int → Prop := OneS 0 1048576 (fun a r er => MadeL (aheadV a d.toNat) r er) f d
theorem AheadFS.unique {f r r' : Cv} {d e e' : Int} (h : AheadFS f d r e) (k : AheadFS f d r' e') : r = r' ∧ e = e' := OneS.unique (S := fun a r er => MadeL (aheadV a d.toNat) r er) (fun h k => MadeL.unique h k) h k

/-! ### Raise -/
open Classical in
noncomputable def raiseV (a : Cv) (c : Int) (t : Nat) : Int := if t = 0 then 0 else if a.infAt t then inf else a.at t + c
section
variable {a : Cv} {c : Int}
theorem raiseV_zero : raiseV a c 0 = 0 := if_pos rfl
theorem raiseV_fin {t : Nat} (h : 0 < t) (hf : ¬ a.infAt t) : raiseV a c t = a.at t + c := by unfold raiseV; rw [if_neg (by omega), if_neg hf]
theorem raiseV_inf {t : Nat} (h : 0 < t) (hf : a.infAt t) : raiseV a c t = inf := by unfold raiseV; rw [if_neg (by omega), if_pos hf]
theorem raise_nf {f : Cv} (hf : f.Ok) (ha : NF f.at a) : raiseV a c = raiseV f c := by
  funext t; unfold raiseV
  rw [ha.at]
  by_cases h : t = 0
  · rw [if_pos h, if_pos h]
  · rw [if_neg h, if_neg h]; exact ite_iff _ _ (ha.inf_iff hf t)
theorem raise_pl (ha : a.Ok) (hc : c ≤ 1073741824) {t : Nat} (h : 0 < t) (ht : t ≤ 4000000000) : raiseV a c t = pl (a.at t) c := by
  unfold raiseV pl
  rw [if_neg (by omega)]
  have h1 := ha.at_bd ht
  refine ite_iff _ _ ⟨fun h => .inl h.2, fun h => ?_⟩
  rcases h with h | h
  · exact h1.2.2 h
  · unfold inf at h; omega
theorem raise_up (ha : a.Ok) (hc0 : 0 ≤ c) (hc : c ≤ 1073741824) : Up0 (raiseV a c) := by
  refine ⟨by rw [raiseV_zero]; omega, fun t => ?_⟩
  rcases Nat.eq_zero_or_pos t with e | e
  · subst e
    rw [raiseV_zero]
    by_cases h : a.infAt (0 + 1)
    · rw [raiseV_inf (by omega) h]; unfold inf; omega
    · rw [raiseV_fin (by omega) h]; have := ha.up0.nn (0 + 1); omega
  · have h3 := ha.at_mono t
    by_cases h1 : a.infAt t
    · rw [raiseV_inf e h1, raiseV_inf (by omega) (h1.later ha (by omega))]; exact Int.le_refl _
    · by_cases h2 : a.infAt (t + 1)
      · rw [raiseV_fin e h1, raiseV_inf (by omega) h2]
        have := (ha.fin_bd h1 (ha.last_fin h1 h2)).2
        unfold inf; omega
      · rw [raiseV_fin e h1, raiseV_fin (by omega) h2]; omega
theorem raise_small (ha : a.Ok) (hc0 : 0 ≤ c) (hc : c ≤ 1073741824) {t : Nat} (ht : t ≤ 1000000) : 0 ≤ raiseV a c t ∧ raiseV a c t ≤ 4611686018427387904 := by
  refine ⟨(raise_up ha hc0 hc).nn t, ?_⟩
  rcases Nat.eq_zero_or_pos t with e | e
  · subst e; rw [raiseV_zero]; omega
  · by_cases h1 : a.infAt t
    · rw [raiseV_inf e h1]; unfold inf; omega
    · rw [raiseV_fin e h1]
      rcases ha.fin_or with h | h
      · have h2 := (h.at_bd t).2
        have h4 : (t : Int) * 1073741824 ≤ 1000000 * 1073741824 := Int.mul_le_mul_of_nonneg_right (by omega) (by omega)
        omega
      · have hlt : t < 400 := by
          rcases Nat.lt_or_ge t 400 with hh | hh
          · exact hh
          · exact absurd ⟨h, ha.at_inf h (by have := ha.n2; omega)⟩ h1
        have := (ha.fin_bd h1 hlt).2
        omega
theorem raise_inf (ha : a.Ok) (hc0 : 0 ≤ c) (hc : c ≤ 1073741824) {m t : Nat} (hm : m ≤ 1000000) (h : raiseV a c m = inf) (hmt : m ≤ t) : a.infAt m ∧ raiseV a c t = inf := by
  rcases Nat.eq_zero_or_pos m with e | e
  · subst e; rw [raiseV_zero] at h; exact absurd h inf_pos
  · have h1 : a.infAt m := by
      by_cases h1 : a.infAt m
      · exact h1
      · exfalso
        rw [raiseV_fin e h1] at h
        unfold inf at h
        rcases ha.fin_or with h' | h'
        · have h2 := (h'.at_bd m).2
          have h4 : (m : Int) * 1073741824 ≤ 1000000 * 1073741824 := Int.mul_le_mul_of_nonneg_right (by omega) (by omega)
          omega
        · have hlt : m < 400 := by
            rcases Nat.lt_or_ge m 400 with hh | hh
            · exact hh
            · exact absurd ⟨h', ha.at_inf h' (by have := ha.n2; omega)⟩ h1
          have := (ha.fin_bd h1 hlt).2
          omega
    exact ⟨h1, raiseV_inf (by omega) (h1.later ha hmt)⟩
theorem raise_per (ha : a.Fin) {s : Nat} (h1 : 1 ≤ s) (h2 : a.vals.length - a.per.toNat ≤ s) : Per (raiseV a c) s a.per.toNat a.inc := fun t ht => by
  rw [raiseV_fin (by omega) (ha.not_infAt _), raiseV_fin (by omega) (ha.not_infAt _), ha.toL.step t (by omega)]; omega
theorem raise_fin (ha : a.Ok) {s : Nat} (h1 : 1 ≤ s) (h2 : a.vals.length - a.per.toNat ≤ s) (hne : ∀ j, j < s + a.per.toNat → raiseV a c j ≠ inf) : a.Fin := by
  have hp := ha.p1
  rcases ha.fin_or with h | h
  · exact h
  · exact absurd (raiseV_inf (by omega) (ha.infAt_start h h2)) (hne s (by omega))
theorem raise_build (ha : a.Ok) (hc0 : 0 ≤ c) (hc : c ≤ 1073741824) {s : Nat} {f : Cv} {er : Int} (h1 : 1 ≤ s) (h2 : a.vals.length - a.per.toNat ≤ s) (h3 : s + a.per.toNat ≤ 1000000) (h : BuildS (raiseV a c) s a.per.toNat a.inc f er) : MadeL (raiseV a c) f er :=
  (build_made (by have := ha.p1; omega) (fun t u ht htu hi => (raise_inf ha hc0 hc (by omega) hi htu).2) (fun hne => raise_per (raise_fin ha h1 h2 hne) h1 h2) h).toL
end
def RaiseS (f : Cv) (c : Int) : Cv → Int → Prop := OneS 0 1073741824 (fun a r er => MadeL (raiseV a c) r er) f c
theorem RaiseS.unique {f r r' : Cv} {d e e' : Int} (h : RaiseS f d r e) (k : RaiseS f d r' e') : r = r' ∧ e = e' := OneS.unique (S := fun a r er => MadeL (raiseV a d) r er) (fun h k => MadeL.unique h k) h k

/-! ### Lower -/
open Classical in
noncomputable def lowerV (a : Cv) (c : Int) (t : Nat) : Int := if a.infAt t then inf else max 0 (a.at t - c)
section
variable {a : Cv} {c : Int}
theorem lower_nf {f : Cv} (hf : f.Ok) (ha : NF f.at a) : lowerV a c = lowerV f c := by
  funext t; unfold lowerV
  rw [ha.at]; exact ite_iff _ _ (ha.inf_iff hf t)
end
def LowerS (f : Cv) (c : Int) : Cv → Int → Prop := OneS 0 1073741824 (fun a r er => MadeL (lowerV a c) r er) f c
theorem LowerS.unique {f r r' : Cv} {d e e' : Int} (h : LowerS f d r e) (k : LowerS f d r' e') : r = r' ∧ e = e' := OneS.unique (S := fun a r er => MadeL (lowerV a d) r er) (fun h k => MadeL.unique h k) h k

/-! ### The table of the chosen values -/
end Go.Proofs.YtaejfleahamapaaGreat

namespace Go.Proofs.YtaejfleahamapaaGreat
set_option linter.unusedVariables false

def Short (f g : Cv) : Prop := ∃ a b, NF f.at a ∧ NF g.at b ∧ comm a.per.toNat b.per.toNat ≤ 120
theorem PairS.made {S : Cv → Cv → Cv → Int → Prop} {f g r : Cv} {er : Int} (hf : f.Ok) (hg : g.Ok) (hp : Short f g) (h : PairS S f g r er) : ∃ a b, NF f.at a ∧ NF g.at b ∧ S a b r er := by
  obtain ⟨a, b, ha, hb, hc⟩ := hp
  rcases h with ⟨h, _⟩ | ⟨_, _, a', b', ha', hb', h⟩
  · exact absurd ⟨hf, hg⟩ h
  · obtain rfl := ha.unique ha'
    obtain rfl := hb.unique hb'
    rcases h with ⟨h, _⟩ | ⟨_, h⟩
    · omega
    · exact ⟨a, b, ha, hb, h⟩
theorem SumS.made {f g r : Cv} {er : Int} (hf : f.Ok) (hg : g.Ok) (hp : Short f g) (h : SumS f g r er) : MadeL (sumV f g) r er := by
  obtain ⟨a, b, ha, hb, h⟩ := PairS.made (S := fun a b r er => MadeS (sumV a b) r er) hf hg hp h
  have h' : MadeS (sumV a b) r er := h
  rw [sumV_nf hf hg ha hb] at h'
  exact h'.toL
theorem ExtS.made {l : Bool} {f g r : Cv} {er : Int} (hf : f.Ok) (hg : g.Ok) (hp : Short f g) (h : ExtS l f g r er) : MadeL (exV l f g) r er := by
  obtain ⟨a, b, ha, hb, h⟩ := PairS.made (S := fun a b r er => MadeL (exV l a b) r er) hf hg hp h
  have h' : MadeL (exV l a b) r er := h
  rwa [exV_nf hf hg ha hb] at h'
theorem OneS.made {lo hi : Int} {S : Cv → Cv → Int → Prop} {f r : Cv} {n er : Int} (hf : f.Ok) (h1 : lo ≤ n) (h2 : n ≤ hi) (h : OneS lo hi S f n r er) : ∃ a, NF f.at a ∧ S a r er := by
  rcases h with ⟨h, _⟩ | ⟨_, h, _⟩ | ⟨_, _, _, a, ha, h⟩
  · exact absurd hf h
  · omega
  · exact ⟨a, ha, h⟩
theorem RaiseS.made {f r : Cv} {n er : Int} (hf : f.Ok) (h1 : 0 ≤ n) (h2 : n ≤ 1073741824) (h : RaiseS f n r er) : MadeL (raiseV f n) r er := by
  obtain ⟨a, ha, h⟩ := OneS.made (S := fun a r er => MadeL (raiseV a n) r er) hf h1 h2 h
  have h' : MadeL (raiseV a n) r er := h
  rwa [raise_nf hf ha] at h'
theorem LowerS.made {f r : Cv} {n er : Int} (hf : f.Ok) (h1 : 0 ≤ n) (h2 : n ≤ 1073741824) (h : LowerS f n r er) : MadeL (lowerV f n) r er := by
  obtain ⟨a, ha, h⟩ := OneS.made (S := fun a r er => MadeL (lowerV a n) r er) hf h1 h2 h
  have h' : MadeL (lowerV a n) r er := h
  rwa [lower_nf hf ha] at h'
theorem AheadFS.made {f r : Cv} {n er : Int} (hf : f.Ok) (h1 : 0 ≤ n) (h2 : n ≤ 1048576) (h : AheadFS f n r er) : MadeL (aheadV f n.toNat) r er := by
  obtain ⟨a, ha, h⟩ := OneS.made (S := fun a r er => MadeL (aheadV a n.toNat) r er) hf h1 h2 h
  have h' : MadeL (aheadV a n.toNat) r er := h
  rwa [ahead_nf ha] at h'
theorem LaterS.made {f r : Cv} {n er : Int} (hf : f.Ok) (h1 : 0 ≤ n) (h2 : n ≤ 1048576) (h : LaterS f n r er) : MadeL (laterV f n.toNat) r er := by
  obtain ⟨a, ha, h⟩ := OneS.made (S := fun a r er => MadeS (laterV a n.toNat) r er) hf h1 h2 h
  have h' : MadeS (laterV a n.toNat) r er := h
  rw [later_nf ha] at h'
  exact h'.toL
theorem ScaleS.made {f r : Cv} {n er : Int} (hf : f.Ok) (h1 : 1 ≤ n) (h2 : n ≤ 1073741824) (h : ScaleS f n r er) : MadeL (scaleV f n) r er := by
  obtain ⟨a, ha, h⟩ := OneS.made (S := fun a r er => MadeS (scaleV a n) r er) hf h1 h2 h
  have h' : MadeS (scaleV a n) r er := h
  rw [scale_nf hf ha] at h'
  exact h'.toL
theorem MadeL.is {h : Nat → Int} {f g : Cv} {er : Int} (m : MadeL h f er) (hg : NF h g) (hl : Lim g) : f = g ∧ er = 0 := m.unique (.inl ⟨hg, hl, rfl⟩)

/-! ### The examples of the chapter -/
end Go.Proofs.YtaejfleahamapaaGreat

namespace Go.Proofs.YtaejfleahamapaaGreat
set_option linter.unusedVariables false

theorem DrawC.at_bd {most : Nat} {f : Cv} (h : DrawC most f) {t : Nat} (h0 : ¬ f.infAt t) : f.at t ≤ 400 + 1000 * t := by
  induction t using Nat.strongRecOn with
  | _ t ih =>
    have hp1 := h.ok.p1; have hpn := h.ok.pn
    by_cases hlt : t < f.vals.length
    · rcases h.small t hlt with h1 | h1
      · exact absurd ⟨(h.ok.at_bd (n := t) (by have := h.ok.n2; omega)).2.2 (by rw [Cv.at_lt hlt]; exact h1) |>.1, by rw [Cv.at_lt hlt]; exact h1⟩ h0
      · rw [Cv.at_lt hlt]; omega
    · have hF : f.Fin := by
        rcases h.ok.fin_or with h' | h'
        · exact h'
        · exact absurd ⟨h', h.ok.at_inf h' (by omega)⟩ h0
      obtain ⟨u, rfl⟩ : ∃ u, t = u + f.per.toNat := ⟨t - f.per.toNat, by omega⟩
      have h1 := ih u (by omega) (hF.not_infAt u)
      have h2 := hF.toL.step u (by omega)
      have h3 := h.inc
      omega
where
  r_inf {r : Cv} (hr : r.Ok) (h : nth r.vals (r.vals.length - 1) = inf) : r.at 399 = inf := hr.at_inf h (by have := hr.n2; omega)
def LeastB (B : Nat → Prop) (i : Bool) (v : Nat) : Prop := (i = true ∧ ∀ M, ¬ B M) ∨ (i = false ∧ B v ∧ ∀ M, B M → v ≤ M)
def lessB (i j : Bool) (v w : Int) : Bool := j || (!i && decide (v ≤ w))
theorem LeastB.less {B C : Nat → Prop} {i j : Bool} {v w : Nat} (h : LeastB B i v) (k : LeastB C j w) (hBC : ∀ M, C M → B M) : lessB i j v w = true := by
  unfold lessB
  rcases k with ⟨rfl, _⟩ | ⟨rfl, k1, _⟩
  · rfl
  · rcases h with ⟨rfl, h⟩ | ⟨rfl, _, h⟩
    · exact absurd (hBC _ k1) (h _)
    · have := h _ (hBC _ k1)
      simp; omega
end Go.Proofs.YtaejfleahamapaaGreat

namespace Go.Proofs.YtaejfleahamapaaGreat
set_option linter.unusedVariables false

theorem made_fin {h : Nat → Int} {r : Cv} {er : Int} (m : MadeL h r er) (H : Up0 h) {s p : Nat} {i : Int} (hp : 1 ≤ p) (P : Per h s p i) (hsp : s + p ≤ 400) (hp2 : p ≤ 120) (hv : ∀ t, t < s + p → h t ≤ 1073741824) (hi : i ≤ 1073741824) :
    er = 0 ∧ r.Ok ∧ NF h r ∧ r.Fin := by
  obtain ⟨g, hg, h1, h2⟩ := nf_exists hp P (fun t ht => by have := hv t ht; unfold inf; omega)
  have gp1 := hg.p1; have gpn := hg.pn
  have hinc : g.inc ≤ 1073741824 := by
    have h3 := hg.per (g.vals.length - g.per.toNat) (Nat.le_refl _)
    rw [show g.vals.length - g.per.toNat + g.per.toNat = g.vals.length by omega] at h3
    have h4 := H.nn (g.vals.length - g.per.toNat)
    by_cases e : g.vals.length < s + p
    · have := hv _ e; omega
    · have h5 := P s (Nat.le_refl _)
      have h6 := H.le (show s ≤ g.vals.length - g.per.toNat by omega)
      rw [show g.vals.length = s + p by omega] at h3 h6
      omega
  have hl : Lim g := ⟨by omega, fun k hk => (okv_iff _).2 (.inr (by rw [hg.vals k hk]; exact hv k (by omega))), by omega, hinc⟩
  obtain ⟨rfl, rfl⟩ := m.is (.inl hg) hl
  have ok := nf_lim_ok (.inl hg) H hl
  have hn := ok.n1
  exact ⟨rfl, ok, .inl hg, ok, by rw [hg.vals _ (by omega)]; exact hg.fin _ (by omega)⟩
/-! ### The statement PointwiseUndoes -/
end Go.Proofs.YtaejfleahamapaaGreat

namespace Go.Proofs.YtaejfleahamapaaGreat
set_option linter.unusedVariables false

def CSp (f g : Cv) (t s : Nat) : Prop := s ≤ t ∧ ¬ f.infAt s ∧ ¬ g.infAt (t - s)
def CvI (f g : Cv) (lo t S : Nat) (v : Int) : Prop :=
  ((∀ s, lo ≤ s → s < S → ¬ CSp f g t s) ∧ v = inf) ∨
  ((∃ s, lo ≤ s ∧ s < S ∧ CSp f g t s ∧ v = f.at s + g.at (t - s)) ∧ ∀ s, lo ≤ s → s < S → CSp f g t s → v ≤ f.at s + g.at (t - s))
def CvT (f g : Cv) (t : Nat) (v : Int) : Prop := CvI f g 0 t (t + 1) v
def CvF (f g : Cv) (h : Nat → Int) : Prop := ∀ t, CvT f g t (h t)
theorem CvI.zero (f g : Cv) (lo t : Nat) : CvI f g lo t lo inf := .inl ⟨fun s h1 h2 => by omega, rfl⟩
theorem CvI.unique {f g : Cv} {lo t S : Nat} {v v' : Int} (h : CvI f g lo t S v) (k : CvI f g lo t S v') : v = v' := by
  rcases h with ⟨h1, rfl⟩ | ⟨⟨s, h0, h1, h2, h3⟩, h4⟩ <;> rcases k with ⟨k1, rfl⟩ | ⟨⟨s', k0, k1, k2, k3⟩, k4⟩
  · rfl
  · exact absurd k2 (h1 _ k0 k1)
  · exact absurd h2 (k1 _ h0 h1)
  · have := h4 _ k0 k1 k2; have := k4 _ h0 h1 h2; omega
section
variable {f g : Cv} {lo t S : Nat} {v : Int}
theorem CvI.skip (h : CvI f g lo t S v) (h1 : ¬ CSp f g t S) : CvI f g lo t (S + 1) v := by
  rcases h with ⟨h2, rfl⟩ | ⟨⟨s, h0, h2, h3, h4⟩, h5⟩
  · refine .inl ⟨fun s k1 k2 => ?_, rfl⟩
    rcases Nat.lt_or_ge s S with h | h
    · exact h2 s k1 h
    · rw [show s = S by omega]; exact h1
  · refine .inr ⟨⟨s, h0, by omega, h3, h4⟩, fun s' k1 k2 k3 => ?_⟩
    rcases Nat.lt_or_ge s' S with h | h
    · exact h5 s' k1 h k3
    · exact absurd (show CSp f g t S by rwa [show S = s' by omega]) h1
theorem CvI.more (h : CvI f g lo t S v) (hl : lo ≤ S) (h1 : CSp f g t S) (h2 : (∀ s, lo ≤ s → s < S → ¬ CSp f g t s) ∨ f.at S + g.at (t - S) ≤ v) : CvI f g lo t (S + 1) (f.at S + g.at (t - S)) := by
  refine .inr ⟨⟨S, hl, by omega, h1, rfl⟩, fun s' k1 k2 k3 => ?_⟩
  rcases Nat.lt_or_ge s' S with h3 | h3
  · rcases h2 with h2 | h2
    · exact absurd k3 (h2 s' k1 h3)
    · rcases h with ⟨h4, _⟩ | ⟨_, h4⟩
      · exact absurd k3 (h4 s' k1 h3)
      · have := h4 s' k1 h3 k3; omega
  · rw [show s' = S by omega]; exact Int.le_refl _
theorem CvI.keep (h : CvI f g lo t S v) (h1 : v ≤ f.at S + g.at (t - S)) (h2 : f.at S + g.at (t - S) < inf) : CvI f g lo t (S + 1) v := by
  rcases h with ⟨h3, rfl⟩ | ⟨⟨s, h0, h3, h4, h5⟩, h6⟩
  · omega
  · refine .inr ⟨⟨s, h0, by omega, h4, h5⟩, fun s' k1 k2 k3 => ?_⟩
    rcases Nat.lt_or_ge s' S with h | h
    · exact h6 s' k1 h k3
    · rw [show s' = S by omega]; exact h1
theorem cvI_exists (f g : Cv) (lo t : Nat) (S : Nat) (hS : lo ≤ S) : ∃ v, CvI f g lo t S v := by
  induction S with
  | zero => rw [show lo = 0 by omega]; exact ⟨inf, CvI.zero f g 0 t⟩
  | succ S ih =>
    rcases Nat.lt_or_ge S lo with h | h
    · rw [show lo = S + 1 by omega]; exact ⟨inf, CvI.zero f g _ t⟩
    · obtain ⟨v, hv⟩ := ih h
      by_cases hc : CSp f g t S
      · rcases hv with ⟨h1, h2⟩ | ⟨h1, h2⟩
        · exact ⟨_, CvI.more (.inl ⟨h1, h2⟩) h hc (.inl h1)⟩
        · rcases (show v ≤ f.at S + g.at (t - S) ∨ f.at S + g.at (t - S) < v by omega) with h3 | h3
          · obtain ⟨s, k0, k1, k2, k3⟩ := h1
            refine ⟨v, .inr ⟨⟨s, k0, by omega, k2, k3⟩, fun s' m1 m2 m3 => ?_⟩⟩
            rcases Nat.lt_or_ge s' S with h | h
            · exact h2 s' m1 h m3
            · rw [show s' = S by omega]; exact h3
          · exact ⟨_, CvI.more (.inr ⟨h1, h2⟩) h hc (.inr (by omega))⟩
      · exact ⟨v, hv.skip hc⟩
theorem CSp.symm {s : Nat} (h : CSp f g t s) : CSp g f t (t - s) := ⟨by omega, h.2.2, by rw [show t - (t - s) = s by have := h.1; omega]; exact h.2.1⟩
theorem CvT.none (h : ∀ s, ¬ CSp f g t s) : CvT f g t inf := .inl ⟨fun s _ _ => h s, rfl⟩
theorem CvT.cases (h : CvT f g t v) : ((∀ s, ¬ CSp f g t s) ∧ v = inf) ∨ ((∃ s, CSp f g t s ∧ v = f.at s + g.at (t - s)) ∧ ∀ s, CSp f g t s → v ≤ f.at s + g.at (t - s)) := by
  rcases h with ⟨h1, rfl⟩ | ⟨⟨s, _, h2, h3, h4⟩, h5⟩
  · exact .inl ⟨fun s hs => h1 s (Nat.zero_le _) (by have := hs.1; omega) hs, rfl⟩
  · exact .inr ⟨⟨s, h3, h4⟩, fun s' hs => h5 s' (Nat.zero_le _) (by have := hs.1; omega) hs⟩
theorem CvT.of (h : ((∀ s, ¬ CSp f g t s) ∧ v = inf) ∨ ((∃ s, CSp f g t s ∧ v = f.at s + g.at (t - s)) ∧ ∀ s, CSp f g t s → v ≤ f.at s + g.at (t - s))) : CvT f g t v := by
  rcases h with ⟨h1, rfl⟩ | ⟨⟨s, h3, h4⟩, h5⟩
  · exact CvT.none h1
  · exact .inr ⟨⟨s, Nat.zero_le _, by have := h3.1; omega, h3, h4⟩, fun s' _ _ hs => h5 s' hs⟩
theorem CvT.symm (h : CvT f g t v) : CvT g f t v := by
  rcases h.cases with ⟨h1, rfl⟩ | ⟨⟨s, h3, h4⟩, h5⟩
  · exact CvT.none fun s hs => h1 _ hs.symm
  · refine CvT.of (.inr ⟨⟨t - s, h3.symm, ?_⟩, fun s' hs => ?_⟩)
    · rw [show t - (t - s) = s by have := h3.1; omega]; omega
    · have := h5 _ hs.symm
      rw [show t - (t - s') = s' by have := hs.1; omega] at this
      omega
end
theorem CvF.symm {f g : Cv} {h : Nat → Int} (H : CvF f g h) : CvF g f h := fun t => (H t).symm
theorem CvF.unique {f g : Cv} {h h' : Nat → Int} (H : CvF f g h) (K : CvF f g h') : h = h' := funext fun t => (H t).unique (K t)
theorem cvF_exists (f g : Cv) : ∃ h, CvF f g h :=
  ⟨fun t => (cvI_exists f g 0 t (t + 1) (by omega)).choose, fun t => (cvI_exists f g 0 t (t + 1) (by omega)).choose_spec⟩
theorem CvF.nf {f g a b : Cv} (hf : f.Ok) (hg : g.Ok) (ha : NF f.at a) (hb : NF g.at b) {h : Nat → Int} (H : CvF a b h) : CvF f g h := fun t => by
  have e : ∀ s, CSp a b t s ↔ CSp f g t s := fun s => by unfold CSp; rw [ha.inf_iff hf, hb.inf_iff hg]
  refine CvT.of ?_
  rcases (H t).cases with ⟨h1, h2⟩ | ⟨⟨s, h3, h4⟩, h5⟩
  · exact .inl ⟨fun s hs => h1 s ((e s).2 hs), h2⟩
  · rw [ha.at, hb.at] at h4
    refine .inr ⟨⟨s, (e s).1 h3, h4⟩, fun s' hs => ?_⟩
    have := h5 s' ((e s').2 hs)
    rwa [ha.at, hb.at] at this
theorem CvF.to {f g a b : Cv} (hf : f.Ok) (hg : g.Ok) (ha : NF f.at a) (hb : NF g.at b) {h : Nat → Int} (H : CvF f g h) : CvF a b h := by
  obtain ⟨k, K⟩ := cvF_exists a b
  rw [H.unique (K.nf hf hg ha hb)]
  exact K

/-! ### Functions without infinite values -/
def Conv (A B h : Nat → Int) : Prop := ∀ t, (∃ s, s ≤ t ∧ h t = A s + B (t - s)) ∧ ∀ s, s ≤ t → h t ≤ A s + B (t - s)
section
variable {A B h : Nat → Int} {sa sb L : Nat} {Ga Gb : Int}
theorem conv_eq {G : Int} (hA : Per A sa L G) (hB : Per B sb L G) (H : Conv A B h) : Per h (sa + sb + L) L G := by
  intro t ht
  obtain ⟨⟨s, hs, e⟩, hmin⟩ := H t
  obtain ⟨⟨s', hs', e'⟩, hmin'⟩ := H (t + L)
  have h1 : h (t + L) ≤ h t + G := by
    rcases Nat.lt_or_ge s sa with k | k
    · have k1 := hmin' s (by omega)
      have k2 := hB (t - s) (by omega)
      rw [show t - s + L = t + L - s by omega] at k2
      omega
    · have k1 := hmin' (s + L) (by omega)
      have k2 := hA s k
      rw [show t + L - (s + L) = t - s by omega] at k1
      omega
  have h2 : h t ≤ h (t + L) - G := by
    rcases Nat.lt_or_ge s' (sa + L) with k | k
    · have k1 := hmin s' (by omega)
      have k2 := hB (t - s') (by omega)
      rw [show t - s' + L = t + L - s' by omega] at k2
      omega
    · have k1 := hmin (s' - L) (by omega)
      have k2 := hA (s' - L) (by omega)
      rw [show s' - L + L = s' by omega] at k2
      rw [show t - (s' - L) = t + L - s' by omega] at k1
      omega
  omega
def Att (A B : Nat → Int) (sa t : Nat) (v : Int) : Prop := ∃ s, sa ≤ s ∧ s ≤ t ∧ v = A s + B (t - s)
theorem att_far (hA : Per A sa L Ga) (hB : Per B sb L Gb) (hG : Ga < Gb) (H : Conv A B h) {t s : Nat} (hs : sa ≤ s) (hst : s ≤ t) (e : h t = A s + B (t - s)) : t - s < sb + L := by
  rcases Nat.lt_or_ge (t - s) (sb + L) with k | k
  · exact k
  · exfalso
    have k1 := (H t).2 (s + L) (by omega)
    have k2 := hA s hs
    have k3 := hB (t - s - L) (by omega)
    rw [show t - s - L + L = t - s by omega] at k3
    rw [show t - (s + L) = t - s - L by omega] at k1
    omega
theorem att_next (hA : Per A sa L Ga) (hB : Per B sb L Gb) (hG : Ga < Gb) (H : Conv A B h) {t : Nat} (ht : sa + sb ≤ t) (h0 : Att A B sa t (h t)) : Att A B sa (t + L) (h (t + L)) := by
  obtain ⟨s, h1, h2, h3⟩ := h0
  obtain ⟨⟨s', hs', e'⟩, hmin'⟩ := H (t + L)
  rcases Nat.lt_or_ge s' sa with k | k
  · exfalso
    have k1 := (H t).2 s' (by omega)
    have k2 := hB (t - s') (by omega)
    rw [show t - s' + L = t + L - s' by omega] at k2
    have k3 := hmin' (s + L) (by omega)
    have k4 := hA s h1
    rw [show t + L - (s + L) = t - s by omega] at k3
    omega
  · exact ⟨s', k, hs', e'⟩
theorem att_all (hA : Per A sa L Ga) (hB : Per B sb L Gb) (hG : Ga < Gb) (H : Conv A B h) (hL : 1 ≤ L) {T : Nat} (hT : sa + sb ≤ T) (h0 : ∀ t, T ≤ t → t < T + L → Att A B sa t (h t)) (t : Nat) (ht : T ≤ t) : Att A B sa t (h t) := by
  obtain ⟨r, m, hr, rfl⟩ := res_of hL ht
  induction m with
  | zero => rw [Nat.zero_mul, Nat.add_zero]; exact h0 _ (by omega) (by omega)
  | succ m ih =>
    have := att_next hA hB hG H (by omega) (ih (by omega))
    rwa [show T + r + m * L + L = T + r + (m + 1) * L by rw [Nat.add_mul]; omega] at this
theorem att_per (hA : Per A sa L Ga) (hB : Per B sb L Gb) (hG : Ga < Gb) (H : Conv A B h) {p : Nat} {i : Int} (hp : Per A sa p i) {T : Nat} (hT : sa + sb + L ≤ T) (h0 : ∀ t, T ≤ t → Att A B sa t (h t)) : Per h T p i := by
  intro t ht
  obtain ⟨s, h1, h2, h3⟩ := h0 t ht
  obtain ⟨s', k1, k2, k3⟩ := h0 (t + p) (by omega)
  have m1 := att_far hA hB hG H k1 k2 k3
  have e1 := (H (t + p)).2 (s + p) (by omega)
  have e2 := hp s h1
  rw [show t + p - (s + p) = t - s by omega] at e1
  have e3 := (H t).2 (s' - p) (by omega)
  have e4 := hp (s' - p) (by omega)
  rw [show s' - p + p = s' by omega] at e4
  rw [show t - (s' - p) = t + p - s' by omega] at e3
  omega
theorem att_of_per (hA : Per A sa L Ga) (hB : Per B sb L Gb) (hG : Ga < Gb) (H : Conv A B h) {q S : Nat} {b : Int} (hq : 1 ≤ q) (hP : Per h S q b) {t0 : Nat} (ht0 : sa + sb + L ≤ t0) (hS : S ≤ t0) : Att A B sa t0 (h t0) := by
  have p1 := hA.mul q; have p2 := hB.mul q; have p3 := hP.mul L
  rw [Nat.mul_comm L q] at p3
  have hqq : (q : Int) * (Ga + 1) ≤ (q : Int) * Gb := Int.mul_le_mul_of_nonneg_left (by omega) (by omega)
  rw [Int.mul_add, Int.mul_one] at hqq
  generalize (q : Int) * Ga = X at *
  generalize (q : Int) * Gb = Y at *
  generalize (L : Int) * b = Z at *
  generalize hQ : q * L = Q at *
  have hXZ : Z ≤ X := by
    have key : ∀ m : Nat, h t0 + m * Z ≤ A t0 + B 0 + m * X := fun m => by
      have e1 := p1.mul m t0 (by omega)
      have e3 := p3.mul m t0 (by omega)
      have e4 := (H (t0 + m * Q)).2 (t0 + m * Q) (Nat.le_refl _)
      rw [Nat.sub_self] at e4
      omega
    have k := key (A t0 + B 0 - h t0 + 1).toNat
    have k0 := key 0
    rw [show ((A t0 + B 0 - h t0 + 1).toNat : Int) = A t0 + B 0 - h t0 + 1 by omega] at k
    rcases (show Z ≤ X ∨ X < Z by omega) with h' | h'
    · exact h'
    · exfalso
      have : (A t0 + B 0 - h t0 + 1) * (X + 1) ≤ (A t0 + B 0 - h t0 + 1) * Z := Int.mul_le_mul_of_nonneg_left (by omega) (by omega)
      rw [Int.mul_add, Int.mul_one] at this
      omega
  obtain ⟨⟨s, hs, e⟩, hmin⟩ := H (t0 + Q)
  have e3 := p3 t0 (by omega)
  rcases Nat.lt_or_ge s sa with k | k
  · exfalso
    have k1 := (H t0).2 s (by omega)
    have k2 := p2 (t0 - s) (by omega)
    rw [show t0 - s + Q = t0 + Q - s by omega] at k2
    omega
  · have m1 := att_far hA hB hG H k hs e
    have k2 := p1 (s - Q) (by omega)
    rw [show s - Q + Q = s by omega] at k2
    have k1 := (H t0).2 (s - Q) (by omega)
    rw [show t0 - (s - Q) = t0 + Q - s by omega] at k1
    exact ⟨s - Q, by omega, by omega, by rw [show t0 - (s - Q) = t0 + Q - s by omega]; omega⟩
end
theorem cvF_fin {a b : Cv} (fa : a.Fin) (fb : b.Fin) {h : Nat → Int} (H : CvF a b h) : Conv a.at b.at h := fun t => by
  have c : ∀ s, s ≤ t → CSp a b t s := fun s hs => ⟨hs, fa.not_infAt _, fb.not_infAt _⟩
  rcases (H t).cases with ⟨h1, _⟩ | ⟨⟨s, h3, h4⟩, h5⟩
  · exact absurd (c 0 (Nat.zero_le _)) (h1 0)
  · exact ⟨⟨s, h3.1, h4⟩, fun s' hs => h5 s' (c s' hs)⟩

/-! ### Infinite values -/
section
variable {a b : Cv} {h : Nat → Int}
theorem csp_later (ha : a.Ok) (hb : b.Ok) {t u : Nat} (htu : t ≤ u) (h : ∀ s, ¬ CSp a b t s) : ∀ s, ¬ CSp a b u s := fun s ⟨h1, h2, h3⟩ => by
  rcases Nat.lt_or_ge t s with k | k
  · exact h t ⟨Nat.le_refl _, fun e => h2 (e.later ha (by omega)), fun e => h3 (e.later hb (by omega))⟩
  · exact h s ⟨k, h2, fun e => h3 (e.later hb (by omega))⟩
theorem csp_bd (ha : a.Ok) (hb : b.Ok) {t s : Nat} (ht : t ≤ 2000) (h : CSp a b t s) : 0 ≤ a.at s + b.at (t - s) ∧ a.at s + b.at (t - s) ≤ 8000000000000 := by
  have bd : ∀ {c : Cv} (hc : c.Ok) {u : Nat}, u ≤ 2000 → ¬ c.infAt u → 0 ≤ c.at u ∧ c.at u ≤ 4000000000000 := fun {c} hc {u} hu hi => by
    rcases hc.fin_or with fc | ic
    · have h2 := fc.at_bd u
      have : (u : Int) * 1073741824 ≤ 2000 * 1073741824 := Int.mul_le_mul_of_nonneg_right (by omega) (by omega)
      omega
    · have hlt : u < 400 := by
        rcases Nat.lt_or_ge u 400 with hh | hh
        · exact hh
        · exact absurd ⟨ic, hc.at_inf ic (by have := hc.n2; omega)⟩ hi
      have := hc.fin_bd hi hlt
      omega
  have h1 := bd ha (u := s) (by have := h.1; omega) h.2.1
  have h2 := bd hb (u := t - s) (by omega) h.2.2
  omega
theorem cv_bd (ha : a.Ok) (hb : b.Ok) (H : CvF a b h) {t : Nat} (ht : t ≤ 2000) : ((∀ s, ¬ CSp a b t s) ∧ h t = inf) ∨ (0 ≤ h t ∧ h t ≤ 8000000000000) := by
  rcases (H t).cases with h1 | ⟨⟨s, h3, h4⟩, h5⟩
  · exact .inl h1
  · have := csp_bd ha hb ht h3
    exact .inr (by omega)
theorem cv_small (ha : a.Ok) (hb : b.Ok) (H : CvF a b h) {t : Nat} (ht : t ≤ 2000) : 0 ≤ h t ∧ h t ≤ 4611686018427387904 := by
  rcases cv_bd ha hb H ht with ⟨_, h1⟩ | h1
  · rw [h1]; unfold inf; omega
  · omega
theorem cv_hinf (ha : a.Ok) (hb : b.Ok) (H : CvF a b h) {t u : Nat} (ht : t ≤ 2000) (htu : t ≤ u) (hi : h t = inf) : h u = inf := by
  rcases cv_bd ha hb H ht with ⟨h1, _⟩ | h1
  · exact (H u).unique (CvT.none (csp_later ha hb htu h1))
  · unfold inf at hi; omega
theorem cv_up (ha : a.Ok) (hb : b.Ok) (H : CvF a b h) : Up0 h := by
  refine ⟨(cv_small ha hb H (by omega)).1, fun t => ?_⟩
  rcases (H t).cases with ⟨h1, h2⟩ | ⟨⟨s, h3, h4⟩, h5⟩
  · rw [h2, (H (t + 1)).unique (CvT.none (csp_later ha hb (by omega) h1))]; exact Int.le_refl _
  · rcases (H (t + 1)).cases with ⟨k1, k2⟩ | ⟨⟨s', k3, k4⟩, k5⟩
    · rw [k2]
      rcases Nat.lt_or_ge t 2000 with k | k
      · have := (cv_small ha hb H (t := t) (by omega)).2; unfold inf; omega
      · exfalso
        have n1 := ha.n2; have n2 := hb.n2
        by_cases fa : a.Fin
        · by_cases fb : b.Fin
          · exact k1 0 ⟨by omega, fa.not_infAt _, fb.not_infAt _⟩
          · have ib := hb.fin_or.resolve_left fb
            refine k1 (s + 1) ⟨by have := h3.1; omega, fa.not_infAt _, fun e => ?_⟩
            rw [show t + 1 - (s + 1) = t - s by omega] at e
            exact h3.2.2 e
        · have ia := ha.fin_or.resolve_left fa
          refine k1 s ⟨by have := h3.1; omega, h3.2.1, fun e => ?_⟩
          by_cases fb : b.Fin
          · exact fb.not_infAt _ e
          · have ib := hb.fin_or.resolve_left fb
            have hs : s < 400 := by
              rcases Nat.lt_or_ge s 400 with q | q
              · exact q
              · exact absurd ⟨ia, ha.at_inf ia (by omega)⟩ h3.2.1
            exact h3.2.2 ⟨ib, hb.at_inf ib (by omega)⟩
    · rcases Nat.lt_or_ge t s' with k | k
      · have e : s' = t + 1 := by have := k3.1; omega
        subst e
        have k6 := h5 t ⟨Nat.le_refl _, fun e => k3.2.1 (e.later ha (by omega)), by have := k3.2.2; rwa [Nat.sub_self] at this ⊢⟩
        have k7 := ha.at_mono t
        rw [Nat.sub_self] at k4 k6
        omega
      · have k6 := h5 s' ⟨k, k3.2.1, fun e => k3.2.2 (e.later hb (by omega))⟩
        have k7 := hb.at_le (show t - s' ≤ t + 1 - s' by omega)
        omega
theorem cv_one (fa : a.Fin) (hb : b.Ok) (ib : nth b.vals (b.vals.length - 1) = inf) (H : CvF a b h) (hne : h 0 ≠ inf) : Per h (a.vals.length - a.per.toNat + (b.vals.length - b.per.toNat)) a.per.toNat a.inc := by
  obtain ⟨sa, hsa⟩ : ∃ sa, sa = a.vals.length - a.per.toNat := ⟨_, rfl⟩
  obtain ⟨sb, hsb⟩ : ∃ sb, sb = b.vals.length - b.per.toNat := ⟨_, rfl⟩
  have hA := fa.toL.step
  rw [← hsa] at hA ⊢
  rw [← hsb]
  have far : ∀ t s, CSp a b t s → t - s < sb := fun t s hs => by
    rcases Nat.lt_or_ge (t - s) sb with k | k
    · exact k
    · exact absurd (hb.infAt_start ib (by omega)) hs.2.2
  have hb0 : ¬ b.infAt 0 := by
    rcases (H 0).cases with ⟨_, h2⟩ | ⟨⟨s, h3, _⟩, _⟩
    · exact absurd h2 hne
    · have := h3.2.2; rwa [Nat.zero_sub] at this
  have val : ∀ t, (∃ s, CSp a b t s ∧ h t = a.at s + b.at (t - s)) ∧ ∀ s, CSp a b t s → h t ≤ a.at s + b.at (t - s) := fun t => by
    rcases (H t).cases with ⟨h1, _⟩ | h1
    · exact absurd ⟨Nat.le_refl _, fa.not_infAt _, by rw [Nat.sub_self]; exact hb0⟩ (h1 t)
    · exact h1
  intro t ht
  obtain ⟨⟨s, h1, h2⟩, h3⟩ := val t
  obtain ⟨⟨s', k1, k2⟩, k3⟩ := val (t + a.per.toNat)
  have f1 := far _ _ h1; have f2 := far _ _ k1
  have g1 := h1.1; have g2 := k1.1
  have e1 := k3 (s + a.per.toNat) ⟨by omega, fa.not_infAt _, by rw [show t + a.per.toNat - (s + a.per.toNat) = t - s by omega]; exact h1.2.2⟩
  have e2 := hA s (by omega)
  rw [show t + a.per.toNat - (s + a.per.toNat) = t - s by omega] at e1
  have e3 := h3 (s' - a.per.toNat) ⟨by omega, fa.not_infAt _, by rw [show t - (s' - a.per.toNat) = t + a.per.toNat - s' by omega]; exact k1.2.2⟩
  have e4 := hA (s' - a.per.toNat) (by omega)
  rw [show s' - a.per.toNat + a.per.toNat = s' by omega] at e4
  rw [show t - (s' - a.per.toNat) = t + a.per.toNat - s' by omega] at e3
  omega
end
def CvoS (a b r : Cv) (er : Int) : Prop := ∃ h, CvF a b h ∧ MadeL h r er
theorem CvoS.symm {a b r : Cv} {er : Int} (H : CvoS a b r er) : CvoS b a r er := by
  obtain ⟨h, h1, h2⟩ := H
  exact ⟨h, h1.symm, h2⟩
theorem CvoS.unique {a b r r' : Cv} {e e' : Int} (H : CvoS a b r e) (K : CvoS a b r' e') : r = r' ∧ e = e' := by
  obtain ⟨h, h1, h2⟩ := H
  obtain ⟨k, k1, k2⟩ := K
  obtain rfl := h1.unique k1
  exact h2.unique k2
def CvS : Cv → Cv → Cv → Int → Prop := PairS CvoS
theorem CvS.unique {f g r r' : Cv} {e e' : Int} (h : CvS f g r e) (k : CvS f g r' e') : r = r' ∧ e = e' := PairS.unique (S := CvoS) (fun h k => CvoS.unique h k) h k
section
variable {a b r : Cv} {er : Int} {h : Nat → Int}
theorem cv_build (ha : a.Ok) (hb : b.Ok) (H : CvF a b h) {s p : Nat} {i : Int} (hp : 1 ≤ p) (hsp : s + p ≤ 2000) (hper : (∀ j, j < s + p → h j ≠ inf) → Per h s p i) (hS : BuildS h s p i r er) : MadeL h r er :=
  (build_made hp (fun t u ht htu hi => cv_hinf ha hb H (by omega) htu hi) hper hS).toL
theorem cv_made0 (ha : a.Ok) (hb : b.Ok) (ia : nth a.vals (a.vals.length - 1) = inf) (ib : nth b.vals (b.vals.length - 1) = inf) (H : CvF a b h) {s p : Nat} {i : Int} (hp : 1 ≤ p) (hsp : s + p ≤ 2000)
    (hs : a.vals.length - a.per.toNat + (b.vals.length - b.per.toNat) ≤ s) (hS : BuildS h s p i r er) : MadeL h r er := by
  refine cv_build ha hb H hp hsp (fun hne => absurd ?_ (hne s (by omega))) hS
  refine (H s).unique (CvT.none fun u hu => ?_)
  rcases Nat.lt_or_ge u (a.vals.length - a.per.toNat) with k | k
  · exact hu.2.2 (hb.infAt_start ib (by omega))
  · exact hu.2.1 (ha.infAt_start ia k)
theorem cv_made1 (fa : a.Fin) (hb : b.Ok) (ib : nth b.vals (b.vals.length - 1) = inf) (H : CvF a b h) {s : Nat} (hsp : s + a.per.toNat ≤ 2000)
    (hs : a.vals.length - a.per.toNat + (b.vals.length - b.per.toNat) ≤ s) (hS : BuildS h s a.per.toNat a.inc r er) : MadeL h r er :=
  cv_build fa.1 hb H (by have := fa.1.p1; omega) hsp (fun hne => (cv_one fa hb ib H (hne 0 (by have := fa.1.p1; omega))).mono hs) hS
theorem gn_of_inf (ha : a.Ok) (hb : b.Ok) (ib : nth b.vals (b.vals.length - 1) = inf) : ordC a b = a.per.toNat ∧ gnA a b = a.inc := by
  have h1 := (hb.last ib).1
  have hp := ha.p1
  have e : ordC a b = a.per.toNat := by
    unfold ordC comm
    rw [h1, show (1 : Int).toNat = 1 from rfl, Nat.gcd_one_right, Nat.div_one, Nat.mul_one]
  refine ⟨e, ?_⟩
  unfold gnA
  rw [e, Nat.div_self (by omega)]
  simp
theorem cv_made2 (fa : a.Fin) (fb : b.Fin) (hG : gnA a b = gnB a b) (H : CvF a b h) {s : Nat} (hsp : s + ordC a b ≤ 2000)
    (hs : a.vals.length - a.per.toNat + (b.vals.length - b.per.toNat) + ordC a b ≤ s) (hS : BuildS h s (ordC a b) (gnA a b) r er) : MadeL h r er := by
  have hp := fa.1.p1; have hq := fb.1.p1
  refine cv_build fa.1 fb.1 H (ord_b fa.1 fb.1).c1 hsp (fun _ => ?_) hS
  have h2 := gnB_per fa.1 fb (s := b.vals.length - b.per.toNat) (Nat.le_refl _)
  rw [← hG] at h2
  exact (conv_eq (gnA_per fa fb.1 (Nat.le_refl _)) h2 (cvF_fin fa fb H)).mono hs
theorem cv_made3 (fa : a.Fin) (fb : b.Fin) (hG : gnA a b < gnB a b) (H : CvF a b h) {s : Nat} (hsp : s + a.per.toNat ≤ 2000)
    (hs : a.vals.length - a.per.toNat + (b.vals.length - b.per.toNat) + ordC a b ≤ s) (hat : ∀ t, s ≤ t → t < s + ordC a b → CvI a b (a.vals.length - a.per.toNat) t (t + 1) (h t)) (hS : BuildS h s a.per.toNat a.inc r er) : MadeL h r er := by
  have hp := fa.1.p1; have hq := fb.1.p1
  refine cv_build fa.1 fb.1 H (by omega) hsp (fun _ => ?_) hS
  have hA := gnA_per fa fb.1 (s := a.vals.length - a.per.toNat) (Nat.le_refl _)
  have hB := gnB_per fa.1 fb (s := b.vals.length - b.per.toNat) (Nat.le_refl _)
  have HC := cvF_fin fa fb H
  refine att_per hA hB hG HC fa.toL.step hs (att_all hA hB hG HC (ord_b fa.1 fb.1).c1 (by omega) (fun t h1 h2 => ?_))
  rcases hat t h1 h2 with ⟨h3, _⟩ | ⟨⟨u, h3, h4, h5, h6⟩, _⟩
  · exact absurd ⟨Nat.le_refl _, fa.not_infAt _, fb.not_infAt _⟩ (h3 t (by omega) (by omega))
  · exact ⟨u, h3, h5.1, h6⟩
theorem cv_none3 (fa : a.Fin) (fb : b.Fin) (hG : gnA a b < gnB a b) (H : CvF a b h) {t : Nat} {v : Int} (h4 : 400 ≤ t) (h5 : t ≤ 2000)
    (hs : a.vals.length - a.per.toNat + (b.vals.length - b.per.toNat) + ordC a b ≤ t) (hv : CvI a b (a.vals.length - a.per.toNat) t (t + 1) v) (hlt : h t < v) : MadeL h Cv.none 3 := by
  refine MadeL.none_ fun g hg hl => ?_
  have hA := gnA_per fa fb.1 (s := a.vals.length - a.per.toNat) (Nat.le_refl _)
  have hB := gnB_per fa.1 fb (s := b.vals.length - b.per.toNat) (Nat.le_refl _)
  have HC := cvF_fin fa fb H
  have hne : h 400 ≠ inf := by
    rcases cv_bd fa.1 fb.1 H (t := 400) (by omega) with ⟨k, _⟩ | k
    · exact absurd ⟨Nat.le_refl _, fa.not_infAt _, fb.not_infAt _⟩ (k 400)
    · unfold inf; omega
  obtain ⟨q, G, hq, hP⟩ := lim_per hg hl hne
  obtain ⟨u, k1, k2, k3⟩ := att_of_per hA hB hG HC hq hP hs h4
  rcases hv with ⟨h6, _⟩ | ⟨_, h6⟩
  · exact h6 u k1 (by omega) ⟨k2, fa.not_infAt _, fb.not_infAt _⟩
  · have := h6 u k1 (by omega) ⟨k2, fa.not_infAt _, fb.not_infAt _⟩
    omega
end
end Go.Proofs.YtaejfleahamapaaGreat

