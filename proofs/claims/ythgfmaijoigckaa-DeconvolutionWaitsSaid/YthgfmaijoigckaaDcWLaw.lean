/- Deconvolution by a wait, and of a growing curve by one that is 0, in plain words. -/
import Derived.Test.YthgfmaijoigckaaDcEx
import Derived.Test.YthgfmaijoigckaaMonoLaw
import Derived.Test.YthgfmaijoigckaaFlat
namespace Go.Proofs.Ythgfmaijoigckaa
open Go.RowKit
set_option linter.unusedVariables false

def waitV (n t : Nat) : Int := if t ≤ n then 0 else inf
/-- a drawn curve, some ticks ahead, is within the limits -/
theorem shift_lim {m n : Nat} {f r : Cv} (hm : m ≤ 12) (hn : n ≤ 20) (hf : DrawC m f) (hr : NF (fun t => f.at (t + n)) r) : Lim r := by
  have hl1 := hf.len
  have fp1 := hf.ok.p1; have fp := hf.per; have fpn := hf.ok.pn
  have hv : ∀ k, k < r.vals.length → nth r.vals k = f.at (k + n) := by
    rcases hr with hr | hr
    · exact hr.vals
    · exact hr.vals
  have bd : ∀ k, k ≤ 1000000 → f.at (k + n) = inf ∨ f.at (k + n) ≤ 20400 + 1000 * k := fun k hk => by
    by_cases h : f.infAt (k + n)
    · exact .inl h.2
    · have := hf.at_bd h; right; omega
  by_cases fF : f.Fin
  · have hne : ∀ t, t ≤ 1000000 → f.at (t + n) ≠ inf := fun t ht e => by
      have := hf.at_bd (fF.not_infAt (t + n))
      unfold inf at e
      omega
    have hP : Per (fun t => f.at (t + n)) 20 f.per.toNat f.inc := fun t ht => by
      show f.at (t + f.per.toNat + n) = f.at (t + n) + f.inc
      rw [show t + f.per.toNat + n = t + n + f.per.toNat by omega]
      exact fF.toL.step (t + n) (by omega)
    obtain ⟨r', hr', h1, h2⟩ := nf_exists (by omega) hP (fun t ht => hne t (by omega))
    obtain rfl := hr.unique (.inl hr')
    have rp1 := hr'.p1; have rpn := hr'.pn
    refine ⟨by omega, fun k hk => (okv_iff _).2 ?_, by omega, ?_⟩
    · rw [hv k hk]
      rcases bd k (by omega) with h3 | h3
      · exact .inl h3
      · right; omega
    · have h3 := hr'.per (r.vals.length - r.per.toNat) (Nat.le_refl _)
      have h4 := hf.ok.up0.nn (r.vals.length - r.per.toNat + n)
      rcases bd (r.vals.length - r.per.toNat + r.per.toNat) (by omega) with h5 | h5
      · exact absurd h5 (hne _ (by omega))
      · omega
  · have hinf : ∀ t, 20 ≤ t → f.at (t + n) = inf := fun t ht => hf.ok.at_inf (hf.ok.fin_or.resolve_left fF) (by omega)
    rcases hr with hr | hr
    · exfalso
      have rp1 := hr.p1; have rpn := hr.pn
      have P1 := hr.per.mul 20 (r.vals.length - r.per.toNat) (Nat.le_refl _)
      have P2 := hr.per.mul 21 (r.vals.length - r.per.toNat) (Nat.le_refl _)
      have hge : 20 * 1 ≤ 20 * r.per.toNat := Nat.mul_le_mul_left _ (by omega)
      simp only at P1 P2
      rw [hinf _ (by omega)] at P1
      rw [hinf _ (by omega)] at P2
      exact hr.fin (r.vals.length - r.per.toNat) (by omega) (by show f.at (r.vals.length - r.per.toNat + n) = inf; omega)
    · have h1 := hr.p1; have h2 := hr.i0
      have hl : r.vals.length ≤ 21 := by
        rcases Nat.lt_or_ge 21 r.vals.length with h3 | h3
        · exact absurd (hinf 20 (Nat.le_refl _)) (hr.before 20 (by omega))
        · exact h3
      refine ⟨by omega, fun k hk => (okv_iff _).2 ?_, by omega, by omega⟩
      rw [hv k hk]
      rcases bd k (by omega) with h3 | h3
      · exact .inl h3
      · right; omega
theorem wait_inf {n : Nat} {v : Cv} (hv : v.Ok) (e : v.at = waitV n) (t : Nat) : v.infAt t ↔ n < t := by
  constructor
  · intro h
    have h1 := h.2
    rw [e] at h1
    unfold waitV at h1
    split at h1
    · exact absurd h1 (by decide)
    · omega
  · intro h
    refine ⟨?_, by rw [e]; unfold waitV; rw [if_neg (by omega)]⟩
    rcases hv.fin_or with fv | iv
    · exfalso
      have h2 := hv.n2
      have h4 : v.at (n + 1) = inf := by rw [e]; unfold waitV; rw [if_neg (by omega)]
      -- a finite curve of values 0 and inf would have to step to inf
      by_cases hn : n + 1 < v.vals.length
      · rw [Cv.at_lt hn] at h4
        exact (fv.ne _ hn).1 h4
      · have s1 := fv.toL.step (n + 1) (by omega)
        have s0 := fv.toL.step (v.vals.length - v.per.toNat) (Nat.le_refl _)
        have p1 := hv.p1; have pn := hv.pn; have i2 := hv.i2; have i1 := hv.i1
        have e1 : v.at (n + 1 + v.per.toNat) = inf := by rw [e]; unfold waitV; rw [if_neg (by omega)]
        rw [h4, e1] at s1
        have hi : v.inc = 0 := by omega
        -- then the values repeat
        have s2 := fv.toL.step.mul (n + 1) (v.vals.length - v.per.toNat) (Nat.le_refl _)
        rw [hi, Int.mul_zero, Int.add_zero] at s2
        have hge : (n + 1) * 1 ≤ (n + 1) * v.per.toNat := Nat.mul_le_mul_left _ (by omega)
        have e2 : v.at (v.vals.length - v.per.toNat + (n + 1) * v.per.toNat) = inf := by rw [e]; unfold waitV; rw [if_neg (by omega)]
        rw [e2, Cv.at_lt (by omega)] at s2
        exact (fv.ne _ (by omega)).1 s2.symm
    · exact iv
theorem wait_ab {n : Nat} {f v : Cv} (hf : f.Ok) (hv : v.Ok) (e : v.at = waitV n) (k M : Nat) : AB f v k M ↔ (¬ f.infAt (k + n) ∧ f.at (k + n) ≤ M) := by
  constructor
  · intro h
    rcases h n with h1 | ⟨h1, h2⟩
    · have := (wait_inf hv e n).1 h1; omega
    · rw [Nat.add_comm] at h1 h2
      rw [e] at h2
      unfold waitV at h2
      rw [if_pos (Nat.le_refl _), Int.zero_add] at h2
      exact ⟨h1, h2⟩
  · rintro ⟨h1, h2⟩ t
    rcases Nat.lt_or_ge n t with h3 | h3
    · exact .inl ((wait_inf hv e t).2 h3)
    · refine .inr ⟨fun h4 => h1 (h4.later hf (by omega)), ?_⟩
      rw [e]
      unfold waitV
      rw [if_pos h3]
      have := hf.at_le (show t + k ≤ k + n by omega)
      omega
theorem wait_dc {n : Nat} {f v : Cv} (hf : f.Ok) (hv : v.Ok) (e : v.at = waitV n) {D : Nat → Int} (H : DcF f v D) : D = fun t => f.at (t + n) := by
  funext k
  obtain ⟨i, w, A, h1, h2⟩ := H k
  have hz := hf.up0.nn (k + n)
  rcases h1 with ⟨rfl, _, _, h1⟩ | ⟨rfl, h3, h4⟩
  · rw [h2, if_pos rfl]
    by_cases hi : f.infAt (k + n)
    · exact hi.2.symm
    · exact absurd ((wait_ab hf hv e k (f.at (k + n)).toNat).2 ⟨hi, by omega⟩) (h1 _)
  · rw [if_neg (by simp)] at h2
    have h5 := (wait_ab hf hv e k w).1 h3
    have h6 := (ahead_least (.inr ⟨rfl, h3, h4⟩)).2 (f.at (k + n)).toNat ((wait_ab hf hv e k _).2 ⟨h5.1, by omega⟩)
    rw [h2]
    show (w : Int) = f.at (k + n)
    omega
/-- a wait divides -/
theorem wait_x {m n : Nat} {f v x : Cv} {er : Int} (hm : m ≤ 12) (hn : n ≤ 20) (hf : DrawC m f) (hv : v.Ok) (e : v.at = waitV n) (hp : v.per = 1) (hnf : NF v.at v) (H : DcS f v x er) : er = 0 ∧ x.Ok ∧ ∀ t, x.at t = f.at (t + n) := by
  have h0 : v.at 0 = 0 := by rw [e]; rfl
  have hcc : ∃ a b, NF f.at a ∧ NF v.at b ∧ comm a.per.toNat b.per.toNat ≤ 120 := by
    obtain ⟨a, ha⟩ := hf.ok.nf
    refine ⟨a, v, ha, hnf, ?_⟩
    have := comm_le (hf.dvd ha) (show v.per.toNat ∣ 12 by rw [hp]; exact Nat.one_dvd _) (by omega)
    omega
  rcases H with ⟨H, _⟩ | ⟨_, _, _, _, D, hD, g, hg, hM⟩
  · exact absurd hcc (fun hcc => H.not hf.ok hv h0 hcc)
  · obtain rfl := wait_dc hf.ok hv e hD
    have hL := shift_lim hm hn hf hg
    rcases hM with ⟨_, rfl, rfl⟩ | ⟨h1, _⟩
    · refine ⟨rfl, nf_lim_ok hg ⟨hf.ok.up0.nn _, fun t => ?_⟩ hL, fun t => hg.at t⟩
      show f.at (t + n) ≤ f.at (t + 1 + n)
      exact hf.ok.at_le (by omega)
    · exact absurd hL h1
/-- the curve grows by its period more in each period -/
theorem grow_ok {m : Nat} {zs : List Int} {p i : Int} (hf : DrawC m ⟨zs, p, i⟩) (hF : Cv.Fin ⟨zs, p, i⟩) : Cv.Fin ⟨zs, p, i + p⟩ := by
  have h := hf.ok
  have hi := hf.inc; have hp := hf.per; have p1 := h.p1; have i1 := h.i1
  simp only at hi hp p1 i1
  refine ⟨⟨h.n1, h.n2, h.p1, h.p2, h.pn, by show 0 ≤ i + p; omega, by show i + p ≤ 1073741824; omega, h.v, h.z, h.mono, fun e => absurd e hF.2, fun e => ?_⟩, hF.2⟩
  have := h.wrap e
  simp only at this ⊢
  omega
theorem cvZ_fin : cvZ.Fin := ⟨⟨by decide, by decide, by decide, by decide, by decide, by decide, by decide, all_lt (by decide), by decide, fun k hk => by have : k + 1 < 1 := hk; omega, fun h => absurd h (by decide), by decide⟩, by decide⟩
theorem grow_x {m : Nat} {zs : List Int} {p i er : Int} {x : Cv} (hf : DrawC m ⟨zs, p, i⟩) (hF : Cv.Fin ⟨zs, p, i⟩) (H : DcS ⟨zs, p, i + p⟩ cvZ x er) : er = 0 ∧ x = dxI := by
  have fg := grow_ok hf hF
  have hL : Loose ⟨zs, p, i + p⟩ cvZ := ⟨cvZ_fin, .inr (by
    have p1 := hf.ok.p1; have i1 := hf.ok.i1
    simp only at p1 i1
    have hk := comm_facts (p := p.toNat) (q := 1) (by omega) (by omega)
    unfold ordD ordC
    show ((comm p.toNat 1 / p.toNat : Nat) : Int) * (i + p) - ((comm p.toNat 1 / 1 : Nat) : Int) * 0 > 0
    rw [Int.mul_zero, Int.sub_zero]
    have hq : 1 ≤ comm p.toNat 1 / p.toNat := by
      rw [Nat.one_le_iff_ne_zero]
      intro h0
      have := hk.1
      rw [h0] at this
      have h1 := hk.2.2.1
      omega
    exact Int.mul_pos (by omega) (by omega))⟩
  have hcc : ∃ a b, NF (Cv.at ⟨zs, p, i + p⟩) a ∧ NF cvZ.at b ∧ comm a.per.toNat b.per.toNat ≤ 120 := by
    obtain ⟨a, ha⟩ := fg.1.nf
    refine ⟨a, cvZ, ha, nf_one cvZ_fin rfl (.inl rfl), ?_⟩
    have h1 := nf_small fg.1 ha
    have p2 := fg.1.p2; have a1 := h1.1.p1
    have h2 := h1.2.2.1
    simp only at p2 h2
    have h3 := (comm_facts (p := a.per.toNat) (q := 1) (by omega) (by omega)).2.2.2.1
    show comm a.per.toNat 1 ≤ 120
    omega
  rcases H with ⟨H, _⟩ | ⟨_, _, _, _, D, hD, hM⟩
  · exact absurd hcc (fun hcc => H.not fg.1 cvZ_fin.1 (by decide) hcc)
  · rw [dc_loose fg.1 hL hD] at hM
    obtain ⟨h1, h2⟩ := hM.unique (inf_made (r := dxI) (er := 0) (by unfold chk; rw [if_pos ⟨by decide, all_lt (by decide)⟩]; exact ⟨rfl, rfl⟩))
    exact ⟨h2, h1⟩
end Go.Proofs.Ythgfmaijoigckaa
