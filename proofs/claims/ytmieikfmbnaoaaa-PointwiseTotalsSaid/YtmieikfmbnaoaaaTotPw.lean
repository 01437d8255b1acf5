/- Plain words for the statement PointwiseTotals: sums of drawn curves, in any order. -/
import Derived.Test.YtmieikfmbnaoaaaPwTot
import Derived.Test.YtmieikfmbnaoaaaLatPw
namespace Go.Proofs.Ytmieikfmbnaoaaa
set_option linter.unusedVariables false

/-- a sum of m drawn curves -/
structure Nice (m : Nat) (f : Cv) : Prop where
  ok : f.Ok
  bd : ∀ t, f.infAt t ∨ f.at t ≤ m * (400 + 1000 * (t : Int))
  per : (f.Fin ∧ ∃ i : Int, Per f.at 20 12 i) ∨ ∀ t, 20 ≤ t → f.infAt t
theorem Per.twelve {f a : Cv} (ha : NFin f.at a) (hl : a.vals.length - a.per.toNat ≤ 20) (hd : a.per.toNat ∣ 12) : ∃ i : Int, Per f.at 20 12 i := by
  obtain ⟨k, hk⟩ := hd
  have h := ha.per.mul k
  rw [Nat.mul_comm, ← hk] at h
  exact ⟨_, h.mono hl⟩
theorem DrawC.nice {most : Nat} {f : Cv} (hm : most ≤ 12) (h : DrawC most f) : Nice 1 f := by
  have hlen := h.len
  refine ⟨h.ok, fun t => ?_, ?_⟩
  · by_cases hi : f.infAt t
    · exact .inl hi
    · have := h.at_bd hi; right; omega
  · rcases h.ok.fin_or with hF | hi
    · left
      obtain ⟨a, ha⟩ := h.ok.nf
      have hs := nf_small h.ok ha
      have hd := h.dvd ha
      rcases ha with ha | ha
      · exact ⟨hF, Per.twelve ha (by omega) hd⟩
      · exfalso
        have h1 := ha.from_ (a.vals.length - 1) (by have := ha.n1; omega)
        have h2 := h.ok.at_bd (n := a.vals.length - 1) (by have := hs.1.n2; omega)
        exact hF.not_infAt _ (h2.2.2 h1)
    · exact .inr fun t ht => ⟨hi, h.ok.at_inf hi (by omega)⟩
theorem cvZ_at (t : Nat) : cvZ.at t = 0 := zero_nf.at t
theorem cvZ_fin : cvZ.Fin := by
  have ok : cvZ.Ok := nf_lim_ok zero_nf ⟨by omega, fun _ => by omega⟩ cvZ_lim
  exact ⟨ok, by decide⟩
theorem cvZ_nice : Nice 0 cvZ := ⟨cvZ_fin.1, fun t => .inr (by rw [cvZ_at]; omega), .inl ⟨cvZ_fin, 0, fun t _ => by rw [cvZ_at, cvZ_at]; omega⟩⟩
theorem Nice.dvd {m : Nat} {f a : Cv} (h : Nice m f) (ha : NF f.at a) : a.per.toNat ∣ 12 := by
  rcases h.per with ⟨_, i, hi⟩ | hi
  · exact ha.per_dvd (s := 20) (p := 12) (b := i) (by omega) hi
  · refine Nat.dvd_trans (ha.per_dvd (s := 20) (p := 1) (b := 0) (by omega) (fun t ht => ?_)) (Nat.one_dvd 12)
    rw [(hi t ht).2, (hi (t + 1) (by omega)).2]; omega
/-- one more drawn curve -/
theorem nice_sum {m : Nat} {s f r : Cv} {e : Int} (hm : m ≤ 10) (hs : Nice m s) (hf : Nice 1 f) (h : SumS s f r e) : e = 0 ∧ Nice (m + 1) r ∧ NF (sumV s f) r := by
  have hp := nf_pair hs.ok hf.ok (n := 12) (by omega) (by omega) (fun a ha => hs.dvd ha) (fun b hb => hf.dvd hb)
  have hM := SumS.made hs.ok hf.ok hp h
  have up := sumV_up hs.ok hf.ok
  have hbd : ∀ t, (s.infAt t ∨ f.infAt t) ∨ sumV s f t ≤ ((m + 1 : Nat) : Int) * (400 + 1000 * (t : Int)) := fun t => by
    by_cases hi : s.infAt t ∨ f.infAt t
    · exact .inl hi
    · right
      have h' := not_or.1 hi
      unfold sumV
      rw [if_neg hi]
      have h1 := (hs.bd t).resolve_left h'.1; have h2 := (hf.bd t).resolve_left h'.2
      rw [Int.natCast_add, Int.add_mul]
      omega
  have hsm : ∀ t, t < 400 → (s.infAt t ∨ f.infAt t) ∨ sumV s f t ≤ 1073741824 := fun t ht => (hbd t).imp id (fun h1 => by
    have h2 : ((m + 1 : Nat) : Int) * (400 + 1000 * (t : Int)) ≤ 11 * 400400 := Int.mul_le_mul (by omega) (by omega) (by omega) (by omega)
    omega)
  have fin : ∀ (ho : r.Ok) (hn : NF (sumV s f) r), e = 0 → ((r.Fin ∧ ∃ i : Int, Per r.at 20 12 i) ∨ ∀ t, 20 ≤ t → r.infAt t) → e = 0 ∧ Nice (m + 1) r ∧ NF (sumV s f) r := fun ho hn he hx => by
    refine ⟨he, ⟨ho, fun t => ?_, hx⟩, hn⟩
    have i := sum_infAt hs.ok hf.ok ho (fun t => hn.at t) t
    rcases hbd t with h1 | h1
    · exact .inl (i.2 h1)
    · exact .inr (by rw [hn.at]; exact h1)
  have inf' : (∀ t, 20 ≤ t → s.infAt t ∨ f.infAt t) → e = 0 ∧ Nice (m + 1) r ∧ NF (sumV s f) r := fun hx => by
    obtain ⟨a1, a2, a3⟩ := made_inf hM up (k := 20) (by omega) (fun t ht => sumV_inf (hx t ht)) (fun t ht => (hsm t (by omega)).imp (fun h => sumV_inf h) id)
    exact fin a2 a3 a1 (.inr fun t ht => (sum_infAt hs.ok hf.ok a2 (fun t => a3.at t) t).2 (hx t ht))
  rcases hs.per with ⟨fs, i1, P1⟩ | h1
  · rcases hf.per with ⟨ff, i2, P2⟩ | h2
    · have P : Per (sumV s f) 20 12 (i1 + i2) := fun t ht => by
        rw [sumV_fin fs ff, sumV_fin fs ff, P1 t ht, P2 t ht]; omega
      have hns : ∀ t, ¬ (s.infAt t ∨ f.infAt t) := fun t => by rintro (h | h); exact fs.not_infAt t h; exact ff.not_infAt t h
      have hi : i1 + i2 ≤ 1073741824 := by
        have := P 20 (Nat.le_refl _)
        have h3 := (hsm (20 + 12) (by omega)).resolve_left (hns _)
        have h4 := up.nn 20
        omega
      obtain ⟨a1, a2, a3, a4⟩ := made_fin hM up (s := 20) (p := 12) (by omega) P (by omega) (by omega) (fun t ht => (hsm t (by omega)).resolve_left (hns t)) hi
      exact fin a2 a3 a1 (.inl ⟨a4, _, by rw [a3.ats]; exact P⟩)
    · exact inf' fun t ht => .inr (h2 t ht)
  · exact inf' fun t ht => .inl (h1 t ht)
/-- what a total is -/
def totI (fs : List Cv) (t : Nat) : Prop := ∃ f ∈ fs, f.infAt t
def totS (fs : List Cv) (t : Nat) : Int := (fs.map fun f => f.at t).sum
theorem tot_ok : ∀ (fs : List Cv) (m : Nat) (s r : Cv) (e : Int), m + fs.length ≤ 11 → Nice m s → NF s.at s → (∀ f ∈ fs, Nice 1 f) → TotR s fs r e →
    e = 0 ∧ r.Ok ∧ NF r.at r ∧ (∀ t, r.infAt t ↔ s.infAt t ∨ totI fs t) ∧ ∀ t, ¬ r.infAt t → r.at t = s.at t + totS fs t
  | [], m, s, r, e, hm, hs, hn, hf, h => by
    obtain ⟨rfl, rfl⟩ := h
    exact ⟨rfl, hs.ok, hn, fun t => ⟨.inl, fun h => h.elim id (fun ⟨f, hf, _⟩ => by cases hf)⟩, fun t _ => by simp [totS]⟩
  | f :: fs, m, s, r, e, hm, hs, hn, hf, h => by
    obtain ⟨t1, e1, h1, h2⟩ := h
    simp only [List.length_cons] at hm
    obtain ⟨he, ht1, hn1⟩ := nice_sum (m := m) (by omega) hs (hf f (List.mem_cons_self ..)) h1
    rcases h2 with ⟨_, h2⟩ | ⟨h2, _⟩
    · obtain ⟨a1, a2, a3, a4, a5⟩ := tot_ok fs (m + 1) t1 r e (by omega) ht1 (by rw [hn1.ats]; exact hn1) (fun g hg => hf g (List.mem_cons_of_mem _ hg)) h2
      have i1 := sum_infAt hs.ok (hf f (List.mem_cons_self ..)).ok ht1.ok (fun t => hn1.at t)
      refine ⟨a1, a2, a3, fun t => ?_, fun t ht => ?_⟩
      · rw [a4, i1]
        constructor
        · rintro ((h | h) | ⟨g, hg, h⟩)
          · exact .inl h
          · exact .inr ⟨f, List.mem_cons_self .., h⟩
          · exact .inr ⟨g, List.mem_cons_of_mem _ hg, h⟩
        · rintro (h | ⟨g, hg, h⟩)
          · exact .inl (.inl h)
          · rcases List.mem_cons.1 hg with rfl | hg
            · exact .inl (.inr h)
            · exact .inr ⟨g, hg, h⟩
      · have h3 := a5 t ht
        rw [a4, i1] at ht
        have h4 : ¬ (s.infAt t ∨ f.infAt t) := fun h => ht (.inl h)
        have h5 := not_or.1 h4
        rw [h3, sum_at (fun t => hn1.at t) h5.1 h5.2]
        simp only [totS, List.map_cons, List.sum_cons]
        omega
    · exact absurd he h2
theorem sum_perm {l l' : List Int} (h : l.Perm l') : l.sum = l'.sum := by
  induction h with
  | nil => rfl
  | cons x _ ih => simp only [List.sum_cons]; rw [ih]
  | swap x y l => simp only [List.sum_cons]; omega
  | trans _ _ ih1 ih2 => rw [ih1, ih2]
/-- the total does not depend on the order -/
theorem tot_perm {fs gs : List Cv} {r q : Cv} {e e' : Int} (hl : fs.length ≤ 11) (hp : gs.Perm fs) (hf : ∀ f ∈ fs, Nice 1 f) (h : TotR cvZ fs r e) (k : TotR cvZ gs q e') : e = 0 ∧ e' = 0 ∧ r.Ok ∧ q = r := by
  have hz : NF cvZ.at cvZ := by
    have : cvZ.at = fun _ => 0 := funext cvZ_at
    rw [this]; exact zero_nf
  obtain ⟨a1, a2, a3, a4, a5⟩ := tot_ok fs 0 cvZ r e (by omega) cvZ_nice hz hf h
  obtain ⟨b1, b2, b3, b4, b5⟩ := tot_ok gs 0 cvZ q e' (by rw [hp.length_eq]; omega) cvZ_nice hz (fun f hf' => hf f (hp.mem_iff.1 hf')) k
  have hi : ∀ t, q.infAt t ↔ r.infAt t := fun t => by
    rw [a4, b4]
    refine or_congr Iff.rfl ⟨fun ⟨f, h1, h2⟩ => ⟨f, hp.mem_iff.1 h1, h2⟩, fun ⟨f, h1, h2⟩ => ⟨f, hp.mem_iff.2 h1, h2⟩⟩
  refine ⟨a1, b1, a2, NF.unique (h := r.at) (b3.congr fun t => ?_) a3⟩
  by_cases h1 : r.infAt t
  · rw [h1.2, ((hi t).2 h1).2]
  · rw [a5 t h1, b5 t (fun h2 => h1 ((hi t).1 h2))]
    have : totS gs t = totS fs t := sum_perm (hp.map _)
    rw [this]
end Go.Proofs.Ytmieikfmbnaoaaa
