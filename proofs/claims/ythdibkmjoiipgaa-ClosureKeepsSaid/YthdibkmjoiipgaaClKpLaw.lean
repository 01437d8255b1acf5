/- A curve that grows less and less is its own closure, in plain words. -/
import Derived.Test.YthdibkmjoiipgaaConc
import Derived.Test.YthdibkmjoiipgaaClLaw
namespace Go.Proofs.Ythdibkmjoiipgaa
set_option linter.unusedVariables false

/-- a sub-additive function is its own closure -/
theorem clo_keep {u : Nat → Int} (h0 : ∀ t, 0 ≤ u t) (h1 : u 1 ≤ 2147483648) (z : u 0 = 0) (hs : ∀ s v, u (s + v) ≤ u s + u v) (t : Nat) (ht : t ≤ 100000) : clo u t = u t := by
  induction t using Nat.strongRecOn with
  | _ t ih =>
    by_cases e : t = 0
    · subst e; rw [clo_zero, z]
    refine (clo_I u (t := t) (by omega)).unique ⟨Int.le_refl _, fun s h2 h3 => ?_, .inl rfl⟩
    rw [clo_pl h0 h1 (by omega) (by omega), ih s h3 (by omega), ih (t - s) (by omega) (by omega)]
    have := hs s (t - s)
    rwa [show s + (t - s) = t by omega] at this
theorem cl_keeps {f n : Cv} (F : f.Fin) (hp : f.per = 1) (hl : f.vals.length ≤ 20) (hc : Conc f.at) (f0 : f.at 0 = 0) (nf : NF f.at n) : ClS f n 0 ∧ AddB n ∧ n.Ok ∧ NF n.at n := by
  obtain ⟨no, nl, np, _, _⟩ := nf_small F.1 nf
  have n1 := no.p1; have nn1 := no.n1; have nn2 := no.n2
  have nF : n.Fin := (nf.fin_iff F.1).2 F
  have nn := nf.to_at
  have e : n.at = f.at := funext nf.at
  have sub : ∀ s u, n.at (s + u) ≤ n.at s + n.at u := fun s u => by
    rw [e]
    have := conc_min hc hc f0 f0 s u
    rwa [Int.min_self] at this
  have hB : AddB n := fun s u hs hu => by
    rw [pl_fin (fin_at_ne nF (by omega)) (fin_at_ne nF (by omega))]
    exact sub s u
  have h0 := no.up0.nn
  have z : n.at 0 = 0 := by rw [e]; exact f0
  have h1 : n.at 1 ≤ 1073741824 := by
    by_cases k : 1 < n.vals.length
    · rw [Cv.at_lt k]; exact (nF.ne 1 k).2
    · have q := nF.toL.step 0 (by omega)
      have i2 := no.i2
      rw [show 0 + n.per.toNat = 1 by omega] at q
      omega
  have cl1 : clL n n = 1 := by
    unfold clL
    rw [if_pos nF, show n.per = 1 by omega]
    rfl
  have fit : ∀ t, ClFit n n t 0 := fun t => .inl ⟨rfl, rfl, .inr (.inr ⟨nF, nF, rfl⟩)⟩
  have zn : ∀ k m, nth (tab (fun _ => 0) 0 m) k = 0 := fun k m => by
    by_cases q : k < m
    · rw [tab_nth _ _ _ _ q]
    · exact nth_out _ _ (by rw [tab_length]; omega)
  have pv : PvAtC n n (tab (fun _ => 0) 0 (clF n n + clL n n)) := ⟨tab_length _ _ _, fun t ht => ⟨0, zn _ _, Nat.zero_le _, fun _ => fit t, fun x hx => by omega⟩⟩
  have ck : CkC f n (clF n n : Nat) (tab (fun _ => 0) 0 (clF n n + clL n n)) :=
    ⟨F.1, no, nn, by rw [← Cv.at_lt (f := n) (by omega)]; exact z, n, nf, by omega, ⟨rfl, tab_length _ _ _, zn _ _, fun t h2 h3 => by rw [zn]; exact ⟨by omega, fit t⟩⟩, LEC.refl n, hB⟩
  refine ⟨⟨_, _, .inr ⟨F.1, n, nf, .inr ⟨by omega, n, 0, .inl ⟨rfl, no, nn, fun t ht => (clo_keep h0 (by omega) z sub t (by omega)).symm⟩, .inr ⟨rfl, _, pv, .inl ⟨ck, rfl, rfl, rfl, rfl⟩⟩⟩⟩⟩, hB, no, nn⟩
end Go.Proofs.Ythdibkmjoiipgaa
