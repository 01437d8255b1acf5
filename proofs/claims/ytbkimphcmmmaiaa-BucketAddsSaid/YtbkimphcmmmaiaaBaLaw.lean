/- Plain words for the statement BucketAdds (with the words of XBkCov). -/
import Derived.Test.YtbkimphcmmmaiaaTok
import Derived.Test.YtbkimphcmmmaiaaFrSum
import Derived.Test.YtbkimphcmmmaiaaLec
import Derived.Test.YtbkimphcmmmaiaaArith
namespace Go.Proofs.Ytbkimphcmmmaiaa
set_option linter.unusedVariables false

theorem tokc_cur {B b R r : Int} (hB : GOk B b) (hR : GOk R r) (hB1 : B ≤ 1000) (hr : r ≤ 120) (hR1 : R ≤ 1000) : ∃ g, NF (tokV B b R r) g ∧ Lim g ∧ g.Ok := by
  have hb0 := hB.1.1; have hB0 := hB.2; have hr0 := hR.1.1; have hR0 := hR.2
  refine lim_of (tok_up hB0 hb0 hR0 hr0) (p := r.toNat) (i := R) (by omega) (by omega) (tok_per hb0 hr0) (fun t ht => ?_) (by omega)
  by_cases h0 : t = 0
  · rw [h0, tok_zero]; omega
  · have h1 := tok_le hB0 hb0 hR0 hr0 (t := t) (by omega)
    have h2 : R * ((t : Int) - 1) ≤ 1000 * 120 := Int.mul_le_mul hR1 (by omega) (by omega) (by omega)
    omega
theorem tokc_made {B b R r : Int} (hB : GOk B b) (hR : GOk R r) (hr : r ≤ 120) {f g : Cv} {er : Int} (h : TokS B b R r f er) (hg : NF (tokV B b R r) g) (hl : Lim g) : f = g ∧ er = 0 := by
  rcases h with ⟨h, _⟩ | ⟨_, _, h, _⟩ | ⟨_, _, _, h⟩
  · exact absurd ⟨hB, hR⟩ h
  · omega
  · exact h.eq hg hl
theorem tokc_fin {B b R r : Int} (hB : GOk B b) (hR : GOk R r) {g : Cv} (hg : NF (tokV B b R r) g) (ho : g.Ok) : g.Fin :=
  nf_fin hg ho (fun t ht => small_ne (by have := tok_bd hB hR (k := t) (by omega); omega))
theorem stc_cur {S E A : Int} (hS : 0 ≤ S) (hS1 : S ≤ 100) (hE : 1 ≤ E) (hE1 : E ≤ 120) (hA : 0 ≤ A) (hA1 : A ≤ 100) : ∃ g, NF (stV S E A) g ∧ Lim g ∧ g.Ok := by
  refine lim_of (st_up hS hE hA) (p := E.toNat) (i := S) (by omega) (by omega) (st_per hE) (fun t ht => ?_) (by omega)
  by_cases h0 : t = 0
  · rw [h0, st_zero]; omega
  · have h1 := st_le hS hE hA (t := t) (by omega)
    have h2 : S * ((t : Int) + A) ≤ 100 * 220 := Int.mul_le_mul hS1 (by omega) (by omega) (by omega)
    omega
/-- a staircase is at most its token -/
theorem st_tok {S E A B b R r : Int} (hS : 0 ≤ S) (hE : 1 ≤ E) (hA : 0 ≤ A) (hb : 1 ≤ b) (hr : 1 ≤ r) (e1 : B * E = S * (E + A) * b) (e2 : R * E = S * r) (t : Nat) : stV S E A t ≤ tokV B b R r t := by
  by_cases h0 : t = 0
  · subst h0; rw [st_zero, tok_zero]; omega
  · rw [st_pos _ _ _ (by omega), tok_pos _ _ _ _ (by omega)]
    obtain ⟨q, hq⟩ : ∃ q, q = ((t : Int) + A + E - 1) / E := ⟨_, rfl⟩
    have h1 : q * E ≤ (t : Int) + A + E - 1 := by rw [hq]; exact Int.ediv_mul_le _ (by omega)
    rw [← hq]
    have hbr : 1 * 1 ≤ b * r := Int.mul_le_mul hb hr (by omega) (by omega)
    refine (Int.le_ediv_iff_mul_le (by omega)).2 ?_
    refine (mul_le_iff hE).1 ?_
    generalize (t : Int) = T at *
    have k := Int.mul_le_mul_of_nonneg_left h1 (show 0 ≤ S * (b * r) from Int.mul_nonneg hS (by omega))
    have a1 : S * q * (b * r) * E = S * (b * r) * (q * E) := by grind
    have a2 : (B * r + R * (T - 1) * b) * E = S * (b * r) * (T + A + E - 1) := by
      have : (B * r + R * (T - 1) * b) * E = B * E * r + R * E * (T - 1) * b := by grind
      rw [this, e1, e2]; grind
    rw [a1, a2]; exact k
theorem st_one {S E A : Int} (hS : 0 ≤ S) (hE : 1 ≤ E) (hA : 0 ≤ A) : S ≤ stV S E A 1 := by
  rw [st_pos _ _ _ (by omega)]
  have : 1 ≤ (((1 : Nat) : Int) + A + E - 1) / E := (Int.le_ediv_iff_mul_le (by omega)).2 (by omega)
  have h2 : S * 1 ≤ S * ((((1 : Nat) : Int) + A + E - 1) / E) := Int.mul_le_mul_of_nonneg_left this hS
  omega
theorem lecc {h k : Nat → Int} {f g : Cv} (hf : NF h f) (hg : NF k g) (of : f.Fin) (h1 : ∀ t, h t ≤ k t) : LEC f g := fun n => .inr ⟨of.not_infAt n, by rw [hf.at, hg.at]; exact h1 n⟩
theorem atmc {f g : Cv} (hf : f.Ok) (hg : g.Ok) (h : LEC f g) : AtM f g true := .inl ⟨hf, hg, ⟨fun _ n => h.up n, fun _ => rfl⟩⟩
/-- a sum of two small good fractions -/
theorem fadd_fit2 {a b c d : Int} (h1 : GOk a b) (h2 : GOk c d) (ha : a ≤ 500) (hb : b ≤ 12) (hc : c ≤ 500) (hd : d ≤ 12) :
    (fadd a b c d).2.2 = 0 ∧ GOk (fadd a b c d).1 (fadd a b c d).2.1 ∧ (fadd a b c d).1 * (b * d) = (a * d + c * b) * (fadd a b c d).2.1 ∧ (fadd a b c d).1 ≤ a * d + c * b ∧ (fadd a b c d).2.1 ≤ b * d := by
  have hb0 := h1.1.1; have hd0 := h2.1.1; have ha0 := h1.2; have hc0 := h2.2
  have m1 : 0 ≤ a * d := Int.mul_nonneg ha0 (by omega)
  have m2 : a * d ≤ 500 * 12 := Int.mul_le_mul ha hd (by omega) (by omega)
  have m3 : 0 ≤ c * b := Int.mul_nonneg hc0 (by omega)
  have m4 : c * b ≤ 500 * 12 := Int.mul_le_mul hc hb (by omega) (by omega)
  have m5 : 1 * 1 ≤ b * d := Int.mul_le_mul hb0 hd0 (by omega) (by omega)
  have m6 : b * d ≤ 12 * 12 := Int.mul_le_mul hb hd (by omega) (by omega)
  have e : fadd a b c d = fnew (a * d + c * b) (b * d) := by unfold fadd; rw [if_pos ⟨h1.1, h2.1⟩]
  rw [e]
  obtain ⟨k1, k2, k3, k4⟩ := fnew_small2 (n := a * d + c * b) (d := b * d) (by omega) (by omega) (by omega) (by omega)
  have k3 := k3 (by omega)
  exact ⟨k1, ⟨fnew_ok (by omega) k1, k3.1⟩, k2, k3.2, k4⟩
theorem ediv_sub {K X Y Z : Int} (hK : 1 ≤ K) (h : Z + K ≤ X + Y + 1) : Z / K ≤ X / K + Y / K := by
  have h1 : X < (X / K + 1) * K := Int.lt_ediv_add_one_mul_self X (by omega)
  have h2 : Y < (Y / K + 1) * K := Int.lt_ediv_add_one_mul_self Y (by omega)
  have h3 : Z < (X / K + Y / K + 1) * K := by
    have e : (X / K + Y / K + 1) * K = (X / K + 1) * K + (Y / K + 1) * K - K := by grind
    omega
  have h4 := Int.ediv_lt_of_lt_mul (show 0 < K by omega) h3
  omega
/-- a token with a burst of at least the rate plus 1 is sub-additive -/
theorem tok_sub {B b R r : Int} (hB : 0 ≤ B) (hb : 1 ≤ b) (hR : 0 ≤ R) (hr : 1 ≤ r) (h : (R + r) * b ≤ B * r) (s u : Nat) : tokV B b R r (s + u) ≤ tokV B b R r s + tokV B b R r u := by
  by_cases h1 : s = 0
  · subst h1; rw [Nat.zero_add, tok_zero]; omega
  by_cases h2 : u = 0
  · subst h2; rw [Nat.add_zero, tok_zero]; omega
  rw [tok_pos _ _ _ _ (by omega), tok_pos _ _ _ _ (by omega), tok_pos _ _ _ _ (by omega)]
  have hbr : 1 * 1 ≤ b * r := Int.mul_le_mul hb hr (by omega) (by omega)
  refine ediv_sub (by omega) ?_
  rw [show ((s + u : Nat) : Int) = (s : Int) + u by omega]
  generalize (s : Int) = S at *
  generalize (u : Int) = U at *
  have e1 : R * (S + U - 1) * b = R * (S - 1) * b + R * (U - 1) * b + R * b := by grind
  have e2 : (R + r) * b = R * b + b * r := by grind
  omega
/-- a staircase is sub-additive -/
theorem st_sub {S E A : Int} (hS : 0 ≤ S) (hE : 1 ≤ E) (hA : 0 ≤ A) (s u : Nat) : stV S E A (s + u) ≤ stV S E A s + stV S E A u := by
  by_cases h1 : s = 0
  · subst h1; rw [Nat.zero_add, st_zero]; omega
  by_cases h2 : u = 0
  · subst h2; rw [Nat.add_zero, st_zero]; omega
  rw [st_pos _ _ _ (by omega), st_pos _ _ _ (by omega), st_pos _ _ _ (by omega), ← Int.mul_add]
  refine Int.mul_le_mul_of_nonneg_left (ediv_sub hE ?_) hS
  omega
/-- the sum of two tokens is at most the token of the sums -/
theorem tok_sum {B1 b1 R1 r1 B2 b2 R2 r2 W w V v : Int} (hb1 : 1 ≤ b1) (hr1 : 1 ≤ r1) (hb2 : 1 ≤ b2) (hr2 : 1 ≤ r2) (hw : 1 ≤ w) (hv : 1 ≤ v) (eW : W * (b1 * b2) = (B1 * b2 + B2 * b1) * w) (eV : V * (r1 * r2) = (R1 * r2 + R2 * r1) * v) (t : Nat) :
    tokV B1 b1 R1 r1 t + tokV B2 b2 R2 r2 t ≤ tokV W w V v t := by
  by_cases h0 : t = 0
  · subst h0; rw [tok_zero, tok_zero, tok_zero]; omega
  rw [tok_pos _ _ _ _ (by omega), tok_pos _ _ _ _ (by omega), tok_pos _ _ _ _ (by omega)]
  generalize (t : Int) - 1 = T
  have k1 : 1 * 1 ≤ b1 * r1 := Int.mul_le_mul hb1 hr1 (by omega) (by omega)
  have k2 : 1 * 1 ≤ b2 * r2 := Int.mul_le_mul hb2 hr2 (by omega) (by omega)
  have k3 : 1 * 1 ≤ w * v := Int.mul_le_mul hw hv (by omega) (by omega)
  obtain ⟨p, hp⟩ : ∃ p, p = (B1 * r1 + R1 * T * b1) / (b1 * r1) := ⟨_, rfl⟩
  obtain ⟨q, hq⟩ : ∃ q, q = (B2 * r2 + R2 * T * b2) / (b2 * r2) := ⟨_, rfl⟩
  have h1 : p * (b1 * r1) ≤ B1 * r1 + R1 * T * b1 := by rw [hp]; exact Int.ediv_mul_le _ (by omega)
  have h2 : q * (b2 * r2) ≤ B2 * r2 + R2 * T * b2 := by rw [hq]; exact Int.ediv_mul_le _ (by omega)
  rw [← hp, ← hq]
  refine (Int.le_ediv_iff_mul_le (by omega)).2 ?_
  have hK : 1 * 1 ≤ (b1 * r1) * (b2 * r2) := Int.mul_le_mul (by omega) (by omega) (by omega) (by omega)
  refine (mul_le_iff (show 1 ≤ (b1 * r1) * (b2 * r2) by omega)).1 ?_
  have m1 := Int.mul_le_mul_of_nonneg_left h1 (show 0 ≤ (b2 * r2) * (w * v) from Int.mul_nonneg (by omega) (by omega))
  have m2 := Int.mul_le_mul_of_nonneg_left h2 (show 0 ≤ (b1 * r1) * (w * v) from Int.mul_nonneg (by omega) (by omega))
  have e1 : (p + q) * (w * v) * ((b1 * r1) * (b2 * r2)) = (b2 * r2) * (w * v) * (p * (b1 * r1)) + (b1 * r1) * (w * v) * (q * (b2 * r2)) := by grind
  have e2 : (W * v + V * T * w) * ((b1 * r1) * (b2 * r2)) = (b2 * r2) * (w * v) * (B1 * r1 + R1 * T * b1) + (b1 * r1) * (w * v) * (B2 * r2 + R2 * T * b2) := by
    have : (W * v + V * T * w) * ((b1 * r1) * (b2 * r2)) = W * (b1 * b2) * (v * r1 * r2) + V * (r1 * r2) * (T * w * b1 * b2) := by grind
    rw [this, eW, eV]; grind
  rw [e1, e2]; omega
/-- the sum of two tokens' curves -/
theorem tok_plus {B1 b1 R1 r1 B2 b2 R2 r2 : Int} {f g r : Cv} {er : Int} (hG1 : GOk B1 b1) (hG2 : GOk R1 r1) (hG3 : GOk B2 b2) (hG4 : GOk R2 r2) (hB1 : B1 ≤ 1000) (hR1 : R1 ≤ 100) (hr1 : r1 ≤ 4) (hB2 : B2 ≤ 1000) (hR2 : R2 ≤ 100) (hr2 : r2 ≤ 4)
    (hf : NF (tokV B1 b1 R1 r1) f) (hfo : f.Ok) (hg : NF (tokV B2 b2 R2 r2) g) (hgo : g.Ok) (H : SumS f g r er) : er = 0 ∧ r.Fin ∧ NF (fun t => tokV B1 b1 R1 r1 t + tokV B2 b2 R2 r2 t) r := by
  have F := tokc_fin hG1 hG2 hf hfo
  have G := tokc_fin hG3 hG4 hg hgo
  have ef : f.at = tokV B1 b1 R1 r1 := funext hf.at
  have eg : g.at = tokV B2 b2 R2 r2 := funext hg.at
  have b1p := hG1.1.1; have r1p := hG2.1.1; have b2p := hG3.1.1; have r2p := hG4.1.1
  have B1p := hG1.2; have R1p := hG2.2; have B2p := hG3.2; have R2p := hG4.2
  have P1 := tok_per (B := B1) (R := R1) b1p r1p
  have P2 := tok_per (B := B2) (R := R2) b2p r2p
  have lf : ∀ {h : Nat → Int} {q : Cv} {p s : Nat} {i : Int}, NF h q → 1 ≤ p → p ≤ 4 → Per h s p i → q.per.toNat ≤ 4 := fun hq h1 h2 h3 => by
    rcases hq with hq | hq
    · have := hq.least _ _ _ h1 h3; omega
    · have := hq.p1; omega
  have pf := lf hf (by omega) (by omega) P1
  have pg := lf hg (by omega) (by omega) P2
  have f1 := hfo.p1; have g1 := hgo.p1
  rcases H with ⟨h, _⟩ | ⟨_, _, a, b, ha, hb, h⟩
  · exact absurd ⟨hfo, hgo⟩ h
  · rw [ef] at ha
    rw [eg] at hb
    obtain rfl := ha.unique hf
    obtain rfl := hb.unique hg
    have hc : comm a.per.toNat b.per.toNat ≤ 4 * 4 := Nat.le_trans (comm_facts (by omega) (by omega)).2.2.2.1 (Nat.mul_le_mul pf pg)
    rcases h with ⟨h1, _⟩ | ⟨_, h⟩
    · omega
    · have es : sumV a b = fun t => tokV B1 b1 R1 r1 t + tokV B2 b2 R2 r2 t := funext fun t => by
        unfold sumV
        rw [if_neg (fun h => h.elim (F.not_infAt t) (G.not_infAt t)), ef, eg]
      rw [es] at h
      obtain ⟨n1, hn1⟩ : ∃ n1 : Nat, n1 = r1.toNat := ⟨_, rfl⟩
      obtain ⟨n2, hn2⟩ : ∃ n2 : Nat, n2 = r2.toNat := ⟨_, rfl⟩
      rw [← hn1] at P1
      rw [← hn2] at P2
      have Q1 := P1.mul n2
      have Q2 := P2.mul n1
      have hp : 1 * 1 ≤ n2 * n1 := Nat.mul_le_mul (by omega) (by omega)
      have hp2 : n2 * n1 ≤ 4 * 4 := Nat.mul_le_mul (by omega) (by omega)
      have hi1 : (n2 : Int) * R1 ≤ 4 * 100 := Int.mul_le_mul (by omega) hR1 R1p (by omega)
      have hi2 : (n1 : Int) * R2 ≤ 4 * 100 := Int.mul_le_mul (by omega) hR2 R2p (by omega)
      have U1 := tok_up B1p b1p R1p r1p; have U2 := tok_up B2p b2p R2p r2p
      obtain ⟨q, hq, hl, ho⟩ := lim_of (h := fun t => tokV B1 b1 R1 r1 t + tokV B2 b2 R2 r2 t) ⟨by have h1 := U1.z; have h2 := U2.z; show 0 ≤ _ + _; omega, fun t => by have h1 := U1.m t; have h2 := U2.m t; show _ + _ ≤ _ + _; omega⟩
        (p := n2 * n1) (i := (n2 : Int) * R1 + (n1 : Int) * R2) (by omega) (by omega)
        (fun t ht => by
          have h1 := Q1 t ht; have h2 := Q2 t ht
          rw [Nat.mul_comm n1 n2] at h2
          show _ + _ = _ + _ + _
          rw [h1, h2]; omega)
        (fun t ht => by
          show tokV B1 b1 R1 r1 t + tokV B2 b2 R2 r2 t ≤ 1073741824
          by_cases h0 : t = 0
          · rw [h0, tok_zero, tok_zero]; omega
          · have k1 := tok_le B1p b1p R1p r1p (t := t) (by omega)
            have k2 := tok_le B2p b2p R2p r2p (t := t) (by omega)
            have k3 : R1 * ((t : Int) - 1) ≤ 100 * 120 := Int.mul_le_mul hR1 (by omega) (by omega) (by omega)
            have k4 : R2 * ((t : Int) - 1) ≤ 100 * 120 := Int.mul_le_mul hR2 (by omega) (by omega) (by omega)
            omega) (by omega)
      obtain ⟨rfl, rfl⟩ := h.eq hq hl
      refine ⟨rfl, nf_fin hq ho (fun t ht => small_ne ?_), hq⟩
      have h1 := tok_bd hG1 hG2 (k := t) (by omega); have h2 := tok_bd hG3 hG4 (k := t) (by omega)
      show tokV B1 b1 R1 r1 t + tokV B2 b2 R2 r2 t ≤ _
      omega
end Go.Proofs.Ytbkimphcmmmaiaa
