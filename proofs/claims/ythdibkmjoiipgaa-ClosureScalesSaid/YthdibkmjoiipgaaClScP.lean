/- The closure of a multiple, and that of the greater one: what the statement asks, in plain words. -/
import Derived.Test.YthdibkmjoiipgaaClScLaw
import Derived.Test.YthdibkmjoiipgaaClMnLaw
import Derived.Test.YthdibkmjoiipgaaDraw
namespace Go.Proofs.Ythdibkmjoiipgaa
set_option linter.unusedVariables false

theorem draw_bd {most : Nat} {f : Cv} (h : DrawC most f) (F : f.Fin) (hm : most ≤ 12) (t : Nat) : f.at t ≤ 400 + 1000 * t := by
  have p1 := h.ok.p1; have pn := h.ok.pn; have i2 := h.inc; have n1 := h.ok.n1
  induction t using Nat.strongRecOn with
  | _ t ih =>
    by_cases e : t < f.vals.length
    · rw [Cv.at_lt e]
      rcases h.small t e with k | k
      · have := (F.ne t e).2
        rw [k] at this
        unfold inf at this
        omega
      · omega
    · have q := F.toL.step (t - f.per.toNat) (by omega)
      rw [show t - f.per.toNat + f.per.toNat = t by omega] at q
      have := ih (t - f.per.toNat) (by omega)
      rw [q]
      omega
theorem sc_x {most : Nat} {f x : Cv} {k ex : Int} (D : DrawC most f) (F : f.Fin) (hm : most ≤ 12) (hk : 1 ≤ k) (hk2 : k ≤ 100) (S : ScaleS f k x ex) : ∃ a, NF f.at a ∧ ScF a x k ∧ NF x.at x ∧ a.at 1 ≤ 10000 := by
  rcases S with ⟨h, _⟩ | ⟨_, h, _⟩ | ⟨_, _, _, a, ha, b, hb, H⟩
  · exact absurd F.1 h
  · omega
  have ao := (nf_small F.1 ha).1
  have aF : a.Fin := (ha.fin_iff F.1).2 F
  have bd := fun t => draw_bd D F hm t
  have n2 := ao.n2; have p2 := ao.p2; have p1 := ao.p1; have i1 := ao.i1
  have up := F.1.up0.nn
  have hi : a.inc * k ≤ 1073741824 := by
    have k0 := aF.per400 400 (by omega)
    rw [ha.at, ha.at] at k0
    have a1 := bd (400 + a.per.toNat); have a2 := up 400
    have : a.inc * k ≤ 1000000 * 100 := Int.mul_le_mul (by omega) hk2 (by omega) (by omega)
    omega
  obtain ⟨q1, q2⟩ := scF_of (k := k) aF ha.to_at hk hk2 (fun t ht => by
    have a1 := bd t; have a2 := up t
    rw [ha.at]
    have : f.at t * k ≤ 1000000 * 100 := Int.mul_le_mul (by omega) hk2 (by omega) (by omega)
    omega) hi
  have e : b = scaleL a k := hb.unique (scale_is ao ha.to_at hk (by omega))
  subst e
  have xo := q1.fx.1
  rcases H with ⟨_, rfl, _⟩ | ⟨hl, _⟩
  · exact ⟨a, ha, q1, q2, by have := bd 1; rw [ha.at]; omega⟩
  · exact absurd ⟨xo.n2, xo.v, xo.p2, xo.i2⟩ hl
theorem sc_eq {a c : Cv} {k i : Int} (H : ScF a (scaleL a k) k) (hn : NF a.at a) (hk2 : k ≤ 100) (S : ScaleS a k c i) : c = scaleL a k ∧ i = 0 := by
  have hk := H.k1
  rcases S with ⟨h, _⟩ | ⟨_, h, _⟩ | ⟨_, _, _, a', ha, b, hb, P⟩
  · exact absurd H.fa.1 h
  · omega
  obtain rfl := ha.unique hn
  have e : b = scaleL a' k := hb.unique (scale_is H.fa.1 hn hk (by omega))
  subst e
  have xo := H.fx.1
  rcases P with ⟨_, rfl, rfl⟩ | ⟨hl, _⟩
  · exact ⟨rfl, rfl⟩
  · exact absurd ⟨xo.n2, xo.v, xo.p2, xo.i2⟩ hl
/-- what Scale and Of return -/
theorem sc_law {most : Nat} {f x a b : Cv} {k ex e eb : Int} (D : DrawC most f) (F : f.Fin) (hm : most ≤ 12) (hk : 1 ≤ k) (hk2 : k ≤ 100) (S : ScaleS f k x ex) (SA : ClS f a e) (SB : ClS x b eb) :
    (e = 0 ∧ eb = 0 ∧ a.Ok ∧ b.Ok ∧ ∀ c i, ScaleS a k c i → c = b ∧ i = 0) ∨ (e = 3 ∧ eb = 3) := by
  obtain ⟨n, hn, H, nx, h1⟩ := sc_x D F hm hk hk2 S
  obtain ⟨fr, cs, P⟩ := SA
  rcases pv_scale F.1 hn nx H h1 hk2 P with ⟨rfl, K, Q, nh⟩ | ⟨rfl, K⟩
  · obtain ⟨rfl, rfl⟩ := SB.unique K
    exact .inl ⟨rfl, rfl, Q.fa.1, Q.fx.1, fun c i hc => sc_eq Q nh hk2 hc⟩
  · obtain ⟨rfl, rfl⟩ := SB.unique K
    exact .inr ⟨rfl, rfl⟩
theorem max_lec {f g m : Cv} (F : f.Fin) (G : g.Fin) (em : m.at = exV false f g) : LEC f m := fun n => by
  refine .inr ⟨F.not_infAt n, ?_⟩
  rw [em]
  unfold exV
  rw [if_neg (F.not_infAt n), if_neg (G.not_infAt n)]
  unfold pk
  simp only [Bool.false_eq_true, if_false]
  omega
theorem sc_max {f g m a o : Cv} {fr fr' : Int} {cs cs' : List Int} (F : f.Fin) (G : g.Fin) (em : m.at = exV false f g) (SA : CkC f a fr cs) (SO : CkC m o fr' cs') : LEC a o :=
  ck_below SO SA ((ck_get SA).2.2.2.1.trans (max_lec F G em))
theorem cl_ck {f r : Cv} (H : ClS f r 0) : ∃ fr cs, CkC f r fr cs := by
  obtain ⟨fr, cs, H⟩ := H
  exact ⟨fr, cs, pv_ck H⟩
end Go.Proofs.Ythdibkmjoiipgaa
