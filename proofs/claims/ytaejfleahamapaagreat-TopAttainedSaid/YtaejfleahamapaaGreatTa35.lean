/- . -/
import Derived.Test.YtaejfleahamapaaGreatTa34
import Derived.Test.YtaejfleahamapaaGreatTa23
import Derived.Test.YtaejfleahamapaaGreatTa18
import Derived.Test.YtaejfleahamapaaGreatTa30
namespace Go.Proofs.YtaejfleahamapaaGreat
set_option linter.unusedVariables false
set_option linter.unusedSimpArgs false
section
theorem fiC_good {ps : List PK} : ChGood ps (FiC ps) := by
 intro s r sg hl h
 have h : r = firstV ps s.begun s.t := h
 unfold firstV at h
 cases hx : ps[fbg s.begun]? with
 | none => rw [hx] at h; exact .inl h
 | some x =>
   rw [hx] at h
   simp only at h
   by_cases ht : x.tm ≤ s.t
   ·rw [if_pos ht] at h
    have := (List.getElem?_eq_some_iff.1 hx).1
    exact .inr ⟨_, x, h, hx, fbg_false _ (by omega), ht, fun j y hj _ _ => fbg_true _ hj⟩
   ·rw [if_neg ht] at h
    exact .inl h
theorem fi_none {ps : List PK} (hv : Valid ps) {bs : List Bool} (hl : bs.length = ps.length) {t : Int} (h : firstV ps bs t = -1) : ∀ (i : Nat) (x : PK), ps[i]? = some x → x.tm ≤ t → bs[i]? = some true := by
 intro i x hx ht
 have hi := (List.getElem?_eq_some_iff.1 hx).1
 rcases Nat.lt_or_ge i (fbg bs) with g | g
 ·exact fbg_true _ g
 ·exfalso
  obtain ⟨y, hy⟩ : ∃ y, ps[fbg bs]? = some y := ⟨_, List.getElem?_eq_getElem (by omega)⟩
  unfold firstV at h
  rw [hy] at h
  simp only at h
  have := hv.sorted _ _ y x g hy hx
  rw [if_pos (by omega)] at h
  omega
section
variable {cap : Int} {ps : List PK} {ticks : Nat} {s : RS Unit}
theorem fifo_full (hv : Valid ps) (hfl : ∀ x ∈ ps, x.fl = 0) (hc : 1 ≤ cap) (h : MRun cap 1 ps ticks (FiC ps) () s) : ∀ k, k ≤ s.t → (∀ j : Nat, j ≤ k → cap * j ≤ aV 0 ps j) → s.row 0 k = cap * k
 | 0, _, _ => by
   have := (h.inv hv (fun x hx => by rw [hfl x hx]; decide) hc fiC_good).z 0 (by omega)
   rw [this]; simp
 | k + 1, hk, ha => by
   have hfl1 : ∀ x ∈ ps, x.fl < (1 : Nat) := fun x hx => by rw [hfl x hx]; decide
   have ih := fifo_full hv hfl hc h k (by omega) (fun j hj => ha j (by omega))
   have e1 : ∀ (s : RS Unit) j, s.tot 1 j = s.row 0 j := fun s j => by simp [RS.tot, sumN]
   have up := h.tot_le hv hfl1 hc fiC_good (k + 1) hk
   rw [e1] at up
   obtain ⟨s0, m0, on0, t0, r0, h0⟩ := h.ends hv hfl1 hc k (by omega)
   have q := r0 0 (k + 1) (by omega) (Nat.le_refl _)
   have q2 := r0 0 k (by omega) (by omega)
   have lo : cap * ((k + 1 : Nat) : Int) ≤ s.row 0 (k + 1) := by
    rcases h0 with h0 | ⟨_, hn, sg, hch⟩
    ·have u := m0.used hv hfl1 hc on0
     rw [e1, e1, t0] at u
     rw [show cap * ((k + 1 : Nat) : Int) = cap * k + cap by rw [Int.natCast_add, Int.mul_add]; simp]
     omega
    ·have hi := m0.inv hv hfl1 hc fiC_good
     have ok := m0.ok hv hc
     have hb := fi_none hv ok.lb (show firstV ps s0.begun s0.t = -1 from (show (-1 : Int) = _ from hch).symm)
     have e2 := hi.sum 0 (by omega)
     have e3 : s0.cur = k + 1 := by unfold RS.cur; rw [on0, t0]; rfl
     have e4 : s0.opn ps 0 = 0 := by unfold RS.opn; rw [hn]
     rw [e3, e4] at e2
     have e5 := aV_le_bSum (c := 0) (t := ((k + 1 : Nat) : Int)) (by omega) ok.lb.symm (fun x hx => by obtain ⟨j, hj⟩ := List.getElem?_of_mem hx; have := good_sz hv hj; omega) (fun i x hx _ ht => hb i x hx (by rw [t0]; omega))
     have e6 := ha (k + 1) (Nat.le_refl _)
     simp only [Int.natCast_zero] at e2
     omega
   omega
end
theorem attained {f : Cv} {c : Int} {v A : Nat} (hok : f.Ok) (hf : ∀ n, ¬ f.infAt n) (h0 : f.at 0 = 0) (hs : ∀ s u, f.at (s + u) ≤ f.at s + f.at u) (hc : 1 ≤ c) (hc2 : c ≤ 4000) (hb : AheadS f (lineCv c) 0 false v A) :
 f.at A = c * A + v ∧ ∀ j, j ≤ A → c * j ≤ f.at j := by
 have gl := line_fin (c := c) (by omega) (by omega)
 have ga : ∀ t, (lineCv c).at t = c * t := fun t => line_at (by omega) (by omega) t
 rcases hb with ⟨h, _⟩ | ⟨_, h1, h2, h3⟩
 ·cases h
 ·have le : ∀ t : Nat, f.at t ≤ c * t + v := fun t => by
   rcases h1 t with h | h
   ·exact absurd h (gl.not_infAt t)
   ·have := h.2
    rw [ga] at this
    exact this
  have ea : f.at A = c * A + v := by
   rcases Nat.eq_zero_or_pos v with g | g
   ·rw [h2 g, h0, g]; simp
   ·have := (h3 g).1.2
    rw [ga] at this
    exact this
  refine ⟨ea, fun j hj => ?_⟩
  have h4 := hs j (A - j)
  rw [show j + (A - j) = A by omega, ea] at h4
  have h5 := le (A - j)
  rw [Int.ofNat_sub hj, Int.mul_sub] at h5
  omega
end
section
theorem quart_ok {f : Cv} {m : Nat} {zs : List Int} {d : Int} (hm : m ≤ 12) (hd : DrawC m f) (hf : f.Fin) (hl : zs.length = f.vals.length) (hz : ∀ j, j < f.vals.length → nth zs j = (nth f.vals j).tdiv 4) (d0 : 0 ≤ d) (d1 : d ≤ 10) :
 Cv.Fin ⟨zs, f.per, nth zs (f.vals.length - 1) - nth zs (f.vals.length - f.per.toNat) + d⟩ := by
 have ok := hf.1
 have h1 := ok.n1; have h2 := ok.n2; have h3 := ok.p1; have h4 := ok.p2; have h5 := ok.pn
 have hsm : ∀ k, k < f.vals.length → 0 ≤ nth f.vals k ∧ nth f.vals k ≤ 400 := fun k hk => by
  refine ⟨(ok.nn k).1, ?_⟩
  rcases hd.small k hk with h | h
  ·exfalso
   have e : f.at k = inf := by rw [Cv.at_lt hk]; exact h
   have := hf.at_bd k
   rw [e] at this
   have : (k : Int) * 1073741824 ≤ 400 * 1073741824 := Int.mul_le_mul_of_nonneg_right (by omega) (by omega)
   have : (inf : Int) = 4611686018427387904 := rfl
   omega
  ·exact h
 have hq : ∀ k, k < f.vals.length → 0 ≤ nth zs k ∧ nth zs k ≤ 100 := fun k hk => by
  have := hsm k hk
  rw [hz k hk, Int.tdiv_eq_ediv_of_nonneg this.1]
  omega
 have hmono : ∀ k, k + 1 < f.vals.length → nth zs k ≤ nth zs (k + 1) := fun k hk => by
  have a := hsm k (by omega); have b := hsm (k + 1) hk
  have c := ok.mono k hk
  rw [hz k (by omega), hz (k + 1) hk, Int.tdiv_eq_ediv_of_nonneg a.1, Int.tdiv_eq_ediv_of_nonneg b.1]
  omega
 have hle : ∀ {a b : Nat}, a ≤ b → b < f.vals.length → nth zs a ≤ nth zs b := fun {a b} hab hb => by
  induction b with
  | zero => rw [show a = 0 by omega]; exact Int.le_refl _
  | succ b ih =>
    by_cases e : a = b + 1
    ·rw [e]; exact Int.le_refl _
    ·exact Int.le_trans (ih (by omega) (by omega)) (hmono b hb)
 have a1 := hq (f.vals.length - 1) (by omega)
 have a2 := hq (f.vals.length - f.per.toNat) (by omega)
 have a3 := hle (show f.vals.length - f.per.toNat ≤ f.vals.length - 1 by omega) (by omega)
 have hinf : (inf : Int) = 4611686018427387904 := rfl
 refine ⟨⟨by show 1 ≤ zs.length; omega, by show zs.length ≤ 400; omega, h3, h4, by show f.per ≤ zs.length; omega, by show 0 ≤ _ - _ + d; omega, by show _ - _ + d ≤ 1073741824; omega, fun k hk => ?_, ?_, fun k hk => hmono k (by rw [← hl]; exact hk), fun h => ?_, fun _ => ?_⟩, ?_⟩
 ·have := hq k (by rw [← hl]; exact hk)
  exact (okv_iff _).2 (.inr (by show nth zs k ≤ _; omega))
 ·exact (hq 0 (by omega)).1
 ·exfalso
  have h : nth zs (zs.length - 1) = inf := h
  rw [hl] at h
  omega
 ·show nth zs (zs.length - 1) ≤ nth zs (zs.length - f.per.toNat) + (_ - _ + d)
  rw [hl]
  omega
 ·show nth zs (zs.length - 1) ≠ inf
  rw [hl]
  omega
section
variable {f : Cv} {ticks : Int} {ts : List Int}
theorem grS_gr (hok : f.Ok) (hf : ∀ n, ¬ f.infAt n) (h0 : f.at 0 = 0) (hs : ∀ s u, f.at (s + u) ≤ f.at s + f.at u) (h : GrS f ticks ts) : Gr f ts := by
 induction h with
 | nil => intro j hj; simp at hj
 | snoc ts t h1 h2 h3 h4 ih =>
   rcases h3 with ⟨_, _, h⟩ | ⟨h5, h⟩
   ·cases h
   ·exact (gr_next hok hf h0 hs h5 (by omega) ih h).1 rfl
theorem sub_zero (h0 : f.at 0 = 0) (hs : ∀ s u, f.at (s + u) ≤ f.at s + f.at u) (h1 : f.at 1 < 1) (j : Nat) : f.at j ≤ 0 := by
 induction j with
 | zero => omega
 | succ j ih => have := hs j 1; omega
theorem gr_full (hok : f.Ok) (hf : ∀ n, ¬ f.infAt n) (hnn : ∀ n, n ≤ 100 → 0 ≤ f.at n) (h0 : f.at 0 = 0) (hs : ∀ s u, f.at (s + u) ≤ f.at s + f.at u) {A : Nat} (hA : A ≤ 100) (h : GrE f A ts) (h60 : f.at A ≤ 60) : ∀ j, j ≤ A → aV 0 (ts.map unit) j = f.at j := by
 have hg := grS_gr hok hf h0 hs h.1
 intro j hj
 refine gr_bytes hok hf hg ?_ (hnn j (by omega))
 have hle := hok.at_le hj
 rcases h.2 with h1 | ⟨t, ok, h1, h2⟩
 ·omega
 ·rcases h1 with ⟨h1, _, _⟩ | ⟨h1, h3⟩
  ·have := sub_zero h0 hs h1 j
   omega
  ·have h4 := gr_next hok hf h0 hs h1 h.1.len hg h3
   cases ok with
   | false => have := h4.2 rfl j; omega
   | true =>
     rcases h2 with h2 | h2
     ·cases h2
     ·obtain ⟨u, h5, h6⟩ := h4.1 rfl ts.length (by simp)
      rw [nth_app, if_neg (by omega), if_pos rfl] at h5
      have := h6.2 j (by omega)
      omega
end
theorem ahead_lt {f : Cv} {c : Int} {v A : Nat} (hf : f.Fin) (hc : 1 ≤ c) (hc2 : c ≤ 4000) (h : AheadS f (lineCv c) 0 false v A) : A ≤ 1000 := by
 have gl := line_fin (c := c) (by omega) (by omega)
 have ga : ∀ t, (lineCv c).at t = c * t := fun t => line_at (by omega) (by omega) t
 have ok := hf.1
 have n2 := ok.n2; have p1 := ok.p1; have p2 := ok.p2
 have P := hf.toL.step
 rcases h with ⟨h, _⟩ | ⟨_, h1, h2, h3⟩
 ·cases h
 ·rcases Nat.eq_zero_or_pos v with g | g
  ·rw [h2 g]; omega
  ·obtain ⟨e, hlt⟩ := h3 g
   rcases Nat.lt_or_ge 1000 A with g2 | g2
   ·exfalso
    obtain ⟨r, hr⟩ : ∃ r, A = r + f.per.toNat := ⟨A - f.per.toNat, by omega⟩
    have e1 := P r (by omega)
    have e2 := e.2
    rw [ga, Nat.add_zero, hr, e1, Int.natCast_add, Int.mul_add] at e2
    have e3 := hlt r (by omega)
    rcases e3 with e3 | e3
    ·exact gl.not_infAt _ e3
    ·rw [ga, Nat.add_zero] at e3
     have e4 := P r (by omega)
     have e5 := P (r + f.per.toNat) (by omega)
     have e6 := h1 (r + f.per.toNat + f.per.toNat)
     rcases e6 with e6 | ⟨_, e6⟩
     ·exact gl.not_infAt _ e6
     ·rw [ga, Nat.add_zero, e5, e4] at e6
      rw [show ((r + f.per.toNat + f.per.toNat : Nat) : Int) = (r : Int) + f.per.toNat + f.per.toNat by omega, Int.mul_add, Int.mul_add] at e6
      omega
   ·exact g2
end
end Go.Proofs.YtaejfleahamapaaGreat
