/- A region that draws its order, by an invariant over 14 slots: each operation is shown once, not each order. -/
import Derived.OrdersHeld
import Derived.Deep.RegionHeld
namespace Go.Proofs.Ythdibkmjoiipgaa
open Go
set_option linter.unusedVariables false

section
variable {P : Program} {md : Region.Mode} {ops : Array Oper} {Q : Exit → Act → World → Prop} {S : World → Prop}
/-- how many operations are still to come -/
def cntL (L : List Bool) : Nat := (L.filter (fun b => !b)).length
theorem cntL_set : ∀ (L : List Bool) (i : Nat), L[i]? = some false → cntL (L.set i true) + 1 = cntL L
  | [], _, h => by simp at h
  | b :: L, 0, h => by simp at h; subst h; simp [cntL]
  | b :: L, i + 1, h => by
    have := cntL_set L i (by simpa using h)
    cases b <;> simp [cntL] at this ⊢ <;> omega
theorem cntL_pos : ∀ (L : List Bool), 0 < cntL L → ∃ i : Nat, L[i]? = some false
  | [], h => by simp [cntL] at h
  | false :: L, _ => ⟨0, rfl⟩
  | true :: L, h => by
    obtain ⟨i, hi⟩ := cntL_pos L (by simpa [cntL] using h)
    exact ⟨i + 1, by simpa using hi⟩
/-- every edge goes back -/
def edgesBack (ops : Array Oper) : Bool := (List.range ops.size).all fun j => match ops[j]? with | none => true | some o => o.after.all fun e => decide (e.on < j)
theorem edgesBack_at (h : edgesBack ops = true) {j : Nat} {o : Oper} (ho : ops[j]? = some o) : ∀ e ∈ o.after, e.on < j := by
  have hj : j < ops.size := by
    rcases Nat.lt_or_ge j ops.size with h1 | h1
    · exact h1
    · rw [Array.getElem?_eq_none h1] at ho; cases ho
  have h1 := List.all_eq_true.1 h j (List.mem_range.2 hj)
  rw [ho] at h1
  intro e he
  exact of_decide_eq_true (Array.all_eq_true_iff_forall_mem.1 h1 e he)
theorem getD_of_list {l : Array Bool} {i : Nat} {b d : Bool} (h : l.toList[i]? = some b) : l.getD i d = b := by
  rw [Array.getElem?_toList] at h
  simp [h]
theorem ready_some (hw : edgesBack ops = true) {l : Array Bool} (hl : l.size = ops.size) (h : ∃ j : Nat, l.toList[j]? = some false) : Region.ready md ops l ≠ [] := by
  have key : ∀ n j : Nat, j ≤ n → l.toList[j]? = some false → Region.ready md ops l ≠ [] := by
    intro n
    induction n with
    | zero =>
      intro j hj h
      obtain rfl : j = 0 := by omega
      have hs : 0 < ops.size := by
        rw [← hl]
        rcases Nat.lt_or_ge 0 l.size with h1 | h1
        · exact h1
        · rw [List.getElem?_eq_none (by simpa using h1)] at h; cases h
      refine List.ne_nil_of_mem (mem_ready.2 ⟨getD_of_list h, ops[0], Array.getElem?_eq_getElem hs, fun e he _ => ?_⟩)
      have := edgesBack_at hw (Array.getElem?_eq_getElem hs) e he
      omega
    | succ n ih =>
      intro j hj h
      have hs : j < ops.size := by
        rw [← hl]
        rcases Nat.lt_or_ge j l.size with h1 | h1
        · exact h1
        · rw [List.getElem?_eq_none (by simpa using h1)] at h; cases h
      by_cases hq : ∃ k : Nat, k < j ∧ l.toList[k]? = some false
      · obtain ⟨k, hk, hk2⟩ := hq
        exact ih k (by omega) hk2
      · refine List.ne_nil_of_mem (mem_ready.2 ⟨getD_of_list h, ops[j], Array.getElem?_eq_getElem hs, fun e he _ => ?_⟩)
        have hlt := edgesBack_at hw (Array.getElem?_eq_getElem hs) e he
        have hk : e.on < l.toList.length := by simp; omega
        have h2 : l.toList[e.on]? = some l.toList[e.on] := List.getElem?_eq_getElem hk
        cases hb : l.toList[e.on] with
        | false => rw [hb] at h2; exact absurd ⟨e.on, hlt, h2⟩ hq
        | true => rw [hb] at h2; exact getD_of_list h2
  obtain ⟨j, h⟩ := h
  exact key j j (Nat.le_refl _) h
theorem getD_true {l : Array Bool} (h : cntL l.toList = 0) (j : Nat) : l.getD j true = true := by
  rcases Nat.lt_or_ge j l.size with h1 | h1
  · have h2 : l.toList[j]? = some (l.toList[j]'(by simpa using h1)) := List.getElem?_eq_getElem (by simpa using h1)
    cases hb : l.toList[j]'(by simpa using h1) with
    | false =>
      rw [hb] at h2
      have := cntL_set l.toList j h2
      omega
    | true => rw [hb] at h2; exact getD_of_list h2
  · simp [Array.getElem?_eq_none h1]
theorem wpAnyH_inv14 {n : Nat} {l : Array Bool} {w0 : World} {F : Value → Value → Value → Value → Value → Value → Value → Value → Value → Value → Value → Value → Value → Value → Act} (Inv : Array Bool → Value → Value → Value → Value → Value → Value → Value → Value → Value → Value → Value → Value → Value → Value → World → Prop) (hw : edgesBack ops = true) (hl : l.size = ops.size) (hn : cntL l.toList = n)
    (hend : ∀ l u0 u1 u2 u3 u4 u5 u6 u7 u8 u9 u10 u11 u12 u13 w, Inv l u0 u1 u2 u3 u4 u5 u6 u7 u8 u9 u10 u11 u12 u13 w → (∀ j, l.getD j true = true) → Q .normal (F u0 u1 u2 u3 u4 u5 u6 u7 u8 u9 u10 u11 u12 u13) w)
    (hstep : ∀ l u0 u1 u2 u3 u4 u5 u6 u7 u8 u9 u10 u11 u12 u13 w i o, Inv l u0 u1 u2 u3 u4 u5 u6 u7 u8 u9 u10 u11 u12 u13 w → l.getD i true = false → ops[i]? = some o → (∀ e ∈ o.after, Region.binds md e = true → l.getD e.on false = true) →
      ∀ K' : Act → World → Prop, Shut (∀ v0 v1 v2 v3 v4 v5 v6 v7 v8 v9 v10 v11 v12 v13 w', Inv (l.setIfInBounds i true) v0 v1 v2 v3 v4 v5 v6 v7 v8 v9 v10 v11 v12 v13 w' → S w' → K' (F v0 v1 v2 v3 v4 v5 v6 v7 v8 v9 v10 v11 v12 v13) w') →
        if Region.wanted o (yielded ops (F u0 u1 u2 u3 u4 u5 u6 u7 u8 u9 u10 u11 u12 u13).tmps) = true then Oper.wp P o (F u0 u1 u2 u3 u4 u5 u6 u7 u8 u9 u10 u11 u12 u13) w K' Q else K' ((F u0 u1 u2 u3 u4 u5 u6 u7 u8 u9 u10 u11 u12 u13).put o.dst undef) w)
    (h0 : ∀ u0 u1 u2 u3 u4 u5 u6 u7 u8 u9 u10 u11 u12 u13, Inv l u0 u1 u2 u3 u4 u5 u6 u7 u8 u9 u10 u11 u12 u13 w0) : ∀ u0 u1 u2 u3 u4 u5 u6 u7 u8 u9 u10 u11 u12 u13, wpAnyH P md ops Q S n l (F u0 u1 u2 u3 u4 u5 u6 u7 u8 u9 u10 u11 u12 u13) w0 := by
  have key : ∀ n (l : Array Bool), l.size = ops.size → cntL l.toList = n → ∀ u0 u1 u2 u3 u4 u5 u6 u7 u8 u9 u10 u11 u12 u13 w, Inv l u0 u1 u2 u3 u4 u5 u6 u7 u8 u9 u10 u11 u12 u13 w → wpAnyH P md ops Q S n l (F u0 u1 u2 u3 u4 u5 u6 u7 u8 u9 u10 u11 u12 u13) w := by
    intro n
    induction n with
    | zero =>
      intro l hl hn u0 u1 u2 u3 u4 u5 u6 u7 u8 u9 u10 u11 u12 u13 w hI
      refine ⟨?_, hend l u0 u1 u2 u3 u4 u5 u6 u7 u8 u9 u10 u11 u12 u13 w hI (getD_true hn)⟩
      rcases hr : Region.ready md ops l with _ | ⟨i, r⟩
      · rfl
      · exfalso
        have hi : i ∈ Region.ready md ops l := by rw [hr]; exact List.mem_cons_self ..
        have h1 := (mem_ready.1 hi).1
        rw [getD_true hn] at h1
        cases h1
    | succ n ih =>
      intro l hl hn u0 u1 u2 u3 u4 u5 u6 u7 u8 u9 u10 u11 u12 u13 w hI
      refine ⟨fun hr => absurd hr (ready_some hw hl (cntL_pos _ (by omega))), fun i hi => ?_⟩
      obtain ⟨h1, o, ho, hd⟩ := mem_ready.1 hi
      have hi2 : l.toList[i]? = some false := by
        rcases Nat.lt_or_ge i l.size with h2 | h2
        · have h3 : l.toList[i]? = some (l.toList[i]'(by simpa using h2)) := List.getElem?_eq_getElem (by simpa using h2)
          rw [h3, ← h1, getD_of_list h3]
        · simp [Array.getElem?_eq_none h2] at h1
      refine wpOp_step ho (fun K' hK => hstep l u0 u1 u2 u3 u4 u5 u6 u7 u8 u9 u10 u11 u12 u13 w i o hI h1 ho hd K' (fun v0 v1 v2 v3 v4 v5 v6 v7 v8 v9 v10 v11 v12 v13 w' h2 h3 => hK _ _ ⟨h3, ih _ (by simpa using hl) ?_ v0 v1 v2 v3 v4 v5 v6 v7 v8 v9 v10 v11 v12 v13 w' h2⟩))
      have := cntL_set l.toList i hi2
      rw [Array.toList_setIfInBounds]
      omega
  intro u0 u1 u2 u3 u4 u5 u6 u7 u8 u9 u10 u11 u12 u13
  exact key n l hl hn u0 u1 u2 u3 u4 u5 u6 u7 u8 u9 u10 u11 u12 u13 w0 (h0 u0 u1 u2 u3 u4 u5 u6 u7 u8 u9 u10 u11 u12 u13)
theorem drop_hyp14 {T H : Value → Value → Value → Value → Value → Value → Value → Value → Value → Value → Value → Value → Value → Value → Prop} (h : ∀ u0 u1 u2 u3 u4 u5 u6 u7 u8 u9 u10 u11 u12 u13, T u0 u1 u2 u3 u4 u5 u6 u7 u8 u9 u10 u11 u12 u13) : ∀ u0 u1 u2 u3 u4 u5 u6 u7 u8 u9 u10 u11 u12 u13, H u0 u1 u2 u3 u4 u5 u6 u7 u8 u9 u10 u11 u12 u13 → T u0 u1 u2 u3 u4 u5 u6 u7 u8 u9 u10 u11 u12 u13 := fun u0 u1 u2 u3 u4 u5 u6 u7 u8 u9 u10 u11 u12 u13 _ => h u0 u1 u2 u3 u4 u5 u6 u7 u8 u9 u10 u11 u12 u13
theorem gsB {l : Array Bool} {i j : Nat} (h : (l.setIfInBounds i true).getD j false = true) (hne : i ≠ j) : l.getD j false = true := by rwa [getD_set_ne false hne] at h
end
end Go.Proofs.Ythdibkmjoiipgaa
