/- By whom, in plain words. -/
import Derived.Test.YtobbjdindknkdaaJm
namespace Go.Proofs.Ytobbjdindknkdaa
open Go Go.RowKit
set_option linter.unusedSimpArgs false
set_option linter.unusedVariables false

/-! ### by whom, in plain words -/
theorem costS_symm (n : Int) (E : List Link) (a b : Int) : costS n E a b = costS n E b a := by
  unfold costS costOf
  rw [Int.min_comm a b, Int.max_comm a b, Bool.and_comm]
/-- the least number below m of which Q holds, or -1 -/
def leastQ (Q : Nat → Bool) : Nat → Int
  | 0 => -1
  | m + 1 => if leastQ Q m = -1 ∧ Q m = true then (m : Int) else leastQ Q m
theorem leastQ_spec (Q : Nat → Bool) : ∀ m, (leastQ Q m = -1 ∧ ∀ k, k < m → Q k = false) ∨ ∃ k : Nat, k < m ∧ leastQ Q m = k ∧ Q k = true ∧ ∀ j, j < k → Q j = false
  | 0 => .inl ⟨rfl, fun k h => by omega⟩
  | m + 1 => by
    rw [leastQ]
    rcases leastQ_spec Q m with ⟨h1, h2⟩ | ⟨k, hk, h1, h2, h3⟩
    · by_cases hq : Q m = true
      · rw [if_pos ⟨h1, hq⟩]
        exact .inr ⟨m, by omega, rfl, hq, h2⟩
      · rw [if_neg (by simp [hq])]
        refine .inl ⟨h1, fun k hk => ?_⟩
        by_cases e : k = m
        · subst e; simpa using hq
        · exact h2 k (by omega)
    · rw [if_neg (by rw [h1]; omega)]
      exact .inr ⟨k, by omega, h1, h2, h3⟩
def whomQ (N : Nat) (E : List Link) (p : Pol) (R : List Int) (i k : Nat) : Bool := decide ((costS N E i k).2 = 0 ∧ i ≠ 0 ∧ at0 R i ≠ 65535 ∧ byS N E p k (at0 R k) i = at0 R i)
theorem whom_fold (N : Nat) (E : List Link) (p : Pol) (R : List Int) (i : Nat) : ∀ m, (nbTo N E i m).foldl (whomStep N E p R i) (-1) = leastQ (whomQ N E p R i) m
  | 0 => rfl
  | m + 1 => by
    rw [nbTo, List.foldl_append, whom_fold N E p R i m, leastQ]
    unfold whomQ
    by_cases hc : (costS N E i m).2 = 0
    · rw [if_pos hc, List.foldl_cons, List.foldl_nil]
      unfold whomStep at0
      simp only [Int.toNat_natCast]
      by_cases h : leastQ (whomQ N E p R i) m = -1 ∧ ((i : Int) ≠ 0 ∧ R.getD i 0 ≠ 65535 ∧ byS N E p m (R.getD m 0) i = R.getD i 0)
      · rw [if_pos ⟨h.1, h.2.1, h.2.2.1, h.2.2.2⟩, if_pos ⟨h.1, by simp only [decide_eq_true_eq]; exact ⟨hc, by have := h.2.1; omega, h.2.2.1, h.2.2.2⟩⟩]
      · rw [if_neg (fun h2 => h ⟨h2.1, h2.2.1, h2.2.2.1, h2.2.2.2⟩), if_neg (fun h2 => h ⟨h2.1, by have := of_decide_eq_true h2.2; exact ⟨by have := this.2.1; omega, this.2.2.1, this.2.2.2⟩⟩)]
    · rw [if_neg hc, List.foldl_nil, if_neg (fun h2 => hc (of_decide_eq_true h2.2).1)]
theorem whomS_eq (N : Nat) (E : List Link) (p : Pol) (R : List Int) (i : Nat) : whomS N E p R i = leastQ (whomQ N E p R i) N := by
  unfold whomS nbS
  rw [Int.toNat_natCast]
  exact whom_fold N E p R i N
theorem whomsTo_at (n : Int) (E : List Link) (p : Pol) (R : List Int) : ∀ (m k : Nat), k < m → at0 (whomsTo n E p R m) k = whomS n E p R k
  | m + 1, k, h => by
    unfold at0
    rw [whomsTo, List.getD_eq_getElem?_getD]
    by_cases e : k = m
    · subst e
      rw [List.getElem?_append_right (by rw [whomsTo_length]; exact Nat.le_refl _), whomsTo_length, Nat.sub_self]
      rfl
    · have := whomsTo_at n E p R m k (by omega)
      unfold at0 at this
      rw [List.getElem?_append_left (by rw [whomsTo_length]; omega), ← List.getD_eq_getElem?_getD]
      exact this
theorem treeS_at {N : Nat} (E : List Link) (p : Pol) {k : Nat} (hk : k < N) : at0 (treeS N E p) k = leastQ (whomQ N E p (ranksS N E p) k) N := by
  unfold treeS
  rw [Int.toNat_natCast, whomsTo_at _ _ _ _ _ _ hk, whomS_eq]
theorem treeS_zero {N : Nat} (E : List Link) (p : Pol) (hN : 0 < N) : at0 (treeS N E p) 0 = -1 := by
  rw [treeS_at E p hN]
  rcases leastQ_spec (whomQ N E p (ranksS N E p) 0) N with ⟨h, _⟩ | ⟨k, _, _, h, _⟩
  · exact h
  · unfold whomQ at h
    exact absurd rfl (of_decide_eq_true h).2.1
/-- what law 4 asks of the tree -/
theorem tree_ok {N : Nat} {E : List Link} {p : Pol} (hp : GoodP p) (hN : 1 ≤ N ∧ N ≤ 8) {i : Nat} (hi0 : 0 < i) (hi : i < N) :
    (at0 (ranksS N E p) i ≠ 65535 → ∃ k : Nat, k < N ∧ at0 (treeS N E p) i = k ∧ at0 (ranksS N E p) k < at0 (ranksS N E p) i) ∧ (at0 (ranksS N E p) i = 65535 → at0 (treeS N E p) i = -1) := by
  have hF := ranks_fixed (E := E) hp hN
  have hr : ∀ k, k < N → 0 ≤ at0 (ranksS N E p) k ∧ at0 (ranksS N E p) k ≤ 65535 := fun k hk => hF.rng _ (getD_mem (by rw [hF.len]; exact hk))
  rw [treeS_at E p hi]
  rcases leastQ_spec (whomQ N E p (ranksS N E p) i) N with ⟨h1, h2⟩ | ⟨k, hk, h1, h2, -⟩
  · refine ⟨fun hne => ?_, fun _ => h1⟩
    obtain ⟨a, ha, hlt, he⟩ := hF.par i hi0 hi (by have := hr i hi; omega)
    have h3 := h2 a ha
    unfold whomQ at h3
    have h4 := of_decide_eq_false h3
    refine absurd ⟨?_, by omega, hne, he.symm⟩ h4
    rw [costS_symm]
    rcases Classical.em ((costS N E a i).2 = 0) with h5 | h5
    · exact h5
    · exfalso
      unfold byS at he
      rw [if_neg h5] at he
      exact hne he
  · unfold whomQ at h2
    obtain ⟨q1, q2, q3, q4⟩ := of_decide_eq_true h2
    refine ⟨fun hne => ⟨k, hk, h1, ?_⟩, fun he => absurd he q3⟩
    have := (byS_range (n := N) (E := E) hp k (at0 (ranksS N E p) k) i (hr k hk)).2
    rw [q4] at this
    omega
/-- going down from the last: what stands at the end is the least -/
def downQ (Q : Nat → Bool) (N : Nat) : Nat → Int
  | 0 => -1
  | m + 1 => if Q (N - (m + 1)) = true then ((N - (m + 1) : Nat) : Int) else downQ Q N m
theorem downQ_spec (Q : Nat → Bool) (N : Nat) : ∀ m, m ≤ N → (downQ Q N m = -1 ∧ ∀ k, N - m ≤ k → k < N → Q k = false) ∨ ∃ k : Nat, N - m ≤ k ∧ k < N ∧ downQ Q N m = k ∧ Q k = true ∧ ∀ j, N - m ≤ j → j < k → Q j = false
  | 0, _ => .inl ⟨rfl, fun k h1 h2 => by omega⟩
  | m + 1, hm => by
    rw [downQ]
    by_cases hq : Q (N - (m + 1)) = true
    · rw [if_pos hq]
      exact .inr ⟨N - (m + 1), by omega, by omega, rfl, hq, fun j h1 h2 => by omega⟩
    · rw [if_neg hq]
      rcases downQ_spec Q N m (by omega) with ⟨h1, h2⟩ | ⟨k, hk, hkN, h1, h2, h3⟩
      · refine .inl ⟨h1, fun k h3 h4 => ?_⟩
        by_cases e : k = N - (m + 1)
        · subst e; simpa using hq
        · exact h2 k (by omega) h4
      · refine .inr ⟨k, by omega, hkN, h1, h2, fun j h4 h5 => ?_⟩
        by_cases e : j = N - (m + 1)
        · subst e; simpa using hq
        · exact h3 j (by omega) h5
theorem down_least {Q Q' : Nat → Bool} {N : Nat} (h : ∀ k, k < N → Q k = Q' k) : downQ Q N N = leastQ Q' N := by
  rcases downQ_spec Q N N (Nat.le_refl _) with ⟨h1, h2⟩ | ⟨k, _, hk, h1, h2, h3⟩
  · rcases leastQ_spec Q' N with ⟨g1, g2⟩ | ⟨k, gk, g1, g2, g3⟩
    · rw [h1, g1]
    · have := h2 k (by omega) gk
      rw [h k gk, g2] at this; cases this
  · rcases leastQ_spec Q' N with ⟨g1, g2⟩ | ⟨k', gk, g1, g2, g3⟩
    · have := g2 k hk
      rw [← h k hk, h2] at this; cases this
    · rw [h1, g1]
      rcases Nat.lt_trichotomy k k' with e | e | e
      · have := g3 k e
        rw [← h k hk, h2] at this; cases this
      · rw [e]
      · have := h3 k' (by omega) e
        rw [h k' gk, g2] at this; cases this

end Go.Proofs.Ytobbjdindknkdaa
