/- The plain law of links. -/
import Derived.Test.YtobbjdindknkdaaJh
namespace Go.Proofs.Ytobbjdindknkdaa
open Go Go.RowKit
set_option linter.unusedSimpArgs false
set_option linter.unusedVariables false

/-! ### links made, in plain words -/
abbrev Tri := Int × Int × Int
def madeE (n : Int) (E : List Link) : List Tri → List Link
  | [] => E
  | t :: r => madeE n (setS n E t.1 t.2.1 t.2.2).2 r
/-- the square says what the links say -/
def Match (n : Int) (E : List Link) (c : Nat → Nat → Int) : Prop := ∀ i k : Nat, (i : Int) < n → (k : Int) < n → c i k = (costOf E i k).getD 0
theorem idxE_shift (x y : Int) : ∀ (E : List Link) (i : Nat), (idxE x y E i).map (·.2) = (idxE x y E 0).map (·.2)
  | [], i => rfl
  | p :: r, i => by
    rw [idxE, idxE]
    split
    · rfl
    · rw [idxE_shift x y r (i + 1), idxE_shift x y r (0 + 1)]
theorem costE_append (x y : Int) : ∀ (E F : List Link), (idxE x y (E ++ F) 0).map (·.2) = ((idxE x y E 0).map (·.2)).or ((idxE x y F 0).map (·.2))
  | [], F => by simp [idxE]
  | p :: r, F => by
    rw [List.cons_append, idxE, idxE]
    split
    · rfl
    · rw [idxE_shift x y (r ++ F), idxE_shift x y r, costE_append x y r F]
theorem costE_modify (x y a b c : Int) : ∀ (E : List Link) (i j k : Nat) (v : Int), idxE a b E k = some (k + i, v) → (idxE x y (E.modify i fun _ => (a, b, c)) j).map (·.2) = if x = a ∧ y = b then some c else (idxE x y E j).map (·.2)
  | [], i, j, k, v, h => by cases h
  | p :: r, 0, j, k, v, h => by
    rw [idxE] at h
    split at h
    · rename_i hp
      rw [List.modify_zero_cons, idxE, idxE]
      by_cases hx : x = a ∧ y = b
      · simp [hx]
      · rw [if_neg hx, if_neg hx]
        rw [if_neg (by rintro ⟨h1, h2⟩; exact hx ⟨h1.trans hp.1.symm, h2.trans hp.2.symm⟩)]
    · have := (idxE_spec a b r (k + 1) (k + 0) v h).1
      omega
  | p :: r, i + 1, j, k, v, h => by
    rw [idxE] at h
    split at h
    · simp at h
    · rename_i hp
      rw [List.modify_succ_cons, idxE, idxE]
      by_cases hx : x = p.1 ∧ y = p.2.1
      · rw [if_pos hx, if_pos hx, if_neg (by rintro ⟨h1, h2⟩; exact hp ⟨h1.symm.trans hx.1, h2.symm.trans hx.2⟩)]
      · rw [if_neg hx, if_neg hx]
        exact costE_modify x y a b c r i (j + 1) (k + 1) v (by rw [h]; congr 2; omega)
theorem costE_set (x y a b c : Int) (E : List Link) : (idxE x y (setE E a b c) 0).map (·.2) = if x = a ∧ y = b then some c else (idxE x y E 0).map (·.2) := by
  unfold setE
  cases h : idxE a b E 0 with
  | some q =>
    obtain ⟨i, v⟩ := q
    exact costE_modify x y a b c E i 0 0 v (by rw [h]; simp)
  | none =>
    simp only
    rw [costE_append]
    by_cases hx : x = a ∧ y = b
    · obtain ⟨rfl, rfl⟩ := hx
      rw [h]
      simp [idxE]
    · rw [if_neg hx]
      cases (idxE x y E 0) <;> simp [idxE, hx]
theorem setE_good {E : List Link} (h : GoodE E) {a b c : Int} (hc : 128 ≤ c ∧ c < 65535) : GoodE (setE E a b c) := by
  unfold setE
  intro x hx
  split at hx
  · rename_i i v he
    rw [List.mem_iff_getElem?] at hx
    obtain ⟨j, hj⟩ := hx
    rw [List.getElem?_modify] at hj
    cases hg : E[j]? with
    | none => rw [hg] at hj; simp at hj
    | some y =>
      rw [hg] at hj
      simp only [Option.map_eq_map, Option.map_some, Option.some.injEq] at hj
      split at hj
      · subst hj; show 128 ≤ c ∧ c ≤ 65534; omega
      · subst hj; exact h _ (List.mem_of_getElem? hg)
  · rcases List.mem_append.1 hx with h1 | h1
    · exact h _ h1
    · rw [List.mem_singleton.1 h1]; show 128 ≤ c ∧ c ≤ 65534; omega
theorem setS_good {n : Int} {E : List Link} (h : GoodE E) (a b c : Int) : GoodE (setS n E a b c).2 := by
  unfold setS
  split
  · exact h
  · split
    · rename_i hc; exact setE_good h hc
    · exact h
theorem setS_ok {n : Int} {E : List Link} {a b c : Int} (h : (setS n E a b c).1 = 0) : (0 ≤ a ∧ a < n) ∧ (0 ≤ b ∧ b < n) ∧ a ≠ b ∧ (128 ≤ c ∧ c < 65535) ∧ (setS n E a b c).2 = setE E (min a b) (max a b) c := by
  unfold setS at *
  split at h
  · rename_i hb; exact absurd h hb
  · rename_i hb
    rw [if_neg hb]
    split at h
    · rename_i hc
      rw [if_pos hc]
      have : bothS n a b = 0 := by simpa using hb
      unfold bothS at this
      split at this
      · rename_i hq
        simp only [nodeB, Bool.and_eq_true, decide_eq_true_eq] at hq
        exact ⟨hq.1.1, hq.1.2, hq.2, hc, rfl⟩
      · cases this
    · cases h
theorem setS_no {n : Int} {E : List Link} {a b c : Int} (h : (setS n E a b c).1 ≠ 0) : (setS n E a b c).2 = E := by
  unfold setS at *
  split at h
  · rename_i hb; rw [if_pos hb]
  · rename_i hb
    rw [if_neg hb]
    split at h
    · exact absurd rfl h
    · rename_i hc; rw [if_neg hc]
theorem match_set {n : Int} {E : List Link} {c : Nat → Nat → Int} (h : Match n E c) {a b : Nat} (x : Int) : Match n (setE E (min (a : Int) b) (max (a : Int) b) x) (putC (putC c a b x) b a x) := by
  intro i k hi hk
  unfold costOf
  rw [costE_set]
  have h0 := h i k hi hk
  unfold costOf at h0
  unfold putC
  by_cases h1 : i = b ∧ k = a
  · rw [if_pos h1, if_pos (by obtain ⟨rfl, rfl⟩ := h1; omega)]; rfl
  · rw [if_neg h1]
    by_cases h2 : i = a ∧ k = b
    · rw [if_pos h2, if_pos (by obtain ⟨rfl, rfl⟩ := h2; omega)]; rfl
    · rw [if_neg h2, if_neg (by omega)]
      exact h0
theorem match_good {n : Int} {E : List Link} {c : Nat → Nat → Int} (h : Match n E c) (hE : GoodE E) {N : Nat} (hN : (N : Int) = n) : GoodC N c := by
  intro i k hi hk
  rw [h i k (by omega) (by omega)]
  unfold costOf
  cases hx : idxE (min (i : Int) k) (max (i : Int) k) E 0 with
  | none => left; rfl
  | some q =>
    right
    exact hE _ (idxE_mem _ _ E q hx)
theorem match_by {n : Int} {E : List Link} {c : Nat → Nat → Int} (h : Match n E c) (hE : GoodE E) (p : Pol) (i k : Nat) (d : Int) (hi : (i : Int) < n) (hk : (k : Int) < n) : byS n E p i d k = rbyS c p i d k := by
  have hn : nodeB n i = true ∧ nodeB n k = true := by simp [nodeB]; omega
  have h0 := h i k hi hk
  unfold byS rbyS costS
  rw [hn.1, hn.2, h0]
  unfold costOf
  cases hx : idxE (min (i : Int) k) (max (i : Int) k) E 0 with
  | none => simp
  | some q =>
    have hq := hE _ (idxE_mem _ _ E q hx)
    simp only at hq
    simp
    intro h1
    omega
theorem match_nb {n : Int} {E : List Link} {c : Nat → Nat → Int} (h : Match n E c) (hE : GoodE E) (i k : Nat) (hi : (i : Int) < n) (hk : (k : Int) < n) : (costS n E i k).2 = 0 ↔ c i k ≠ 0 := by
  have hn : nodeB n i = true ∧ nodeB n k = true := by simp [nodeB]; omega
  have h0 := h i k hi hk
  unfold costS
  rw [hn.1, hn.2, h0]
  unfold costOf
  cases hx : idxE (min (i : Int) k) (max (i : Int) k) E 0 with
  | none => simp
  | some q =>
    have hq := hE _ (idxE_mem _ _ E q hx)
    simp only at hq
    simp
    omega
/-- what is kept while links are made -/
structure MadeOK (n : Int) (E : List Link) (c : Nat → Nat → Int) : Prop where
  m : Match n E c
  g : GoodE E
theorem made_start (n : Int) : MadeOK n [] (fun _ _ => 0) := ⟨fun i k _ _ => rfl, fun x hx => by cases hx⟩

end Go.Proofs.Ytobbjdindknkdaa
