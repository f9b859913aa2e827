/- The plain law of the heap: what is added and taken stays a heap of the same jobs. -/
import Derived.Test.YtobbjdindknkdaaI5
namespace Go.Proofs.Ytobbjdindknkdaa
open Go Go.RowKit
set_option linter.unusedSimpArgs false
set_option linter.unusedVariables false

/-! ### the plain law of heaps -/
theorem less_iff (a b : Job) : lessJ a b = true ↔ (a.1 < b.1 ∨ (a.1 = b.1 ∧ (a.2.1 < b.2.1 ∨ (a.2.1 = b.2.1 ∧ a.2.2 < b.2.2)))) := by
  unfold lessJ aheadI orI orI orI orI cmpI
  rw [decide_eq_true_eq]
  repeat' split
  all_goals omega
theorem less_asymm {a b : Job} (h : lessJ a b = true) : lessJ b a = false := by
  rw [Bool.eq_false_iff, Ne, less_iff]; rw [less_iff] at h; omega
theorem less_trans {a b c : Job} (h : lessJ a b = true) (k : lessJ b c = true) : lessJ a c = true := by
  rw [less_iff] at *; omega
/-- not less, twice -/
theorem nless_trans {a b c : Job} (h : lessJ a b = false) (k : lessJ b c = false) : lessJ a c = false := by
  simp only [Bool.eq_false_iff, ne_eq, less_iff] at *; omega
theorem nless_of {a b c : Job} (h : lessJ a b = false) (k : lessJ c b = true) : lessJ a c = false := by
  simp only [Bool.eq_false_iff, ne_eq, less_iff] at *; omega

def gj (js : List Job) (i : Nat) : Job := js.getD i (0, 0, 0)
theorem gj_eq {js : List Job} {i : Nat} {a : Job} (h : js[i]? = some a) : gj js i = a := by simp [gj, List.getD, h]
theorem gj_some {js : List Job} {i : Nat} (h : i < js.length) : js[i]? = some (gj js i) := by simp [gj, List.getD, List.getElem?_eq_getElem h]
theorem lessAt_gj {js : List Job} {i k : Nat} (hi : i < js.length) (hk : k < js.length) : lessAt js i k = lessJ (gj js i) (gj js k) := lessAt_eq (gj_some hi) (gj_some hk)
theorem gj_swap {js : List Job} {i k : Nat} (hi : i < js.length) (hk : k < js.length) (x : Nat) : gj (swapJ js i k) x = if x = k then gj js i else if x = i then gj js k else gj js x := by
  rw [swapJ_eq (gj_some hi) (gj_some hk)]
  by_cases h1 : x = k
  · subst h1
    rw [if_pos rfl]
    simp [gj, List.getD, hk]
  · rw [if_neg h1]
    by_cases h2 : x = i
    · subst h2
      rw [if_pos rfl]
      unfold gj
      rw [List.getD_eq_getElem?_getD, List.getElem?_set, if_neg (Ne.symm h1), List.getElem?_set, if_pos rfl, if_pos hi]
      rfl
    · rw [if_neg h2]
      unfold gj
      rw [List.getD_eq_getElem?_getD, List.getElem?_set, if_neg (Ne.symm h1), List.getElem?_set, if_neg (Ne.symm h2)]
      rfl
def par (k : Nat) : Nat := (k - 1) / 2
def heapOK (js : List Job) : Prop := ∀ k, 0 < k → k < js.length → lessJ (gj js k) (gj js (par k)) = false
def upOK (js : List Job) (i : Nat) : Prop := (∀ k, 0 < k → k < js.length → k ≠ i → lessJ (gj js k) (gj js (par k)) = false) ∧ (∀ c, 0 < c → c < js.length → par c = i → 0 < i → lessJ (gj js c) (gj js (par i)) = false)
def downOK (js : List Job) (i : Nat) : Prop := (∀ k, 0 < k → k < js.length → par k ≠ i → lessJ (gj js k) (gj js (par k)) = false) ∧ (∀ c, 0 < c → c < js.length → par c = i → 0 < i → lessJ (gj js c) (gj js (par i)) = false)
theorem par_lt {k : Nat} (h : 0 < k) : par k < k := by unfold par; omega

theorem rise_ok : ∀ (f : Nat) (js : List Job) (i : Nat), i ≤ f → i < js.length → upOK js i → heapOK (riseJ f js i)
  | 0, js, i, hf, hi, h => by
    have h0 : i = 0 := by omega
    subst h0
    exact fun k hk hkl => h.1 k hk hkl (by omega)
  | f + 1, js, i, hf, hi, h => by
    by_cases hc : 0 < i ∧ lessAt js i ((i - 1) / 2) = true
    · rw [riseJ, if_pos hc]
      have hp := par_lt hc.1
      have hpe : (i - 1) / 2 = par i := rfl
      rw [hpe] at hc ⊢
      have hpl : par i < js.length := by omega
      have hless := hc.2
      rw [lessAt_gj hi hpl] at hless
      refine rise_ok f _ _ (by omega) (by rw [swapJ_length]; omega) ⟨fun k hk hkl hkp => ?_, fun c hc0 hcl hcp hp0 => ?_⟩
      · rw [swapJ_length] at hkl
        have hkpar := par_lt hk
        rw [gj_swap hi hpl, gj_swap hi hpl, if_neg hkp]
        by_cases hki : k = i
        · subst hki
          rw [if_pos rfl, if_pos rfl]
          exact less_asymm hless
        · rw [if_neg hki]
          by_cases h1 : par k = par i
          · rw [if_pos h1]
            have := h.1 k hk hkl hki
            rw [h1] at this
            exact nless_of this hless
          · rw [if_neg h1]
            by_cases h2 : par k = i
            · rw [if_pos h2]
              exact h.2 k hk hkl h2 hc.1
            · rw [if_neg h2]
              exact h.1 k hk hkl hki
      · rw [swapJ_length] at hcl
        have hpp := par_lt hp0
        have hcpar := par_lt hc0
        rw [gj_swap hi hpl, gj_swap hi hpl, if_neg (show par (par i) ≠ par i by omega), if_neg (show par (par i) ≠ i by omega), if_neg (show c ≠ par i by omega)]
        by_cases hci : c = i
        · rw [if_pos hci]
          exact h.1 (par i) hp0 hpl (by omega)
        · rw [if_neg hci]
          have h1 := h.1 c hc0 hcl hci
          rw [hcp] at h1
          exact nless_trans h1 (h.1 (par i) hp0 hpl (by omega))
    · rw [riseJ, if_neg hc]
      intro k hk hkl
      by_cases hki : k = i
      · subst hki
        have : ¬ (lessAt js k ((k - 1) / 2) = true) := fun h2 => hc ⟨hk, h2⟩
        have hpl : par k < js.length := by have := par_lt hk; omega
        have hpe : (k - 1) / 2 = par k := rfl
        rw [hpe, lessAt_gj hkl hpl] at this
        simpa using this
      · exact h.1 k hk hkl hki

theorem best_spec {js : List Job} {i : Nat} (hi : i < js.length) :
    (bestJ js i = i ∨ (0 < bestJ js i ∧ par (bestJ js i) = i ∧ i < bestJ js i ∧ bestJ js i < js.length ∧ lessJ (gj js (bestJ js i)) (gj js i) = true)) ∧ ∀ c, 0 < c → c < js.length → par c = i → lessJ (gj js c) (gj js (bestJ js i)) = false := by
  have irr : ∀ a : Job, lessJ a a = false := fun a => by rw [Bool.eq_false_iff, Ne, less_iff]; omega
  have hpc : ∀ c, 0 < c → par c = i → c = 2 * i + 1 ∨ c = 2 * i + 2 := fun c h0 h => by unfold par at h; omega
  have p1 : par (2 * i + 1) = i := by unfold par; omega
  have p2 : par (2 * i + 2) = i := by unfold par; omega
  show (bestK js i 2 = i ∨ (0 < bestK js i 2 ∧ par (bestK js i 2) = i ∧ i < bestK js i 2 ∧ bestK js i 2 < js.length ∧ lessJ (gj js (bestK js i 2)) (gj js i) = true)) ∧ ∀ c, 0 < c → c < js.length → par c = i → lessJ (gj js c) (gj js (bestK js i 2)) = false
  by_cases h1 : 2 * i + 1 + 0 < js.length ∧ lessAt js (2 * i + 1 + 0) (bestK js i 0) = true
  · have e1 : bestK js i 1 = 2 * i + 1 := by rw [bestK, if_pos h1]
    have l1 : lessJ (gj js (2 * i + 1)) (gj js i) = true := by
      have := h1.2
      rw [Nat.add_zero] at this
      rwa [show bestK js i 0 = i from rfl, lessAt_gj (by omega) hi] at this
    by_cases h2 : 2 * i + 1 + 1 < js.length ∧ lessAt js (2 * i + 1 + 1) (bestK js i 1) = true
    · have e2 : bestK js i 2 = 2 * i + 2 := by rw [bestK, if_pos h2]
      have l2 : lessJ (gj js (2 * i + 2)) (gj js (2 * i + 1)) = true := by
        have := h2.2
        rwa [e1, lessAt_gj (by omega) (by omega)] at this
      rw [e2]
      refine ⟨Or.inr ⟨by omega, p2, by omega, by omega, less_trans l2 l1⟩, fun c hc0 hcl hcp => ?_⟩
      rcases hpc c hc0 hcp with rfl | rfl
      · exact less_asymm l2
      · exact irr _
    · have e2 : bestK js i 2 = 2 * i + 1 := by rw [bestK, if_neg h2, e1]
      rw [e2]
      refine ⟨Or.inr ⟨by omega, p1, by omega, by omega, l1⟩, fun c hc0 hcl hcp => ?_⟩
      rcases hpc c hc0 hcp with rfl | rfl
      · exact irr _
      · have : ¬ (lessAt js (2 * i + 2) (bestK js i 1) = true) := fun h => h2 ⟨by omega, h⟩
        rw [e1, lessAt_gj (by omega) (by omega)] at this
        simpa using this
  · have e1 : bestK js i 1 = i := by rw [bestK, if_neg h1]; rfl
    have n1 : 2 * i + 1 < js.length → lessJ (gj js (2 * i + 1)) (gj js i) = false := fun hl => by
      have : ¬ (lessAt js (2 * i + 1) (bestK js i 0) = true) := fun h => h1 ⟨by omega, h⟩
      rw [show bestK js i 0 = i from rfl, lessAt_gj (by omega) hi] at this
      simpa using this
    by_cases h2 : 2 * i + 1 + 1 < js.length ∧ lessAt js (2 * i + 1 + 1) (bestK js i 1) = true
    · have e2 : bestK js i 2 = 2 * i + 2 := by rw [bestK, if_pos h2]
      have l2 : lessJ (gj js (2 * i + 2)) (gj js i) = true := by
        have := h2.2
        rwa [e1, lessAt_gj (by omega) hi] at this
      rw [e2]
      refine ⟨Or.inr ⟨by omega, p2, by omega, by omega, l2⟩, fun c hc0 hcl hcp => ?_⟩
      rcases hpc c hc0 hcp with rfl | rfl
      · exact nless_of (n1 hcl) l2
      · exact irr _
    · have e2 : bestK js i 2 = i := by rw [bestK, if_neg h2, e1]
      rw [e2]
      refine ⟨Or.inl rfl, fun c hc0 hcl hcp => ?_⟩
      rcases hpc c hc0 hcp with rfl | rfl
      · exact n1 hcl
      · have : ¬ (lessAt js (2 * i + 2) (bestK js i 1) = true) := fun h => h2 ⟨by omega, h⟩
        rw [e1, lessAt_gj (by omega) hi] at this
        simpa using this

theorem sink_ok : ∀ (f : Nat) (js : List Job) (i : Nat), js.length ≤ f + i → downOK js i → heapOK (sinkJ f js i)
  | 0, js, i, hf, h => fun k hk hkl => h.1 k hk hkl (by have := par_lt hk; change k < js.length at hkl; omega)
  | f + 1, js, i, hf, h => by
    rcases Nat.lt_or_ge i js.length with hi | hi
    · obtain ⟨hb, hc⟩ := best_spec hi
      rcases hb with hb | ⟨hb0, hbp, hbi, hbl, hless⟩
      · rw [sinkJ_stop hb]
        rw [hb] at hc
        intro k hk hkl
        by_cases hp : par k = i
        · rw [hp]; exact hc k hk hkl hp
        · exact h.1 k hk hkl hp
      · rw [sinkJ, if_pos (by omega)]
        generalize bestJ js i = b at *
        refine sink_ok f _ _ (by rw [swapJ_length]; omega) ⟨fun k hk hkl hkp => ?_, fun c hc0 hcl hcp hb0' => ?_⟩
        · rw [swapJ_length] at hkl
          have hkpar := par_lt hk
          rw [gj_swap hi hbl, gj_swap hi hbl, if_neg hkp]
          by_cases hkb : k = b
          · subst hkb
            rw [if_pos rfl, if_pos hbp]
            exact less_asymm hless
          · rw [if_neg hkb]
            by_cases hki : k = i
            · subst hki
              rw [if_pos rfl, if_neg (by omega)]
              exact h.2 b hb0 hbl hbp hk
            · rw [if_neg hki]
              by_cases h2 : par k = i
              · rw [if_pos h2]
                exact hc k hk hkl h2
              · rw [if_neg h2]
                exact h.1 k hk hkl h2
        · rw [swapJ_length] at hcl
          have hcpar := par_lt hc0
          rw [gj_swap hi hbl, gj_swap hi hbl, if_neg (show c ≠ b by omega), if_neg (show c ≠ i by omega), hbp, if_neg (show i ≠ b by omega), if_pos rfl]
          have := h.1 c hc0 hcl (by omega)
          rwa [hcp] at this
    · rw [sinkJ_stop (bestJ_none hi)]
      exact fun k hk hkl => h.1 k hk hkl (by have := par_lt hk; omega)

/-! ### what is in it -/
theorem swap_perm (js : List Job) {i k : Nat} (hi : i < js.length) (hk : k < js.length) : (swapJ js i k).Perm js := by
  rw [swapJ_eq (gj_some hi) (gj_some hk)]
  have e1 : gj js i = js[i] := by simp [gj, List.getD, List.getElem?_eq_getElem hi]
  have e2 : gj js k = js[k] := by simp [gj, List.getD, List.getElem?_eq_getElem hk]
  rw [e1, e2]
  exact List.set_set_perm hi hk
theorem rise_perm : ∀ (f : Nat) (js : List Job) (i : Nat), i < js.length → (riseJ f js i).Perm js
  | 0, js, i, _ => List.Perm.refl _
  | f + 1, js, i, hi => by
    rw [riseJ]
    split
    · exact (rise_perm f _ _ (by rw [swapJ_length]; omega)).trans (swap_perm js hi (by omega))
    · exact List.Perm.refl _
theorem sink_perm : ∀ (f : Nat) (js : List Job) (i : Nat), (sinkJ f js i).Perm js
  | 0, js, i => List.Perm.refl _
  | f + 1, js, i => by
    rw [sinkJ]
    split
    · rename_i h
      rcases Nat.lt_or_ge i js.length with hi | hi
      · exact (sink_perm f _ _).trans (swap_perm js hi (bestK_lt hi 2))
      · exact absurd (bestJ_none hi) h
    · exact List.Perm.refl _
theorem add_perm (js : List Job) (j : Job) : (addJ js j).Perm (js ++ [j]) := rise_perm _ _ _ (by simp)
theorem add_ok {js : List Job} (h : heapOK js) (j : Job) : heapOK (addJ js j) := by
  refine rise_ok _ _ _ (Nat.le_refl _) (by simp) ⟨fun k hk hkl hki => ?_, fun c hc hcl hcp h0 => ?_⟩
  · have hl : k < js.length := by simp at hkl; omega
    have hp := par_lt hk
    have := h k hk hl
    have e1 : gj (js ++ [j]) k = gj js k := by unfold gj; rw [List.getD_eq_getElem?_getD, List.getElem?_append_left hl]; rfl
    have e2 : gj (js ++ [j]) (par k) = gj js (par k) := by unfold gj; rw [List.getD_eq_getElem?_getD, List.getElem?_append_left (by omega)]; rfl
    rw [e1, e2]; exact this
  · exfalso
    simp at hcl
    unfold par at hcp
    omega
theorem take_split {js : List Job} {a : Job} (ha : js[0]? = some a) : (swapJ js 0 (js.length - 1)) = (swapJ js 0 (js.length - 1)).take (js.length - 1) ++ [a] := by
  have h0 : 0 < js.length := (List.getElem?_eq_some_iff.1 ha).1
  have hl := swapJ_length js 0 (js.length - 1)
  have hg := gj_swap (js := js) h0 (show js.length - 1 < js.length by omega) (js.length - 1)
  rw [if_pos rfl, gj_eq ha] at hg
  have hs := gj_some (js := swapJ js 0 (js.length - 1)) (i := js.length - 1) (by omega)
  rw [hg] at hs
  have e : (swapJ js 0 (js.length - 1)) = (swapJ js 0 (js.length - 1)).take (js.length - 1 + 1) := (List.take_of_length_le (by omega)).symm
  have e2 : (swapJ js 0 (js.length - 1)).take (js.length - 1 + 1) = (swapJ js 0 (js.length - 1)).take (js.length - 1) ++ [a] := by
    rw [List.take_add_one, hs]; rfl
  exact e.trans e2
theorem take_perm {js : List Job} {a : Job} (ha : js[0]? = some a) : js.Perm (a :: takeJ js) := by
  have h0 : 0 < js.length := (List.getElem?_eq_some_iff.1 ha).1
  have h1 := (swap_perm js h0 (show js.length - 1 < js.length by omega)).symm
  rw [take_split ha] at h1
  refine h1.trans ((List.perm_append_comm).trans ?_)
  show (a :: (swapJ js 0 (js.length - 1)).take (js.length - 1)).Perm _
  exact List.Perm.cons _ (sink_perm _ _ _).symm
theorem take_ok {js : List Job} (h : heapOK js) {a : Job} (ha : js[0]? = some a) : heapOK (takeJ js) := by
  have h0 : 0 < js.length := (List.getElem?_eq_some_iff.1 ha).1
  refine sink_ok _ _ _ (by simp [swapJ_length]) ⟨fun k hk hkl hkp => ?_, fun c _ _ _ h => absurd h (by omega)⟩
  have hl : k < js.length - 1 := by simp [swapJ_length] at hkl; omega
  have hp := par_lt hk
  have e : ∀ x, x < js.length - 1 → x ≠ 0 → gj ((swapJ js 0 (js.length - 1)).take (js.length - 1)) x = gj js x := fun x hx hx0 => by
    have h1 : gj ((swapJ js 0 (js.length - 1)).take (js.length - 1)) x = gj (swapJ js 0 (js.length - 1)) x := by
      unfold gj; rw [List.getD_eq_getElem?_getD, List.getElem?_take_of_lt hx]; rfl
    rw [h1, gj_swap h0 (by omega), if_neg (by omega), if_neg hx0]
  rw [e k hl (by omega), e (par k) (by omega) hkp]
  exact h k hk (by omega)
theorem root_least {js : List Job} (h : heapOK js) : ∀ (k : Nat), k < js.length → lessJ (gj js k) (gj js 0) = false := by
  intro k
  induction k using Nat.strongRecOn with
  | _ k ih =>
    intro hk
    rcases Nat.eq_zero_or_pos k with h0 | h0
    · subst h0; rw [Bool.eq_false_iff, Ne, less_iff]; omega
    · have hp := par_lt h0
      exact nless_trans (h k h0 hk) (ih (par k) hp (by omega))

end Go.Proofs.Ytobbjdindknkdaa
