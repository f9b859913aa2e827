import Derived.Test.YtodeiapaehlmfaaDoorAm
namespace Go.Proofs.YtodeiapaehlmfaaDoor
open Go Go.RowKit
set_option linter.unusedSimpArgs false

/-! ### the plain laws of nodes -/
theorem groups_nth {l : List Int} (hB : byt l) {j : Nat} (h : j < 8) : nth (groupsS l) j = nth l (2 * j) * 256 + nth l (2 * j + 1) := by
  unfold groupsS groupsTo
  rw [nth_tab _ h, if_pos h, orG_eq (hB _) (hB _)]
theorem eight_of {g : List Int} (h : g.length = 8) : g = [nth g 0, nth g 1, nth g 2, nth g 3, nth g 4, nth g 5, nth g 6, nth g 7] := by
  match g, h with
  | [x0, x1, x2, x3, x4, x5, x6, x7], _ => rfl
theorem fr4_iff {g : List Int} (h : g.length = 8) : fr4 g = z4 ↔ nth g 0 = 0 ∧ nth g 1 = 0 ∧ nth g 2 = 0 ∧ nth g 3 = 0 := by
  rw [eight_of h]
  generalize nth g 0 = x0
  generalize nth g 1 = x1
  generalize nth g 2 = x2
  generalize nth g 3 = x3
  show ([x0, x1, x2, x3] : List Int) = [0, 0, 0, 0] ↔ x0 = 0 ∧ x1 = 0 ∧ x2 = 0 ∧ x3 = 0
  simp
theorem bk3_iff {g : List Int} (h : g.length = 8) : bk3 g = b3 ↔ nth g 4 = 0 ∧ nth g 5 = 0 ∧ nth g 6 = 1 := by
  rw [eight_of h]
  generalize nth g 4 = x0
  generalize nth g 5 = x1
  generalize nth g 6 = x2
  show ([x0, x1, x2] : List Int) = [0, 0, 1] ↔ x0 = 0 ∧ x1 = 0 ∧ x2 = 1
  simp
theorem front_iff (a : List Int) : frontTo a 16 = true ↔ nth a 0 ≠ 0 ∨ nth a 1 ≠ 0 ∨ nth a 2 ≠ 0 ∨ nth a 3 ≠ 0 ∨ nth a 4 ≠ 0 ∨ nth a 5 ≠ 0 ∨ nth a 6 ≠ 0 ∨ nth a 7 ≠ 0 := by
  simp [frontTo, or_assoc]
theorem same_iff (a : List Int) (n : Int) : sameTo a (rlinkS n) 16 = true ↔ nth a 8 = 0 ∧ nth a 9 = 0 ∧ nth a 10 = 0 ∧ nth a 11 = 0 ∧ nth a 12 = 0 ∧ nth a 13 = 1 ∧ nth a 14 = 0 ∧ nth a 15 = n + 1 := by
  have e8 : nth (rlinkS n) 8 = 0 := rfl
  have e9 : nth (rlinkS n) 9 = 0 := rfl
  have e10 : nth (rlinkS n) 10 = 0 := rfl
  have e11 : nth (rlinkS n) 11 = 0 := rfl
  have e12 : nth (rlinkS n) 12 = 0 := rfl
  have e13 : nth (rlinkS n) 13 = 1 := rfl
  have e14 : nth (rlinkS n) 14 = 0 := rfl
  have e15 : nth (rlinkS n) 15 = n + 1 := rfl
  simp [sameTo, e8, e9, e10, e11, e12, e13, e14, e15, and_assoc]
def goodB (a : List Int) : Prop := ¬ (fr4 (groupsS a) = z4) ∧ bk3 (groupsS a) = b3
theorem fits_iff {a : List Int} (hB : byt a) {n : Nat} (hn : n < 64) : fitsB a n = true ↔ goodB a ∧ nth (groupsS a) 7 - 1 = n := by
  unfold fitsB goodB
  rw [Bool.and_eq_true, front_iff, same_iff, fr4_iff (groupsS_length a), bk3_iff (groupsS_length a)]
  rw [groups_nth hB (j := 0) (by decide), groups_nth hB (j := 1) (by decide), groups_nth hB (j := 2) (by decide), groups_nth hB (j := 3) (by decide), groups_nth hB (j := 4) (by decide), groups_nth hB (j := 5) (by decide), groups_nth hB (j := 6) (by decide), groups_nth hB (j := 7) (by decide)]
  have h0 := hB 0; have h1 := hB 1; have h2 := hB 2; have h3 := hB 3; have h4 := hB 4; have h5 := hB 5; have h6 := hB 6; have h7 := hB 7
  have h8 := hB 8; have h9 := hB 9; have h10 := hB 10; have h11 := hB 11; have h12 := hB 12; have h13 := hB 13; have h14 := hB 14; have h15 := hB 15
  simp only [Nat.mul_zero, Nat.zero_add, Nat.reduceMul, Nat.reduceAdd]
  generalize nth a 0 = a0 at *; generalize nth a 1 = a1 at *; generalize nth a 2 = a2 at *; generalize nth a 3 = a3 at *
  generalize nth a 4 = a4 at *; generalize nth a 5 = a5 at *; generalize nth a 6 = a6 at *; generalize nth a 7 = a7 at *
  generalize nth a 8 = a8 at *; generalize nth a 9 = a9 at *; generalize nth a 10 = a10 at *; generalize nth a 11 = a11 at *
  generalize nth a 12 = a12 at *; generalize nth a 13 = a13 at *; generalize nth a 14 = a14 at *; generalize nth a 15 = a15 at *
  constructor
  · rintro ⟨hs, hf⟩
    omega
  · rintro ⟨⟨hf, hb⟩, hc⟩
    refine ⟨by omega, ?_⟩
    omega
theorem rnode_from {a : List Int} (hB : byt a) : ∀ (f n : Nat), n + f = 64 → (goodB a ∧ (n : Int) ≤ nth (groupsS a) 7 - 1 ∧ nth (groupsS a) 7 - 1 < 64 → rnodeFrom a f n = nth (groupsS a) 7 - 1) ∧ (¬ (goodB a ∧ (n : Int) ≤ nth (groupsS a) 7 - 1 ∧ nth (groupsS a) 7 - 1 < 64) → rnodeFrom a f n = -1)
  | 0, n, h => ⟨fun ⟨_, h1, h2⟩ => by omega, fun _ => rfl⟩
  | f + 1, n, h => by
    have ih := rnode_from hB f (n + 1) (by omega)
    have hfit := fits_iff hB (n := n) (by omega)
    by_cases hx : fitsB a n = true
    · have hg := hfit.1 hx
      have e : rnodeFrom a (f + 1) n = n := by rw [rnodeFrom, if_pos hx]
      refine ⟨fun _ => by rw [e, hg.2], fun hno => absurd ⟨hg.1, by omega, by omega⟩ hno⟩
    · have e : rnodeFrom a (f + 1) n = rnodeFrom a f (n + 1) := by rw [rnodeFrom, if_neg hx]
      have hno : ¬ (goodB a ∧ nth (groupsS a) 7 - 1 = n) := fun h => hx (hfit.2 h)
      rw [e]
      refine ⟨fun ⟨h1, h2, h3⟩ => ih.1 ⟨h1, ?_, h3⟩, fun h1 => ih.2 fun ⟨h2, h3, h4⟩ => h1 ⟨h2, by omega, h4⟩⟩
      have : nth (groupsS a) 7 - 1 ≠ n := fun h => hno ⟨h1, h⟩
      omega
/-- the two answers agree -/
theorem node_agree {a : List Int} (hB : byt a) : (rnodeS a < 0 ∧ nodeS a = (0, 8)) ∨ (0 ≤ rnodeS a ∧ rnodeS a < 64 ∧ nodeS a = (rnodeS a, 0)) := by
  have h := rnode_from hB 64 0 rfl
  by_cases hg : goodB a ∧ ((0 : Nat) : Int) ≤ nth (groupsS a) 7 - 1 ∧ nth (groupsS a) 7 - 1 < 64
  · right
    have e : rnodeS a = nth (groupsS a) 7 - 1 := h.1 hg
    obtain ⟨⟨h1, h2⟩, h3, h4⟩ := hg
    refine ⟨by omega, by omega, ?_⟩
    rw [e]
    unfold nodeS
    rw [if_neg]
    rintro (h5 | h5 | h5)
    · exact h1 h5
    · exact h5 h2
    · exact h5 ⟨by omega, h4⟩
  · left
    have e : rnodeS a = -1 := h.2 hg
    refine ⟨by omega, ?_⟩
    unfold nodeS
    rw [if_pos]
    by_cases h1 : fr4 (groupsS a) = z4
    · exact Or.inl h1
    · by_cases h2 : bk3 (groupsS a) = b3
      · exact Or.inr (Or.inr fun h3 => hg ⟨⟨h1, h2⟩, by omega, h3.2⟩)
      · exact Or.inr (Or.inl h2)

theorem rlink_eq {n : Int} (h : 0 ≤ n ∧ n < 64) : (linkS n).1 = rlinkS n := by
  have e1 : rlinkS n = [254, 128, 0, 0, 0, 0, 0, 0, 0, 0, 0, 0, 0, 1, 0, n + 1] := rfl
  have hg : (linkG n).length = 8 ∧ (linkG n).all okG = true := by
    refine ⟨linkG_length n, List.all_eq_true.2 fun x hx => ?_⟩
    simp only [linkG, List.mem_cons, List.not_mem_nil, or_false] at hx
    unfold okG
    rcases hx with rfl | rfl | rfl | rfl | rfl | rfl | rfl | rfl <;> simp <;> omega
  have e2 : ofTo (linkG n) 8 = [65152 / 256, 65152 % 256, 0 / 256, 0 % 256, 0 / 256, 0 % 256, 0 / 256, 0 % 256, 0 / 256, 0 % 256, 0 / 256, 0 % 256, 1 / 256, 1 % 256, (n + 1) / 256, (n + 1) % 256] := rfl
  rw [linkS_yes h, ofS_good hg, e1]
  simp only
  rw [e2]
  have h1 : (n + 1) / 256 = 0 := by omega
  have h2 : (n + 1) % 256 = n + 1 := by omega
  rw [h1, h2]
  rfl

end Go.Proofs.YtodeiapaehlmfaaDoor
