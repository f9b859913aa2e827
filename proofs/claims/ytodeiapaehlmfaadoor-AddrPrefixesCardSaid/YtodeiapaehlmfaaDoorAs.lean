import Derived.Test.YtodeiapaehlmfaaDoorAm
namespace Go.Proofs.YtodeiapaehlmfaaDoor
open Go Go.RowKit
set_option linter.unusedSimpArgs false

/-! ### the plain laws of bits: right and has are the document's -/
def bitB (x : Int) (j : Nat) : Int := x / 2 ^ (7 - j) % 2
theorem and_bit : ∀ x : Fin 256, ∀ k : Fin 9, ∀ j : Fin 8, bitB (bits .and .u8 ((x.val : Nat) : Int) (65280 / 2 ^ k.val % 256)) j.val = if j.val < k.val then bitB ((x.val : Nat) : Int) j.val else 0 := by decide +kernel
theorem bits_sum : ∀ x : Fin 256, ((x.val : Nat) : Int) = 128 * bitB ((x.val : Nat) : Int) 0 + 64 * bitB ((x.val : Nat) : Int) 1 + 32 * bitB ((x.val : Nat) : Int) 2 + 16 * bitB ((x.val : Nat) : Int) 3 + 8 * bitB ((x.val : Nat) : Int) 4 + 4 * bitB ((x.val : Nat) : Int) 5 + 2 * bitB ((x.val : Nat) : Int) 6 + bitB ((x.val : Nat) : Int) 7 := by decide +kernel
theorem byte_ext {x y : Int} (hx : 0 ≤ x ∧ x ≤ 255) (hy : 0 ≤ y ∧ y ≤ 255) (h : ∀ j, j < 8 → bitB x j = bitB y j) : x = y := by
  have h1 := bits_sum ⟨x.toNat, by omega⟩
  have h2 := bits_sum ⟨y.toNat, by omega⟩
  simp only [show ((x.toNat : Nat) : Int) = x by omega] at h1
  simp only [show ((y.toNat : Nat) : Int) = y by omega] at h2
  have h0 := h 0 (by decide); have h3 := h 1 (by decide); have h4 := h 2 (by decide); have h5 := h 3 (by decide)
  have h6 := h 4 (by decide); have h7 := h 5 (by decide); have h8 := h 6 (by decide); have h9 := h 7 (by decide)
  omega
theorem keep_lt (n : Int) (i j : Nat) (hj : j < 8) : j < (keepOf n i).toNat ↔ (8 * (i : Int) + j < n) := by
  unfold keepOf
  split <;> (try split) <;> omega
theorem cut_bit {x : Int} (hx : 0 ≤ x ∧ x ≤ 255) (n : Int) (i j : Nat) (hj : j < 8) : bitB (cutB n i x) j = if 8 * (i : Int) + j < n then bitB x j else 0 := by
  have hk := keepOf_range n i
  have := and_bit ⟨x.toNat, by omega⟩ ⟨(keepOf n i).toNat, by omega⟩ ⟨j, hj⟩
  simp only [show ((x.toNat : Nat) : Int) = x by omega] at this
  unfold cutB
  rw [this]
  by_cases h : 8 * (i : Int) + j < n
  · rw [if_pos h, if_pos ((keep_lt n i j hj).2 h)]
  · rw [if_neg h, if_neg (fun h2 => h ((keep_lt n i j hj).1 h2))]
theorem cutB_range (n : Int) (i : Nat) (x : Int) : 0 ≤ cutB n i x ∧ cutB n i x ≤ 255 := ⟨bits_lo_u8 .and _ _, bits_hi_u8 .and _ _⟩
theorem nth_cutS {l : List Int} (hl : l.length = 16) (n : Int) {q : Nat} (hq : q < 16) : nth (cutS n l) q = cutB n q (nth l q) := by
  have h1 : nth (cutS n l) q = (cutS n l)[q]'(by rw [cutS_length]; omega) := by simp [nth, List.getD, cutS_length, hl, hq]
  have h2 : nth l q = l[q]'(by omega) := by simp [nth, List.getD, hl, hq]
  rw [h1, h2]
  simp only [cutS, cutTo, List.getElem_mapIdx, if_pos hq]
theorem bitS_eq (l : List Int) (q r : Nat) (hr : r < 8) : bitS l (8 * q + r) = bitB (nth l q) r := by
  unfold bitS bitB
  rw [show (8 * q + r) / 8 = q by omega, show (8 * q + r) % 8 = r by omega]
/-- what is cut, bit by bit -/
theorem cut_eq_iff {a l : List Int} (ha : a.length = 16) (hBa : byt a) (hl : l.length = 16) (hBl : byt l) (n : Int) : cutS n a = l ↔ ∀ i : Nat, i < 128 → bitS l i = if (i : Int) < n then bitS a i else 0 := by
  constructor
  · intro h i hi
    have hq : i / 8 < 16 := by omega
    have hr : i % 8 < 8 := Nat.mod_lt _ (by decide)
    have hx := nth_cutS ha n hq
    rw [h] at hx
    have hb := cut_bit (hBa (i / 8)) n (i / 8) (i % 8) hr
    rw [← hx, ← bitS_eq l _ _ hr, ← bitS_eq a _ _ hr, show 8 * (i / 8) + i % 8 = i by omega] at hb
    rw [hb, show (8 * ((i / 8 : Nat) : Int) + ((i % 8 : Nat) : Int)) = (i : Int) by omega]
  · intro h
    refine nth_ext ((cutS_length n a).trans ha) hl fun q hq => ?_
    rw [nth_cutS ha n hq]
    refine byte_ext (cutB_range _ _ _) (hBl q) fun r hr => ?_
    rw [cut_bit (hBa q) n q r hr]
    have := h (8 * q + r) (by omega)
    rw [bitS_eq l q r hr, bitS_eq a q r hr] at this
    rw [this, show ((8 * q + r : Nat) : Int) = 8 * (q : Int) + r by omega]
theorem right_iff {l : List Int} (hl : l.length = 16) (hB : byt l) (n : Int) : cutS n l = l ↔ ∀ i : Nat, i < 128 → n ≤ (i : Int) → bitS l i = 0 := by
  rw [cut_eq_iff hl hB hl hB]
  constructor
  · intro h i hi hn
    rw [h i hi, if_neg (by omega)]
  · intro h i hi
    split
    · rfl
    · exact h i hi (by omega)
theorem right_eq {l : List Int} (hl : l.length = 16) (hB : byt l) (n : Int) : rrightB l n = rightB l n := by
  unfold rrightB rightB
  congr 1
  rw [Bool.eq_iff_iff, List.all_eq_true, decide_eq_true_eq, right_iff hl hB]
  constructor
  · intro h i hi hn
    have := h i (List.mem_range.2 hi)
    simp only [Bool.or_eq_true, decide_eq_true_eq, beq_iff_eq] at this
    omega
  · intro h i hi
    simp only [Bool.or_eq_true, decide_eq_true_eq, beq_iff_eq]
    by_cases hn : (i : Int) < n
    · exact Or.inl hn
    · exact Or.inr (h i (List.mem_range.1 hi) (by omega))
theorem has_eq {l a : List Int} (hl : l.length = 16) (hB : byt l) (ha : a.length = 16) (hA : byt a) (n : Int) : rhasB l n a = hasB l n a := by
  unfold rhasB hasB
  rw [right_eq hl hB n]
  cases hr : rightB l n with
  | false => rfl
  | true =>
    rw [Bool.true_and, Bool.true_and, Bool.eq_iff_iff, List.all_eq_true, decide_eq_true_eq, cut_eq_iff ha hA hl hB]
    have hz : cutS n l = l := by
      unfold rightB at hr
      rw [Bool.and_eq_true, decide_eq_true_eq, decide_eq_true_eq] at hr
      exact hr.2
    rw [right_iff hl hB] at hz
    constructor
    · intro h i hi
      have := h i (List.mem_range.2 hi)
      simp only [Bool.or_eq_true, decide_eq_true_eq, beq_iff_eq] at this
      split
      · rcases this with h1 | h1
        · omega
        · exact h1
      · exact hz i hi (by omega)
    · intro h i hi
      have h1 := h i (List.mem_range.1 hi)
      simp only [Bool.or_eq_true, decide_eq_true_eq, beq_iff_eq]
      by_cases hn : (i : Int) < n
      · rw [if_pos hn] at h1
        exact Or.inr h1
      · exact Or.inl (by omega)

end Go.Proofs.YtodeiapaehlmfaaDoor
