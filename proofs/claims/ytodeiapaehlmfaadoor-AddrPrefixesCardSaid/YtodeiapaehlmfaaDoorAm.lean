import Derived.Test.YtodeiapaehlmfaaDoorAl
namespace Go.Proofs.YtodeiapaehlmfaaDoor
open Go Go.RowKit
set_option linter.unusedSimpArgs false

/-! ### the plain law of cuts -/
theorem mask_twice : ∀ x : Fin 256, ∀ k k' : Fin 9, bits .and .u8 (bits .and .u8 ((x.val : Nat) : Int) (65280 / 2 ^ k.val % 256)) (65280 / 2 ^ k'.val % 256) = bits .and .u8 ((x.val : Nat) : Int) (65280 / 2 ^ (min k.val k'.val) % 256) := by decide +kernel

theorem keepOf_range (n : Int) (i : Nat) : 0 ≤ keepOf n i ∧ keepOf n i ≤ 8 := by
  unfold keepOf
  split <;> (try split) <;> omega
theorem keepOf_min (n m : Int) (i : Nat) : (keepOf (min n m) i).toNat = min (keepOf n i).toNat (keepOf m i).toNat := by
  unfold keepOf
  have : min n m = n ∨ min n m = m := by omega
  repeat' split
  all_goals omega
theorem cutB_twice (n m : Int) (i : Nat) (x : Int) (hx : 0 ≤ x ∧ x ≤ 255) : cutB m i (cutB n i x) = cutB (min n m) i x := by
  have h1 := keepOf_range n i
  have h2 := keepOf_range m i
  have := mask_twice ⟨x.toNat, by omega⟩ ⟨(keepOf n i).toNat, by omega⟩ ⟨(keepOf m i).toNat, by omega⟩
  unfold cutB
  rw [keepOf_min]
  simp only at this
  rwa [show ((x.toNat : Nat) : Int) = x by omega] at this
theorem cutS_twice (n m : Int) {l : List Int} (hB : byt l) (hl : l.length = 16) : cutS m (cutS n l) = cutS (min n m) l := by
  refine List.ext_getElem (by simp [cutS_length]) fun i h1 h2 => ?_
  have hi : i < 16 := by simpa [cutS_length, hl] using h2
  have hx := hB i
  have hn : nth l i = l[i]'(by omega) := by simp [nth, List.getD, List.getElem?_eq_getElem (show i < l.length by omega)]
  rw [hn] at hx
  simp only [cutS, cutTo, List.getElem_mapIdx, if_pos hi]
  exact cutB_twice n m i _ hx

end Go.Proofs.YtodeiapaehlmfaaDoor
