import Derived.Test.YtodeiapaehlmfaaDoorAq
import Derived.Test.YtodeiapaehlmfaaDoorAr
import Derived.Test.YtodeiapaehlmfaaDoorAv
namespace Go.Proofs.YtodeiapaehlmfaaDoor
open Go Go.RowKit
set_option linter.unusedSimpArgs false

/-! ### plain laws of texts -/
theorem rgS_eq {l : List Int} (hB : byt l) : rgS l = groupsS l :=
  nth_ext (rgS_length l) (groupsS_length l) fun j hj => by
    rw [groups_nth hB hj, rgS, rgTo, nth_tab _ hj, rgAt, if_pos (by omega)]
    omega
theorem groups_ok {a : List Int} (hB : byt a) : (groupsS a).length = 8 ∧ (groupsS a).all okG = true := by
  refine ⟨groupsS_length a, List.all_eq_true.2 fun x hx => ?_⟩
  obtain ⟨j, hj, rfl⟩ := List.mem_iff_getElem.1 hx
  have hb := groups_bound hB j
  have hn : nth (groupsS a) j = (groupsS a)[j] := by simp [nth, List.getD, hj]
  rw [hn] at hb
  simp only [okG, decide_eq_true_eq]
  exact hb
/-- an address's groups are those of the address -/
theorem ofS_groups {a : List Int} (ha : a.length = 16) (hB : byt a) : ofS (groupsS a) = (a, 0) := by
  rw [ofS_rof (groups_ok hB)]
  refine Prod.ext ?_ rfl
  refine nth_ext (rofS_length _) ha fun j hj => ?_
  have hq : j / 2 < 8 := by omega
  show nth (rofS (groupsS a)) j = nth a j
  rw [rofS, rofTo, nth_tab _ hj, rofAt, if_pos (by omega), groups_nth hB hq]
  have h1 := hB (2 * (j / 2) + 1)
  by_cases h2 : j % 2 = 0
  · rw [if_pos h2]
    have e : 2 * (j / 2) = j := by omega
    rw [e] at h1 ⊢
    omega
  · rw [if_neg h2]
    have e : 2 * (j / 2) + 1 = j := by omega
    rw [e] at h1 ⊢
    omega

/-! ### the document's longest run is the program's -/
def zAt (b : List Bool) (i : Nat) : Nat := ((b.drop i).takeWhile id).length
def lookB (b : List Bool) : Nat → Nat → Nat → Nat → Nat × Nat
  | 0, _, a, s => (a, s)
  | f + 1, i, a, s => if i < 8 then lookB b f (i + zAt b i + 1) (if zAt b i > s then i else a) (if zAt b i > s then zAt b i else s) else (a, s)
def zeroB (l : List Int) : List Bool := l.map (fun x => x == 0)
theorem zAt_eq (l : List Int) (i : Nat) : zAt (zeroB l) i = zerosAt l i := by
  unfold zAt zerosAt zeroB
  rw [← List.map_drop, List.takeWhile_map, List.length_map]
  rfl
theorem lookB_eq (l : List Int) : ∀ f i a s, lookB (zeroB l) f i a s = look l f i a s
  | 0, _, _, _ => rfl
  | f + 1, i, a, s => by
    rw [look_succ, lookB]
    simp only [zAt_eq]
    split
    · exact lookB_eq l f _ _ _
    · rfl
/-- the document's: every place, from a run of one on -/
def rlook (l : List Int) : Nat → Nat × Nat
  | 0 => (0, 1)
  | i + 1 => if zerosAt l i > (rlook l i).2 then (i, zerosAt l i) else rlook l i
def rlookB (b : List Bool) : Nat → Nat × Nat
  | 0 => (0, 1)
  | i + 1 => if zAt b i > (rlookB b i).2 then (i, zAt b i) else rlookB b i
theorem rlookB_eq (l : List Int) : ∀ i, rlookB (zeroB l) i = rlook l i
  | 0 => rfl
  | i + 1 => by
    rw [rlook, rlookB, rlookB_eq l i, zAt_eq]
theorem runs_all : ∀ b0 b1 b2 b3 b4 b5 b6 b7 : Bool, (if (lookB [b0, b1, b2, b3, b4, b5, b6, b7] 9 0 0 0).2 < 2 then decide ((rlookB [b0, b1, b2, b3, b4, b5, b6, b7] 8).2 ≤ 1) else decide (rlookB [b0, b1, b2, b3, b4, b5, b6, b7] 8 = lookB [b0, b1, b2, b3, b4, b5, b6, b7] 9 0 0 0)) = true := by decide +kernel
theorem run_agree {g : List Int} (hg : g.length = 8) : ((runS g).2 = 0 ∧ (rlook g 8).2 ≤ 1) ∨ (2 ≤ (runS g).2 ∧ rlook g 8 = runS g) := by
  have h8 : ∃ b0 b1 b2 b3 b4 b5 b6 b7, zeroB g = [b0, b1, b2, b3, b4, b5, b6, b7] := by
    match g, hg with
    | [x0, x1, x2, x3, x4, x5, x6, x7], _ => exact ⟨_, _, _, _, _, _, _, _, rfl⟩
  obtain ⟨b0, b1, b2, b3, b4, b5, b6, b7, hb⟩ := h8
  have h := runs_all b0 b1 b2 b3 b4 b5 b6 b7
  rw [← hb, lookB_eq, rlookB_eq] at h
  unfold runS
  by_cases h2 : (look g 9 0 0 0).2 < 2
  · rw [if_pos h2] at h
    left
    rw [if_pos h2]
    exact ⟨rfl, of_decide_eq_true h⟩
  · rw [if_neg h2] at h
    right
    rw [if_neg h2]
    exact ⟨by omega, of_decide_eq_true h⟩

end Go.Proofs.YtodeiapaehlmfaaDoor
