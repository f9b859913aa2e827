import Derived.Test.YtodeiapaehlmfaaDoorB2
import Derived.Deep.DeepCutAuto
import Derived.BigQuiet
namespace Go.Proofs.YtodeiapaehlmfaaDoor
open Go Go.RowKit
attribute [local go_sem] rowAt_alloc_at rowAt_alloc_past rowAt_drew rowAt_drewN bv_size iv_size bv_one iv_one bv_set iv_set bv_get iv_get bv_elem iv_elem zlit16 zlit8 z16_length z8_length eq25 eq22 eq23
set_option linter.unusedSimpArgs false

theorem below2 (w : World) (a b : Obj) : Below w.heap.size w ((w.alloc a).alloc b) := ((Below.refl _ _).alloc (Nat.le_refl _) _).alloc (by simp) _

set_option maxHeartbeats 400000 in
theorem bits_any (n : Int) (w : World) : Calls Tryd.prog 35 #[.int .i64 n] w fun e w' => e = .returned (.bool (decide (0 ≤ n ∧ n ≤ 128))) ∧ Below w.heap.size w w' := by
  by_cases h0 : 0 ≤ n
  · by_cases h1 : n ≤ 128
    · go_enter Tryd.func35, Tryd.ntmps35
      go_wp2
      go_ret
      exact ⟨by simp; omega, Below.refl _ _⟩
    · go_enter Tryd.func35, Tryd.ntmps35
      go_wp2
      go_ret
      exact ⟨by simp; omega, Below.refl _ _⟩
  · go_enter Tryd.func35, Tryd.ntmps35
    go_wp2
    go_ret
    exact ⟨by simp; omega, Below.refl _ _⟩

theorem bits_yes (n : Int) (h : 0 ≤ n ∧ n ≤ 128) (w : World) : Calls Tryd.prog 35 #[.int .i64 n] w fun e w' => e = .returned (.bool true) ∧ Below w.heap.size w w' := by
  have := bits_any n w
  rwa [decide_eq_true h] at this
theorem bits_no (n : Int) (h : ¬ (0 ≤ n ∧ n ≤ 128)) (w : World) : Calls Tryd.prog 35 #[.int .i64 n] w fun e w' => e = .returned (.bool false) ∧ Below w.heap.size w w' := by
  have := bits_any n w
  rwa [decide_eq_false h] at this

set_option maxHeartbeats 400000 in
theorem node_any (n : Int) (w : World) : Calls Tryd.prog 37 #[.int .i64 n] w fun e w' => e = .returned (.bool (decide (0 ≤ n ∧ n < 64))) ∧ Below w.heap.size w w' := by
  by_cases h0 : 0 ≤ n
  · by_cases h1 : n < 64
    · go_enter Tryd.func37, Tryd.ntmps37
      go_wp2
      go_ret
      exact ⟨by simp; omega, Below.refl _ _⟩
    · go_enter Tryd.func37, Tryd.ntmps37
      go_wp2
      go_ret
      exact ⟨by simp; omega, Below.refl _ _⟩
  · go_enter Tryd.func37, Tryd.ntmps37
    go_wp2
    go_ret
    exact ⟨by simp; omega, Below.refl _ _⟩

theorem node_yes (n : Int) (h : 0 ≤ n ∧ n < 64) (w : World) : Calls Tryd.prog 37 #[.int .i64 n] w fun e w' => e = .returned (.bool true) ∧ Below w.heap.size w w' := by
  have := node_any n w
  rwa [decide_eq_true h] at this
theorem node_no (n : Int) (h : ¬ (0 ≤ n ∧ n < 64)) (w : World) : Calls Tryd.prog 37 #[.int .i64 n] w fun e w' => e = .returned (.bool false) ∧ Below w.heap.size w w' := by
  have := node_any n w
  rwa [decide_eq_false h] at this

def keepOf (n : Int) (i : Nat) : Int := if 8 < (if n - 8 * (i : Int) < 0 then 0 else n - 8 * (i : Int)) then 8 else (if n - 8 * (i : Int) < 0 then 0 else n - 8 * (i : Int))
def cutB (n : Int) (i : Nat) (x : Int) : Int := bits .and .u8 x (65280 / 2 ^ (keepOf n i).toNat % 256)
def cutTo (n : Int) (k : Nat) (l : List Int) : List Int := l.mapIdx fun i x => if i < k then cutB n i x else x
theorem cutTo_length (n : Int) (k : Nat) (l : List Int) : (cutTo n k l).length = l.length := by simp [cutTo]
theorem cutTo_zero (n : Int) (l : List Int) : cutTo n 0 l = l := by
  apply List.ext_getElem (by simp [cutTo])
  intro i h1 h2
  simp [cutTo]
theorem cutTo_succ (n : Int) (k : Nat) (l : List Int) (hk : k < l.length) : (cutTo n k l).set k (cutB n k (nth (cutTo n k l) k)) = cutTo n (k + 1) l := by
  have e : nth (cutTo n k l) k = l[k] := by simp [nth, cutTo, hk]
  rw [e]
  apply List.ext_getElem (by simp [cutTo])
  intro i h1 h2
  by_cases hi : i = k
  · subst hi; simp [cutTo]
  · have h3 : i < l.length := by simpa [cutTo] using h2
    rw [List.getElem_set_ne (by omega)]
    simp only [cutTo, List.getElem_mapIdx]
    by_cases h4 : i < k
    · rw [if_pos h4, if_pos (by omega)]
    · rw [if_neg h4, if_neg (by omega)]
def cutS (n : Int) (l : List Int) : List Int := cutTo n 16 l
theorem cutS_length (n : Int) (l : List Int) : (cutS n l).length = l.length := cutTo_length n 16 l

set_option maxHeartbeats 400000 in
theorem cut_any (l : List Int) (hl : l.length = 16) (n : Int) (hn : 0 ≤ n) (hn' : n ≤ 128) (w : World) :
    Calls Tryd.prog 36 #[.agg (bv l), .int .i64 n] w fun e w' => e = .returned (.agg (bv (cutS n l))) ∧ Below w.heap.size w w' := by
  go_enter Tryd.func36, Tryd.ntmps36
  go_wp2
  go_loopw [8] (fun t wr => ∃ (k : Nat) (l' : List Int), k ≤ 16 ∧ t = .int .i64 k ∧ l'.length = 16 ∧ Hid (l' = cutTo n k l) ∧
     wr = (w.alloc (.cells (bv l') 25)).alloc (.cells (bv z16) 25)) (fun t _ => 16 - (intOf t).toNat)
  case atStart => exact ⟨0, l, by omega, rfl, hl, (cutTo_zero n l).symm, rfl⟩
  case round =>
    obtain ⟨k, l', hk, rfl, hl', HE, rfl⟩ := hrel
    by_cases hlt : k < 16
    · go_wp2
      go_roundw
      case rel =>
        refine ⟨k + 1, _, by omega, by go_num, ?_, ?_, rfl⟩
        · simp [hl']
        · show _ = _
          rw [← cutTo_succ n k l (by omega), ← HE.out]
          rfl
      case measure => simp [intOf]; omega
    · go_wp2_with (first | (apply wpList_rowload (cs := bv l') Tryd.underlying25 rfl isz25; exact rfl; exact rfl; exact rfl; exact (by simp [go_sem]); exact (by simp [go_sem, *]); simp only [Act.put, List.setIfInBounds_toArray, List.set_cons_zero, List.set_cons_succ]) | (apply wpList_rowstore (cs := bv z16) isz25; exact rfl; exact rfl; exact rfl; exact rfl; exact (by simp [go_sem]); exact (by simp [go_sem, *]); exact (by simp [go_sem, *]); exact (by simp [go_sem, *]); simp (disch := simp [go_sem]) only [setRow_alloc_at, setRow_alloc_past, setRow_drew]; try simp only [Act.put, List.setIfInBounds_toArray, List.set_cons_zero, List.set_cons_succ]))
      refine bodyPost_ret (results_cell_row rfl _ _ (w.heap.size + 1) 25 (bv l') (0, 0) _ rfl (heap_alloc2_new _ _ _) Tryd.underlying25 rfl (by simp [isz25, go_sem, hl'])) rfl ?_
      have hk16 : k = 16 := by omega
      subst hk16
      rw [HE.out]
      exact ⟨rfl, below2 w _ _⟩
end Go.Proofs.YtodeiapaehlmfaaDoor
