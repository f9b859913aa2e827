import Derived.Test.YtodeiapaehlmfaaDoorAg
import Derived.WalkMore
import Derived.Deep.LoopGhost
namespace Go.Proofs.YtodeiapaehlmfaaDoor
open Go Go.RowKit
attribute [local go_sem] rowAt_alloc_at rowAt_alloc_past rowAt_drew rowAt_drewN bv_size iv_size bv_one iv_one bv_set iv_set bv_get iv_get bv_elem iv_elem
attribute [local irreducible] wpQuiet
set_option linter.unusedSimpArgs false

/-! ### addr.run -/
def zerosAt (l : List Int) (i : Nat) : Nat := ((l.drop i).takeWhile (fun x => x == 0)).length
def look (l : List Int) : Nat → Nat → Nat → Nat → Nat × Nat
  | 0, _, a, s => (a, s)
  | f + 1, i, a, s => if i < 8 then look l f (i + zerosAt l i + 1) (if zerosAt l i > s then i else a) (if zerosAt l i > s then zerosAt l i else s) else (a, s)
def runS (l : List Int) : Nat × Nat := if (look l 9 0 0 0).2 < 2 then (0, 0) else look l 9 0 0 0
theorem look_succ (l : List Int) (f i a s : Nat) : look l (f + 1) i a s = if i < 8 then look l f (i + zerosAt l i + 1) (if zerosAt l i > s then i else a) (if zerosAt l i > s then zerosAt l i else s) else (a, s) := rfl
theorem look_more (l : List Int) : ∀ (f i a s : Nat), 9 ≤ f + i → look l (f + 1) i a s = look l f i a s
  | 0, i, a, s, h => by rw [look_succ, if_neg (by omega)]; rfl
  | f + 1, i, a, s, h => by
    by_cases h8 : i < 8
    · have e1 := look_succ l (f + 1) i a s
      have e2 := look_succ l f i a s
      rw [if_pos h8] at e1 e2
      rw [e1, e2]
      exact look_more l f _ _ _ (by omega)
    · have e1 := look_succ l (f + 1) i a s
      have e2 := look_succ l f i a s
      rw [if_neg h8] at e1 e2
      rw [e1, e2]
theorem look_in (l : List Int) {i a s : Nat} (h : i < 8) : look l 9 i a s = look l 9 (i + zerosAt l i + 1) (if zerosAt l i > s then i else a) (if zerosAt l i > s then zerosAt l i else s) := by
  rw [← look_more l 9 i a s (by omega), look_succ, if_pos h]
theorem look_out (l : List Int) {i a s : Nat} (h : ¬ i < 8) : look l 9 i a s = (a, s) := by rw [look_succ, if_neg h]
theorem zerosAt_eq : ∀ (j i : Nat) (l : List Int), l.length = 8 → (∀ q, q < j → nth l (i + q) = 0) → i + j ≤ 8 → (i + j = 8 ∨ nth l (i + j) ≠ 0) → zerosAt l i = j
  | 0, i, l, hl, _, h8, hz => by
    rcases hz with hz | hz
    · have : l.drop i = [] := List.drop_eq_nil_of_le (by omega)
      simp [zerosAt, this]
    · rcases Nat.lt_or_ge i 8 with hi | hi
      · have hd : l.drop i = l[i]'(by omega) :: l.drop (i + 1) := List.drop_eq_getElem_cons (by omega)
        have hn : nth l i = l[i]'(by omega) := by simp [nth, List.getD, List.getElem?_eq_getElem (show i < l.length by omega)]
        rw [Nat.add_zero, hn] at hz
        unfold zerosAt
        rw [hd, List.takeWhile_cons, if_neg (by simpa using hz)]
        rfl
      · have : l.drop i = [] := List.drop_eq_nil_of_le (by omega)
        simp [zerosAt, this]
  | j + 1, i, l, hl, hq, h8, hz => by
    have hd : l.drop i = l[i]'(by omega) :: l.drop (i + 1) := List.drop_eq_getElem_cons (by omega)
    have hn : nth l i = l[i]'(by omega) := by simp [nth, List.getD, List.getElem?_eq_getElem (show i < l.length by omega)]
    have h0 := hq 0 (by omega)
    rw [Nat.add_zero, hn] at h0
    have := zerosAt_eq j (i + 1) l hl (fun q hqj => by have := hq (q + 1) (by omega); rwa [show i + (q + 1) = i + 1 + q by omega] at this) (by omega) (by rw [show i + 1 + j = i + (j + 1) by omega]; exact hz)
    unfold zerosAt at this ⊢
    rw [hd, h0]
    simp [this]

attribute [local irreducible] look zerosAt
set_option maxHeartbeats 400000 in
set_option maxRecDepth 100000 in
theorem run_any (l : List Int) (hl : l.length = 8) (w : World) : Calls Tryd.prog 31 #[.agg (iv l)] w fun e w' => e = .returned (.tuple #[.int .i64 (runS l).1, .int .i64 (runS l).2]) ∧ Below w.heap.size w w' := by
  go_enter Tryd.func31, Tryd.ntmps31
  go_wp2; go_step3; go_wp2; go_step3; go_wp2
  go_loop [4, 5, 6] (fun va vs vi => ∃ (a s i : Nat), va = .int .i64 a ∧ vs = .int .i64 s ∧ vi = .int .i64 i ∧ a ≤ 8 ∧ s ≤ 8 ∧ i ≤ 9 ∧ Hid (look l 9 i a s = look l 9 0 0 0)) (fun _ _ vi => 9 - (intOf vi).toNat)
  case atStart => exact ⟨0, 0, 0, rfl, rfl, rfl, by omega, by omega, by omega, rfl⟩
  case round =>
    obtain ⟨a, s, i, rfl, rfl, rfl, ha, hs, hi, HE⟩ := hrel
    by_cases hlt : i < 8
    · go_wp2
      go_loop [4, 5, 6, 7] (fun va vs vi vn => ∃ j : Nat, va = .int .i64 a ∧ vs = .int .i64 s ∧ vi = .int .i64 i ∧ vn = .int .i64 j ∧ i + j ≤ 8 ∧ Hid (∀ q, q < j → nth l (i + q) = 0)) (fun _ _ _ vn => 9 - (intOf vn).toNat)
      case atStart => exact ⟨0, rfl, rfl, rfl, rfl, by omega, Lib.hid (fun q h => absurd h (by omega))⟩
      case round =>
        obtain ⟨j, rfl, rfl, rfl, rfl, hj, HZ⟩ := hrel
        by_cases hstop : i + j = 8 ∨ nth l (i + j) ≠ 0
        · have hz := zerosAt_eq j i l hl HZ.out hj hstop
          have HE2 := Lib.hid ((look_in l hlt).symm.trans HE.out)
          rw [hz] at HE2
          clear hz HE HZ
          by_cases hgt : j > s
          · rw [if_pos hgt, if_pos hgt] at HE2
            by_cases h8 : i + j = 8
            · have hi8 : (i : Int) + j = 8 := by omega
              clear hstop
              go_wp2
              refine ⟨⟨i, j, i + j + 1, rfl, rfl, by go_num, by omega, by omega, by omega, HE2⟩, by simp [intOf]; omega⟩
            · have hi8 : (i : Int) + j < 8 := by omega
              have hz : nth l (i + j) ≠ 0 := hstop.resolve_left h8
              clear hstop
              go_wp2
              all_goals first | (refine ⟨⟨i, j, i + j + 1, rfl, rfl, by go_num, by omega, by omega, by omega, HE2⟩, by simp [intOf]; omega⟩) | (exfalso; omega) | (exfalso; simp_all; done)
          · rw [if_neg hgt, if_neg hgt] at HE2
            by_cases h8 : i + j = 8
            · have hi8 : (i : Int) + j = 8 := by omega
              clear hstop
              go_wp2
              refine ⟨⟨a, s, i + j + 1, rfl, rfl, by go_num, by omega, by omega, by omega, HE2⟩, by simp [intOf]; omega⟩
            · have hi8 : (i : Int) + j < 8 := by omega
              have hz : nth l (i + j) ≠ 0 := hstop.resolve_left h8
              clear hstop
              go_wp2
              all_goals first | (refine ⟨⟨a, s, i + j + 1, rfl, rfl, by go_num, by omega, by omega, by omega, HE2⟩, by simp [intOf]; omega⟩) | (exfalso; omega) | (exfalso; simp_all; done)
        · have h8 : i + j < 8 := by omega
          have hz : nth l (i + j) = 0 := Classical.byContradiction fun h => hstop (Or.inr h)
          have hi8 : (i : Int) + j < 8 := by omega
          have hne : ¬ ((i : Int) + j = 8) := by omega
          have HZ2 := Lib.hid (show ∀ q, q < j + 1 → nth l (i + q) = 0 from fun q hq => by
            rcases Nat.lt_or_ge q j with h | h
            · exact HZ.out q h
            · rw [show q = j by omega]; exact hz)
          clear hstop HZ HE
          go_wp2
          refine ⟨⟨j + 1, rfl, rfl, rfl, by go_num, by omega, HZ2⟩, by simp [intOf]; omega⟩
    · have HR := HE.out
      rw [look_out l hlt] at HR
      by_cases h2 : s < 2
      · have hR : runS l = (0, 0) := by
          unfold runS; rw [← HR]; exact if_pos h2
        have hR' := Lib.hid hR
        clear HE HR hR
        go_wp2
        go_ret2
        exact ⟨by rw [hR'.out]; rfl, (Below.refl _ _).alloc (Nat.le_refl _) _⟩
      · have hR : runS l = (a, s) := by
          unfold runS; rw [← HR]; exact if_neg h2
        have hR' := Lib.hid hR
        clear HE HR hR
        go_wp2
        go_ret2
        exact ⟨by rw [hR'.out]; rfl, (Below.refl _ _).alloc (Nat.le_refl _) _⟩

end Go.Proofs.YtodeiapaehlmfaaDoor
