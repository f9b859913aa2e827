import Derived.Test.YtodeiapaehlmfaaDoorA4
namespace Go.Proofs.YtodeiapaehlmfaaDoor
open Go Go.RowKit
attribute [local go_sem] rowAt_alloc_at rowAt_alloc_past rowAt_drew rowAt_drewN bv_size iv_size bv_one iv_one bv_set iv_set bv_get iv_get bv_elem iv_elem zlit16 zlit8 z16_length z8_length eq25 eq22 eq23 pv_size pv_one cutS_length
attribute [local irreducible] wpQuiet
set_option linter.unusedSimpArgs false

def orG (a b : Int) : Int := bits .or .i64 (a * 256) b
def groupsTo (l : List Int) (k : Nat) : List Int := tab 8 fun j => if j < k then orG (nth l (2 * j)) (nth l (2 * j + 1)) else 0
def groupsS (l : List Int) : List Int := groupsTo l 8
theorem groupsTo_length (l : List Int) (k : Nat) : (groupsTo l k).length = 8 := tab_length _ _
theorem groupsS_length (l : List Int) : (groupsS l).length = 8 := tab_length _ _
theorem groupsTo_zero (l : List Int) : groupsTo l 0 = z8 := nth_ext (tab_length _ _) rfl fun j hj => by rw [groupsTo, nth_tab _ hj, nth_z8]; rfl
theorem groupsTo_succ (l : List Int) (k : Nat) : (groupsTo l k).set k (orG (nth l (2 * k)) (nth l (2 * k + 1))) = groupsTo l (k + 1) :=
  tab_set (by simp) fun j _ hne => by
    by_cases h : j < k
    · rw [if_pos h, if_pos (by omega)]
    · rw [if_neg h, if_neg (by omega)]

set_option maxHeartbeats 400000 in
theorem groups_any (l : List Int) (hl : l.length = 16) (hB : byt l) (w : World) : Calls Tryd.prog 8 #[.agg (bv l)] w fun e w' => e = .returned (.agg (iv (groupsS l))) ∧ Below w.heap.size w w' := by
  go_enter Tryd.func8, Tryd.ntmps8
  go_wp2
  go_loopw [5] (fun t wr => ∃ (k : Nat) (g : List Int), k ≤ 8 ∧ t = .int .i64 k ∧ g.length = 8 ∧ Hid (g = groupsTo l k) ∧
     Below w.heap.size w wr ∧ rowAt wr w.heap.size = some (bv l) ∧ rowAt wr (w.heap.size + 1) = some (iv z8) ∧ rowAt wr (w.heap.size + 2) = some (iv g)) (fun t _ => 8 - (intOf t).toNat)
  case atStart => exact ⟨0, z8, by omega, rfl, rfl, (groupsTo_zero l).symm, below3 _ _ _ _, row_alloc (row2a _ _ _ _) _, row_alloc (row2b _ _ _ _) _, rowAt_alloc_at _ _ _ (by simp)⟩
  case round =>
    obtain ⟨k, g, hk, rfl, hg, HE, hb, r0, r1, r2⟩ := hrel
    by_cases hlt : k < 8
    · obtain ⟨b0, b1⟩ := hB (2 * k)
      obtain ⟨b2, b3⟩ := hB (2 * k + 1)
      have i0 : (2 * (k : Int)) < 16 := by omega
      have i1 : (2 * (k : Int)) + 1 < 16 := by omega
      have i2 : (k : Int) < 8 := by omega
      have i3 : (0 : Int) ≤ 2 * (k : Int) := by omega
      have i4 : (0 : Int) ≤ 2 * (k : Int) + 1 := by omega
      have c0 : ∀ w', Since wr w' → w'.cell? ⟨w.heap.size, 2 * k, none⟩ = some (.int .u8 (nth l (2 * k))) := fun w' h => later h r0 (by rw [bv_get, if_pos (by omega)])
      have c1 : ∀ w', Since wr w' → w'.cell? ⟨w.heap.size, 2 * k + 1, none⟩ = some (.int .u8 (nth l (2 * k + 1))) := fun w' h => later h r0 (by rw [bv_get, if_pos (by omega)])
      go_wp2
      refine wp_region_flow (Since _) 15 (by kernel_rfl) (by kernel_rfl) (Since.drew _) ?_; simp only [List.take_succ_cons, List.take_zero, List.drop_succ_cons, List.drop_zero]
      (refine wpQuiet_step (fun K hK => ?_); rw [if_pos (by rfl)]; apply quiet_val; (intro wq hwq; go_simp; (try go_ints); exact rfl); refine hK _ ?_; clear hK K; simp only [Act.put, List.setIfInBounds_toArray, List.set_cons_zero, List.set_cons_succ])
      (refine wpQuiet_step (fun K hK => ?_); rw [if_pos (by rfl)]; apply quiet_val; (intro wq hwq; go_simp; (try go_ints); exact rfl); refine hK _ ?_; clear hK K; simp only [Act.put, List.setIfInBounds_toArray, List.set_cons_zero, List.set_cons_succ])
      (refine wpQuiet_step (fun K hK => ?_); rw [if_pos (by rfl)]; apply quiet_val; (intro wq hwq; go_simp; (try go_ints); exact rfl); refine hK _ ?_; clear hK K; simp only [Act.put, List.setIfInBounds_toArray, List.set_cons_zero, List.set_cons_succ])
      (refine wpQuiet_step (fun K hK => ?_); rw [if_pos (by rfl)]; apply quiet_val; (intro wq hwq; go_simp; (try go_ints); exact rfl); refine hK _ ?_; clear hK K; simp only [Act.put, List.setIfInBounds_toArray, List.set_cons_zero, List.set_cons_succ])
      (refine wpQuiet_step (fun K hK => ?_); rw [if_pos (by rfl)]; apply quiet_val; (intro wq hwq; go_simp; (try go_ints); exact rfl); refine hK _ ?_; clear hK K; simp only [Act.put, List.setIfInBounds_toArray, List.set_cons_zero, List.set_cons_succ])
      (refine wpQuiet_step (fun K hK => ?_); rw [if_pos (by rfl)]; apply quiet_val; (intro wq hwq; go_simp; (try go_ints); exact rfl); refine hK _ ?_; clear hK K; simp only [Act.put, List.setIfInBounds_toArray, List.set_cons_zero, List.set_cons_succ])
      (refine wpQuiet_step (fun K hK => ?_); rw [if_pos (by rfl)]; apply quiet_val; (intro wq hwq; go_simp; (try go_ints); exact rfl); refine hK _ ?_; clear hK K; simp only [Act.put, List.setIfInBounds_toArray, List.set_cons_zero, List.set_cons_succ])
      (refine wpQuiet_step (fun K hK => ?_); rw [if_pos (by rfl)]; apply quiet_val; (intro wq hwq; go_simp; (try go_ints); exact rfl); refine hK _ ?_; clear hK K; simp only [Act.put, List.setIfInBounds_toArray, List.set_cons_zero, List.set_cons_succ])
      (refine wpQuiet_step (fun K hK => ?_); rw [if_pos (by rfl)]; apply quiet_val; (intro wq hwq; go_simp; (try go_ints); exact rfl); refine hK _ ?_; clear hK K; simp only [Act.put, List.setIfInBounds_toArray, List.set_cons_zero, List.set_cons_succ])
      (refine wpQuiet_step (fun K hK => ?_); rw [if_pos (by rfl)]; apply quiet_val; (intro wq hwq; go_simp; (try go_ints); exact rfl); refine hK _ ?_; clear hK K; simp only [Act.put, List.setIfInBounds_toArray, List.set_cons_zero, List.set_cons_succ])
      (refine wpQuiet_step (fun K hK => ?_); rw [if_pos (by rfl)]; apply quiet_val; (intro wq hwq; go_simp; (try go_ints); exact rfl); refine hK _ ?_; clear hK K; simp only [Act.put, List.setIfInBounds_toArray, List.set_cons_zero, List.set_cons_succ])
      (refine wpQuiet_step (fun K hK => ?_); rw [if_pos (by rfl)]; apply quiet_val; (intro wq hwq; go_simp; (try go_ints); exact rfl); refine hK _ ?_; clear hK K; simp only [Act.put, List.setIfInBounds_toArray, List.set_cons_zero, List.set_cons_succ])
      (refine wpQuiet_step (fun K hK => ?_); rw [if_pos (by rfl)]; apply quiet_val; (intro wq hwq; go_simp; (try go_ints); exact rfl); refine hK _ ?_; clear hK K; simp only [Act.put, List.setIfInBounds_toArray, List.set_cons_zero, List.set_cons_succ])
      (refine wpQuiet_step (fun K hK => ?_); rw [if_pos (by rfl)]; apply quiet_val; (intro wq hwq; go_simp; (try go_ints); exact rfl); refine hK _ ?_; clear hK K; simp only [Act.put, List.setIfInBounds_toArray, List.set_cons_zero, List.set_cons_succ])
      (refine wpQuiet_step (fun K hK => ?_); rw [if_pos (by rfl)]; apply quiet_val; (intro wq hwq; go_simp; (try go_ints); exact rfl); refine hK _ ?_; clear hK K; simp only [Act.put, List.setIfInBounds_toArray, List.set_cons_zero, List.set_cons_succ])
      refine wpQuiet_nil ?_; intro wn hwn
      have d := laterRow hwn r2
      have dc : wn.cell? ⟨w.heap.size + 2, k, none⟩ = some (.int .i64 (nth g k)) := by rw [cell_row d, iv_get, if_pos (by omega)]
      have df : wn.frozen? ⟨w.heap.size + 2, k, none⟩ = false := frozen_row d k
      go_wp2
      go_roundw
      case rel =>
        refine ⟨k + 1, g.set k (orG (nth l (2 * k)) (nth l (2 * k + 1))), by omega, by go_num, by simp [hg], ?_, below_setCell (hwn.out hb) (by omega) _ _, row_setCell_other (laterRow hwn r0) (by omega) _ _, row_setCell_other (laterRow hwn r1) (by omega) _ _, ?_⟩
        · show _ = _
          rw [HE.out]; exact groupsTo_succ l k
        · rw [row_setCell_same d]
          exact congrArg some (iv_set _ _ _)
      case measure => simp [intOf]; omega
    · go_wp2_with (first | (apply wpList_rowload Tryd.underlying23 rfl isz23; exact rfl; exact rfl; exact rfl; (with_reducible exact r2); exact (by simp [go_sem, *]); simp only [Act.put, List.setIfInBounds_toArray, List.set_cons_zero, List.set_cons_succ]) | (apply wpList_rowstore (vs := iv g) isz23; exact rfl; exact rfl; exact rfl; exact rfl; (with_reducible exact r1); exact (by simp [go_sem, *]); exact (by simp [go_sem, *]); exact (by simp [go_sem, *]); try simp only [Act.put, List.setIfInBounds_toArray, List.set_cons_zero, List.set_cons_succ]))
      refine bodyPost_ret (results_row rfl Tryd.underlying23 rfl isz23 _ _ (w.heap.size + 1) (iv g) rfl (rowAt_setRow_same r1 _) (by simp [go_sem, *])) rfl ?_
      have hk8 : k = 8 := by omega
      subst hk8
      exact ⟨by rw [HE.out]; rfl, below_set hb (by omega) _⟩

/-! ### the document's groups -/
def rgAt (l : List Int) (k j : Nat) : Int := if 2 * j + 1 < k then 256 * nth l (2 * j) + nth l (2 * j + 1) else if 2 * j < k then nth l (2 * j) else 0
def rgTo (l : List Int) (k : Nat) : List Int := tab 8 (rgAt l k)
def rgS (l : List Int) : List Int := rgTo l 16
theorem rgTo_length (l : List Int) (k : Nat) : (rgTo l k).length = 8 := tab_length _ _
theorem rgS_length (l : List Int) : (rgS l).length = 8 := tab_length _ _
theorem rgTo_zero (l : List Int) : rgTo l 0 = z8 := nth_ext (tab_length _ _) rfl fun j hj => by rw [rgTo, nth_tab _ hj, nth_z8]; rfl
theorem rgTo_succ (l : List Int) (k : Nat) (hk : k < 16) : (rgTo l k).set (k / 2) (256 * nth (rgTo l k) (k / 2) + nth l k) = rgTo l (k + 1) := by
  rw [rgTo, nth_tab _ (by omega)]
  refine tab_set ?_ fun j _ hne => ?_
  · unfold rgAt
    rcases Nat.mod_two_eq_zero_or_one k with h | h
    · rw [if_neg (by omega), if_pos (by omega), if_neg (by omega), if_neg (by omega)]
      rw [show 2 * (k / 2) = k by omega]; omega
    · rw [if_pos (by omega), if_neg (by omega), if_pos (by omega)]
      rw [show 2 * (k / 2) + 1 = k by omega]
  · unfold rgAt
    by_cases h : 2 * j + 1 < k
    · rw [if_pos h, if_pos (by omega)]
    · rw [if_neg h]
      by_cases h2 : 2 * j < k
      · have : k = 2 * j + 1 := by omega
        exfalso; omega
      · rw [if_neg h2, if_neg (by omega), if_neg (by omega)]
theorem rgTo_bound {l : List Int} (h : byt l) (k j : Nat) (hj : j < 8) : 0 ≤ nth (rgTo l k) j ∧ nth (rgTo l k) j ≤ 65535 := by
  rw [rgTo, nth_tab _ hj]
  have h1 := h (2 * j)
  have h2 := h (2 * j + 1)
  unfold rgAt
  split
  · omega
  · split <;> omega

set_option maxHeartbeats 400000 in
theorem rgroups_any (l : List Int) (hl : l.length = 16) (hB : byt l) (w : World) : Calls Tryd.prog 12 #[.agg (bv l)] w fun e w' => e = .returned (.agg (iv (rgS l))) ∧ Below w.heap.size w w' := by
  go_enter Tryd.func12, Tryd.ntmps12
  go_wp2
  go_loopw [4] (fun t wr => ∃ (k : Nat) (g : List Int), k ≤ 16 ∧ t = .int .i64 k ∧ g.length = 8 ∧ Hid (g = rgTo l k) ∧
     Below w.heap.size w wr ∧ rowAt wr w.heap.size = some (bv l) ∧ rowAt wr (w.heap.size + 1) = some (iv z8) ∧ rowAt wr (w.heap.size + 2) = some (iv g)) (fun t _ => 16 - (intOf t).toNat)
  case atStart => exact ⟨0, z8, by omega, rfl, rfl, (rgTo_zero l).symm, below3 _ _ _ _, row_alloc (row2a _ _ _ _) _, row_alloc (row2b _ _ _ _) _, rowAt_alloc_at _ _ _ (by simp)⟩
  case round =>
    obtain ⟨k, g, hk, rfl, hg, HE, hb, r0, r1, r2⟩ := hrel
    by_cases hlt : k < 16
    · obtain ⟨b0, b1⟩ := hB k
      have hbg := rgTo_bound hB k (k / 2) (by omega)
      rw [← HE.out] at hbg
      obtain ⟨b2, b3⟩ := hbg
      have i2 : (k : Int) < 16 := by omega
      have i3 : (k : Int) / 2 < 8 := by omega
      have i4 : (0 : Int) ≤ (k : Int) / 2 := by omega
      have c0 : ∀ w', Since wr w' → w'.cell? ⟨w.heap.size, k, none⟩ = some (.int .u8 (nth l k)) := fun w' h => later h r0 (by rw [bv_get, if_pos (by omega)])
      have c1 : ∀ w', Since wr w' → w'.cell? ⟨w.heap.size + 2, k / 2, none⟩ = some (.int .i64 (nth g (k / 2))) := fun w' h => later h r2 (by rw [iv_get, if_pos (by omega)])
      go_wp2
      refine wp_region_flow (Since _) 13 (by kernel_rfl) (by kernel_rfl) (Since.drew _) ?_; simp only [List.take_succ_cons, List.take_zero, List.drop_succ_cons, List.drop_zero]
      (refine wpQuiet_step (fun K hK => ?_); rw [if_pos (by rfl)]; apply quiet_val; (intro wq hwq; go_simp; (try go_ints); exact rfl); refine hK _ ?_; clear hK K; simp only [Act.put, List.setIfInBounds_toArray, List.set_cons_zero, List.set_cons_succ])
      (refine wpQuiet_step (fun K hK => ?_); rw [if_pos (by rfl)]; apply quiet_val; (intro wq hwq; go_simp; (try go_ints); exact rfl); refine hK _ ?_; clear hK K; simp only [Act.put, List.setIfInBounds_toArray, List.set_cons_zero, List.set_cons_succ])
      (refine wpQuiet_step (fun K hK => ?_); rw [if_pos (by rfl)]; apply quiet_val; (intro wq hwq; go_simp; (try go_ints); exact rfl); refine hK _ ?_; clear hK K; simp only [Act.put, List.setIfInBounds_toArray, List.set_cons_zero, List.set_cons_succ])
      (refine wpQuiet_step (fun K hK => ?_); rw [if_pos (by rfl)]; apply quiet_val; (intro wq hwq; go_simp; (try go_ints); exact rfl); refine hK _ ?_; clear hK K; simp only [Act.put, List.setIfInBounds_toArray, List.set_cons_zero, List.set_cons_succ])
      (refine wpQuiet_step (fun K hK => ?_); rw [if_pos (by rfl)]; apply quiet_val; (intro wq hwq; go_simp; (try go_ints); exact rfl); refine hK _ ?_; clear hK K; simp only [Act.put, List.setIfInBounds_toArray, List.set_cons_zero, List.set_cons_succ])
      (refine wpQuiet_step (fun K hK => ?_); rw [if_pos (by rfl)]; apply quiet_val; (intro wq hwq; go_simp; (try go_ints); exact rfl); refine hK _ ?_; clear hK K; simp only [Act.put, List.setIfInBounds_toArray, List.set_cons_zero, List.set_cons_succ])
      (refine wpQuiet_step (fun K hK => ?_); rw [if_pos (by rfl)]; apply quiet_val; (intro wq hwq; go_simp; (try go_ints); exact rfl); refine hK _ ?_; clear hK K; simp only [Act.put, List.setIfInBounds_toArray, List.set_cons_zero, List.set_cons_succ])
      (refine wpQuiet_step (fun K hK => ?_); rw [if_pos (by rfl)]; apply quiet_val; (intro wq hwq; go_simp; (try go_ints); exact rfl); refine hK _ ?_; clear hK K; simp only [Act.put, List.setIfInBounds_toArray, List.set_cons_zero, List.set_cons_succ])
      (refine wpQuiet_step (fun K hK => ?_); rw [if_pos (by rfl)]; apply quiet_val; (intro wq hwq; go_simp; (try go_ints); exact rfl); refine hK _ ?_; clear hK K; simp only [Act.put, List.setIfInBounds_toArray, List.set_cons_zero, List.set_cons_succ])
      (refine wpQuiet_step (fun K hK => ?_); rw [if_pos (by rfl)]; apply quiet_val; (intro wq hwq; go_simp; (try go_ints); exact rfl); refine hK _ ?_; clear hK K; simp only [Act.put, List.setIfInBounds_toArray, List.set_cons_zero, List.set_cons_succ])
      (refine wpQuiet_step (fun K hK => ?_); rw [if_pos (by rfl)]; apply quiet_val; (intro wq hwq; go_simp; (try go_ints); exact rfl); refine hK _ ?_; clear hK K; simp only [Act.put, List.setIfInBounds_toArray, List.set_cons_zero, List.set_cons_succ])
      (refine wpQuiet_step (fun K hK => ?_); rw [if_pos (by rfl)]; apply quiet_val; (intro wq hwq; go_simp; (try go_ints); exact rfl); refine hK _ ?_; clear hK K; simp only [Act.put, List.setIfInBounds_toArray, List.set_cons_zero, List.set_cons_succ])
      (refine wpQuiet_step (fun K hK => ?_); rw [if_pos (by rfl)]; apply quiet_val; (intro wq hwq; go_simp; (try go_ints); exact rfl); refine hK _ ?_; clear hK K; simp only [Act.put, List.setIfInBounds_toArray, List.set_cons_zero, List.set_cons_succ])
      refine wpQuiet_nil ?_; intro wn hwn
      have d := laterRow hwn r2
      have dc : wn.cell? ⟨w.heap.size + 2, k / 2, none⟩ = some (.int .i64 (nth g (k / 2))) := c1 wn hwn
      have df : wn.frozen? ⟨w.heap.size + 2, k / 2, none⟩ = false := frozen_row d _
      go_wp2
      go_roundw
      case rel =>
        refine ⟨k + 1, g.set (k / 2) (256 * nth g (k / 2) + nth l k), by omega, by go_num, by simp [hg], ?_, below_setCell (hwn.out hb) (by omega) _ _, row_setCell_other (laterRow hwn r0) (by omega) _ _, row_setCell_other (laterRow hwn r1) (by omega) _ _, ?_⟩
        · show _ = _
          rw [HE.out]; exact rgTo_succ l k hlt
        · rw [row_setCell_same d]
          exact congrArg some (iv_set _ _ _)
      case measure => simp [intOf]; omega
    · go_wp2_with (first | (apply wpList_rowload Tryd.underlying23 rfl isz23; exact rfl; exact rfl; exact rfl; (with_reducible exact r2); exact (by simp [go_sem, *]); simp only [Act.put, List.setIfInBounds_toArray, List.set_cons_zero, List.set_cons_succ]) | (apply wpList_rowstore (vs := iv g) isz23; exact rfl; exact rfl; exact rfl; exact rfl; (with_reducible exact r1); exact (by simp [go_sem, *]); exact (by simp [go_sem, *]); exact (by simp [go_sem, *]); try simp only [Act.put, List.setIfInBounds_toArray, List.set_cons_zero, List.set_cons_succ]))
      refine bodyPost_ret (results_row rfl Tryd.underlying23 rfl isz23 _ _ (w.heap.size + 1) (iv g) rfl (rowAt_setRow_same r1 _) (by simp [go_sem, *])) rfl ?_
      have hk16 : k = 16 := by omega
      subst hk16
      exact ⟨by rw [HE.out]; rfl, below_set hb (by omega) _⟩

/-! ### the document's address of groups -/
def rofAt (g : List Int) (k j : Nat) : Int := if j < 2 * k then (if j % 2 = 0 then nth g (j / 2) / 256 else nth g (j / 2) % 256) else 0
def rofTo (g : List Int) (k : Nat) : List Int := tab 16 (rofAt g k)
def rofS (g : List Int) : List Int := rofTo g 8
theorem rofTo_zero (g : List Int) : rofTo g 0 = z16 := nth_ext (tab_length _ _) rfl fun j hj => by rw [rofTo, nth_tab _ hj, nth_z16]; rfl
theorem rofTo_succ (g : List Int) (k : Nat) (hk : k < 8) : ((rofTo g k).set (2 * k) (nth g k / 256)).set (2 * k + 1) (nth g k % 256) = rofTo g (k + 1) := by
  refine nth_ext (n := 16) (by simp [rofTo, tab_length]) (tab_length _ _) fun j hj => ?_
  have hlen : (rofTo g k).length = 16 := tab_length _ _
  have e : nth (rofTo g (k + 1)) j = rofAt g (k + 1) j := nth_tab _ hj
  have e' : nth (rofTo g k) j = rofAt g k j := nth_tab _ hj
  rw [e]
  by_cases h1 : j = 2 * k + 1
  · subst h1
    rw [nth_set_same (by simp [hlen]; omega)]
    unfold rofAt
    rw [if_pos (by omega), if_neg (by omega), show (2 * k + 1) / 2 = k by omega]
  · rw [nth_set_other h1]
    by_cases h2 : j = 2 * k
    · subst h2
      rw [nth_set_same (by simp [hlen]; omega)]
      unfold rofAt
      rw [if_pos (by omega), if_pos (by omega), show 2 * k / 2 = k by omega]
    · rw [nth_set_other h2, e']
      unfold rofAt
      by_cases h3 : j < 2 * k
      · rw [if_pos h3, if_pos (by omega : j < 2 * (k + 1))]
      · rw [if_neg h3, if_neg (by omega)]

set_option maxHeartbeats 400000 in
theorem rof_any (g : List Int) (hg : g.length = 8) (hG : ∀ k, 0 ≤ nth g k ∧ nth g k ≤ 65535) (w : World) : Calls Tryd.prog 15 #[.agg (iv g)] w fun e w' => e = .returned (.agg (bv (rofS g))) ∧ Below w.heap.size w w' := by
  go_enter Tryd.func15, Tryd.ntmps15
  go_wp2
  go_loopw [4] (fun t wr => ∃ (k : Nat) (l : List Int), k ≤ 8 ∧ t = .int .i64 k ∧ l.length = 16 ∧ Hid (l = rofTo g k) ∧
     wr = ((w.alloc (.cells (iv g) 23)).alloc (.cells (bv z16) 22)).alloc (.cells (bv l) 22)) (fun t _ => 8 - (intOf t).toNat)
  case atStart => exact ⟨0, z16, by omega, rfl, rfl, (rofTo_zero g).symm, rfl⟩
  case round =>
    obtain ⟨k, l, hk, rfl, hl, HE, rfl⟩ := hrel
    by_cases hlt : k < 8
    · obtain ⟨b0, b1⟩ := hG k
      go_wp2
      go_roundw
      case rel =>
        refine ⟨k + 1, _, by omega, by go_num, ?_, ?_, rfl⟩
        · simp [hl]
        · show _ = _
          rw [HE.out, ← rofTo_succ g k hlt]
      case measure => simp [intOf]; omega
    · go_wp2_with (first | (apply wpList_rowload (cs := bv l) Tryd.underlying22 rfl isz22; exact rfl; exact rfl; exact rfl; exact (by simp [go_sem]); exact (by simp [go_sem, *]); simp only [Act.put, List.setIfInBounds_toArray, List.set_cons_zero, List.set_cons_succ]) | (apply wpList_rowstore (cs := bv z16) isz22; exact rfl; exact rfl; exact rfl; exact rfl; exact (by simp [go_sem]); exact (by simp [go_sem, *]); exact (by simp [go_sem, *]); exact (by simp [go_sem, *]); simp (disch := simp [go_sem]) only [setRow_alloc_at, setRow_alloc_past, setRow_drew]; try simp only [Act.put, List.setIfInBounds_toArray, List.set_cons_zero, List.set_cons_succ]))
      refine bodyPost_ret (results_row rfl Tryd.underlying22 rfl isz22 _ _ (w.heap.size + 1) (bv l) rfl (by simp [go_sem, *]) (by simp [go_sem, *])) rfl ?_
      have hk8 : k = 8 := by omega
      subst hk8
      exact ⟨by rw [HE.out]; rfl, below3 _ _ _ _⟩

/-! ### small ones -/
set_option maxHeartbeats 400000 in
theorem multicast_any (l : List Int) (hl : l.length = 16) (w : World) : Calls Tryd.prog 23 #[.agg (bv l)] w fun e w' => e = .returned (.bool (nth l 0 == 255)) ∧ Below w.heap.size w w' := by
  go_enter Tryd.func23, Tryd.ntmps23
  go_wp2
  go_ret
  exact ⟨rfl, below1 _ _⟩
def rlinkS (n : Int) : List Int := (((z16.set 0 254).set 1 128).set 13 1).set 15 (n + 1)
set_option maxHeartbeats 400000 in
theorem rlink_any (n : Int) (_h0 : 0 ≤ n) (_h1 : n ≤ 100) (w : World) : Calls Tryd.prog 24 #[.int .i64 n] w fun e w' => e = .returned (.agg (bv (rlinkS n))) ∧ Below w.heap.size w w' := by
  go_enter Tryd.func24, Tryd.ntmps24
  go_wp2_with (first | (apply wpList_rowload (cs := bv ((((z16.set 0 254).set 1 128).set 13 1).set 15 (n + 1))) Tryd.underlying22 rfl isz22; exact rfl; exact rfl; exact rfl; exact (by simp [go_sem]); exact (by simp [go_sem, *]); simp only [Act.put, List.setIfInBounds_toArray, List.set_cons_zero, List.set_cons_succ]) | (apply wpList_rowstore (cs := bv z16) isz22; exact rfl; exact rfl; exact rfl; exact rfl; exact (by simp [go_sem]); exact (by simp [go_sem, *]); exact (by simp [go_sem, *]); exact (by simp [go_sem, *]); simp (disch := simp [go_sem]) only [setRow_alloc_at, setRow_alloc_past, setRow_drew]; try simp only [Act.put, List.setIfInBounds_toArray, List.set_cons_zero, List.set_cons_succ]))
  refine bodyPost_ret (results_row rfl Tryd.underlying22 rfl isz22 _ _ (w.heap.size) (bv ((((z16.set 0 254).set 1 128).set 13 1).set 15 (n + 1))) rfl (by simp [go_sem, *]) (by simp [go_sem, *])) rfl ?_
  exact ⟨rfl, below2 _ _ _⟩
end Go.Proofs.YtodeiapaehlmfaaDoor
