import Derived.Test.YtodeiapaehlmfaaDoorA6
import Derived.Lib.Hide

namespace Go.Proofs.YtodeiapaehlmfaaDoor
open Go Go.RowKit
attribute [local go_sem] rowAt_alloc_at rowAt_alloc_past rowAt_drew rowAt_drewN bv_size iv_size bv_one iv_one bv_set iv_set bv_get iv_get bv_elem iv_elem zlit16 zlit8 z16_length z8_length eq25 eq22 eq23 pv_size pv_one cutS_length zplit
attribute [local irreducible] wpQuiet
set_option linter.unusedSimpArgs false

/-! ### the document's bits -/
def bitS (l : List Int) (i : Nat) : Int := (nth l (i / 8) / 2 ^ (7 - i % 8)) % 2
theorem half_step (x : Int) (d : Nat) : x / 2 ^ d / 2 = x / 2 ^ (d + 1) := by
  rw [Int.pow_succ, Int.ediv_ediv_of_nonneg (Int.le_of_lt (Int.pow_pos (by omega)))]
theorem half_bound {x : Int} (h0 : 0 ≤ x) (h1 : x ≤ 255) (d : Nat) : 0 ≤ x / 2 ^ d ∧ x / 2 ^ d ≤ 255 := by
  have hp : (0 : Int) < 2 ^ d := Int.pow_pos (by omega)
  refine ⟨Int.ediv_nonneg h0 (Int.le_of_lt hp), ?_⟩
  exact Int.le_trans (Int.ediv_le_self _ h0) h1

set_option maxHeartbeats 400000 in
theorem bit_any (l : List Int) (hl : l.length = 16) (hB : byt l) (i : Nat) (hi : i < 128) (w : World) : Calls Tryd.prog 38 #[.agg (bv l), .int .i64 i] w fun e w' => e = .returned (.int .i64 (bitS l i)) ∧ Below w.heap.size w w' := by
  obtain ⟨b0, b1⟩ := hB (i / 8)
  have i0 : (i : Int) / 8 < 16 := by omega
  have i1 : (0 : Int) ≤ (i : Int) / 8 := by omega
  have c0 : (w.alloc (.cells (bv l) 22)).cell? ⟨w.heap.size, i / 8, none⟩ = some (.int .u8 (nth l (i / 8))) := by rw [cell_row (row1 _ _ _), bv_get, if_pos (by omega)]
  go_enter Tryd.func38, Tryd.ntmps38
  go_wp2
  go_loop [5, 6] (fun x y => ∃ k : Nat, i % 8 ≤ k ∧ k ≤ 7 ∧ y = .int .i64 k ∧ x = .int .i64 (nth l (i / 8) / 2 ^ (k - i % 8))) (fun _ y => 7 - (intOf y).toNat)
  case atStart => exact ⟨i % 8, by omega, by omega, by go_num, by simp⟩
  case round =>
    obtain ⟨k, h1, h2, rfl, rfl⟩ := hrel
    obtain ⟨d0, d1⟩ := half_bound b0 b1 (k - i % 8)
    generalize hx : nth l (i / 8) / 2 ^ (k - i % 8) = x at d0 d1
    by_cases hlt : k < 7
    · go_wp2
      go_round
      case rel =>
        refine ⟨k + 1, by omega, by omega, by go_num, ?_⟩
        rw [show k + 1 - i % 8 = (k - i % 8) + 1 by omega, ← half_step, hx]
      case measure => simp [intOf]; omega
    · go_wp2
      go_ret
      have hk : k = 7 := by omega
      subst hk
      refine ⟨?_, below1 _ _⟩
      simp [bitS, hx]

def rrightB (l : List Int) (n : Int) : Bool := decide (0 ≤ n ∧ n ≤ 128) && (List.range 128).all fun i => decide ((i : Int) < n) || bitS l i == 0
def rhasB (l : List Int) (n : Int) (a : List Int) : Bool := rrightB l n && (List.range 128).all fun i => decide (n ≤ (i : Int)) || bitS l i == bitS a i

theorem rright_true {l : List Int} {m : Nat} (hm : m ≤ 128) (h : ∀ i, m ≤ i → i < 128 → bitS l i = 0) : rrightB l m = true := by
  unfold rrightB
  have h1 : decide (0 ≤ (m : Int) ∧ (m : Int) ≤ 128) = true := decide_eq_true ⟨by omega, by omega⟩
  rw [h1, Bool.true_and, List.all_eq_true]
  intro i hi
  by_cases hlt : i < m
  · simp; omega
  · simp [h i (by omega) (List.mem_range.1 hi)]
theorem rright_false {l : List Int} {m i : Nat} (h1 : m ≤ i) (h2 : i < 128) (h : bitS l i ≠ 0) : rrightB l m = false := by
  unfold rrightB
  rw [Bool.and_eq_false_iff]
  right
  rw [List.all_eq_false]
  exact ⟨i, List.mem_range.2 h2, by simp [h]; omega⟩

set_option maxHeartbeats 400000 in
theorem rright_any (l : List Int) (hl : l.length = 16) (hB : byt l) (n : Int) (w : World) : Calls Tryd.prog 25 #[.agg (pv l n)] w fun e w' => e = .returned (.bool (rrightB l n)) ∧ Below w.heap.size w w' := by
  have r0 := row1 w (pv l n) 47
  have c16 : (w.alloc (.cells (pv l n) 47)).cell? ⟨w.heap.size, 16, none⟩ = some (.int .i64 n) := by rw [cell_row r0, pv_bits l n hl]
  by_cases h0 : 0 ≤ n
  · by_cases h1 : n ≤ 128
    · obtain ⟨m, rfl⟩ : ∃ m : Nat, n = m := ⟨n.toNat, by omega⟩
      have hm : m ≤ 128 := by omega
      go_enter Tryd.func25, Tryd.ntmps25
      go_wp2
      go_loopw [3] (fun t wr => ∃ k : Nat, m ≤ k ∧ k ≤ 128 ∧ t = .int .i64 k ∧ Below w.heap.size w wr ∧ rowAt wr w.heap.size = some (pv l m) ∧ Hid (∀ i, m ≤ i → i < k → bitS l i = 0)) (fun t _ => 128 - (intOf t).toNat)
      case atStart => exact ⟨m, by omega, by omega, rfl, below1 _ _, r0, fun i h1 h2 => absurd h1 (by omega)⟩
      case round =>
        obtain ⟨k, hmk, hk, rfl, hb, r1, HA⟩ := hrel
        clear c16 r0
        by_cases hlt : k < 128
        · have hbit := bit_any l hl hB k hlt
          by_cases hz : bitS l k = 0
          · rw [hz] at hbit
            have HH := Lib.hid hbit; clear hbit
            have HZ := Lib.hid hz; clear hz
            set_option maxRecDepth 100000 in go_wp2_with (first | (apply wpList_subload (cs := bv l) Tryd.underlying22 rfl isz22; exact rfl; exact rfl; exact rfl; exact r1; exact pv_addr l m; exact (by simp [go_sem, *]); simp only [Act.put, List.setIfInBounds_toArray, List.set_cons_zero, List.set_cons_succ]) | (go_at_call 38; (refine (HH.out _).mono ?_); rintro e1 w1 ⟨rfl, hb1⟩; have r2 := row_call hb1 r1))
            go_roundw
            case rel =>
              refine ⟨k + 1, by omega, by omega, by go_num, below_call hb hb1, r2, ?_⟩
              intro i h3 h4
              by_cases hik : i = k
              · subst hik; exact HZ.out
              · exact HA.out i h3 (by omega)
            case measure => simp [intOf]; omega
          · have hz' : (bitS l k == 0) = false := beq_eq_false_iff_ne.2 hz
            have HH := Lib.hid hbit; clear hbit
            have HZ := Lib.hid hz; clear hz
            set_option maxRecDepth 100000 in go_wp2_with (first | (apply wpList_subload (cs := bv l) Tryd.underlying22 rfl isz22; exact rfl; exact rfl; exact rfl; exact r1; exact pv_addr l m; exact (by simp [go_sem, *]); simp only [Act.put, List.setIfInBounds_toArray, List.set_cons_zero, List.set_cons_succ]) | (go_at_call 38; (refine (HH.out _).mono ?_); rintro e1 w1 ⟨rfl, hb1⟩; have r2 := row_call hb1 r1))
            go_ret
            exact ⟨by rw [rright_false hmk hlt HZ.out]; rfl, below_call hb hb1⟩
        · set_option maxRecDepth 100000 in go_wp2
          go_ret
          exact ⟨by rw [rright_true hm fun i h1 h2 => HA.out i h1 (by omega)]; rfl, hb⟩
    · go_enter Tryd.func25, Tryd.ntmps25
      go_wp2
      go_ret
      have hd : rrightB l n = false := by unfold rrightB; rw [decide_eq_false (by omega), Bool.false_and]
      exact ⟨by rw [hd]; rfl, below1 _ _⟩
  · go_enter Tryd.func25, Tryd.ntmps25
    go_wp2
    go_ret
    have hd : rrightB l n = false := by unfold rrightB; rw [decide_eq_false (by omega), Bool.false_and]
    exact ⟨by rw [hd]; rfl, below1 _ _⟩

theorem rright_yes {l : List Int} (hl : l.length = 16) (hB : byt l) {n : Int} (h : rrightB l n = true) (w : World) : Calls Tryd.prog 25 #[.agg (pv l n)] w fun e w' => e = .returned (.bool true) ∧ Below w.heap.size w w' := by
  have := rright_any l hl hB n w
  rwa [h] at this
theorem rright_no {l : List Int} (hl : l.length = 16) (hB : byt l) {n : Int} (h : rrightB l n = false) (w : World) : Calls Tryd.prog 25 #[.agg (pv l n)] w fun e w' => e = .returned (.bool false) ∧ Below w.heap.size w w' := by
  have := rright_any l hl hB n w
  rwa [h] at this
theorem rright_range {l : List Int} {n : Int} (h : rrightB l n = true) : 0 ≤ n ∧ n ≤ 128 := by
  unfold rrightB at h
  rw [Bool.and_eq_true, decide_eq_true_eq] at h
  exact h.1
theorem rhas_true {l a : List Int} {m : Nat} (hr : rrightB l m = true) (h : ∀ i, i < m → bitS l i = bitS a i) : rhasB l m a = true := by
  unfold rhasB
  rw [hr, Bool.true_and, List.all_eq_true]
  intro i hi
  by_cases hlt : i < m
  · simp [h i hlt]
  · simp; omega
theorem rhas_false {l a : List Int} {m i : Nat} (hm : m ≤ 128) (h1 : i < m) (h : bitS l i ≠ bitS a i) : rhasB l m a = false := by
  unfold rhasB
  rw [Bool.and_eq_false_iff]
  right
  rw [List.all_eq_false]
  exact ⟨i, List.mem_range.2 (by omega), by simp [h]; omega⟩

set_option maxHeartbeats 400000 in
theorem rhas_any (l : List Int) (hl : l.length = 16) (hB : byt l) (n : Int) (a : List Int) (ha : a.length = 16) (hA : byt a) (w : World) : Calls Tryd.prog 27 #[.agg (pv l n), .agg (bv a)] w fun e w' => e = .returned (.bool (rhasB l n a)) ∧ Below w.heap.size w w' := by
  have r0 := row2a w (pv l n) 47 (.cells (bv a) 22)
  have r1 := row2b w (bv a) 22 (.cells (pv l n) 47)
  by_cases hr : rrightB l n = true
  · have hn := rright_range hr
    obtain ⟨m, rfl⟩ : ∃ m : Nat, n = m := ⟨n.toNat, by omega⟩
    have hm : m ≤ 128 := by omega
    have HR := Lib.hid hr; clear hr
    go_enter Tryd.func27, Tryd.ntmps27
    go_wp2_with (first | (apply wpList_rowload Tryd.underlying47 rfl isz47; exact rfl; exact rfl; exact rfl; (with_reducible exact r0); exact (by simp [go_sem, *]); simp only [Act.put, List.setIfInBounds_toArray, List.set_cons_zero, List.set_cons_succ]) | (go_at_call 25; (refine (rright_yes hl hB HR.out _).mono ?_); rintro e1 w1 ⟨rfl, hb1⟩; have q0 := row_call hb1 r0; have q1 := row_call hb1 r1))
    go_loopw [5] (fun t wr => ∃ k : Nat, k ≤ m ∧ t = .int .i64 k ∧ Below w.heap.size w wr ∧ rowAt wr w.heap.size = some (pv l m) ∧ rowAt wr (w.heap.size + 1) = some (bv a) ∧ Hid (∀ i, i < k → bitS l i = bitS a i)) (fun t _ => m - (intOf t).toNat)
    case atStart => exact ⟨0, by omega, rfl, below_call (below2 _ _ _) hb1, q0, q1, fun i h => absurd h (by omega)⟩
    case round =>
      obtain ⟨k, hk, rfl, hb, s0, s1, HA⟩ := hrel
      clear q0 q1 r0 r1 hb1
      have c16 : wr.cell? ⟨w.heap.size, 16, none⟩ = some (.int .i64 m) := by rw [cell_row s0, pv_bits l m hl]
      have t0 : ∀ w', Since wr w' → rowAt w' w.heap.size = some (pv l m) := fun w' h => laterRow h s0
      have t1 : ∀ w', Since wr w' → rowAt w' (w.heap.size + 1) = some (bv a) := fun w' h => laterRow h s1
      by_cases hlt : k < m
      · have hbl := Lib.hid (bit_any l hl hB k (by omega))
        have hba := Lib.hid (bit_any a ha hA k (by omega))
        generalize hx : bitS l k = x at hbl
        generalize hy : bitS a k = y at hba
        have HX := Lib.hid hx; clear hx
        have HY := Lib.hid hy; clear hy
        by_cases hz : x = y
        · subst hz
          set_option maxRecDepth 100000 in go_wp2
          refine wp_region_calm (Since _) (by kernel_rfl) (by kernel_rfl) (Since.drew _) ?_
          (refine wpQuiet_step (fun K hK => ?_); rw [if_pos (by rfl)]; apply quiet_val; (intro wq hwq; go_simp; (try go_ints); exact rfl); refine hK _ ?_; clear hK K; simp only [Act.put, List.setIfInBounds_toArray, List.set_cons_zero, List.set_cons_succ])
          (refine wpQuiet_step (fun K hK => ?_); rw [if_pos (by rfl)]; apply quiet_subload (cs := bv l) Tryd.underlying22 rfl isz22; exact rfl; exact rfl; exact t0; exact pv_addr l m; exact (by simp [go_sem, *]); refine hK _ ?_; clear hK K; simp only [Act.put, List.setIfInBounds_toArray, List.set_cons_zero, List.set_cons_succ])
          (refine wpQuiet_step (fun K hK => ?_); rw [if_pos (by rfl)]; apply quiet_val; (intro wq hwq; go_simp; (try go_ints); exact rfl); refine hK _ ?_; clear hK K; simp only [Act.put, List.setIfInBounds_toArray, List.set_cons_zero, List.set_cons_succ])
          (refine wpQuiet_step (fun K hK => ?_); rw [if_pos (by rfl)]; apply quiet_call; (intro wq; go_simp; exact ⟨rfl, rfl⟩); (intro wq hwq; exact Since.call hwq (hbl.out _)); refine hK _ ?_; clear hK K; simp only [Act.put, List.setIfInBounds_toArray, List.set_cons_zero, List.set_cons_succ])
          (refine wpQuiet_step (fun K hK => ?_); rw [if_pos (by rfl)]; apply quiet_rowload (cs := bv a) Tryd.underlying22 rfl isz22; exact rfl; exact rfl; exact t1; exact (by simp [go_sem, *]); refine hK _ ?_; clear hK K; simp only [Act.put, List.setIfInBounds_toArray, List.set_cons_zero, List.set_cons_succ])
          (refine wpQuiet_step (fun K hK => ?_); rw [if_pos (by rfl)]; apply quiet_val; (intro wq hwq; go_simp; (try go_ints); exact rfl); refine hK _ ?_; clear hK K; simp only [Act.put, List.setIfInBounds_toArray, List.set_cons_zero, List.set_cons_succ])
          (refine wpQuiet_step (fun K hK => ?_); rw [if_pos (by rfl)]; apply quiet_call; (intro wq; go_simp; exact ⟨rfl, rfl⟩); (intro wq hwq; exact Since.call hwq (hba.out _)); refine hK _ ?_; clear hK K; simp only [Act.put, List.setIfInBounds_toArray, List.set_cons_zero, List.set_cons_succ])
          (refine wpQuiet_step (fun K hK => ?_); rw [if_pos (by rfl)]; apply quiet_val; (intro wq hwq; go_simp; (try go_ints); exact rfl); refine hK _ ?_; clear hK K; simp only [Act.put, List.setIfInBounds_toArray, List.set_cons_zero, List.set_cons_succ])
          refine wpQuiet_nil ?_; intro wn hwn
          set_option maxRecDepth 100000 in go_wp2
          go_roundw
          case rel =>
            refine ⟨k + 1, by omega, by go_num, hwn.out hb, laterRow hwn s0, laterRow hwn s1, ?_⟩
            intro i h4
            by_cases hik : i = k
            · subst hik; rw [HX.out, HY.out]
            · exact HA.out i (by omega)
          case measure => simp [intOf]; omega
        · have hz' : (x == y) = false := beq_eq_false_iff_ne.2 hz
          set_option maxRecDepth 100000 in go_wp2
          refine wp_region_calm (Since _) (by kernel_rfl) (by kernel_rfl) (Since.drew _) ?_
          (refine wpQuiet_step (fun K hK => ?_); rw [if_pos (by rfl)]; apply quiet_val; (intro wq hwq; go_simp; (try go_ints); exact rfl); refine hK _ ?_; clear hK K; simp only [Act.put, List.setIfInBounds_toArray, List.set_cons_zero, List.set_cons_succ])
          (refine wpQuiet_step (fun K hK => ?_); rw [if_pos (by rfl)]; apply quiet_subload (cs := bv l) Tryd.underlying22 rfl isz22; exact rfl; exact rfl; exact t0; exact pv_addr l m; exact (by simp [go_sem, *]); refine hK _ ?_; clear hK K; simp only [Act.put, List.setIfInBounds_toArray, List.set_cons_zero, List.set_cons_succ])
          (refine wpQuiet_step (fun K hK => ?_); rw [if_pos (by rfl)]; apply quiet_val; (intro wq hwq; go_simp; (try go_ints); exact rfl); refine hK _ ?_; clear hK K; simp only [Act.put, List.setIfInBounds_toArray, List.set_cons_zero, List.set_cons_succ])
          (refine wpQuiet_step (fun K hK => ?_); rw [if_pos (by rfl)]; apply quiet_call; (intro wq; go_simp; exact ⟨rfl, rfl⟩); (intro wq hwq; exact Since.call hwq (hbl.out _)); refine hK _ ?_; clear hK K; simp only [Act.put, List.setIfInBounds_toArray, List.set_cons_zero, List.set_cons_succ])
          (refine wpQuiet_step (fun K hK => ?_); rw [if_pos (by rfl)]; apply quiet_rowload (cs := bv a) Tryd.underlying22 rfl isz22; exact rfl; exact rfl; exact t1; exact (by simp [go_sem, *]); refine hK _ ?_; clear hK K; simp only [Act.put, List.setIfInBounds_toArray, List.set_cons_zero, List.set_cons_succ])
          (refine wpQuiet_step (fun K hK => ?_); rw [if_pos (by rfl)]; apply quiet_val; (intro wq hwq; go_simp; (try go_ints); exact rfl); refine hK _ ?_; clear hK K; simp only [Act.put, List.setIfInBounds_toArray, List.set_cons_zero, List.set_cons_succ])
          (refine wpQuiet_step (fun K hK => ?_); rw [if_pos (by rfl)]; apply quiet_call; (intro wq; go_simp; exact ⟨rfl, rfl⟩); (intro wq hwq; exact Since.call hwq (hba.out _)); refine hK _ ?_; clear hK K; simp only [Act.put, List.setIfInBounds_toArray, List.set_cons_zero, List.set_cons_succ])
          (refine wpQuiet_step (fun K hK => ?_); rw [if_pos (by rfl)]; apply quiet_val; (intro wq hwq; go_simp; (try go_ints); exact rfl); refine hK _ ?_; clear hK K; simp only [Act.put, List.setIfInBounds_toArray, List.set_cons_zero, List.set_cons_succ])
          refine wpQuiet_nil ?_; intro wn hwn
          set_option maxRecDepth 100000 in go_wp2
          go_ret
          exact ⟨by rw [rhas_false hm hlt (by rw [HX.out, HY.out]; exact hz)]; rfl, hwn.out hb⟩
      · set_option maxRecDepth 100000 in go_wp2
        go_ret
        exact ⟨by rw [rhas_true HR.out fun i h1 => HA.out i (by omega)]; rfl, hb⟩
  · have hr' : rrightB l n = false := by simpa using hr
    have HR := Lib.hid hr'; clear hr' hr
    go_enter Tryd.func27, Tryd.ntmps27
    go_wp2_with (first | (apply wpList_rowload Tryd.underlying47 rfl isz47; exact rfl; exact rfl; exact rfl; (with_reducible exact r0); exact (by simp [go_sem, *]); simp only [Act.put, List.setIfInBounds_toArray, List.set_cons_zero, List.set_cons_succ]) | (go_at_call 25; (refine (rright_no hl hB HR.out _).mono ?_); rintro e1 w1 ⟨rfl, hb1⟩))
    go_ret
    have hd : rhasB l n a = false := by unfold rhasB; rw [HR.out, Bool.false_and]
    exact ⟨by rw [hd]; rfl, below_call (below2 _ _ _) hb1⟩
end Go.Proofs.YtodeiapaehlmfaaDoor
