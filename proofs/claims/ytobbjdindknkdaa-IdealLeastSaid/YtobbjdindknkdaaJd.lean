/- The search's errors; policies made. -/
import Derived.Test.YtobbjdindknkdaaJc
namespace Go.Proofs.Ytobbjdindknkdaa
open Go Go.RowKit
attribute [local irreducible] wpQuiet wpPure wpHold wpKeep wpQuietS
set_option linter.unusedSimpArgs false
set_option linter.unusedVariables false

theorem Pol.eq (p : Pol) : ∃ c l ii f s ma mb mc md, p = ⟨c, l, ii, f, s, ma, mb, mc, md⟩ := ⟨p.c, p.l, p.i, p.f, p.s, p.ma, p.mb, p.mc, p.md, rfl⟩
theorem checkS_range (p : Pol) : 0 ≤ checkS p ∧ checkS p ≤ 6 := by
  have := funS_range p
  unfold checkS polE
  repeat' split
  all_goals omega
set_option maxHeartbeats 800000 in
theorem ranks_err {x : Option Addr} {z : Int} (p : Pol) (w : World) (hz : z ≠ 0) (hk : ∀ w, Calls Try.prog 23 #[.pointer x, .agg p.cells] w fun e w' => e = .returned (.int .i64 z) ∧ Below w.heap.size w w') :
    Calls Try.prog 7 #[.pointer x, .agg p.cells] w fun e w' => e = .returned (.tuple #[.slice none 0 0, .int .i64 z]) ∧ Below w.heap.size w w' := by
  have HK := Lib.hid hk
  obtain ⟨c, l, ii, f, s, ma, mb, mc, md⟩ := p
  simp only [Pol.cells] at *
  clear hk
  go_enter Try.func7, Try.ntmps7
  go_wp2
  go_step3
  go_wp2_with (go_at_call 23; refine (HK.out _).mono ?_; rintro e w1 ⟨rfl, hb1⟩)
  rw [Exit.noGoto_ret]
  go_ret2
  exact ⟨rfl, below_call (below1 _ _) hb1⟩
theorem ranks_bad {lb : Nat} (p : Pol) (w : World) (hz : checkS p ≠ 0) :
    Calls Try.prog 7 #[.pointer (some ⟨lb, 0, none⟩), .agg p.cells] w fun e w' => e = .returned (.tuple #[.slice none 0 0, .int .i64 (checkS p)]) ∧ Below w.heap.size w w' := ranks_err p w hz fun w => check_any _ p w
theorem ranks_nil (p : Pol) (w : World) :
    Calls Try.prog 7 #[.pointer none, .agg p.cells] w fun e w' => e = .returned (.tuple #[.slice none 0 0, .int .i64 13]) ∧ Below w.heap.size w w' := ranks_err p w (by decide) fun w => check_nil p w
set_option maxHeartbeats 800000 in
theorem tree_err {x : Option Addr} {z : Int} (p : Pol) (w : World) (hz : z ≠ 0) (hk : ∀ w, Calls Try.prog 7 #[.pointer x, .agg p.cells] w fun e w' => e = .returned (.tuple #[.slice none 0 0, .int .i64 z]) ∧ Below w.heap.size w w') :
    Calls Try.prog 9 #[.pointer x, .agg p.cells] w fun e w' => e = .returned (.tuple #[.slice none 0 0, .int .i64 z]) ∧ Below w.heap.size w w' := by
  have HK := Lib.hid hk
  obtain ⟨c, l, ii, f, s, ma, mb, mc, md⟩ := p
  simp only [Pol.cells] at *
  clear hk
  go_enter Try.func9, Try.ntmps9
  go_wp2_with (go_at_call 7; refine (HK.out _).mono ?_; rintro e w1 ⟨rfl, hb1⟩)
  go_ret2
  exact ⟨rfl, below_call (below1 _ _) hb1⟩
theorem tree_bad {lb : Nat} (p : Pol) (w : World) (hz : checkS p ≠ 0) :
    Calls Try.prog 9 #[.pointer (some ⟨lb, 0, none⟩), .agg p.cells] w fun e w' => e = .returned (.tuple #[.slice none 0 0, .int .i64 (checkS p)]) ∧ Below w.heap.size w w' := tree_err p w hz fun w => ranks_bad p w hz

/-! ### policies made -/
theorem isz38 : (Try.prog.info? 38).map (·.size) = some 4 := by kernel_rfl
set_option maxHeartbeats 800000 in
theorem to16_any (a b c d : Int) (w : World) : Calls Try.prog 27 #[.agg #[.int .i64 a, .int .i64 b, .int .i64 c, .int .i64 d]] w fun e w' => e = .returned (.agg #[.int .i64 a, .int .i64 b, .int .i64 c, .int .i64 d]) ∧ Below w.heap.size w w' := by
  go_enter Try.func27, Try.ntmps27
  go_wp2
  refine bodyPost_ret (results_row rfl Try.underlying38 rfl isz38 _ _ (w.heap.size + 1) (#[.int .i64 a, .int .i64 b, .int .i64 c, .int .i64 d]) rfl (row2b _ _ _ _) (by first | rfl | simp [go_sem, *])) rfl ?_
  exact ⟨rfl, below2 _ _ _⟩
theorem isz26 : (Try.prog.info? 26).map (·.size) = some 4 := by kernel_rfl
theorem sub_pol (c l ii f s ma mb mc md : Int) : ∀ (j : Nat) (v : Value), (#[Value.int .i64 ma, .int .i64 mb, .int .i64 mc, .int .i64 md] : Array Value)[j]? = some v → (#[Value.int .i64 c, .int .i64 l, .int .i64 ii, .int .i64 f, .int .i64 s, .int .i64 ma, .int .i64 mb, .int .i64 mc, .int .i64 md] : Array Value)[5 + j]? = some v := by
  intro j v h
  match j, h with
  | 0, h => exact h
  | 1, h => exact h
  | 2, h => exact h
  | 3, h => exact h
  | j + 4, h => simp at h
set_option maxHeartbeats 1600000 in
theorem to_any (p : Pol) (w : World) : Calls Try.prog 8 #[.agg p.cells] w fun e w' => e = .returned (.agg p.cells) ∧ Below w.heap.size w w' := by
  have r0 : rowAt ((w.alloc (.cells (Pol.cells p) 28)).alloc (.cells #[.int .i64 0, .int .i64 0, .int .i64 0, .int .i64 0, .int .i64 0, .int .i64 0, .int .i64 0, .int .i64 0, .int .i64 0] 40)) w.heap.size = some p.cells := row2a _ _ _ _
  have r1 : rowAt ((w.alloc (.cells (Pol.cells p) 28)).alloc (.cells #[.int .i64 0, .int .i64 0, .int .i64 0, .int .i64 0, .int .i64 0, .int .i64 0, .int .i64 0, .int .i64 0, .int .i64 0] 40)) (w.heap.size + 1) = some _ := row2b _ _ _ _
  have B0 := Lib.hid (below2 w (.cells (Pol.cells p) 28) (.cells #[.int .i64 0, .int .i64 0, .int .i64 0, .int .i64 0, .int .i64 0, .int .i64 0, .int .i64 0, .int .i64 0, .int .i64 0] 40))
  have c0 : ∀ w', Since ((w.alloc (.cells (Pol.cells p) 28)).alloc (.cells #[.int .i64 0, .int .i64 0, .int .i64 0, .int .i64 0, .int .i64 0, .int .i64 0, .int .i64 0, .int .i64 0, .int .i64 0] 40)) w' → w'.cell? ⟨w.heap.size, 0, none⟩ = some (.int .i64 p.c) := fun w' hs => later hs r0 rfl
  have c1 : ∀ w', Since ((w.alloc (.cells (Pol.cells p) 28)).alloc (.cells #[.int .i64 0, .int .i64 0, .int .i64 0, .int .i64 0, .int .i64 0, .int .i64 0, .int .i64 0, .int .i64 0, .int .i64 0] 40)) w' → w'.cell? ⟨w.heap.size, 1, none⟩ = some (.int .i64 p.l) := fun w' hs => later hs r0 rfl
  have c2 : ∀ w', Since ((w.alloc (.cells (Pol.cells p) 28)).alloc (.cells #[.int .i64 0, .int .i64 0, .int .i64 0, .int .i64 0, .int .i64 0, .int .i64 0, .int .i64 0, .int .i64 0, .int .i64 0] 40)) w' → w'.cell? ⟨w.heap.size, 2, none⟩ = some (.int .i64 p.i) := fun w' hs => later hs r0 rfl
  have c3 : ∀ w', Since ((w.alloc (.cells (Pol.cells p) 28)).alloc (.cells #[.int .i64 0, .int .i64 0, .int .i64 0, .int .i64 0, .int .i64 0, .int .i64 0, .int .i64 0, .int .i64 0, .int .i64 0] 40)) w' → w'.cell? ⟨w.heap.size, 3, none⟩ = some (.int .i64 p.f) := fun w' hs => later hs r0 rfl
  have c4 : ∀ w', Since ((w.alloc (.cells (Pol.cells p) 28)).alloc (.cells #[.int .i64 0, .int .i64 0, .int .i64 0, .int .i64 0, .int .i64 0, .int .i64 0, .int .i64 0, .int .i64 0, .int .i64 0] 40)) w' → w'.cell? ⟨w.heap.size, 4, none⟩ = some (.int .i64 p.s) := fun w' hs => later hs r0 rfl
  have c5 : ∀ w', Since ((w.alloc (.cells (Pol.cells p) 28)).alloc (.cells #[.int .i64 0, .int .i64 0, .int .i64 0, .int .i64 0, .int .i64 0, .int .i64 0, .int .i64 0, .int .i64 0, .int .i64 0] 40)) w' → w'.cell? ⟨w.heap.size, 5, none⟩ = some (.int .i64 p.ma) := fun w' hs => later hs r0 rfl
  have c6 : ∀ w', Since ((w.alloc (.cells (Pol.cells p) 28)).alloc (.cells #[.int .i64 0, .int .i64 0, .int .i64 0, .int .i64 0, .int .i64 0, .int .i64 0, .int .i64 0, .int .i64 0, .int .i64 0] 40)) w' → w'.cell? ⟨w.heap.size, 6, none⟩ = some (.int .i64 p.mb) := fun w' hs => later hs r0 rfl
  have c7 : ∀ w', Since ((w.alloc (.cells (Pol.cells p) 28)).alloc (.cells #[.int .i64 0, .int .i64 0, .int .i64 0, .int .i64 0, .int .i64 0, .int .i64 0, .int .i64 0, .int .i64 0, .int .i64 0] 40)) w' → w'.cell? ⟨w.heap.size, 7, none⟩ = some (.int .i64 p.mc) := fun w' hs => later hs r0 rfl
  have c8 : ∀ w', Since ((w.alloc (.cells (Pol.cells p) 28)).alloc (.cells #[.int .i64 0, .int .i64 0, .int .i64 0, .int .i64 0, .int .i64 0, .int .i64 0, .int .i64 0, .int .i64 0, .int .i64 0] 40)) w' → w'.cell? ⟨w.heap.size, 8, none⟩ = some (.int .i64 p.md) := fun w' hs => later hs r0 rfl
  obtain ⟨c, l, ii, f, s, ma, mb, mc, md⟩ := p
  simp only [Pol.cells] at *
  go_enter Try.func8, Try.ntmps8
  go_wp2
  refine wp_region_flow (Since _) 17 (by kernel_rfl) (by kernel_rfl) (Since.drew _) ?_; simp only [List.take_succ_cons, List.take_zero, List.drop_succ_cons, List.drop_zero]
  (refine wpQuiet_step (fun K hK => ?_); rw [if_pos (by rfl)]; apply quiet_val; (intro wq hwq; go_simp; (try go_ints); exact rfl); refine hK _ ?_; clear hK K; simp only [Act.put, List.setIfInBounds_toArray, List.set_cons_zero, List.set_cons_succ])
  (refine wpQuiet_step (fun K hK => ?_); rw [if_pos (by rfl)]; apply quiet_val; (intro wq hwq; go_simp; (try go_ints); exact rfl); refine hK _ ?_; clear hK K; simp only [Act.put, List.setIfInBounds_toArray, List.set_cons_zero, List.set_cons_succ])
  (refine wpQuiet_step (fun K hK => ?_); rw [if_pos (by rfl)]; apply quiet_val; (intro wq hwq; go_simp; (try go_ints); exact rfl); refine hK _ ?_; clear hK K; simp only [Act.put, List.setIfInBounds_toArray, List.set_cons_zero, List.set_cons_succ])
  (refine wpQuiet_step (fun K hK => ?_); rw [if_pos (by rfl)]; apply quiet_val; (intro wq hwq; go_simp; (try go_ints); exact rfl); refine hK _ ?_; clear hK K; simp only [Act.put, List.setIfInBounds_toArray, List.set_cons_zero, List.set_cons_succ])
  (refine wpQuiet_step (fun K hK => ?_); rw [if_pos (by rfl)]; apply quiet_val; (intro wq hwq; go_simp; (try go_ints); exact rfl); refine hK _ ?_; clear hK K; simp only [Act.put, List.setIfInBounds_toArray, List.set_cons_zero, List.set_cons_succ])
  (refine wpQuiet_step (fun K hK => ?_); rw [if_pos (by rfl)]; apply quiet_val; (intro wq hwq; go_simp; (try go_ints); exact rfl); refine hK _ ?_; clear hK K; simp only [Act.put, List.setIfInBounds_toArray, List.set_cons_zero, List.set_cons_succ])
  (refine wpQuiet_step (fun K hK => ?_); rw [if_pos (by rfl)]; apply quiet_val; (intro wq hwq; go_simp; (try go_ints); exact rfl); refine hK _ ?_; clear hK K; simp only [Act.put, List.setIfInBounds_toArray, List.set_cons_zero, List.set_cons_succ])
  (refine wpQuiet_step (fun K hK => ?_); rw [if_pos (by rfl)]; apply quiet_val; (intro wq hwq; go_simp; (try go_ints); exact rfl); refine hK _ ?_; clear hK K; simp only [Act.put, List.setIfInBounds_toArray, List.set_cons_zero, List.set_cons_succ])
  (refine wpQuiet_step (fun K hK => ?_); rw [if_pos (by rfl)]; apply quiet_val; (intro wq hwq; go_simp; (try go_ints); exact rfl); refine hK _ ?_; clear hK K; simp only [Act.put, List.setIfInBounds_toArray, List.set_cons_zero, List.set_cons_succ])
  (refine wpQuiet_step (fun K hK => ?_); rw [if_pos (by rfl)]; apply quiet_val; (intro wq hwq; go_simp; (try go_ints); exact rfl); refine hK _ ?_; clear hK K; simp only [Act.put, List.setIfInBounds_toArray, List.set_cons_zero, List.set_cons_succ])
  (refine wpQuiet_step (fun K hK => ?_); rw [if_pos (by rfl)]; apply quiet_val; (intro wq hwq; go_simp; (try go_ints); exact rfl); refine hK _ ?_; clear hK K; simp only [Act.put, List.setIfInBounds_toArray, List.set_cons_zero, List.set_cons_succ])
  (refine wpQuiet_step (fun K hK => ?_); rw [if_pos (by rfl)]; apply quiet_val; (intro wq hwq; go_simp; (try go_ints); exact rfl); refine hK _ ?_; clear hK K; simp only [Act.put, List.setIfInBounds_toArray, List.set_cons_zero, List.set_cons_succ])
  (refine wpQuiet_step (fun K hK => ?_); rw [if_pos (by rfl)]; apply quiet_val; (intro wq hwq; go_simp; (try go_ints); exact rfl); refine hK _ ?_; clear hK K; simp only [Act.put, List.setIfInBounds_toArray, List.set_cons_zero, List.set_cons_succ])
  (refine wpQuiet_step (fun K hK => ?_); rw [if_pos (by rfl)]; apply quiet_val; (intro wq hwq; go_simp; (try go_ints); exact rfl); refine hK _ ?_; clear hK K; simp only [Act.put, List.setIfInBounds_toArray, List.set_cons_zero, List.set_cons_succ])
  (refine wpQuiet_step (fun K hK => ?_); rw [if_pos (by rfl)]; apply quiet_subload (cs := #[.int .i64 ma, .int .i64 mb, .int .i64 mc, .int .i64 md]) Try.underlying26 rfl isz26; exact rfl; exact rfl; exact (fun w' hs => laterRow hs r0); exact sub_pol c l ii f s ma mb mc md; exact (by simp [go_sem, *]); refine hK _ ?_; clear hK K; simp only [Act.put, List.setIfInBounds_toArray, List.set_cons_zero, List.set_cons_succ])
  (refine wpQuiet_step (fun K hK => ?_); rw [if_pos (by rfl)]; apply quiet_call; (intro wq; go_simp; exact ⟨rfl, rfl⟩); (intro wq hwq; exact Since.call hwq (to16_any ma mb mc md _)); refine hK _ ?_; clear hK K; simp only [Act.put, List.setIfInBounds_toArray, List.set_cons_zero, List.set_cons_succ])
  (refine wpQuiet_step (fun K hK => ?_); rw [if_pos (by rfl)]; apply quiet_val; (intro wq hwq; go_simp; (try go_ints); exact rfl); refine hK _ ?_; clear hK K; simp only [Act.put, List.setIfInBounds_toArray, List.set_cons_zero, List.set_cons_succ])
  refine wpQuiet_nil ?_; intro wn hwn
  have d := laterRow hwn r1
  (apply wpList_rowstore (vs := #[.int .i64 c, .int .i64 l, .int .i64 ii, .int .i64 f, .int .i64 s, .int .i64 ma, .int .i64 mb, .int .i64 mc, .int .i64 md]) isz40; exact rfl; exact rfl; exact rfl; exact rfl; (with_reducible exact d); exact (by first | rfl | simp [go_sem, *]); exact (by first | rfl | simp [go_sem, *]); exact (by first | rfl | simp [go_sem, *]); try simp only [Act.put, List.setIfInBounds_toArray, List.set_cons_zero, List.set_cons_succ])
  go_wp2
  refine bodyPost_ret (results_row rfl Try.underlying40 rfl isz40 _ _ (w.heap.size + 1) (#[.int .i64 c, .int .i64 l, .int .i64 ii, .int .i64 f, .int .i64 s, .int .i64 ma, .int .i64 mb, .int .i64 mc, .int .i64 md]) rfl (rowAt_setRow_same d _) (by first | rfl | simp [go_sem, *])) rfl ?_
  exact ⟨rfl, below_set (hwn.out B0.out) (by omega) _⟩
set_option maxHeartbeats 800000 in
theorem default_zero (w : World) : Calls Try.prog 32 #[.int .i64 0] w fun e w' => e = .returned (.tuple #[.agg (Pol.cells ⟨0, 256, 1792, 1, 0, 512, 32768, 192, 3⟩), .int .i64 0]) ∧ Below w.heap.size w w' := by
  simp only [Pol.cells]
  go_enter Try.func32, Try.ntmps32
  go_wp2
  refine bodyPost_ret (results_row_tmp rfl Try.underlying40 rfl isz40 _ _ (w.heap.size) (#[.int .i64 0, .int .i64 256, .int .i64 1792, .int .i64 1, .int .i64 0, .int .i64 512, .int .i64 32768, .int .i64 192, .int .i64 3]) rfl (row1 _ _ _) (by first | rfl | simp [go_sem, *])) rfl ?_
  exact ⟨rfl, below1 _ _⟩

end Go.Proofs.Ytobbjdindknkdaa
