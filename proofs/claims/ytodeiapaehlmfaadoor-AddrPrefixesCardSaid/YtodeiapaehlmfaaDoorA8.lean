import Derived.Test.YtodeiapaehlmfaaDoorA7
import Derived.Laws.CopyOwn

namespace Go.Proofs.YtodeiapaehlmfaaDoor
open Go Go.RowKit
attribute [local go_sem] rowAt_alloc_at rowAt_alloc_past rowAt_drew rowAt_drewN bv_size iv_size bv_one iv_one bv_set iv_set bv_get iv_get bv_elem iv_elem zlit16 zlit8 z16_length z8_length eq25 eq22 eq23 pv_size pv_one cutS_length zplit
attribute [local irreducible] wpQuiet
set_option linter.unusedSimpArgs false

/-! ### addr.All -/
def allG : List Int := [65282, 0, 0, 0, 0, 0, 0, 26]
theorem allG_of : (((((((z8.set 0 65282).set 1 0).set 2 0).set 3 0).set 4 0).set 5 0).set 6 0).set 7 26 = allG := rfl
theorem allG_length : allG.length = 8 := rfl
attribute [local go_sem] allG_of
def allL : List Int := (ofS allG).1
theorem allL_length : allL.length = 16 := ofS_length _
attribute [local irreducible] allG
set_option maxRecDepth 100000 in
set_option maxHeartbeats 400000 in
theorem all_any (w : World) : Calls Tryd.prog 34 #[] w fun e w' => e = .returned (.agg (bv allL)) ∧ Below w.heap.size w w' := by
  have hof := fun (w : World) (t : TypeId) (n : Nat) (hn : n = w.heap.size) => of_iv' allG allG_length w t n hn
  have hL := ofS_length allG
  unfold allL
  generalize ofS allG = p at hof hL ⊢
  have HO := Lib.hid hof; clear hof
  have r0 := row1 w (bv z16) 25
  go_enter Tryd.func34, Tryd.ntmps34
  go_wp2_with (first | (go_at_call 9; refine (HO.out _ _ _ (by simp)).mono ?_; rintro e2 w2 ⟨rfl, hb2⟩; have r1 := row_call hb2 (row_alloc r0 _)) | (apply wpList_rowstore (vs := bv p.1) isz25; exact rfl; exact rfl; exact rfl; exact rfl; (with_reducible exact row1 _ _ _); exact (by simp [go_sem, *]); exact (by simp [go_sem, *]); exact (by simp [go_sem, *]); try simp only [Act.put, List.setIfInBounds_toArray, List.set_cons_zero, List.set_cons_succ]) | (apply wpList_rowload Tryd.underlying25 rfl isz25; exact rfl; exact rfl; exact rfl; (with_reducible exact rowAt_setRow_same (row1 _ _ _) _); exact (by simp [go_sem, *]); simp only [Act.put, List.setIfInBounds_toArray, List.set_cons_zero, List.set_cons_succ]) | (apply wpList_rowstore (vs := bv p.1) isz25; exact rfl; exact rfl; exact rfl; exact rfl; (with_reducible exact row_set (row_alloc r1 _) (Nat.ne_of_lt (row_lt r1)) _); exact (by simp [go_sem, *]); exact (by simp [go_sem, *]); exact (by simp [go_sem, *]); try simp only [Act.put, List.setIfInBounds_toArray, List.set_cons_zero, List.set_cons_succ]))
  have hs2 : w.heap.size ≤ w2.heap.size := Nat.le_trans (by simp; omega) hb2.size
  refine bodyPost_ret (results_row rfl Tryd.underlying25 rfl isz25 _ _ (w.heap.size) (bv p.1) rfl (rowAt_setRow_same (row_set (row_alloc r1 _) (Nat.ne_of_lt (row_lt r1)) _) _) (by simp [go_sem, *])) rfl ?_
  exact ⟨rfl, below_set (below_set (below_new (below_call (below2 _ _ _) hb2) _) hs2 _) (Nat.le_refl _) _⟩

/-! ### addr.Global -/
def globalS (l : List Int) (m : Int) (n : Int) : List Int × Int :=
  if (0 ≤ n ∧ n < 64) ∧ rightB l m = true ∧ m = 64 then (l.take 8 ++ (linkS n).1.drop 8, 0) else (z16, 1)
theorem linkS_ok {n : Int} (h : 0 ≤ n ∧ n < 64) : (linkS n).2 = 0 := by
  rw [linkS_yes h, ofS_good]
  refine ⟨linkG_length n, List.all_eq_true.2 fun x hx => ?_⟩
  simp only [linkG, List.mem_cons, List.not_mem_nil, or_false] at hx
  unfold okG
  rcases hx with rfl | rfl | rfl | rfl | rfl | rfl | rfl | rfl <;> simp <;> omega
theorem globalS_no {l : List Int} {m n : Int} (h : ¬ ((0 ≤ n ∧ n < 64) ∧ rightB l m = true ∧ m = 64)) : globalS l m n = (z16, 1) := if_neg h
theorem globalS_yes {l : List Int} {m n : Int} (h : (0 ≤ n ∧ n < 64) ∧ rightB l m = true ∧ m = 64) : globalS l m n = (l.take 8 ++ (linkS n).1.drop 8, 0) := if_pos h

theorem isz5 : (Tryd.prog.info? 5).map (·.size) = some 1 := by kernel_rfl
theorem copied_row (l c : List Int) (hc : c.length = 16) (hl : l.length = 16) : (((bv c).toList.take 0 ++ ((l.take 8).map (Value.int .u8) ++ (bv c).toList.drop (0 + ((l.take 8).map (Value.int .u8)).length))).toArray : Array Value) = bv (l.take 8 ++ c.drop 8) := by
  simp [bv, hl, List.map_drop]

set_option maxHeartbeats 1000000 in
theorem global_any (l : List Int) (hl : l.length = 16) (m n : Int) (w : World) : Calls Tryd.prog 20 #[.agg (pv l m), .int .i64 n] w fun e w' =>
    e = .returned (.tuple #[.agg (bv (globalS l m n).1), .int .i64 (globalS l m n).2]) ∧ Below w.heap.size w w' := by
  have r0 := row2a w (pv l m) 40 (.cells (bv z16) 25)
  have r1 := row2b w (bv z16) 25 (.cells (pv l m) 40)
  have hlink := linkS_length n
  by_cases h1 : 0 ≤ n ∧ n < 64
  · have hk := linkS_ok h1
    have hLK : ∀ w, Calls Tryd.prog 19 #[.int .i64 n] w fun e w' => e = .returned (.tuple #[.agg (bv (linkS n).1), .int .i64 0]) ∧ Below w.heap.size w w' := fun w => by
      have := link_any n w
      rwa [hk] at this
    generalize hX : (linkS n).1 = X at hLK hlink
    have HL := Lib.hid hLK; clear hLK
    have HX := Lib.hid hX; clear hX hk
    by_cases h2 : rightB l m = true
    · have hR := Lib.hid (right_yes hl h2)
      by_cases h3 : m = 64
      · subst h3
        have HG := Lib.hid (globalS_yes ⟨h1, h2, rfl⟩ : globalS l 64 n = _)
        clear h2
        go_enter Tryd.func20, Tryd.ntmps20
        go_wp2_with (first | (go_at_call 19; refine (HL.out _).mono ?_; rintro e1 w1 ⟨rfl, hb1⟩; have q0 := row_call hb1 r0; have q1 := row_call hb1 r1) | (apply wpList_rowstore (vs := bv X) isz25; exact rfl; exact rfl; exact rfl; exact rfl; (with_reducible exact row1 _ _ _); exact (by simp [go_sem, *]); exact (by simp [go_sem, *]); exact (by simp [go_sem, *]); try simp only [Act.put, List.setIfInBounds_toArray, List.set_cons_zero, List.set_cons_succ]) | (apply wpList_rowload Tryd.underlying40 rfl isz40; exact rfl; exact rfl; exact rfl; (with_reducible exact row_set (row_alloc q0 _) (Nat.ne_of_lt (row_lt q0)) _); exact (by simp [go_sem, *]); simp only [Act.put, List.setIfInBounds_toArray, List.set_cons_zero, List.set_cons_succ]) | (go_at_call 17; refine (hR.out _).mono ?_; rintro e2 w2 ⟨rfl, hb2⟩; have s0 := row_call hb2 (row_set (row_alloc q0 _) (Nat.ne_of_lt (row_lt q0)) (bv X)); have s1 := row_call hb2 (row_set (row_alloc q1 _) (Nat.ne_of_lt (row_lt q1)) (bv X)); have s2 := row_call hb2 (rowAt_setRow_same (row1 w1 (bv z16) 25) (bv X)); have c16 := (cell_row s0 16).trans (pv_bits l 64 hl)))
        refine wp_region_flow (Since _) 3 (by kernel_rfl) (by kernel_rfl) (Since.drew _) ?_; simp only [List.take_succ_cons, List.take_zero, List.drop_succ_cons, List.drop_zero]
        (refine wpQuiet_step (fun K hK => ?_); rw [if_pos (by rfl)]; apply quiet_val; (intro wq hwq; go_simp; (try go_ints); exact rfl); refine hK _ ?_; clear hK K; simp only [Act.put, List.setIfInBounds_toArray, List.set_cons_zero, List.set_cons_succ])
        (refine wpQuiet_step (fun K hK => ?_); rw [if_pos (by rfl)]; apply quiet_val; (intro wq hwq; go_simp; (try go_ints); exact rfl); refine hK _ ?_; clear hK K; simp only [Act.put, List.setIfInBounds_toArray, List.set_cons_zero, List.set_cons_succ])
        (refine wpQuiet_step (fun K hK => ?_); rw [if_pos (by rfl)]; apply quiet_val; (intro wq hwq; go_simp; (try go_ints); exact rfl); refine hK _ ?_; clear hK K; simp only [Act.put, List.setIfInBounds_toArray, List.set_cons_zero, List.set_cons_succ])
        refine wpQuiet_nil ?_; intro wn hwn
        have t0 := laterRow hwn s0
        have t1 := laterRow hwn s1
        have t2 := laterRow hwn s2
        obtain ⟨ty2, ht2⟩ := rowAt_some t2
        refine wpList_copy_own rfl (.tmp 26) (.tmp 28) 75 75 rfl 5 Tryd.underlying75 isz5 w1.heap.size 0 8 16 ⟨w.heap.size, 0, none⟩ 16 16 rfl rfl (bv X) ty2 ht2 ((l.take 8).map (Value.int .u8)) (by simp [hl]) ?_ (by simp [hl, go_sem, hlink]) (by intro v hv; obtain ⟨x, _, rfl⟩ := List.mem_map.1 hv; rfl) ?_
        · intro j v hj
          have hj8 : j < 8 := by
            have := (List.getElem?_eq_some_iff.1 hj).1
            simp [hl] at this
            exact this
          have hadd : (⟨w.heap.size, 0, none⟩ : Addr).add j = ⟨w.heap.size, j, none⟩ := by unfold Addr.add; split <;> simp_all
          rw [hadd, cell_row t0]
          have e := pv_addr l 64 j v (by
            rw [← hj]
            simp [bv, List.getElem?_take, hj8])
          simpa using e
        rw [copied_row l X hlink hl]
        have v1 := row_set t1 (Nat.ne_of_lt (Nat.lt_of_lt_of_le (row_lt q1) (Nat.le_refl _))) (bv (l.take 8 ++ X.drop 8))
        have v2 := rowAt_setRow_same t2 (bv (l.take 8 ++ X.drop 8))
        have hY : (l.take 8 ++ X.drop 8).length = 16 := by simp [hl, hlink]
        have HG2 : Hid (globalS l 64 n = (l.take 8 ++ X.drop 8, 0)) := Lib.hid (by rw [HG.out, HX.out])
        clear HG
        have B1 : Below w.heap.size w w1 := below_call (below2 _ _ _) hb1
        have B2 := hwn.out (below_call (below_set (below_new B1 _) B1.size _) hb2)
        clear hb1 hb2 hwn
        generalize l.take 8 ++ X.drop 8 = Y at *
        clear s0 s1 s2 t0 t1 t2 ht2 c16
        go_wp2_with (first | (apply wpList_rowload Tryd.underlying25 rfl isz25; exact rfl; exact rfl; exact rfl; (with_reducible exact v2); exact (by simp [go_sem, *]); simp only [Act.put, List.setIfInBounds_toArray, List.set_cons_zero, List.set_cons_succ]) | (apply wpList_rowstore (vs := bv Y) isz25; exact rfl; exact rfl; exact rfl; exact rfl; (with_reducible exact v1); exact (by simp [go_sem, *]); exact (by simp [go_sem, *]); exact (by simp [go_sem, *]); try simp only [Act.put, List.setIfInBounds_toArray, List.set_cons_zero, List.set_cons_succ]))
        refine bodyPost_ret (results_row_tmp rfl Tryd.underlying25 rfl isz25 _ _ (w.heap.size + 1) (bv Y) rfl (rowAt_setRow_same v1 _) (by simp [go_sem, *])) rfl ?_
        exact ⟨by rw [HG2.out]; rfl, below_set (below_set B2 B1.size _) (by omega) _⟩
      · have HG := Lib.hid (globalS_no (fun h => h3 h.2.2) : globalS l m n = _)
        have h3' : (m == 64) = false := beq_eq_false_iff_ne.2 h3
        clear h2
        go_enter Tryd.func20, Tryd.ntmps20
        go_wp2_with (first | (go_at_call 19; refine (HL.out _).mono ?_; rintro e1 w1 ⟨rfl, hb1⟩; have q0 := row_call hb1 r0; have q1 := row_call hb1 r1) | (apply wpList_rowstore (vs := bv X) isz25; exact rfl; exact rfl; exact rfl; exact rfl; (with_reducible exact row1 _ _ _); exact (by simp [go_sem, *]); exact (by simp [go_sem, *]); exact (by simp [go_sem, *]); try simp only [Act.put, List.setIfInBounds_toArray, List.set_cons_zero, List.set_cons_succ]) | (apply wpList_rowload Tryd.underlying40 rfl isz40; exact rfl; exact rfl; exact rfl; (with_reducible exact row_set (row_alloc q0 _) (Nat.ne_of_lt (row_lt q0)) _); exact (by simp [go_sem, *]); simp only [Act.put, List.setIfInBounds_toArray, List.set_cons_zero, List.set_cons_succ]) | (go_at_call 17; refine (hR.out _).mono ?_; rintro e2 w2 ⟨rfl, hb2⟩; have s0 := row_call hb2 (row_set (row_alloc q0 _) (Nat.ne_of_lt (row_lt q0)) (bv X)); have s1 := row_call hb2 (row_set (row_alloc q1 _) (Nat.ne_of_lt (row_lt q1)) (bv X)); have s2 := row_call hb2 (rowAt_setRow_same (row1 w1 (bv z16) 25) (bv X)); have c16 := (cell_row s0 16).trans (pv_bits l m hl)) | (apply wpList_rowstore (vs := bv z16) isz25; exact rfl; exact rfl; exact rfl; exact rfl; (with_reducible exact s1); exact (by simp [go_sem, *]); exact (by simp [go_sem, *]); exact (by simp [go_sem, *]); try simp only [Act.put, List.setIfInBounds_toArray, List.set_cons_zero, List.set_cons_succ]))
        refine bodyPost_ret (results_row_tmp rfl Tryd.underlying25 rfl isz25 _ _ (w.heap.size + 1) (bv z16) rfl (rowAt_setRow_same s1 _) (by simp [go_sem, *])) rfl ?_
        have B1 : Below w.heap.size w w1 := below_call (below2 _ _ _) hb1
        exact ⟨by rw [HG.out]; rfl, below_set (below_call (below_set (below_new B1 _) B1.size _) hb2) (by omega) _⟩
    · have hR := Lib.hid (right_no hl (by simpa using h2 : rightB l m = false))
      have HG := Lib.hid (globalS_no (fun h => h2 h.2.1) : globalS l m n = _)
      clear h2
      go_enter Tryd.func20, Tryd.ntmps20
      go_wp2_with (first | (go_at_call 19; refine (HL.out _).mono ?_; rintro e1 w1 ⟨rfl, hb1⟩; have q0 := row_call hb1 r0; have q1 := row_call hb1 r1) | (apply wpList_rowstore (vs := bv X) isz25; exact rfl; exact rfl; exact rfl; exact rfl; (with_reducible exact row1 _ _ _); exact (by simp [go_sem, *]); exact (by simp [go_sem, *]); exact (by simp [go_sem, *]); try simp only [Act.put, List.setIfInBounds_toArray, List.set_cons_zero, List.set_cons_succ]) | (apply wpList_rowload Tryd.underlying40 rfl isz40; exact rfl; exact rfl; exact rfl; (with_reducible exact row_set (row_alloc q0 _) (Nat.ne_of_lt (row_lt q0)) _); exact (by simp [go_sem, *]); simp only [Act.put, List.setIfInBounds_toArray, List.set_cons_zero, List.set_cons_succ]) | (go_at_call 17; refine (hR.out _).mono ?_; rintro e2 w2 ⟨rfl, hb2⟩; have s0 := row_call hb2 (row_set (row_alloc q0 _) (Nat.ne_of_lt (row_lt q0)) (bv X)); have s1 := row_call hb2 (row_set (row_alloc q1 _) (Nat.ne_of_lt (row_lt q1)) (bv X)); have s2 := row_call hb2 (rowAt_setRow_same (row1 w1 (bv z16) 25) (bv X)); have c16 := (cell_row s0 16).trans (pv_bits l m hl)) | (apply wpList_rowstore (vs := bv z16) isz25; exact rfl; exact rfl; exact rfl; exact rfl; (with_reducible exact s1); exact (by simp [go_sem, *]); exact (by simp [go_sem, *]); exact (by simp [go_sem, *]); try simp only [Act.put, List.setIfInBounds_toArray, List.set_cons_zero, List.set_cons_succ]))
      refine bodyPost_ret (results_row_tmp rfl Tryd.underlying25 rfl isz25 _ _ (w.heap.size + 1) (bv z16) rfl (rowAt_setRow_same s1 _) (by simp [go_sem, *])) rfl ?_
      have B1 : Below w.heap.size w w1 := below_call (below2 _ _ _) hb1
      exact ⟨by rw [HG.out]; rfl, below_set (below_call (below_set (below_new B1 _) B1.size _) hb2) (by omega) _⟩
  · have HG := Lib.hid (globalS_no (fun h => h1 h.1) : globalS l m n = _)
    have hLK : ∀ w, Calls Tryd.prog 19 #[.int .i64 n] w fun e w' => e = .returned (.tuple #[.agg (bv z16), .int .i64 1]) ∧ Below w.heap.size w w' := fun w => by
      have := link_any n w
      rwa [linkS_no h1] at this
    have HL := Lib.hid hLK; clear hLK
    go_enter Tryd.func20, Tryd.ntmps20
    go_wp2_with (first | (go_at_call 19; refine (HL.out _).mono ?_; rintro e1 w1 ⟨rfl, hb1⟩; have q0 := row_call hb1 r0; have q1 := row_call hb1 r1) | (apply wpList_rowstore (vs := bv z16) isz25; exact rfl; exact rfl; exact rfl; exact rfl; (with_reducible exact row1 _ _ _); exact (by simp [go_sem, *]); exact (by simp [go_sem, *]); exact (by simp [go_sem, *]); try simp only [Act.put, List.setIfInBounds_toArray, List.set_cons_zero, List.set_cons_succ]) | (apply wpList_rowload Tryd.underlying40 rfl isz40; exact rfl; exact rfl; exact rfl; (with_reducible exact row_set (row_alloc q0 _) (Nat.ne_of_lt (row_lt q0)) _); exact (by simp [go_sem, *]); simp only [Act.put, List.setIfInBounds_toArray, List.set_cons_zero, List.set_cons_succ]) | (apply wpList_rowstore (vs := bv z16) isz25; exact rfl; exact rfl; exact rfl; exact rfl; (with_reducible exact row_set (row_alloc q1 _) (Nat.ne_of_lt (row_lt q1)) _); exact (by simp [go_sem, *]); exact (by simp [go_sem, *]); exact (by simp [go_sem, *]); try simp only [Act.put, List.setIfInBounds_toArray, List.set_cons_zero, List.set_cons_succ]))
    refine bodyPost_ret (results_row_tmp rfl Tryd.underlying25 rfl isz25 _ _ (w.heap.size + 1) (bv z16) rfl (rowAt_setRow_same (row_set (row_alloc q1 _) (Nat.ne_of_lt (row_lt q1)) _) _) (by simp [go_sem, *])) rfl ?_
    have B1 : Below w.heap.size w w1 := below_call (below2 _ _ _) hb1
    exact ⟨by rw [HG.out]; rfl, below_set (below_set (below_new B1 _) B1.size _) (by omega) _⟩

end Go.Proofs.YtodeiapaehlmfaaDoor
