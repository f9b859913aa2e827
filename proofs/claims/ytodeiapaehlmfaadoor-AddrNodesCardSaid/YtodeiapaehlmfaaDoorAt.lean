import Derived.Test.YtodeiapaehlmfaaDoorAl
import Derived.Test.YtodeiapaehlmfaaDoorAr
import Derived.Test.YtodeiapaehlmfaaDoorAs
namespace Go.Proofs.YtodeiapaehlmfaaDoor
open Go Go.RowKit
attribute [local go_sem] rowAt_alloc_at rowAt_alloc_past rowAt_drew rowAt_drewN bv_size iv_size bv_one iv_one bv_set iv_set bv_get iv_get bv_elem iv_elem zlit16 zlit8 z16_length z8_length eq25 eq22 eq23 pv_size pv_one cutS_length zplit
attribute [local irreducible] wpQuiet
set_option linter.unusedSimpArgs false
set_option linter.unusedVariables false

/-! ### the law AddrNodes -/
set_option maxHeartbeats 2000000 in
set_option maxRecDepth 100000 in
theorem nodes_neg_low (P : List Int) (hP : P.length = 16) (hPb : byt P) (m n : Int) (a : List Int) (ha : a.length = 16) (hB : byt a) (hw : rnodeS a < 0) (hnd : nodeS a = (0, 8)) (hn : n < 0) (w : World) (hg : Glob w) :
    Calls Tryd.prog 6 #[.int .i64 n, .agg (pv P m), .agg (bv a)] w fun e w' => e = .returned (.bool true) ∧ Below w.heap.size w w' := by
  have r0 := row2a w (pv P m) 47 (.cells (bv a) 22)
  have r1 := row2b w (bv a) 22 (.cells (pv P m) 47)
  have HK := Lib.hid (fun w hg => known_any w hg)
  have HG := Lib.hid hg
  have HNd := Lib.hid fun w => Node_any a ha hB w
  have HRn := Lib.hid fun w => rnode_any a ha w
  have HMc := Lib.hid fun w => multicast_any a ha w
  rw [hnd] at HNd
  have ez : ∀ W, (Op.equalIn 10000 25 (.agg (bv z16)) (.agg (bv z16))).run Tryd.prog W = .ok true W := fun W => by rw [eq25 W 9998 _ _ rfl rfl, decide_eq_true rfl]
  have hno : ¬ (0 ≤ n ∧ n < 64) := by omega
  have HL := Lib.hid fun w => link_any n w
  rw [linkS_no hno] at HL
  have HGl := Lib.hid fun w => global_any P hP m n w
  rw [globalS_no (fun h => hno h.1)] at HGl
  simp only at HL HGl
  clear hnd hg
  generalize rnodeS a = V at *
  have HAb := Lib.hid hB
  have hd1 : decide (V < 0) = true := decide_eq_true hw
  have hd2 : decide (0 ≤ V) = false := decide_eq_false (by omega)
  clear hB hPb
  go_enter Tryd.func6, Tryd.ntmps6
  go_wp2_with (first
    | (go_at_call 19; refine (HL.out _).mono ?_; rintro e w1 ⟨rfl, hb1⟩; have p0 := row_call hb1 r0; have p1 := row_call hb1 r1; have B1 := Lib.hid (below_call (below2 w (.cells (pv P m) 47) (.cells (bv a) 22)) hb1); have c16 := (cell_row (row_alloc p0 (.cells (bv z16) 25)) 16).trans (pv_bits P m hP))
    | (apply wpList_rowstore (vs := bv z16) isz25; exact rfl; exact rfl; exact rfl; exact rfl; (with_reducible exact row1 w1 _ _); exact (by simp [go_sem, *]); exact (by simp [go_sem, *]); exact (by simp [go_sem, *]); try simp only [Act.put, List.setIfInBounds_toArray, List.set_cons_zero, List.set_cons_succ]; try simp (disch := simp [go_sem]) only [setRow_alloc_at, setRow_alloc_past, setRow_drew])
    | (apply wpList_subload (cs := bv P) Tryd.underlying22 rfl isz22; exact rfl; exact rfl; exact rfl; (with_reducible exact row_alloc p0 _); exact pv_addr P m; exact (by simp [go_sem, *]); simp only [Act.put, List.setIfInBounds_toArray, List.set_cons_zero, List.set_cons_succ])
    | (apply wpList_build40; exact rfl; exact rfl; exact rfl; exact rfl; exact (by simp [go_sem, *]); simp only [Act.put, List.setIfInBounds_toArray, List.set_cons_zero, List.set_cons_succ])
    | (apply wpList_rowstore (vs := pv P m) isz40; exact rfl; exact rfl; exact rfl; exact rfl; (with_reducible exact row2b w1 _ _ _); exact (by simp [go_sem, *]); exact (by simp [go_sem, *]); exact (by simp [go_sem, *]); try simp only [Act.put, List.setIfInBounds_toArray, List.set_cons_zero, List.set_cons_succ]; try simp (disch := simp [go_sem]) only [setRow_alloc_at, setRow_alloc_past, setRow_drew])
    | (apply wpList_rowload Tryd.underlying40 rfl isz40; exact rfl; exact rfl; exact rfl; (with_reducible exact row2b w1 _ _ _); exact (by simp [go_sem, *]); simp only [Act.put, List.setIfInBounds_toArray, List.set_cons_zero, List.set_cons_succ])
    | (go_at_call 20; refine (HGl.out _).mono ?_; rintro e w2 ⟨rfl, hb2⟩; have q0 := row_call hb2 (row_alloc (row_alloc p0 (.cells (bv z16) 25)) (.cells (pv P m) 40)); have q1 := row_call hb2 (row_alloc (row_alloc p1 (.cells (bv z16) 25)) (.cells (pv P m) 40)); have q2 := row_call hb2 (row2a w1 (bv z16) 25 (.cells (pv P m) 40)); have B2 := Lib.hid (below_call (below_new (below_new B1.out (.cells (bv z16) 25)) (.cells (pv P m) 40)) hb2))
    | (apply wpList_rowstore (vs := bv z16) isz25; exact rfl; exact rfl; exact rfl; exact rfl; (with_reducible exact row1 w2 _ _); exact (by simp [go_sem, *]); exact (by simp [go_sem, *]); exact (by simp [go_sem, *]); try simp only [Act.put, List.setIfInBounds_toArray, List.set_cons_zero, List.set_cons_succ]; try simp (disch := simp [go_sem]) only [setRow_alloc_at, setRow_alloc_past, setRow_drew])
    | (apply wpList_rowload Tryd.underlying22 rfl isz22; exact rfl; exact rfl; exact rfl; (with_reducible exact row_alloc q1 _); exact (by simp [go_sem, *]); simp only [Act.put, List.setIfInBounds_toArray, List.set_cons_zero, List.set_cons_succ])
    | (go_at_call 21; refine (HNd.out _).mono ?_; rintro e w3 ⟨rfl, hb3⟩; have s0 := row_call hb3 (row_alloc q0 (.cells (bv z16) 25)); have s1 := row_call hb3 (row_alloc q1 (.cells (bv z16) 25)); have s2 := row_call hb3 (row_alloc q2 (.cells (bv z16) 25)); have s4 := row_call hb3 (row1 w2 (bv z16) 25); have B3 := Lib.hid (below_call (below_new B2.out (.cells (bv z16) 25)) hb3))
    | (apply wpList_rowload Tryd.underlying22 rfl isz22; exact rfl; exact rfl; exact rfl; (with_reducible exact s1); exact (by simp [go_sem, *]); simp only [Act.put, List.setIfInBounds_toArray, List.set_cons_zero, List.set_cons_succ])
    | (go_at_call 22; refine (HRn.out _).mono ?_; rintro e w4 ⟨rfl, hb4⟩; have t0 := row_call hb4 s0; have t1 := row_call hb4 s1; have t2 := row_call hb4 s2; have t4 := row_call hb4 s4; have B4 := Lib.hid (below_call B3.out hb4)))
  have c0 : ∀ w', Since w4 w' → w'.cell? ⟨w.heap.size + 1, 0, none⟩ = some (.int .u8 (nth a 0)) := fun w' h => later h t1 (by rw [bv_get, if_pos (by rw [ha]; decide)])
  refine wp_region_calm (Since _) (by kernel_rfl) (by kernel_rfl) (Since.drew _) ?_
  (refine wpQuiet_step (fun K hK => ?_); rw [if_pos (by rfl)]; apply quiet_val; (intro wq hwq; go_simp; (try go_ints); exact rfl); refine hK _ ?_; clear hK K; simp only [Act.put, List.setIfInBounds_toArray, List.set_cons_zero, List.set_cons_succ])
  (refine wpQuiet_step (fun K hK => ?_); rw [if_pos (by rfl)]; apply quiet_val; (intro wq hwq; go_simp; (try go_ints); exact rfl); refine hK _ ?_; clear hK K; simp only [Act.put, List.setIfInBounds_toArray, List.set_cons_zero, List.set_cons_succ])
  (refine wpQuiet_step (fun K hK => ?_); rw [if_pos (by rfl)]; apply quiet_val; (intro wq hwq; go_simp; (try go_ints); exact rfl); refine hK _ ?_; clear hK K; simp only [Act.put, List.setIfInBounds_toArray, List.set_cons_zero, List.set_cons_succ])
  (refine wpQuiet_step (fun K hK => ?_); rw [if_pos (by rfl)]; apply quiet_val; (intro wq hwq; go_simp; (try go_ints); exact rfl); refine hK _ ?_; clear hK K; simp only [Act.put, List.setIfInBounds_toArray, List.set_cons_zero, List.set_cons_succ])
  (refine wpQuiet_step (fun K hK => ?_); rw [if_pos (by rfl)]; apply quiet_val; (intro wq hwq; go_simp; (try go_ints); exact rfl); refine hK _ ?_; clear hK K; simp only [Act.put, List.setIfInBounds_toArray, List.set_cons_zero, List.set_cons_succ])
  (refine wpQuiet_step (fun K hK => ?_); rw [if_pos (by rfl)]; apply quiet_val; (intro wq hwq; go_simp; (try go_ints); exact rfl); refine hK _ ?_; clear hK K; simp only [Act.put, List.setIfInBounds_toArray, List.set_cons_zero, List.set_cons_succ])
  (refine wpQuiet_step (fun K hK => ?_); rw [if_pos (by rfl)]; apply quiet_val; (intro wq hwq; go_simp; (try go_ints); exact rfl); refine hK _ ?_; clear hK K; simp only [Act.put, List.setIfInBounds_toArray, List.set_cons_zero, List.set_cons_succ])
  (refine wpQuiet_step (fun K hK => ?_); rw [if_pos (by rfl)]; apply quiet_val; (intro wq hwq; go_simp; (try go_ints); exact rfl); refine hK _ ?_; clear hK K; simp only [Act.put, List.setIfInBounds_toArray, List.set_cons_zero, List.set_cons_succ])
  (refine wpQuiet_step (fun K hK => ?_); rw [if_pos (by rfl)]; apply quiet_val; (intro wq hwq; go_simp; (try go_ints); exact rfl); refine hK _ ?_; clear hK K; simp only [Act.put, List.setIfInBounds_toArray, List.set_cons_zero, List.set_cons_succ])
  (refine wpQuiet_step (fun K hK => ?_); rw [if_pos (by rfl)]; apply quiet_val; (intro wq hwq; go_simp; (try go_ints); exact rfl); refine hK _ ?_; clear hK K; simp only [Act.put, List.setIfInBounds_toArray, List.set_cons_zero, List.set_cons_succ])
  (refine wpQuiet_skip (by rfl) ?_; simp only [Act.put, List.setIfInBounds_toArray, List.set_cons_zero, List.set_cons_succ])
  (refine wpQuiet_skip (by rfl) ?_; simp only [Act.put, List.setIfInBounds_toArray, List.set_cons_zero, List.set_cons_succ])
  (refine wpQuiet_skip (by rfl) ?_; simp only [Act.put, List.setIfInBounds_toArray, List.set_cons_zero, List.set_cons_succ])
  (refine wpQuiet_skip (by rfl) ?_; simp only [Act.put, List.setIfInBounds_toArray, List.set_cons_zero, List.set_cons_succ])
  (refine wpQuiet_skip (by rfl) ?_; simp only [Act.put, List.setIfInBounds_toArray, List.set_cons_zero, List.set_cons_succ])
  (refine wpQuiet_skip (by rfl) ?_; simp only [Act.put, List.setIfInBounds_toArray, List.set_cons_zero, List.set_cons_succ])
  (refine wpQuiet_skip (by rfl) ?_; simp only [Act.put, List.setIfInBounds_toArray, List.set_cons_zero, List.set_cons_succ])
  (refine wpQuiet_step (fun K hK => ?_); rw [if_pos (by rfl)]; apply quiet_val; (intro wq hwq; go_simp; (try go_ints); exact rfl); refine hK _ ?_; clear hK K; simp only [Act.put, List.setIfInBounds_toArray, List.set_cons_zero, List.set_cons_succ])
  (refine wpQuiet_step (fun K hK => ?_); rw [if_pos (by rfl)]; apply quiet_val; (intro wq hwq; go_simp; (try go_ints); exact rfl); refine hK _ ?_; clear hK K; simp only [Act.put, List.setIfInBounds_toArray, List.set_cons_zero, List.set_cons_succ])
  (refine wpQuiet_step (fun K hK => ?_); rw [if_pos (by rfl)]; apply quiet_val; (intro wq hwq; go_simp; (try go_ints); exact rfl); refine hK _ ?_; clear hK K; simp only [Act.put, List.setIfInBounds_toArray, List.set_cons_zero, List.set_cons_succ])
  (refine wpQuiet_step (fun K hK => ?_); rw [if_pos (by rfl)]; apply quiet_rowload (cs := bv a) Tryd.underlying22 rfl isz22; exact rfl; exact rfl; exact fun w h => laterRow h t1; exact (by simp [go_sem, *]); refine hK _ ?_; clear hK K; simp only [Act.put, List.setIfInBounds_toArray, List.set_cons_zero, List.set_cons_succ])
  (refine wpQuiet_step (fun K hK => ?_); rw [if_pos (by rfl)]; apply quiet_call; (intro wq; go_simp; exact ⟨rfl, rfl⟩); (intro wq hwq; exact Since.call hwq (HMc.out _)); refine hK _ ?_; clear hK K; simp only [Act.put, List.setIfInBounds_toArray, List.set_cons_zero, List.set_cons_succ])
  (refine wpQuiet_step (fun K hK => ?_); rw [if_pos (by rfl)]; apply quiet_val; (intro wq hwq; go_simp; (try go_ints); exact rfl); refine hK _ ?_; clear hK K; simp only [Act.put, List.setIfInBounds_toArray, List.set_cons_zero, List.set_cons_succ])
  (refine wpQuiet_step (fun K hK => ?_); rw [if_pos (by rfl)]; apply quiet_val; (intro wq hwq; go_simp; (try go_ints); exact rfl); refine hK _ ?_; clear hK K; simp only [Act.put, List.setIfInBounds_toArray, List.set_cons_zero, List.set_cons_succ])
  (refine wpQuiet_step (fun K hK => ?_); rw [if_pos (by rfl)]; apply quiet_val; (intro wq hwq; go_simp; (try go_ints); exact rfl); refine hK _ ?_; clear hK K; simp only [Act.put, List.setIfInBounds_toArray, List.set_cons_zero, List.set_cons_succ])
  (refine wpQuiet_step (fun K hK => ?_); rw [if_pos (by rfl)]; apply quiet_val; (intro wq hwq; go_simp; (try go_ints); exact rfl); refine hK _ ?_; clear hK K; simp only [Act.put, List.setIfInBounds_toArray, List.set_cons_zero, List.set_cons_succ])
  (refine wpQuiet_step (fun K hK => ?_); rw [if_pos (by rfl)]; apply quiet_val; (intro wq hwq; go_simp; (try go_ints); exact rfl); refine hK _ ?_; clear hK K; simp only [Act.put, List.setIfInBounds_toArray, List.set_cons_zero, List.set_cons_succ])
  refine wpQuiet_nil ?_; intro wn hwn
  have B5 := Lib.hid (hwn.out B4.out)
  have u0 := laterRow hwn t0
  have u2 := laterRow hwn t2
  have u4 := laterRow hwn t4
  clear hwn c0
  go_wp2_with (first
    | (go_at_call 14; refine (HK.out _ (HG.out.since B5.out)).mono ?_; rintro e w6 ⟨rfl, hb6⟩))
  go_ret
  exact ⟨rfl, below_call B5.out hb6⟩

set_option maxHeartbeats 2000000 in
set_option maxRecDepth 100000 in
theorem nodes_neg_high (P : List Int) (hP : P.length = 16) (hPb : byt P) (m n : Int) (a : List Int) (ha : a.length = 16) (hB : byt a) (hw : rnodeS a < 0) (hnd : nodeS a = (0, 8)) (hn : ¬ n < 0) (hn2 : 63 < n) (w : World) (hg : Glob w) :
    Calls Tryd.prog 6 #[.int .i64 n, .agg (pv P m), .agg (bv a)] w fun e w' => e = .returned (.bool true) ∧ Below w.heap.size w w' := by
  have r0 := row2a w (pv P m) 47 (.cells (bv a) 22)
  have r1 := row2b w (bv a) 22 (.cells (pv P m) 47)
  have HK := Lib.hid (fun w hg => known_any w hg)
  have HG := Lib.hid hg
  have HNd := Lib.hid fun w => Node_any a ha hB w
  have HRn := Lib.hid fun w => rnode_any a ha w
  have HMc := Lib.hid fun w => multicast_any a ha w
  rw [hnd] at HNd
  have ez : ∀ W, (Op.equalIn 10000 25 (.agg (bv z16)) (.agg (bv z16))).run Tryd.prog W = .ok true W := fun W => by rw [eq25 W 9998 _ _ rfl rfl, decide_eq_true rfl]
  have hno : ¬ (0 ≤ n ∧ n < 64) := by omega
  have HL := Lib.hid fun w => link_any n w
  rw [linkS_no hno] at HL
  have HGl := Lib.hid fun w => global_any P hP m n w
  rw [globalS_no (fun h => hno h.1)] at HGl
  simp only at HL HGl
  clear hnd hg
  generalize rnodeS a = V at *
  have HAb := Lib.hid hB
  have hd1 : decide (V < 0) = true := decide_eq_true hw
  have hd2 : decide (0 ≤ V) = false := decide_eq_false (by omega)
  clear hB hPb
  go_enter Tryd.func6, Tryd.ntmps6
  go_wp2_with (first
    | (go_at_call 19; refine (HL.out _).mono ?_; rintro e w1 ⟨rfl, hb1⟩; have p0 := row_call hb1 r0; have p1 := row_call hb1 r1; have B1 := Lib.hid (below_call (below2 w (.cells (pv P m) 47) (.cells (bv a) 22)) hb1); have c16 := (cell_row (row_alloc p0 (.cells (bv z16) 25)) 16).trans (pv_bits P m hP))
    | (apply wpList_rowstore (vs := bv z16) isz25; exact rfl; exact rfl; exact rfl; exact rfl; (with_reducible exact row1 w1 _ _); exact (by simp [go_sem, *]); exact (by simp [go_sem, *]); exact (by simp [go_sem, *]); try simp only [Act.put, List.setIfInBounds_toArray, List.set_cons_zero, List.set_cons_succ]; try simp (disch := simp [go_sem]) only [setRow_alloc_at, setRow_alloc_past, setRow_drew])
    | (apply wpList_subload (cs := bv P) Tryd.underlying22 rfl isz22; exact rfl; exact rfl; exact rfl; (with_reducible exact row_alloc p0 _); exact pv_addr P m; exact (by simp [go_sem, *]); simp only [Act.put, List.setIfInBounds_toArray, List.set_cons_zero, List.set_cons_succ])
    | (apply wpList_build40; exact rfl; exact rfl; exact rfl; exact rfl; exact (by simp [go_sem, *]); simp only [Act.put, List.setIfInBounds_toArray, List.set_cons_zero, List.set_cons_succ])
    | (apply wpList_rowstore (vs := pv P m) isz40; exact rfl; exact rfl; exact rfl; exact rfl; (with_reducible exact row2b w1 _ _ _); exact (by simp [go_sem, *]); exact (by simp [go_sem, *]); exact (by simp [go_sem, *]); try simp only [Act.put, List.setIfInBounds_toArray, List.set_cons_zero, List.set_cons_succ]; try simp (disch := simp [go_sem]) only [setRow_alloc_at, setRow_alloc_past, setRow_drew])
    | (apply wpList_rowload Tryd.underlying40 rfl isz40; exact rfl; exact rfl; exact rfl; (with_reducible exact row2b w1 _ _ _); exact (by simp [go_sem, *]); simp only [Act.put, List.setIfInBounds_toArray, List.set_cons_zero, List.set_cons_succ])
    | (go_at_call 20; refine (HGl.out _).mono ?_; rintro e w2 ⟨rfl, hb2⟩; have q0 := row_call hb2 (row_alloc (row_alloc p0 (.cells (bv z16) 25)) (.cells (pv P m) 40)); have q1 := row_call hb2 (row_alloc (row_alloc p1 (.cells (bv z16) 25)) (.cells (pv P m) 40)); have q2 := row_call hb2 (row2a w1 (bv z16) 25 (.cells (pv P m) 40)); have B2 := Lib.hid (below_call (below_new (below_new B1.out (.cells (bv z16) 25)) (.cells (pv P m) 40)) hb2))
    | (apply wpList_rowstore (vs := bv z16) isz25; exact rfl; exact rfl; exact rfl; exact rfl; (with_reducible exact row1 w2 _ _); exact (by simp [go_sem, *]); exact (by simp [go_sem, *]); exact (by simp [go_sem, *]); try simp only [Act.put, List.setIfInBounds_toArray, List.set_cons_zero, List.set_cons_succ]; try simp (disch := simp [go_sem]) only [setRow_alloc_at, setRow_alloc_past, setRow_drew])
    | (apply wpList_rowload Tryd.underlying22 rfl isz22; exact rfl; exact rfl; exact rfl; (with_reducible exact row_alloc q1 _); exact (by simp [go_sem, *]); simp only [Act.put, List.setIfInBounds_toArray, List.set_cons_zero, List.set_cons_succ])
    | (go_at_call 21; refine (HNd.out _).mono ?_; rintro e w3 ⟨rfl, hb3⟩; have s0 := row_call hb3 (row_alloc q0 (.cells (bv z16) 25)); have s1 := row_call hb3 (row_alloc q1 (.cells (bv z16) 25)); have s2 := row_call hb3 (row_alloc q2 (.cells (bv z16) 25)); have s4 := row_call hb3 (row1 w2 (bv z16) 25); have B3 := Lib.hid (below_call (below_new B2.out (.cells (bv z16) 25)) hb3))
    | (apply wpList_rowload Tryd.underlying22 rfl isz22; exact rfl; exact rfl; exact rfl; (with_reducible exact s1); exact (by simp [go_sem, *]); simp only [Act.put, List.setIfInBounds_toArray, List.set_cons_zero, List.set_cons_succ])
    | (go_at_call 22; refine (HRn.out _).mono ?_; rintro e w4 ⟨rfl, hb4⟩; have t0 := row_call hb4 s0; have t1 := row_call hb4 s1; have t2 := row_call hb4 s2; have t4 := row_call hb4 s4; have B4 := Lib.hid (below_call B3.out hb4)))
  have c0 : ∀ w', Since w4 w' → w'.cell? ⟨w.heap.size + 1, 0, none⟩ = some (.int .u8 (nth a 0)) := fun w' h => later h t1 (by rw [bv_get, if_pos (by rw [ha]; decide)])
  refine wp_region_calm (Since _) (by kernel_rfl) (by kernel_rfl) (Since.drew _) ?_
  (refine wpQuiet_step (fun K hK => ?_); rw [if_pos (by rfl)]; apply quiet_val; (intro wq hwq; go_simp; (try go_ints); exact rfl); refine hK _ ?_; clear hK K; simp only [Act.put, List.setIfInBounds_toArray, List.set_cons_zero, List.set_cons_succ])
  (refine wpQuiet_step (fun K hK => ?_); rw [if_pos (by rfl)]; apply quiet_val; (intro wq hwq; go_simp; (try go_ints); exact rfl); refine hK _ ?_; clear hK K; simp only [Act.put, List.setIfInBounds_toArray, List.set_cons_zero, List.set_cons_succ])
  (refine wpQuiet_step (fun K hK => ?_); rw [if_pos (by rfl)]; apply quiet_val; (intro wq hwq; go_simp; (try go_ints); exact rfl); refine hK _ ?_; clear hK K; simp only [Act.put, List.setIfInBounds_toArray, List.set_cons_zero, List.set_cons_succ])
  (refine wpQuiet_step (fun K hK => ?_); rw [if_pos (by rfl)]; apply quiet_val; (intro wq hwq; go_simp; (try go_ints); exact rfl); refine hK _ ?_; clear hK K; simp only [Act.put, List.setIfInBounds_toArray, List.set_cons_zero, List.set_cons_succ])
  (refine wpQuiet_step (fun K hK => ?_); rw [if_pos (by rfl)]; apply quiet_val; (intro wq hwq; go_simp; (try go_ints); exact rfl); refine hK _ ?_; clear hK K; simp only [Act.put, List.setIfInBounds_toArray, List.set_cons_zero, List.set_cons_succ])
  (refine wpQuiet_step (fun K hK => ?_); rw [if_pos (by rfl)]; apply quiet_val; (intro wq hwq; go_simp; (try go_ints); exact rfl); refine hK _ ?_; clear hK K; simp only [Act.put, List.setIfInBounds_toArray, List.set_cons_zero, List.set_cons_succ])
  (refine wpQuiet_step (fun K hK => ?_); rw [if_pos (by rfl)]; apply quiet_val; (intro wq hwq; go_simp; (try go_ints); exact rfl); refine hK _ ?_; clear hK K; simp only [Act.put, List.setIfInBounds_toArray, List.set_cons_zero, List.set_cons_succ])
  (refine wpQuiet_step (fun K hK => ?_); rw [if_pos (by rfl)]; apply quiet_val; (intro wq hwq; go_simp; (try go_ints); exact rfl); refine hK _ ?_; clear hK K; simp only [Act.put, List.setIfInBounds_toArray, List.set_cons_zero, List.set_cons_succ])
  (refine wpQuiet_step (fun K hK => ?_); rw [if_pos (by rfl)]; apply quiet_val; (intro wq hwq; go_simp; (try go_ints); exact rfl); refine hK _ ?_; clear hK K; simp only [Act.put, List.setIfInBounds_toArray, List.set_cons_zero, List.set_cons_succ])
  (refine wpQuiet_step (fun K hK => ?_); rw [if_pos (by rfl)]; apply quiet_val; (intro wq hwq; go_simp; (try go_ints); exact rfl); refine hK _ ?_; clear hK K; simp only [Act.put, List.setIfInBounds_toArray, List.set_cons_zero, List.set_cons_succ])
  (refine wpQuiet_skip (by rfl) ?_; simp only [Act.put, List.setIfInBounds_toArray, List.set_cons_zero, List.set_cons_succ])
  (refine wpQuiet_skip (by rfl) ?_; simp only [Act.put, List.setIfInBounds_toArray, List.set_cons_zero, List.set_cons_succ])
  (refine wpQuiet_skip (by rfl) ?_; simp only [Act.put, List.setIfInBounds_toArray, List.set_cons_zero, List.set_cons_succ])
  (refine wpQuiet_skip (by rfl) ?_; simp only [Act.put, List.setIfInBounds_toArray, List.set_cons_zero, List.set_cons_succ])
  (refine wpQuiet_skip (by rfl) ?_; simp only [Act.put, List.setIfInBounds_toArray, List.set_cons_zero, List.set_cons_succ])
  (refine wpQuiet_skip (by rfl) ?_; simp only [Act.put, List.setIfInBounds_toArray, List.set_cons_zero, List.set_cons_succ])
  (refine wpQuiet_skip (by rfl) ?_; simp only [Act.put, List.setIfInBounds_toArray, List.set_cons_zero, List.set_cons_succ])
  (refine wpQuiet_step (fun K hK => ?_); rw [if_pos (by rfl)]; apply quiet_val; (intro wq hwq; go_simp; (try go_ints); exact rfl); refine hK _ ?_; clear hK K; simp only [Act.put, List.setIfInBounds_toArray, List.set_cons_zero, List.set_cons_succ])
  (refine wpQuiet_step (fun K hK => ?_); rw [if_pos (by rfl)]; apply quiet_val; (intro wq hwq; go_simp; (try go_ints); exact rfl); refine hK _ ?_; clear hK K; simp only [Act.put, List.setIfInBounds_toArray, List.set_cons_zero, List.set_cons_succ])
  (refine wpQuiet_step (fun K hK => ?_); rw [if_pos (by rfl)]; apply quiet_val; (intro wq hwq; go_simp; (try go_ints); exact rfl); refine hK _ ?_; clear hK K; simp only [Act.put, List.setIfInBounds_toArray, List.set_cons_zero, List.set_cons_succ])
  (refine wpQuiet_step (fun K hK => ?_); rw [if_pos (by rfl)]; apply quiet_rowload (cs := bv a) Tryd.underlying22 rfl isz22; exact rfl; exact rfl; exact fun w h => laterRow h t1; exact (by simp [go_sem, *]); refine hK _ ?_; clear hK K; simp only [Act.put, List.setIfInBounds_toArray, List.set_cons_zero, List.set_cons_succ])
  (refine wpQuiet_step (fun K hK => ?_); rw [if_pos (by rfl)]; apply quiet_call; (intro wq; go_simp; exact ⟨rfl, rfl⟩); (intro wq hwq; exact Since.call hwq (HMc.out _)); refine hK _ ?_; clear hK K; simp only [Act.put, List.setIfInBounds_toArray, List.set_cons_zero, List.set_cons_succ])
  (refine wpQuiet_step (fun K hK => ?_); rw [if_pos (by rfl)]; apply quiet_val; (intro wq hwq; go_simp; (try go_ints); exact rfl); refine hK _ ?_; clear hK K; simp only [Act.put, List.setIfInBounds_toArray, List.set_cons_zero, List.set_cons_succ])
  (refine wpQuiet_step (fun K hK => ?_); rw [if_pos (by rfl)]; apply quiet_val; (intro wq hwq; go_simp; (try go_ints); exact rfl); refine hK _ ?_; clear hK K; simp only [Act.put, List.setIfInBounds_toArray, List.set_cons_zero, List.set_cons_succ])
  (refine wpQuiet_step (fun K hK => ?_); rw [if_pos (by rfl)]; apply quiet_val; (intro wq hwq; go_simp; (try go_ints); exact rfl); refine hK _ ?_; clear hK K; simp only [Act.put, List.setIfInBounds_toArray, List.set_cons_zero, List.set_cons_succ])
  (refine wpQuiet_step (fun K hK => ?_); rw [if_pos (by rfl)]; apply quiet_val; (intro wq hwq; go_simp; (try go_ints); exact rfl); refine hK _ ?_; clear hK K; simp only [Act.put, List.setIfInBounds_toArray, List.set_cons_zero, List.set_cons_succ])
  (refine wpQuiet_step (fun K hK => ?_); rw [if_pos (by rfl)]; apply quiet_val; (intro wq hwq; go_simp; (try go_ints); exact rfl); refine hK _ ?_; clear hK K; simp only [Act.put, List.setIfInBounds_toArray, List.set_cons_zero, List.set_cons_succ])
  refine wpQuiet_nil ?_; intro wn hwn
  have B5 := Lib.hid (hwn.out B4.out)
  have u0 := laterRow hwn t0
  have u2 := laterRow hwn t2
  have u4 := laterRow hwn t4
  clear hwn c0
  go_wp2_with (first
    | (go_at_call 14; refine (HK.out _ (HG.out.since B5.out)).mono ?_; rintro e w6 ⟨rfl, hb6⟩))
  go_ret
  exact ⟨rfl, below_call B5.out hb6⟩

set_option maxHeartbeats 2000000 in
set_option maxRecDepth 100000 in
theorem nodes_neg_noright (P : List Int) (hP : P.length = 16) (hPb : byt P) (m n : Int) (a : List Int) (ha : a.length = 16) (hB : byt a) (hw : rnodeS a < 0) (hnd : nodeS a = (0, 8)) (hn : ¬ n < 0) (hn2 : ¬ 63 < n) (hr : rightB P m = false) (w : World) (hg : Glob w) :
    Calls Tryd.prog 6 #[.int .i64 n, .agg (pv P m), .agg (bv a)] w fun e w' => e = .returned (.bool true) ∧ Below w.heap.size w w' := by
  have r0 := row2a w (pv P m) 47 (.cells (bv a) 22)
  have r1 := row2b w (bv a) 22 (.cells (pv P m) 47)
  have HK := Lib.hid (fun w hg => known_any w hg)
  have HG := Lib.hid hg
  have HNd := Lib.hid fun w => Node_any a ha hB w
  have HRn := Lib.hid fun w => rnode_any a ha w
  have HMc := Lib.hid fun w => multicast_any a ha w
  rw [hnd] at HNd
  have ez : ∀ W, (Op.equalIn 10000 25 (.agg (bv z16)) (.agg (bv z16))).run Tryd.prog W = .ok true W := fun W => by rw [eq25 W 9998 _ _ rfl rfl, decide_eq_true rfl]
  have hin : 0 ≤ n ∧ n < 64 := by omega
  have HL := Lib.hid fun w => link_any n w
  have hlen := linkS_length n
  have HRl := Lib.hid fun w => rlink_any n hin.1 (by omega) w
  rw [← rlink_eq hin] at HRl
  rw [linkS_ok hin] at HL
  have HGl := Lib.hid fun w => global_any P hP m n w
  rw [globalS_no (fun h => by rw [hr] at h; exact absurd h.2.1 (by decide))] at HGl
  simp only at HGl
  generalize (linkS n).1 = L at *
  have eL : ∀ W, (Op.equalIn 10000 25 (.agg (bv L)) (.agg (bv L))).run Tryd.prog W = .ok true W := fun W => by rw [eq25 W 9998 _ _ hlen hlen, decide_eq_true rfl]
  have HRt := Lib.hid fun w => rright_no hP hPb (n := m) (by rw [right_eq hP hPb]; exact hr) w
  clear hr
  clear hnd hg
  generalize rnodeS a = V at *
  have HAb := Lib.hid hB
  have hd1 : decide (V < 0) = true := decide_eq_true hw
  have hd2 : decide (0 ≤ V) = false := decide_eq_false (by omega)
  clear hB hPb
  go_enter Tryd.func6, Tryd.ntmps6
  go_wp2_with (first
    | (go_at_call 19; refine (HL.out _).mono ?_; rintro e w1 ⟨rfl, hb1⟩; have p0 := row_call hb1 r0; have p1 := row_call hb1 r1; have B1 := Lib.hid (below_call (below2 w (.cells (pv P m) 47) (.cells (bv a) 22)) hb1); have c16 := (cell_row (row_alloc p0 (.cells (bv L) 25)) 16).trans (pv_bits P m hP))
    | (apply wpList_rowstore (vs := bv L) isz25; exact rfl; exact rfl; exact rfl; exact rfl; (with_reducible exact row1 w1 _ _); exact (by simp [go_sem, *]); exact (by simp [go_sem, *]); exact (by simp [go_sem, *]); try simp only [Act.put, List.setIfInBounds_toArray, List.set_cons_zero, List.set_cons_succ]; try simp (disch := simp [go_sem]) only [setRow_alloc_at, setRow_alloc_past, setRow_drew])
    | (apply wpList_subload (cs := bv P) Tryd.underlying22 rfl isz22; exact rfl; exact rfl; exact rfl; (with_reducible exact row_alloc p0 _); exact pv_addr P m; exact (by simp [go_sem, *]); simp only [Act.put, List.setIfInBounds_toArray, List.set_cons_zero, List.set_cons_succ])
    | (apply wpList_build40; exact rfl; exact rfl; exact rfl; exact rfl; exact (by simp [go_sem, *]); simp only [Act.put, List.setIfInBounds_toArray, List.set_cons_zero, List.set_cons_succ])
    | (apply wpList_rowstore (vs := pv P m) isz40; exact rfl; exact rfl; exact rfl; exact rfl; (with_reducible exact row2b w1 _ _ _); exact (by simp [go_sem, *]); exact (by simp [go_sem, *]); exact (by simp [go_sem, *]); try simp only [Act.put, List.setIfInBounds_toArray, List.set_cons_zero, List.set_cons_succ]; try simp (disch := simp [go_sem]) only [setRow_alloc_at, setRow_alloc_past, setRow_drew])
    | (apply wpList_rowload Tryd.underlying40 rfl isz40; exact rfl; exact rfl; exact rfl; (with_reducible exact row2b w1 _ _ _); exact (by simp [go_sem, *]); simp only [Act.put, List.setIfInBounds_toArray, List.set_cons_zero, List.set_cons_succ])
    | (go_at_call 20; refine (HGl.out _).mono ?_; rintro e w2 ⟨rfl, hb2⟩; have q0 := row_call hb2 (row_alloc (row_alloc p0 (.cells (bv L) 25)) (.cells (pv P m) 40)); have q1 := row_call hb2 (row_alloc (row_alloc p1 (.cells (bv L) 25)) (.cells (pv P m) 40)); have q2 := row_call hb2 (row2a w1 (bv L) 25 (.cells (pv P m) 40)); have B2 := Lib.hid (below_call (below_new (below_new B1.out (.cells (bv L) 25)) (.cells (pv P m) 40)) hb2))
    | (apply wpList_rowstore (vs := bv z16) isz25; exact rfl; exact rfl; exact rfl; exact rfl; (with_reducible exact row1 w2 _ _); exact (by simp [go_sem, *]); exact (by simp [go_sem, *]); exact (by simp [go_sem, *]); try simp only [Act.put, List.setIfInBounds_toArray, List.set_cons_zero, List.set_cons_succ]; try simp (disch := simp [go_sem]) only [setRow_alloc_at, setRow_alloc_past, setRow_drew])
    | (apply wpList_rowload Tryd.underlying22 rfl isz22; exact rfl; exact rfl; exact rfl; (with_reducible exact row_alloc q1 _); exact (by simp [go_sem, *]); simp only [Act.put, List.setIfInBounds_toArray, List.set_cons_zero, List.set_cons_succ])
    | (go_at_call 21; refine (HNd.out _).mono ?_; rintro e w3 ⟨rfl, hb3⟩; have s0 := row_call hb3 (row_alloc q0 (.cells (bv z16) 25)); have s1 := row_call hb3 (row_alloc q1 (.cells (bv z16) 25)); have s2 := row_call hb3 (row_alloc q2 (.cells (bv z16) 25)); have s4 := row_call hb3 (row1 w2 (bv z16) 25); have B3 := Lib.hid (below_call (below_new B2.out (.cells (bv z16) 25)) hb3))
    | (apply wpList_rowload Tryd.underlying22 rfl isz22; exact rfl; exact rfl; exact rfl; (with_reducible exact s1); exact (by simp [go_sem, *]); simp only [Act.put, List.setIfInBounds_toArray, List.set_cons_zero, List.set_cons_succ])
    | (go_at_call 22; refine (HRn.out _).mono ?_; rintro e w4 ⟨rfl, hb4⟩; have t0 := row_call hb4 s0; have t1 := row_call hb4 s1; have t2 := row_call hb4 s2; have t4 := row_call hb4 s4; have B4 := Lib.hid (below_call B3.out hb4)))
  have c0 : ∀ w', Since w4 w' → w'.cell? ⟨w.heap.size + 1, 0, none⟩ = some (.int .u8 (nth a 0)) := fun w' h => later h t1 (by rw [bv_get, if_pos (by rw [ha]; decide)])
  refine wp_region_calm (Since _) (by kernel_rfl) (by kernel_rfl) (Since.drew _) ?_
  (refine wpQuiet_step (fun K hK => ?_); rw [if_pos (by rfl)]; apply quiet_val; (intro wq hwq; go_simp; (try go_ints); exact rfl); refine hK _ ?_; clear hK K; simp only [Act.put, List.setIfInBounds_toArray, List.set_cons_zero, List.set_cons_succ])
  (refine wpQuiet_step (fun K hK => ?_); rw [if_pos (by rfl)]; apply quiet_val; (intro wq hwq; go_simp; (try go_ints); exact rfl); refine hK _ ?_; clear hK K; simp only [Act.put, List.setIfInBounds_toArray, List.set_cons_zero, List.set_cons_succ])
  (refine wpQuiet_step (fun K hK => ?_); rw [if_pos (by rfl)]; apply quiet_val; (intro wq hwq; go_simp; (try go_ints); exact rfl); refine hK _ ?_; clear hK K; simp only [Act.put, List.setIfInBounds_toArray, List.set_cons_zero, List.set_cons_succ])
  (refine wpQuiet_step (fun K hK => ?_); rw [if_pos (by rfl)]; apply quiet_val; (intro wq hwq; go_simp; (try go_ints); exact rfl); refine hK _ ?_; clear hK K; simp only [Act.put, List.setIfInBounds_toArray, List.set_cons_zero, List.set_cons_succ])
  (refine wpQuiet_step (fun K hK => ?_); rw [if_pos (by rfl)]; apply quiet_val; (intro wq hwq; go_simp; (try go_ints); exact rfl); refine hK _ ?_; clear hK K; simp only [Act.put, List.setIfInBounds_toArray, List.set_cons_zero, List.set_cons_succ])
  (refine wpQuiet_step (fun K hK => ?_); rw [if_pos (by rfl)]; apply quiet_val; (intro wq hwq; go_simp; (try go_ints); exact rfl); refine hK _ ?_; clear hK K; simp only [Act.put, List.setIfInBounds_toArray, List.set_cons_zero, List.set_cons_succ])
  (refine wpQuiet_step (fun K hK => ?_); rw [if_pos (by rfl)]; apply quiet_val; (intro wq hwq; go_simp; (try go_ints); exact rfl); refine hK _ ?_; clear hK K; simp only [Act.put, List.setIfInBounds_toArray, List.set_cons_zero, List.set_cons_succ])
  (refine wpQuiet_step (fun K hK => ?_); rw [if_pos (by rfl)]; apply quiet_val; (intro wq hwq; go_simp; (try go_ints); exact rfl); refine hK _ ?_; clear hK K; simp only [Act.put, List.setIfInBounds_toArray, List.set_cons_zero, List.set_cons_succ])
  (refine wpQuiet_step (fun K hK => ?_); rw [if_pos (by rfl)]; apply quiet_val; (intro wq hwq; go_simp; (try go_ints); exact rfl); refine hK _ ?_; clear hK K; simp only [Act.put, List.setIfInBounds_toArray, List.set_cons_zero, List.set_cons_succ])
  (refine wpQuiet_step (fun K hK => ?_); rw [if_pos (by rfl)]; apply quiet_val; (intro wq hwq; go_simp; (try go_ints); exact rfl); refine hK _ ?_; clear hK K; simp only [Act.put, List.setIfInBounds_toArray, List.set_cons_zero, List.set_cons_succ])
  (refine wpQuiet_skip (by rfl) ?_; simp only [Act.put, List.setIfInBounds_toArray, List.set_cons_zero, List.set_cons_succ])
  (refine wpQuiet_skip (by rfl) ?_; simp only [Act.put, List.setIfInBounds_toArray, List.set_cons_zero, List.set_cons_succ])
  (refine wpQuiet_skip (by rfl) ?_; simp only [Act.put, List.setIfInBounds_toArray, List.set_cons_zero, List.set_cons_succ])
  (refine wpQuiet_skip (by rfl) ?_; simp only [Act.put, List.setIfInBounds_toArray, List.set_cons_zero, List.set_cons_succ])
  (refine wpQuiet_skip (by rfl) ?_; simp only [Act.put, List.setIfInBounds_toArray, List.set_cons_zero, List.set_cons_succ])
  (refine wpQuiet_skip (by rfl) ?_; simp only [Act.put, List.setIfInBounds_toArray, List.set_cons_zero, List.set_cons_succ])
  (refine wpQuiet_skip (by rfl) ?_; simp only [Act.put, List.setIfInBounds_toArray, List.set_cons_zero, List.set_cons_succ])
  (refine wpQuiet_step (fun K hK => ?_); rw [if_pos (by rfl)]; apply quiet_val; (intro wq hwq; go_simp; (try go_ints); exact rfl); refine hK _ ?_; clear hK K; simp only [Act.put, List.setIfInBounds_toArray, List.set_cons_zero, List.set_cons_succ])
  (refine wpQuiet_step (fun K hK => ?_); rw [if_pos (by rfl)]; apply quiet_val; (intro wq hwq; go_simp; (try go_ints); exact rfl); refine hK _ ?_; clear hK K; simp only [Act.put, List.setIfInBounds_toArray, List.set_cons_zero, List.set_cons_succ])
  (refine wpQuiet_step (fun K hK => ?_); rw [if_pos (by rfl)]; apply quiet_val; (intro wq hwq; go_simp; (try go_ints); exact rfl); refine hK _ ?_; clear hK K; simp only [Act.put, List.setIfInBounds_toArray, List.set_cons_zero, List.set_cons_succ])
  (refine wpQuiet_step (fun K hK => ?_); rw [if_pos (by rfl)]; apply quiet_rowload (cs := bv a) Tryd.underlying22 rfl isz22; exact rfl; exact rfl; exact fun w h => laterRow h t1; exact (by simp [go_sem, *]); refine hK _ ?_; clear hK K; simp only [Act.put, List.setIfInBounds_toArray, List.set_cons_zero, List.set_cons_succ])
  (refine wpQuiet_step (fun K hK => ?_); rw [if_pos (by rfl)]; apply quiet_call; (intro wq; go_simp; exact ⟨rfl, rfl⟩); (intro wq hwq; exact Since.call hwq (HMc.out _)); refine hK _ ?_; clear hK K; simp only [Act.put, List.setIfInBounds_toArray, List.set_cons_zero, List.set_cons_succ])
  (refine wpQuiet_step (fun K hK => ?_); rw [if_pos (by rfl)]; apply quiet_val; (intro wq hwq; go_simp; (try go_ints); exact rfl); refine hK _ ?_; clear hK K; simp only [Act.put, List.setIfInBounds_toArray, List.set_cons_zero, List.set_cons_succ])
  (refine wpQuiet_step (fun K hK => ?_); rw [if_pos (by rfl)]; apply quiet_val; (intro wq hwq; go_simp; (try go_ints); exact rfl); refine hK _ ?_; clear hK K; simp only [Act.put, List.setIfInBounds_toArray, List.set_cons_zero, List.set_cons_succ])
  (refine wpQuiet_step (fun K hK => ?_); rw [if_pos (by rfl)]; apply quiet_val; (intro wq hwq; go_simp; (try go_ints); exact rfl); refine hK _ ?_; clear hK K; simp only [Act.put, List.setIfInBounds_toArray, List.set_cons_zero, List.set_cons_succ])
  (refine wpQuiet_step (fun K hK => ?_); rw [if_pos (by rfl)]; apply quiet_val; (intro wq hwq; go_simp; (try go_ints); exact rfl); refine hK _ ?_; clear hK K; simp only [Act.put, List.setIfInBounds_toArray, List.set_cons_zero, List.set_cons_succ])
  (refine wpQuiet_step (fun K hK => ?_); rw [if_pos (by rfl)]; apply quiet_val; (intro wq hwq; go_simp; (try go_ints); exact rfl); refine hK _ ?_; clear hK K; simp only [Act.put, List.setIfInBounds_toArray, List.set_cons_zero, List.set_cons_succ])
  refine wpQuiet_nil ?_; intro wn hwn
  have B5 := Lib.hid (hwn.out B4.out)
  have u0 := laterRow hwn t0
  have u2 := laterRow hwn t2
  have u4 := laterRow hwn t4
  clear hwn c0
  go_wp2
  refine wp_region_calm (Since _) (by kernel_rfl) (by kernel_rfl) (Since.drew _) ?_
  (refine wpQuiet_step (fun K hK => ?_); rw [if_pos (by rfl)]; apply quiet_val; (intro wq hwq; go_simp; (try go_ints); exact rfl); refine hK _ ?_; clear hK K; simp only [Act.put, List.setIfInBounds_toArray, List.set_cons_zero, List.set_cons_succ])
  (refine wpQuiet_step (fun K hK => ?_); rw [if_pos (by rfl)]; apply quiet_val; (intro wq hwq; go_simp; (try go_ints); exact rfl); refine hK _ ?_; clear hK K; simp only [Act.put, List.setIfInBounds_toArray, List.set_cons_zero, List.set_cons_succ])
  (refine wpQuiet_step (fun K hK => ?_); rw [if_pos (by rfl)]; apply quiet_val; (intro wq hwq; go_simp; (try go_ints); exact rfl); refine hK _ ?_; clear hK K; simp only [Act.put, List.setIfInBounds_toArray, List.set_cons_zero, List.set_cons_succ])
  (refine wpQuiet_step (fun K hK => ?_); rw [if_pos (by rfl)]; apply quiet_rowload (cs := bv L) Tryd.underlying25 rfl isz25; exact rfl; exact rfl; exact fun w h => laterRow h u2; exact (by simp [go_sem, *]); refine hK _ ?_; clear hK K; simp only [Act.put, List.setIfInBounds_toArray, List.set_cons_zero, List.set_cons_succ])
  (refine wpQuiet_step (fun K hK => ?_); rw [if_pos (by rfl)]; apply quiet_val; (intro wq hwq; go_simp; (try go_ints); exact rfl); refine hK _ ?_; clear hK K; simp only [Act.put, List.setIfInBounds_toArray, List.set_cons_zero, List.set_cons_succ])
  (refine wpQuiet_step (fun K hK => ?_); rw [if_pos (by rfl)]; apply quiet_call; (intro wq; go_simp; exact ⟨rfl, rfl⟩); (intro wq hwq; exact Since.call hwq (HRl.out _)); refine hK _ ?_; clear hK K; simp only [Act.put, List.setIfInBounds_toArray, List.set_cons_zero, List.set_cons_succ])
  (refine wpQuiet_step (fun K hK => ?_); rw [if_pos (by rfl)]; apply quiet_val; (intro wq hwq; go_simp; (try go_ints); exact rfl); refine hK _ ?_; clear hK K; simp only [Act.put, List.setIfInBounds_toArray, List.set_cons_zero, List.set_cons_succ])
  (refine wpQuiet_step (fun K hK => ?_); rw [if_pos (by rfl)]; apply quiet_val; (intro wq hwq; go_simp; (try go_ints); exact rfl); refine hK _ ?_; clear hK K; simp only [Act.put, List.setIfInBounds_toArray, List.set_cons_zero, List.set_cons_succ])
  refine wpQuiet_nil ?_; intro wn hwn
  have B6 := Lib.hid (hwn.out B5.out)
  have v0 := laterRow hwn u0
  have v2 := laterRow hwn u2
  have v4 := laterRow hwn u4
  clear hwn
  go_wp2_with (first
    | (apply wpList_rowload Tryd.underlying47 rfl isz47; exact rfl; exact rfl; exact rfl; (with_reducible exact v0); exact (by simp [go_sem, *]); simp only [Act.put, List.setIfInBounds_toArray, List.set_cons_zero, List.set_cons_succ])
    | (go_at_call 25; refine (HRt.out _).mono ?_; rintro e w7 ⟨rfl, hb7⟩; have x4 := row_call hb7 v4; have B7 := Lib.hid (below_call B6.out hb7))
    | (go_at_call 14; refine (HK.out _ (HG.out.since B7.out)).mono ?_; rintro e w8 ⟨rfl, hb8⟩; have y4 := row_call hb8 x4)
    | (apply wpList_rowload Tryd.underlying25 rfl isz25; exact rfl; exact rfl; exact rfl; (with_reducible exact y4); exact (by simp [go_sem, *]); simp only [Act.put, List.setIfInBounds_toArray, List.set_cons_zero, List.set_cons_succ]))
  go_ret
  exact ⟨rfl, below_call B7.out hb8⟩

set_option maxHeartbeats 2000000 in
set_option maxRecDepth 100000 in
theorem nodes_neg_no64 (P : List Int) (hP : P.length = 16) (hPb : byt P) (m n : Int) (a : List Int) (ha : a.length = 16) (hB : byt a) (hw : rnodeS a < 0) (hnd : nodeS a = (0, 8)) (hn : ¬ n < 0) (hn2 : ¬ 63 < n) (hr : rightB P m = true) (hm : m ≠ 64) (w : World) (hg : Glob w) :
    Calls Tryd.prog 6 #[.int .i64 n, .agg (pv P m), .agg (bv a)] w fun e w' => e = .returned (.bool true) ∧ Below w.heap.size w w' := by
  have r0 := row2a w (pv P m) 47 (.cells (bv a) 22)
  have r1 := row2b w (bv a) 22 (.cells (pv P m) 47)
  have HK := Lib.hid (fun w hg => known_any w hg)
  have HG := Lib.hid hg
  have HNd := Lib.hid fun w => Node_any a ha hB w
  have HRn := Lib.hid fun w => rnode_any a ha w
  have HMc := Lib.hid fun w => multicast_any a ha w
  rw [hnd] at HNd
  have ez : ∀ W, (Op.equalIn 10000 25 (.agg (bv z16)) (.agg (bv z16))).run Tryd.prog W = .ok true W := fun W => by rw [eq25 W 9998 _ _ rfl rfl, decide_eq_true rfl]
  have hin : 0 ≤ n ∧ n < 64 := by omega
  have HL := Lib.hid fun w => link_any n w
  have hlen := linkS_length n
  have HRl := Lib.hid fun w => rlink_any n hin.1 (by omega) w
  rw [← rlink_eq hin] at HRl
  rw [linkS_ok hin] at HL
  have HGl := Lib.hid fun w => global_any P hP m n w
  rw [globalS_no (fun h => hm h.2.2)] at HGl
  simp only at HGl
  generalize (linkS n).1 = L at *
  have eL : ∀ W, (Op.equalIn 10000 25 (.agg (bv L)) (.agg (bv L))).run Tryd.prog W = .ok true W := fun W => by rw [eq25 W 9998 _ _ hlen hlen, decide_eq_true rfl]
  have HRt := Lib.hid fun w => rright_yes hP hPb (n := m) (by rw [right_eq hP hPb]; exact hr) w
  clear hr
  clear hnd hg
  generalize rnodeS a = V at *
  have HAb := Lib.hid hB
  have hd1 : decide (V < 0) = true := decide_eq_true hw
  have hd2 : decide (0 ≤ V) = false := decide_eq_false (by omega)
  clear hB hPb
  go_enter Tryd.func6, Tryd.ntmps6
  go_wp2_with (first
    | (go_at_call 19; refine (HL.out _).mono ?_; rintro e w1 ⟨rfl, hb1⟩; have p0 := row_call hb1 r0; have p1 := row_call hb1 r1; have B1 := Lib.hid (below_call (below2 w (.cells (pv P m) 47) (.cells (bv a) 22)) hb1); have c16 := (cell_row (row_alloc p0 (.cells (bv L) 25)) 16).trans (pv_bits P m hP))
    | (apply wpList_rowstore (vs := bv L) isz25; exact rfl; exact rfl; exact rfl; exact rfl; (with_reducible exact row1 w1 _ _); exact (by simp [go_sem, *]); exact (by simp [go_sem, *]); exact (by simp [go_sem, *]); try simp only [Act.put, List.setIfInBounds_toArray, List.set_cons_zero, List.set_cons_succ]; try simp (disch := simp [go_sem]) only [setRow_alloc_at, setRow_alloc_past, setRow_drew])
    | (apply wpList_subload (cs := bv P) Tryd.underlying22 rfl isz22; exact rfl; exact rfl; exact rfl; (with_reducible exact row_alloc p0 _); exact pv_addr P m; exact (by simp [go_sem, *]); simp only [Act.put, List.setIfInBounds_toArray, List.set_cons_zero, List.set_cons_succ])
    | (apply wpList_build40; exact rfl; exact rfl; exact rfl; exact rfl; exact (by simp [go_sem, *]); simp only [Act.put, List.setIfInBounds_toArray, List.set_cons_zero, List.set_cons_succ])
    | (apply wpList_rowstore (vs := pv P m) isz40; exact rfl; exact rfl; exact rfl; exact rfl; (with_reducible exact row2b w1 _ _ _); exact (by simp [go_sem, *]); exact (by simp [go_sem, *]); exact (by simp [go_sem, *]); try simp only [Act.put, List.setIfInBounds_toArray, List.set_cons_zero, List.set_cons_succ]; try simp (disch := simp [go_sem]) only [setRow_alloc_at, setRow_alloc_past, setRow_drew])
    | (apply wpList_rowload Tryd.underlying40 rfl isz40; exact rfl; exact rfl; exact rfl; (with_reducible exact row2b w1 _ _ _); exact (by simp [go_sem, *]); simp only [Act.put, List.setIfInBounds_toArray, List.set_cons_zero, List.set_cons_succ])
    | (go_at_call 20; refine (HGl.out _).mono ?_; rintro e w2 ⟨rfl, hb2⟩; have q0 := row_call hb2 (row_alloc (row_alloc p0 (.cells (bv L) 25)) (.cells (pv P m) 40)); have q1 := row_call hb2 (row_alloc (row_alloc p1 (.cells (bv L) 25)) (.cells (pv P m) 40)); have q2 := row_call hb2 (row2a w1 (bv L) 25 (.cells (pv P m) 40)); have B2 := Lib.hid (below_call (below_new (below_new B1.out (.cells (bv L) 25)) (.cells (pv P m) 40)) hb2))
    | (apply wpList_rowstore (vs := bv z16) isz25; exact rfl; exact rfl; exact rfl; exact rfl; (with_reducible exact row1 w2 _ _); exact (by simp [go_sem, *]); exact (by simp [go_sem, *]); exact (by simp [go_sem, *]); try simp only [Act.put, List.setIfInBounds_toArray, List.set_cons_zero, List.set_cons_succ]; try simp (disch := simp [go_sem]) only [setRow_alloc_at, setRow_alloc_past, setRow_drew])
    | (apply wpList_rowload Tryd.underlying22 rfl isz22; exact rfl; exact rfl; exact rfl; (with_reducible exact row_alloc q1 _); exact (by simp [go_sem, *]); simp only [Act.put, List.setIfInBounds_toArray, List.set_cons_zero, List.set_cons_succ])
    | (go_at_call 21; refine (HNd.out _).mono ?_; rintro e w3 ⟨rfl, hb3⟩; have s0 := row_call hb3 (row_alloc q0 (.cells (bv z16) 25)); have s1 := row_call hb3 (row_alloc q1 (.cells (bv z16) 25)); have s2 := row_call hb3 (row_alloc q2 (.cells (bv z16) 25)); have s4 := row_call hb3 (row1 w2 (bv z16) 25); have B3 := Lib.hid (below_call (below_new B2.out (.cells (bv z16) 25)) hb3))
    | (apply wpList_rowload Tryd.underlying22 rfl isz22; exact rfl; exact rfl; exact rfl; (with_reducible exact s1); exact (by simp [go_sem, *]); simp only [Act.put, List.setIfInBounds_toArray, List.set_cons_zero, List.set_cons_succ])
    | (go_at_call 22; refine (HRn.out _).mono ?_; rintro e w4 ⟨rfl, hb4⟩; have t0 := row_call hb4 s0; have t1 := row_call hb4 s1; have t2 := row_call hb4 s2; have t4 := row_call hb4 s4; have B4 := Lib.hid (below_call B3.out hb4)))
  have c0 : ∀ w', Since w4 w' → w'.cell? ⟨w.heap.size + 1, 0, none⟩ = some (.int .u8 (nth a 0)) := fun w' h => later h t1 (by rw [bv_get, if_pos (by rw [ha]; decide)])
  refine wp_region_calm (Since _) (by kernel_rfl) (by kernel_rfl) (Since.drew _) ?_
  (refine wpQuiet_step (fun K hK => ?_); rw [if_pos (by rfl)]; apply quiet_val; (intro wq hwq; go_simp; (try go_ints); exact rfl); refine hK _ ?_; clear hK K; simp only [Act.put, List.setIfInBounds_toArray, List.set_cons_zero, List.set_cons_succ])
  (refine wpQuiet_step (fun K hK => ?_); rw [if_pos (by rfl)]; apply quiet_val; (intro wq hwq; go_simp; (try go_ints); exact rfl); refine hK _ ?_; clear hK K; simp only [Act.put, List.setIfInBounds_toArray, List.set_cons_zero, List.set_cons_succ])
  (refine wpQuiet_step (fun K hK => ?_); rw [if_pos (by rfl)]; apply quiet_val; (intro wq hwq; go_simp; (try go_ints); exact rfl); refine hK _ ?_; clear hK K; simp only [Act.put, List.setIfInBounds_toArray, List.set_cons_zero, List.set_cons_succ])
  (refine wpQuiet_step (fun K hK => ?_); rw [if_pos (by rfl)]; apply quiet_val; (intro wq hwq; go_simp; (try go_ints); exact rfl); refine hK _ ?_; clear hK K; simp only [Act.put, List.setIfInBounds_toArray, List.set_cons_zero, List.set_cons_succ])
  (refine wpQuiet_step (fun K hK => ?_); rw [if_pos (by rfl)]; apply quiet_val; (intro wq hwq; go_simp; (try go_ints); exact rfl); refine hK _ ?_; clear hK K; simp only [Act.put, List.setIfInBounds_toArray, List.set_cons_zero, List.set_cons_succ])
  (refine wpQuiet_step (fun K hK => ?_); rw [if_pos (by rfl)]; apply quiet_val; (intro wq hwq; go_simp; (try go_ints); exact rfl); refine hK _ ?_; clear hK K; simp only [Act.put, List.setIfInBounds_toArray, List.set_cons_zero, List.set_cons_succ])
  (refine wpQuiet_step (fun K hK => ?_); rw [if_pos (by rfl)]; apply quiet_val; (intro wq hwq; go_simp; (try go_ints); exact rfl); refine hK _ ?_; clear hK K; simp only [Act.put, List.setIfInBounds_toArray, List.set_cons_zero, List.set_cons_succ])
  (refine wpQuiet_step (fun K hK => ?_); rw [if_pos (by rfl)]; apply quiet_val; (intro wq hwq; go_simp; (try go_ints); exact rfl); refine hK _ ?_; clear hK K; simp only [Act.put, List.setIfInBounds_toArray, List.set_cons_zero, List.set_cons_succ])
  (refine wpQuiet_step (fun K hK => ?_); rw [if_pos (by rfl)]; apply quiet_val; (intro wq hwq; go_simp; (try go_ints); exact rfl); refine hK _ ?_; clear hK K; simp only [Act.put, List.setIfInBounds_toArray, List.set_cons_zero, List.set_cons_succ])
  (refine wpQuiet_step (fun K hK => ?_); rw [if_pos (by rfl)]; apply quiet_val; (intro wq hwq; go_simp; (try go_ints); exact rfl); refine hK _ ?_; clear hK K; simp only [Act.put, List.setIfInBounds_toArray, List.set_cons_zero, List.set_cons_succ])
  (refine wpQuiet_skip (by rfl) ?_; simp only [Act.put, List.setIfInBounds_toArray, List.set_cons_zero, List.set_cons_succ])
  (refine wpQuiet_skip (by rfl) ?_; simp only [Act.put, List.setIfInBounds_toArray, List.set_cons_zero, List.set_cons_succ])
  (refine wpQuiet_skip (by rfl) ?_; simp only [Act.put, List.setIfInBounds_toArray, List.set_cons_zero, List.set_cons_succ])
  (refine wpQuiet_skip (by rfl) ?_; simp only [Act.put, List.setIfInBounds_toArray, List.set_cons_zero, List.set_cons_succ])
  (refine wpQuiet_skip (by rfl) ?_; simp only [Act.put, List.setIfInBounds_toArray, List.set_cons_zero, List.set_cons_succ])
  (refine wpQuiet_skip (by rfl) ?_; simp only [Act.put, List.setIfInBounds_toArray, List.set_cons_zero, List.set_cons_succ])
  (refine wpQuiet_skip (by rfl) ?_; simp only [Act.put, List.setIfInBounds_toArray, List.set_cons_zero, List.set_cons_succ])
  (refine wpQuiet_step (fun K hK => ?_); rw [if_pos (by rfl)]; apply quiet_val; (intro wq hwq; go_simp; (try go_ints); exact rfl); refine hK _ ?_; clear hK K; simp only [Act.put, List.setIfInBounds_toArray, List.set_cons_zero, List.set_cons_succ])
  (refine wpQuiet_step (fun K hK => ?_); rw [if_pos (by rfl)]; apply quiet_val; (intro wq hwq; go_simp; (try go_ints); exact rfl); refine hK _ ?_; clear hK K; simp only [Act.put, List.setIfInBounds_toArray, List.set_cons_zero, List.set_cons_succ])
  (refine wpQuiet_step (fun K hK => ?_); rw [if_pos (by rfl)]; apply quiet_val; (intro wq hwq; go_simp; (try go_ints); exact rfl); refine hK _ ?_; clear hK K; simp only [Act.put, List.setIfInBounds_toArray, List.set_cons_zero, List.set_cons_succ])
  (refine wpQuiet_step (fun K hK => ?_); rw [if_pos (by rfl)]; apply quiet_rowload (cs := bv a) Tryd.underlying22 rfl isz22; exact rfl; exact rfl; exact fun w h => laterRow h t1; exact (by simp [go_sem, *]); refine hK _ ?_; clear hK K; simp only [Act.put, List.setIfInBounds_toArray, List.set_cons_zero, List.set_cons_succ])
  (refine wpQuiet_step (fun K hK => ?_); rw [if_pos (by rfl)]; apply quiet_call; (intro wq; go_simp; exact ⟨rfl, rfl⟩); (intro wq hwq; exact Since.call hwq (HMc.out _)); refine hK _ ?_; clear hK K; simp only [Act.put, List.setIfInBounds_toArray, List.set_cons_zero, List.set_cons_succ])
  (refine wpQuiet_step (fun K hK => ?_); rw [if_pos (by rfl)]; apply quiet_val; (intro wq hwq; go_simp; (try go_ints); exact rfl); refine hK _ ?_; clear hK K; simp only [Act.put, List.setIfInBounds_toArray, List.set_cons_zero, List.set_cons_succ])
  (refine wpQuiet_step (fun K hK => ?_); rw [if_pos (by rfl)]; apply quiet_val; (intro wq hwq; go_simp; (try go_ints); exact rfl); refine hK _ ?_; clear hK K; simp only [Act.put, List.setIfInBounds_toArray, List.set_cons_zero, List.set_cons_succ])
  (refine wpQuiet_step (fun K hK => ?_); rw [if_pos (by rfl)]; apply quiet_val; (intro wq hwq; go_simp; (try go_ints); exact rfl); refine hK _ ?_; clear hK K; simp only [Act.put, List.setIfInBounds_toArray, List.set_cons_zero, List.set_cons_succ])
  (refine wpQuiet_step (fun K hK => ?_); rw [if_pos (by rfl)]; apply quiet_val; (intro wq hwq; go_simp; (try go_ints); exact rfl); refine hK _ ?_; clear hK K; simp only [Act.put, List.setIfInBounds_toArray, List.set_cons_zero, List.set_cons_succ])
  (refine wpQuiet_step (fun K hK => ?_); rw [if_pos (by rfl)]; apply quiet_val; (intro wq hwq; go_simp; (try go_ints); exact rfl); refine hK _ ?_; clear hK K; simp only [Act.put, List.setIfInBounds_toArray, List.set_cons_zero, List.set_cons_succ])
  refine wpQuiet_nil ?_; intro wn hwn
  have B5 := Lib.hid (hwn.out B4.out)
  have u0 := laterRow hwn t0
  have u2 := laterRow hwn t2
  have u4 := laterRow hwn t4
  clear hwn c0
  go_wp2
  refine wp_region_calm (Since _) (by kernel_rfl) (by kernel_rfl) (Since.drew _) ?_
  (refine wpQuiet_step (fun K hK => ?_); rw [if_pos (by rfl)]; apply quiet_val; (intro wq hwq; go_simp; (try go_ints); exact rfl); refine hK _ ?_; clear hK K; simp only [Act.put, List.setIfInBounds_toArray, List.set_cons_zero, List.set_cons_succ])
  (refine wpQuiet_step (fun K hK => ?_); rw [if_pos (by rfl)]; apply quiet_val; (intro wq hwq; go_simp; (try go_ints); exact rfl); refine hK _ ?_; clear hK K; simp only [Act.put, List.setIfInBounds_toArray, List.set_cons_zero, List.set_cons_succ])
  (refine wpQuiet_step (fun K hK => ?_); rw [if_pos (by rfl)]; apply quiet_val; (intro wq hwq; go_simp; (try go_ints); exact rfl); refine hK _ ?_; clear hK K; simp only [Act.put, List.setIfInBounds_toArray, List.set_cons_zero, List.set_cons_succ])
  (refine wpQuiet_step (fun K hK => ?_); rw [if_pos (by rfl)]; apply quiet_rowload (cs := bv L) Tryd.underlying25 rfl isz25; exact rfl; exact rfl; exact fun w h => laterRow h u2; exact (by simp [go_sem, *]); refine hK _ ?_; clear hK K; simp only [Act.put, List.setIfInBounds_toArray, List.set_cons_zero, List.set_cons_succ])
  (refine wpQuiet_step (fun K hK => ?_); rw [if_pos (by rfl)]; apply quiet_val; (intro wq hwq; go_simp; (try go_ints); exact rfl); refine hK _ ?_; clear hK K; simp only [Act.put, List.setIfInBounds_toArray, List.set_cons_zero, List.set_cons_succ])
  (refine wpQuiet_step (fun K hK => ?_); rw [if_pos (by rfl)]; apply quiet_call; (intro wq; go_simp; exact ⟨rfl, rfl⟩); (intro wq hwq; exact Since.call hwq (HRl.out _)); refine hK _ ?_; clear hK K; simp only [Act.put, List.setIfInBounds_toArray, List.set_cons_zero, List.set_cons_succ])
  (refine wpQuiet_step (fun K hK => ?_); rw [if_pos (by rfl)]; apply quiet_val; (intro wq hwq; go_simp; (try go_ints); exact rfl); refine hK _ ?_; clear hK K; simp only [Act.put, List.setIfInBounds_toArray, List.set_cons_zero, List.set_cons_succ])
  (refine wpQuiet_step (fun K hK => ?_); rw [if_pos (by rfl)]; apply quiet_val; (intro wq hwq; go_simp; (try go_ints); exact rfl); refine hK _ ?_; clear hK K; simp only [Act.put, List.setIfInBounds_toArray, List.set_cons_zero, List.set_cons_succ])
  refine wpQuiet_nil ?_; intro wn hwn
  have B6 := Lib.hid (hwn.out B5.out)
  have v0 := laterRow hwn u0
  have v2 := laterRow hwn u2
  have v4 := laterRow hwn u4
  clear hwn
  have hm' : (m == 64) = false := beq_eq_false_iff_ne.2 hm
  go_wp2_with (first
    | (apply wpList_rowload Tryd.underlying47 rfl isz47; exact rfl; exact rfl; exact rfl; (with_reducible exact v0); exact (by simp [go_sem, *]); simp only [Act.put, List.setIfInBounds_toArray, List.set_cons_zero, List.set_cons_succ])
    | (go_at_call 25; refine (HRt.out _).mono ?_; rintro e w7 ⟨rfl, hb7⟩; have x4 := row_call hb7 v4; have B7 := Lib.hid (below_call B6.out hb7); have c16' := (cell_row (row_call hb7 v0) 16).trans (pv_bits P m hP))
    | (go_at_call 14; refine (HK.out _ (HG.out.since B7.out)).mono ?_; rintro e w8 ⟨rfl, hb8⟩; have y4 := row_call hb8 x4)
    | (apply wpList_rowload Tryd.underlying25 rfl isz25; exact rfl; exact rfl; exact rfl; (with_reducible exact y4); exact (by simp [go_sem, *]); simp only [Act.put, List.setIfInBounds_toArray, List.set_cons_zero, List.set_cons_succ]))
  go_ret
  exact ⟨rfl, below_call B7.out hb8⟩

set_option maxHeartbeats 2000000 in
set_option maxRecDepth 100000 in
theorem nodes_neg_all (P : List Int) (hP : P.length = 16) (hPb : byt P) (n : Int) (a : List Int) (ha : a.length = 16) (hB : byt a) (hw : rnodeS a < 0) (hnd : nodeS a = (0, 8)) (hn : ¬ n < 0) (hn2 : ¬ 63 < n) (hr : rightB P 64 = true) (w : World) (hg : Glob w) :
    Calls Tryd.prog 6 #[.int .i64 n, .agg (pv P 64), .agg (bv a)] w fun e w' => e = .returned (.bool true) ∧ Below w.heap.size w w' := by
  have r0 := row2a w (pv P 64) 47 (.cells (bv a) 22)
  have r1 := row2b w (bv a) 22 (.cells (pv P 64) 47)
  have HK := Lib.hid (fun w hg => known_any w hg)
  have HG := Lib.hid hg
  have HNd := Lib.hid fun w => Node_any a ha hB w
  have HRn := Lib.hid fun w => rnode_any a ha w
  have HMc := Lib.hid fun w => multicast_any a ha w
  rw [hnd] at HNd
  have ez : ∀ W, (Op.equalIn 10000 25 (.agg (bv z16)) (.agg (bv z16))).run Tryd.prog W = .ok true W := fun W => by rw [eq25 W 9998 _ _ rfl rfl, decide_eq_true rfl]
  have hin : 0 ≤ n ∧ n < 64 := by omega
  have HL := Lib.hid fun w => link_any n w
  have hlen := linkS_length n
  have HRl := Lib.hid fun w => rlink_any n hin.1 (by omega) w
  rw [← rlink_eq hin] at HRl
  rw [linkS_ok hin] at HL
  have HGl := Lib.hid fun w => global_any P hP 64 n w
  rw [globalS_yes ⟨hin, hr, rfl⟩] at HGl
  simp only at HGl
  have hGl : (P.take 8 ++ (linkS n).1.drop 8).length = 16 := by simp [hP, hlen]
  have hG1 : ∀ k, k < 8 → nth (P.take 8 ++ (linkS n).1.drop 8) k = nth P k := fun k hk => by
    simp only [nth, List.getD]
    rw [List.getElem?_append_left (by simp [hP]; omega), List.getElem?_take_of_lt hk]
  have hG2 : ∀ k, 8 ≤ k → k < 16 → nth (P.take 8 ++ (linkS n).1.drop 8) k = nth (linkS n).1 k := fun k hk hk2 => by
    simp only [nth, List.getD, List.getElem?_append]
    rw [if_neg (by simp [hP]; omega)]
    simp [hP, show 8 + (k - 8) = k by omega]
  generalize P.take 8 ++ (linkS n).1.drop 8 = Gv at *
  generalize (linkS n).1 = L at *
  have eL : ∀ W, (Op.equalIn 10000 25 (.agg (bv L)) (.agg (bv L))).run Tryd.prog W = .ok true W := fun W => by rw [eq25 W 9998 _ _ hlen hlen, decide_eq_true rfl]
  have HRt := Lib.hid fun w => rright_yes hP hPb (n := 64) (by rw [right_eq hP hPb]; exact hr) w
  clear hr
  clear hnd hg
  generalize rnodeS a = V at *
  have HAb := Lib.hid hB
  have hd1 : decide (V < 0) = true := decide_eq_true hw
  have hd2 : decide (0 ≤ V) = false := decide_eq_false (by omega)
  clear hB hPb
  go_enter Tryd.func6, Tryd.ntmps6
  go_wp2_with (first
    | (go_at_call 19; refine (HL.out _).mono ?_; rintro e w1 ⟨rfl, hb1⟩; have p0 := row_call hb1 r0; have p1 := row_call hb1 r1; have B1 := Lib.hid (below_call (below2 w (.cells (pv P 64) 47) (.cells (bv a) 22)) hb1); have c16 := (cell_row (row_alloc p0 (.cells (bv L) 25)) 16).trans (pv_bits P 64 hP))
    | (apply wpList_rowstore (vs := bv L) isz25; exact rfl; exact rfl; exact rfl; exact rfl; (with_reducible exact row1 w1 _ _); exact (by simp [go_sem, *]); exact (by simp [go_sem, *]); exact (by simp [go_sem, *]); try simp only [Act.put, List.setIfInBounds_toArray, List.set_cons_zero, List.set_cons_succ]; try simp (disch := simp [go_sem]) only [setRow_alloc_at, setRow_alloc_past, setRow_drew])
    | (apply wpList_subload (cs := bv P) Tryd.underlying22 rfl isz22; exact rfl; exact rfl; exact rfl; (with_reducible exact row_alloc p0 _); exact pv_addr P 64; exact (by simp [go_sem, *]); simp only [Act.put, List.setIfInBounds_toArray, List.set_cons_zero, List.set_cons_succ])
    | (apply wpList_build40; exact rfl; exact rfl; exact rfl; exact rfl; exact (by simp [go_sem, *]); simp only [Act.put, List.setIfInBounds_toArray, List.set_cons_zero, List.set_cons_succ])
    | (apply wpList_rowstore (vs := pv P 64) isz40; exact rfl; exact rfl; exact rfl; exact rfl; (with_reducible exact row2b w1 _ _ _); exact (by simp [go_sem, *]); exact (by simp [go_sem, *]); exact (by simp [go_sem, *]); try simp only [Act.put, List.setIfInBounds_toArray, List.set_cons_zero, List.set_cons_succ]; try simp (disch := simp [go_sem]) only [setRow_alloc_at, setRow_alloc_past, setRow_drew])
    | (apply wpList_rowload Tryd.underlying40 rfl isz40; exact rfl; exact rfl; exact rfl; (with_reducible exact row2b w1 _ _ _); exact (by simp [go_sem, *]); simp only [Act.put, List.setIfInBounds_toArray, List.set_cons_zero, List.set_cons_succ])
    | (go_at_call 20; refine (HGl.out _).mono ?_; rintro e w2 ⟨rfl, hb2⟩; have q0 := row_call hb2 (row_alloc (row_alloc p0 (.cells (bv L) 25)) (.cells (pv P 64) 40)); have q1 := row_call hb2 (row_alloc (row_alloc p1 (.cells (bv L) 25)) (.cells (pv P 64) 40)); have q2 := row_call hb2 (row2a w1 (bv L) 25 (.cells (pv P 64) 40)); have B2 := Lib.hid (below_call (below_new (below_new B1.out (.cells (bv L) 25)) (.cells (pv P 64) 40)) hb2))
    | (apply wpList_rowstore (vs := bv Gv) isz25; exact rfl; exact rfl; exact rfl; exact rfl; (with_reducible exact row1 w2 _ _); exact (by simp [go_sem, *]); exact (by simp [go_sem, *]); exact (by simp [go_sem, *]); try simp only [Act.put, List.setIfInBounds_toArray, List.set_cons_zero, List.set_cons_succ]; try simp (disch := simp [go_sem]) only [setRow_alloc_at, setRow_alloc_past, setRow_drew])
    | (apply wpList_rowload Tryd.underlying22 rfl isz22; exact rfl; exact rfl; exact rfl; (with_reducible exact row_alloc q1 _); exact (by simp [go_sem, *]); simp only [Act.put, List.setIfInBounds_toArray, List.set_cons_zero, List.set_cons_succ])
    | (go_at_call 21; refine (HNd.out _).mono ?_; rintro e w3 ⟨rfl, hb3⟩; have s0 := row_call hb3 (row_alloc q0 (.cells (bv Gv) 25)); have s1 := row_call hb3 (row_alloc q1 (.cells (bv Gv) 25)); have s2 := row_call hb3 (row_alloc q2 (.cells (bv Gv) 25)); have s4 := row_call hb3 (row1 w2 (bv Gv) 25); have B3 := Lib.hid (below_call (below_new B2.out (.cells (bv Gv) 25)) hb3))
    | (apply wpList_rowload Tryd.underlying22 rfl isz22; exact rfl; exact rfl; exact rfl; (with_reducible exact s1); exact (by simp [go_sem, *]); simp only [Act.put, List.setIfInBounds_toArray, List.set_cons_zero, List.set_cons_succ])
    | (go_at_call 22; refine (HRn.out _).mono ?_; rintro e w4 ⟨rfl, hb4⟩; have t0 := row_call hb4 s0; have t1 := row_call hb4 s1; have t2 := row_call hb4 s2; have t4 := row_call hb4 s4; have B4 := Lib.hid (below_call B3.out hb4)))
  have c0 : ∀ w', Since w4 w' → w'.cell? ⟨w.heap.size + 1, 0, none⟩ = some (.int .u8 (nth a 0)) := fun w' h => later h t1 (by rw [bv_get, if_pos (by rw [ha]; decide)])
  refine wp_region_calm (Since _) (by kernel_rfl) (by kernel_rfl) (Since.drew _) ?_
  (refine wpQuiet_step (fun K hK => ?_); rw [if_pos (by rfl)]; apply quiet_val; (intro wq hwq; go_simp; (try go_ints); exact rfl); refine hK _ ?_; clear hK K; simp only [Act.put, List.setIfInBounds_toArray, List.set_cons_zero, List.set_cons_succ])
  (refine wpQuiet_step (fun K hK => ?_); rw [if_pos (by rfl)]; apply quiet_val; (intro wq hwq; go_simp; (try go_ints); exact rfl); refine hK _ ?_; clear hK K; simp only [Act.put, List.setIfInBounds_toArray, List.set_cons_zero, List.set_cons_succ])
  (refine wpQuiet_step (fun K hK => ?_); rw [if_pos (by rfl)]; apply quiet_val; (intro wq hwq; go_simp; (try go_ints); exact rfl); refine hK _ ?_; clear hK K; simp only [Act.put, List.setIfInBounds_toArray, List.set_cons_zero, List.set_cons_succ])
  (refine wpQuiet_step (fun K hK => ?_); rw [if_pos (by rfl)]; apply quiet_val; (intro wq hwq; go_simp; (try go_ints); exact rfl); refine hK _ ?_; clear hK K; simp only [Act.put, List.setIfInBounds_toArray, List.set_cons_zero, List.set_cons_succ])
  (refine wpQuiet_step (fun K hK => ?_); rw [if_pos (by rfl)]; apply quiet_val; (intro wq hwq; go_simp; (try go_ints); exact rfl); refine hK _ ?_; clear hK K; simp only [Act.put, List.setIfInBounds_toArray, List.set_cons_zero, List.set_cons_succ])
  (refine wpQuiet_step (fun K hK => ?_); rw [if_pos (by rfl)]; apply quiet_val; (intro wq hwq; go_simp; (try go_ints); exact rfl); refine hK _ ?_; clear hK K; simp only [Act.put, List.setIfInBounds_toArray, List.set_cons_zero, List.set_cons_succ])
  (refine wpQuiet_step (fun K hK => ?_); rw [if_pos (by rfl)]; apply quiet_val; (intro wq hwq; go_simp; (try go_ints); exact rfl); refine hK _ ?_; clear hK K; simp only [Act.put, List.setIfInBounds_toArray, List.set_cons_zero, List.set_cons_succ])
  (refine wpQuiet_step (fun K hK => ?_); rw [if_pos (by rfl)]; apply quiet_val; (intro wq hwq; go_simp; (try go_ints); exact rfl); refine hK _ ?_; clear hK K; simp only [Act.put, List.setIfInBounds_toArray, List.set_cons_zero, List.set_cons_succ])
  (refine wpQuiet_step (fun K hK => ?_); rw [if_pos (by rfl)]; apply quiet_val; (intro wq hwq; go_simp; (try go_ints); exact rfl); refine hK _ ?_; clear hK K; simp only [Act.put, List.setIfInBounds_toArray, List.set_cons_zero, List.set_cons_succ])
  (refine wpQuiet_step (fun K hK => ?_); rw [if_pos (by rfl)]; apply quiet_val; (intro wq hwq; go_simp; (try go_ints); exact rfl); refine hK _ ?_; clear hK K; simp only [Act.put, List.setIfInBounds_toArray, List.set_cons_zero, List.set_cons_succ])
  (refine wpQuiet_skip (by rfl) ?_; simp only [Act.put, List.setIfInBounds_toArray, List.set_cons_zero, List.set_cons_succ])
  (refine wpQuiet_skip (by rfl) ?_; simp only [Act.put, List.setIfInBounds_toArray, List.set_cons_zero, List.set_cons_succ])
  (refine wpQuiet_skip (by rfl) ?_; simp only [Act.put, List.setIfInBounds_toArray, List.set_cons_zero, List.set_cons_succ])
  (refine wpQuiet_skip (by rfl) ?_; simp only [Act.put, List.setIfInBounds_toArray, List.set_cons_zero, List.set_cons_succ])
  (refine wpQuiet_skip (by rfl) ?_; simp only [Act.put, List.setIfInBounds_toArray, List.set_cons_zero, List.set_cons_succ])
  (refine wpQuiet_skip (by rfl) ?_; simp only [Act.put, List.setIfInBounds_toArray, List.set_cons_zero, List.set_cons_succ])
  (refine wpQuiet_skip (by rfl) ?_; simp only [Act.put, List.setIfInBounds_toArray, List.set_cons_zero, List.set_cons_succ])
  (refine wpQuiet_step (fun K hK => ?_); rw [if_pos (by rfl)]; apply quiet_val; (intro wq hwq; go_simp; (try go_ints); exact rfl); refine hK _ ?_; clear hK K; simp only [Act.put, List.setIfInBounds_toArray, List.set_cons_zero, List.set_cons_succ])
  (refine wpQuiet_step (fun K hK => ?_); rw [if_pos (by rfl)]; apply quiet_val; (intro wq hwq; go_simp; (try go_ints); exact rfl); refine hK _ ?_; clear hK K; simp only [Act.put, List.setIfInBounds_toArray, List.set_cons_zero, List.set_cons_succ])
  (refine wpQuiet_step (fun K hK => ?_); rw [if_pos (by rfl)]; apply quiet_val; (intro wq hwq; go_simp; (try go_ints); exact rfl); refine hK _ ?_; clear hK K; simp only [Act.put, List.setIfInBounds_toArray, List.set_cons_zero, List.set_cons_succ])
  (refine wpQuiet_step (fun K hK => ?_); rw [if_pos (by rfl)]; apply quiet_rowload (cs := bv a) Tryd.underlying22 rfl isz22; exact rfl; exact rfl; exact fun w h => laterRow h t1; exact (by simp [go_sem, *]); refine hK _ ?_; clear hK K; simp only [Act.put, List.setIfInBounds_toArray, List.set_cons_zero, List.set_cons_succ])
  (refine wpQuiet_step (fun K hK => ?_); rw [if_pos (by rfl)]; apply quiet_call; (intro wq; go_simp; exact ⟨rfl, rfl⟩); (intro wq hwq; exact Since.call hwq (HMc.out _)); refine hK _ ?_; clear hK K; simp only [Act.put, List.setIfInBounds_toArray, List.set_cons_zero, List.set_cons_succ])
  (refine wpQuiet_step (fun K hK => ?_); rw [if_pos (by rfl)]; apply quiet_val; (intro wq hwq; go_simp; (try go_ints); exact rfl); refine hK _ ?_; clear hK K; simp only [Act.put, List.setIfInBounds_toArray, List.set_cons_zero, List.set_cons_succ])
  (refine wpQuiet_step (fun K hK => ?_); rw [if_pos (by rfl)]; apply quiet_val; (intro wq hwq; go_simp; (try go_ints); exact rfl); refine hK _ ?_; clear hK K; simp only [Act.put, List.setIfInBounds_toArray, List.set_cons_zero, List.set_cons_succ])
  (refine wpQuiet_step (fun K hK => ?_); rw [if_pos (by rfl)]; apply quiet_val; (intro wq hwq; go_simp; (try go_ints); exact rfl); refine hK _ ?_; clear hK K; simp only [Act.put, List.setIfInBounds_toArray, List.set_cons_zero, List.set_cons_succ])
  (refine wpQuiet_step (fun K hK => ?_); rw [if_pos (by rfl)]; apply quiet_val; (intro wq hwq; go_simp; (try go_ints); exact rfl); refine hK _ ?_; clear hK K; simp only [Act.put, List.setIfInBounds_toArray, List.set_cons_zero, List.set_cons_succ])
  (refine wpQuiet_step (fun K hK => ?_); rw [if_pos (by rfl)]; apply quiet_val; (intro wq hwq; go_simp; (try go_ints); exact rfl); refine hK _ ?_; clear hK K; simp only [Act.put, List.setIfInBounds_toArray, List.set_cons_zero, List.set_cons_succ])
  refine wpQuiet_nil ?_; intro wn hwn
  have B5 := Lib.hid (hwn.out B4.out)
  have u0 := laterRow hwn t0
  have u2 := laterRow hwn t2
  have u4 := laterRow hwn t4
  clear hwn c0
  go_wp2
  refine wp_region_calm (Since _) (by kernel_rfl) (by kernel_rfl) (Since.drew _) ?_
  (refine wpQuiet_step (fun K hK => ?_); rw [if_pos (by rfl)]; apply quiet_val; (intro wq hwq; go_simp; (try go_ints); exact rfl); refine hK _ ?_; clear hK K; simp only [Act.put, List.setIfInBounds_toArray, List.set_cons_zero, List.set_cons_succ])
  (refine wpQuiet_step (fun K hK => ?_); rw [if_pos (by rfl)]; apply quiet_val; (intro wq hwq; go_simp; (try go_ints); exact rfl); refine hK _ ?_; clear hK K; simp only [Act.put, List.setIfInBounds_toArray, List.set_cons_zero, List.set_cons_succ])
  (refine wpQuiet_step (fun K hK => ?_); rw [if_pos (by rfl)]; apply quiet_val; (intro wq hwq; go_simp; (try go_ints); exact rfl); refine hK _ ?_; clear hK K; simp only [Act.put, List.setIfInBounds_toArray, List.set_cons_zero, List.set_cons_succ])
  (refine wpQuiet_step (fun K hK => ?_); rw [if_pos (by rfl)]; apply quiet_rowload (cs := bv L) Tryd.underlying25 rfl isz25; exact rfl; exact rfl; exact fun w h => laterRow h u2; exact (by simp [go_sem, *]); refine hK _ ?_; clear hK K; simp only [Act.put, List.setIfInBounds_toArray, List.set_cons_zero, List.set_cons_succ])
  (refine wpQuiet_step (fun K hK => ?_); rw [if_pos (by rfl)]; apply quiet_val; (intro wq hwq; go_simp; (try go_ints); exact rfl); refine hK _ ?_; clear hK K; simp only [Act.put, List.setIfInBounds_toArray, List.set_cons_zero, List.set_cons_succ])
  (refine wpQuiet_step (fun K hK => ?_); rw [if_pos (by rfl)]; apply quiet_call; (intro wq; go_simp; exact ⟨rfl, rfl⟩); (intro wq hwq; exact Since.call hwq (HRl.out _)); refine hK _ ?_; clear hK K; simp only [Act.put, List.setIfInBounds_toArray, List.set_cons_zero, List.set_cons_succ])
  (refine wpQuiet_step (fun K hK => ?_); rw [if_pos (by rfl)]; apply quiet_val; (intro wq hwq; go_simp; (try go_ints); exact rfl); refine hK _ ?_; clear hK K; simp only [Act.put, List.setIfInBounds_toArray, List.set_cons_zero, List.set_cons_succ])
  (refine wpQuiet_step (fun K hK => ?_); rw [if_pos (by rfl)]; apply quiet_val; (intro wq hwq; go_simp; (try go_ints); exact rfl); refine hK _ ?_; clear hK K; simp only [Act.put, List.setIfInBounds_toArray, List.set_cons_zero, List.set_cons_succ])
  refine wpQuiet_nil ?_; intro wn hwn
  have B6 := Lib.hid (hwn.out B5.out)
  have v0 := laterRow hwn u0
  have v2 := laterRow hwn u2
  have v4 := laterRow hwn u4
  clear hwn
  go_wp2_with (first
    | (apply wpList_rowload Tryd.underlying47 rfl isz47; exact rfl; exact rfl; exact rfl; (with_reducible exact v0); exact (by simp [go_sem, *]); simp only [Act.put, List.setIfInBounds_toArray, List.set_cons_zero, List.set_cons_succ])
    | (go_at_call 25; refine (HRt.out _).mono ?_; rintro e w7 ⟨rfl, hb7⟩; have x0 := row_call hb7 v0; have x2 := row_call hb7 v2; have x4 := row_call hb7 v4; have B7 := Lib.hid (below_call B6.out hb7); have c16' := (cell_row (row_call hb7 v0) 16).trans (pv_bits P 64 hP)))
  go_loopw [15] (fun t wr => ∃ k : Nat, k ≤ 16 ∧ t = .int .i64 k ∧ Hid (Below w.heap.size w wr) ∧ rowAt wr w.heap.size = some (pv P 64) ∧ rowAt wr w1.heap.size = some (bv L) ∧ rowAt wr w2.heap.size = some (bv Gv)) (fun t _ => 16 - (intOf t).toNat)
  case atStart => exact ⟨0, by omega, rfl, B7, x0, x2, x4⟩
  case round =>
    obtain ⟨k, hk, rfl, HB, y0, y2, y4⟩ := hrel
    by_cases hlt : k < 16
    · have cG : ∀ w', Since wr w' → w'.cell? ⟨w2.heap.size, k, none⟩ = some (.int .u8 (nth Gv k)) := fun w' h => later h y4 (by rw [bv_get, if_pos (by omega)])
      have cL : ∀ w', Since wr w' → w'.cell? ⟨w1.heap.size, k, none⟩ = some (.int .u8 (nth L k)) := fun w' h => later h y2 (by rw [bv_get, if_pos (by omega)])
      have cP : ∀ w', Since wr w' → w'.cell? ⟨w.heap.size, k, none⟩ = some (.int .u8 (nth P k)) := fun w' h => later h y0 (by
        have := pv_addr P 64 k (.int .u8 (nth P k)) (by rw [bv_get, if_pos (by omega)])
        rwa [Nat.zero_add] at this)
      have i0 : (k : Int) < 16 := by omega
      have i1 : (0 : Int) ≤ k := by omega
      by_cases h8 : k < 8
      · have hq := hG1 k h8
        have hd3 : decide ((k : Int) < 8) = true := decide_eq_true (by omega)
        have hd4 : decide ((8 : Int) ≤ k) = false := decide_eq_false (by omega)
        rw [hq] at cG
        have Hq := Lib.hid hq
        clear hG1 hG2 hq
        go_wp2
        refine wp_region_calm (Since _) (by kernel_rfl) (by kernel_rfl) (Since.drew _) ?_
        (refine wpQuiet_step (fun K hK => ?_); rw [if_pos (by rfl)]; apply quiet_val; (intro wq hwq; go_simp; (try go_ints); exact rfl); refine hK _ ?_; clear hK K; simp only [Act.put, List.setIfInBounds_toArray, List.set_cons_zero, List.set_cons_succ])
        (refine wpQuiet_step (fun K hK => ?_); rw [if_pos (by rfl)]; apply quiet_val; (intro wq hwq; go_simp; (try go_ints); exact rfl); refine hK _ ?_; clear hK K; simp only [Act.put, List.setIfInBounds_toArray, List.set_cons_zero, List.set_cons_succ])
        (refine wpQuiet_step (fun K hK => ?_); rw [if_pos (by rfl)]; apply quiet_val; (intro wq hwq; go_simp; (try go_ints); exact rfl); refine hK _ ?_; clear hK K; simp only [Act.put, List.setIfInBounds_toArray, List.set_cons_zero, List.set_cons_succ])
        (refine wpQuiet_step (fun K hK => ?_); rw [if_pos (by rfl)]; apply quiet_val; (intro wq hwq; go_simp; (try go_ints); exact rfl); refine hK _ ?_; clear hK K; simp only [Act.put, List.setIfInBounds_toArray, List.set_cons_zero, List.set_cons_succ])
        (refine wpQuiet_step (fun K hK => ?_); rw [if_pos (by rfl)]; apply quiet_val; (intro wq hwq; go_simp; (try go_ints); exact rfl); refine hK _ ?_; clear hK K; simp only [Act.put, List.setIfInBounds_toArray, List.set_cons_zero, List.set_cons_succ])
        (refine wpQuiet_step (fun K hK => ?_); rw [if_pos (by rfl)]; apply quiet_val; (intro wq hwq; go_simp; (try go_ints); exact rfl); refine hK _ ?_; clear hK K; simp only [Act.put, List.setIfInBounds_toArray, List.set_cons_zero, List.set_cons_succ])
        (refine wpQuiet_step (fun K hK => ?_); rw [if_pos (by rfl)]; apply quiet_val; (intro wq hwq; go_simp; (try go_ints); exact rfl); refine hK _ ?_; clear hK K; simp only [Act.put, List.setIfInBounds_toArray, List.set_cons_zero, List.set_cons_succ])
        (refine wpQuiet_step (fun K hK => ?_); rw [if_pos (by rfl)]; apply quiet_val; (intro wq hwq; go_simp; (try go_ints); exact rfl); refine hK _ ?_; clear hK K; simp only [Act.put, List.setIfInBounds_toArray, List.set_cons_zero, List.set_cons_succ])
        (refine wpQuiet_step (fun K hK => ?_); rw [if_pos (by rfl)]; apply quiet_val; (intro wq hwq; go_simp; (try go_ints); exact rfl); refine hK _ ?_; clear hK K; simp only [Act.put, List.setIfInBounds_toArray, List.set_cons_zero, List.set_cons_succ])
        (refine wpQuiet_step (fun K hK => ?_); rw [if_pos (by rfl)]; apply quiet_val; (intro wq hwq; go_simp; (try go_ints); exact rfl); refine hK _ ?_; clear hK K; simp only [Act.put, List.setIfInBounds_toArray, List.set_cons_zero, List.set_cons_succ])
        (refine wpQuiet_step (fun K hK => ?_); rw [if_pos (by rfl)]; apply quiet_val; (intro wq hwq; go_simp; (try go_ints); exact rfl); refine hK _ ?_; clear hK K; simp only [Act.put, List.setIfInBounds_toArray, List.set_cons_zero, List.set_cons_succ])
        (refine wpQuiet_step (fun K hK => ?_); rw [if_pos (by rfl)]; apply quiet_val; (intro wq hwq; go_simp; (try go_ints); exact rfl); refine hK _ ?_; clear hK K; simp only [Act.put, List.setIfInBounds_toArray, List.set_cons_zero, List.set_cons_succ])
        (refine wpQuiet_step (fun K hK => ?_); rw [if_pos (by rfl)]; apply quiet_val; (intro wq hwq; go_simp; (try go_ints); exact rfl); refine hK _ ?_; clear hK K; simp only [Act.put, List.setIfInBounds_toArray, List.set_cons_zero, List.set_cons_succ])
        (refine wpQuiet_step (fun K hK => ?_); rw [if_pos (by rfl)]; apply quiet_val; (intro wq hwq; go_simp; (try go_ints); exact rfl); refine hK _ ?_; clear hK K; simp only [Act.put, List.setIfInBounds_toArray, List.set_cons_zero, List.set_cons_succ])
        (refine wpQuiet_step (fun K hK => ?_); rw [if_pos (by rfl)]; apply quiet_val; (intro wq hwq; go_simp; (try go_ints); exact rfl); refine hK _ ?_; clear hK K; simp only [Act.put, List.setIfInBounds_toArray, List.set_cons_zero, List.set_cons_succ])
        (refine wpQuiet_step (fun K hK => ?_); rw [if_pos (by rfl)]; apply quiet_val; (intro wq hwq; go_simp; (try go_ints); exact rfl); refine hK _ ?_; clear hK K; simp only [Act.put, List.setIfInBounds_toArray, List.set_cons_zero, List.set_cons_succ])
        (refine wpQuiet_skip (by rfl) ?_; simp only [Act.put, List.setIfInBounds_toArray, List.set_cons_zero, List.set_cons_succ])
        (refine wpQuiet_skip (by rfl) ?_; simp only [Act.put, List.setIfInBounds_toArray, List.set_cons_zero, List.set_cons_succ])
        (refine wpQuiet_skip (by rfl) ?_; simp only [Act.put, List.setIfInBounds_toArray, List.set_cons_zero, List.set_cons_succ])
        (refine wpQuiet_skip (by rfl) ?_; simp only [Act.put, List.setIfInBounds_toArray, List.set_cons_zero, List.set_cons_succ])
        (refine wpQuiet_skip (by rfl) ?_; simp only [Act.put, List.setIfInBounds_toArray, List.set_cons_zero, List.set_cons_succ])
        (refine wpQuiet_skip (by rfl) ?_; simp only [Act.put, List.setIfInBounds_toArray, List.set_cons_zero, List.set_cons_succ])
        (refine wpQuiet_skip (by rfl) ?_; simp only [Act.put, List.setIfInBounds_toArray, List.set_cons_zero, List.set_cons_succ])
        (refine wpQuiet_step (fun K hK => ?_); rw [if_pos (by rfl)]; apply quiet_val; (intro wq hwq; go_simp; (try go_ints); exact rfl); refine hK _ ?_; clear hK K; simp only [Act.put, List.setIfInBounds_toArray, List.set_cons_zero, List.set_cons_succ])
        (refine wpQuiet_step (fun K hK => ?_); rw [if_pos (by rfl)]; apply quiet_val; (intro wq hwq; go_simp; (try go_ints); exact rfl); refine hK _ ?_; clear hK K; simp only [Act.put, List.setIfInBounds_toArray, List.set_cons_zero, List.set_cons_succ])
        refine wpQuiet_nil ?_; intro wn hwn
        go_wp2
        go_roundw
        case rel => exact ⟨k + 1, by omega, by go_num, Lib.hid (hwn.out HB.out), laterRow hwn y0, laterRow hwn y2, laterRow hwn y4⟩
        case measure => simp [intOf]; omega
      · have hq := hG2 k (by omega) hlt
        have hd3 : decide ((k : Int) < 8) = false := decide_eq_false (by omega)
        have hd4 : decide ((8 : Int) ≤ k) = true := decide_eq_true (by omega)
        rw [hq] at cG
        have Hq := Lib.hid hq
        clear hG1 hG2 hq
        go_wp2
        refine wp_region_calm (Since _) (by kernel_rfl) (by kernel_rfl) (Since.drew _) ?_
        (refine wpQuiet_step (fun K hK => ?_); rw [if_pos (by rfl)]; apply quiet_val; (intro wq hwq; go_simp; (try go_ints); exact rfl); refine hK _ ?_; clear hK K; simp only [Act.put, List.setIfInBounds_toArray, List.set_cons_zero, List.set_cons_succ])
        (refine wpQuiet_step (fun K hK => ?_); rw [if_pos (by rfl)]; apply quiet_val; (intro wq hwq; go_simp; (try go_ints); exact rfl); refine hK _ ?_; clear hK K; simp only [Act.put, List.setIfInBounds_toArray, List.set_cons_zero, List.set_cons_succ])
        (refine wpQuiet_step (fun K hK => ?_); rw [if_pos (by rfl)]; apply quiet_val; (intro wq hwq; go_simp; (try go_ints); exact rfl); refine hK _ ?_; clear hK K; simp only [Act.put, List.setIfInBounds_toArray, List.set_cons_zero, List.set_cons_succ])
        (refine wpQuiet_skip (by rfl) ?_; simp only [Act.put, List.setIfInBounds_toArray, List.set_cons_zero, List.set_cons_succ])
        (refine wpQuiet_skip (by rfl) ?_; simp only [Act.put, List.setIfInBounds_toArray, List.set_cons_zero, List.set_cons_succ])
        (refine wpQuiet_skip (by rfl) ?_; simp only [Act.put, List.setIfInBounds_toArray, List.set_cons_zero, List.set_cons_succ])
        (refine wpQuiet_skip (by rfl) ?_; simp only [Act.put, List.setIfInBounds_toArray, List.set_cons_zero, List.set_cons_succ])
        (refine wpQuiet_skip (by rfl) ?_; simp only [Act.put, List.setIfInBounds_toArray, List.set_cons_zero, List.set_cons_succ])
        (refine wpQuiet_skip (by rfl) ?_; simp only [Act.put, List.setIfInBounds_toArray, List.set_cons_zero, List.set_cons_succ])
        (refine wpQuiet_skip (by rfl) ?_; simp only [Act.put, List.setIfInBounds_toArray, List.set_cons_zero, List.set_cons_succ])
        (refine wpQuiet_skip (by rfl) ?_; simp only [Act.put, List.setIfInBounds_toArray, List.set_cons_zero, List.set_cons_succ])
        (refine wpQuiet_step (fun K hK => ?_); rw [if_pos (by rfl)]; apply quiet_val; (intro wq hwq; go_simp; (try go_ints); exact rfl); refine hK _ ?_; clear hK K; simp only [Act.put, List.setIfInBounds_toArray, List.set_cons_zero, List.set_cons_succ])
        (refine wpQuiet_step (fun K hK => ?_); rw [if_pos (by rfl)]; apply quiet_val; (intro wq hwq; go_simp; (try go_ints); exact rfl); refine hK _ ?_; clear hK K; simp only [Act.put, List.setIfInBounds_toArray, List.set_cons_zero, List.set_cons_succ])
        (refine wpQuiet_step (fun K hK => ?_); rw [if_pos (by rfl)]; apply quiet_val; (intro wq hwq; go_simp; (try go_ints); exact rfl); refine hK _ ?_; clear hK K; simp only [Act.put, List.setIfInBounds_toArray, List.set_cons_zero, List.set_cons_succ])
        (refine wpQuiet_step (fun K hK => ?_); rw [if_pos (by rfl)]; apply quiet_val; (intro wq hwq; go_simp; (try go_ints); exact rfl); refine hK _ ?_; clear hK K; simp only [Act.put, List.setIfInBounds_toArray, List.set_cons_zero, List.set_cons_succ])
        (refine wpQuiet_step (fun K hK => ?_); rw [if_pos (by rfl)]; apply quiet_val; (intro wq hwq; go_simp; (try go_ints); exact rfl); refine hK _ ?_; clear hK K; simp only [Act.put, List.setIfInBounds_toArray, List.set_cons_zero, List.set_cons_succ])
        (refine wpQuiet_step (fun K hK => ?_); rw [if_pos (by rfl)]; apply quiet_val; (intro wq hwq; go_simp; (try go_ints); exact rfl); refine hK _ ?_; clear hK K; simp only [Act.put, List.setIfInBounds_toArray, List.set_cons_zero, List.set_cons_succ])
        (refine wpQuiet_step (fun K hK => ?_); rw [if_pos (by rfl)]; apply quiet_val; (intro wq hwq; go_simp; (try go_ints); exact rfl); refine hK _ ?_; clear hK K; simp only [Act.put, List.setIfInBounds_toArray, List.set_cons_zero, List.set_cons_succ])
        (refine wpQuiet_step (fun K hK => ?_); rw [if_pos (by rfl)]; apply quiet_val; (intro wq hwq; go_simp; (try go_ints); exact rfl); refine hK _ ?_; clear hK K; simp only [Act.put, List.setIfInBounds_toArray, List.set_cons_zero, List.set_cons_succ])
        (refine wpQuiet_step (fun K hK => ?_); rw [if_pos (by rfl)]; apply quiet_val; (intro wq hwq; go_simp; (try go_ints); exact rfl); refine hK _ ?_; clear hK K; simp only [Act.put, List.setIfInBounds_toArray, List.set_cons_zero, List.set_cons_succ])
        (refine wpQuiet_step (fun K hK => ?_); rw [if_pos (by rfl)]; apply quiet_val; (intro wq hwq; go_simp; (try go_ints); exact rfl); refine hK _ ?_; clear hK K; simp only [Act.put, List.setIfInBounds_toArray, List.set_cons_zero, List.set_cons_succ])
        (refine wpQuiet_step (fun K hK => ?_); rw [if_pos (by rfl)]; apply quiet_val; (intro wq hwq; go_simp; (try go_ints); exact rfl); refine hK _ ?_; clear hK K; simp only [Act.put, List.setIfInBounds_toArray, List.set_cons_zero, List.set_cons_succ])
        (refine wpQuiet_step (fun K hK => ?_); rw [if_pos (by rfl)]; apply quiet_val; (intro wq hwq; go_simp; (try go_ints); exact rfl); refine hK _ ?_; clear hK K; simp only [Act.put, List.setIfInBounds_toArray, List.set_cons_zero, List.set_cons_succ])
        (refine wpQuiet_step (fun K hK => ?_); rw [if_pos (by rfl)]; apply quiet_val; (intro wq hwq; go_simp; (try go_ints); exact rfl); refine hK _ ?_; clear hK K; simp only [Act.put, List.setIfInBounds_toArray, List.set_cons_zero, List.set_cons_succ])
        (refine wpQuiet_step (fun K hK => ?_); rw [if_pos (by rfl)]; apply quiet_val; (intro wq hwq; go_simp; (try go_ints); exact rfl); refine hK _ ?_; clear hK K; simp only [Act.put, List.setIfInBounds_toArray, List.set_cons_zero, List.set_cons_succ])
        refine wpQuiet_nil ?_; intro wn hwn
        go_wp2
        go_roundw
        case rel => exact ⟨k + 1, by omega, by go_num, Lib.hid (hwn.out HB.out), laterRow hwn y0, laterRow hwn y2, laterRow hwn y4⟩
        case measure => simp [intOf]; omega
    · go_wp2_with (first
        | (go_at_call 14; refine (HK.out _ (HG.out.since HB.out)).mono ?_; rintro e w8 ⟨rfl, hb8⟩))
      go_ret
      exact ⟨rfl, below_call HB.out hb8⟩

set_option maxHeartbeats 2000000 in
set_option maxRecDepth 100000 in
theorem nodes_pos_low (P : List Int) (hP : P.length = 16) (hPb : byt P) (m n : Int) (a : List Int) (ha : a.length = 16) (hB : byt a) (hw : 0 ≤ rnodeS a) (hnd : nodeS a = (rnodeS a, 0)) (hn : n < 0) (w : World) (hg : Glob w) :
    Calls Tryd.prog 6 #[.int .i64 n, .agg (pv P m), .agg (bv a)] w fun e w' => e = .returned (.bool true) ∧ Below w.heap.size w w' := by
  have r0 := row2a w (pv P m) 47 (.cells (bv a) 22)
  have r1 := row2b w (bv a) 22 (.cells (pv P m) 47)
  have HK := Lib.hid (fun w hg => known_any w hg)
  have HG := Lib.hid hg
  have HNd := Lib.hid fun w => Node_any a ha hB w
  have HRn := Lib.hid fun w => rnode_any a ha w
  have HMc := Lib.hid fun w => multicast_any a ha w
  rw [hnd] at HNd
  have ez : ∀ W, (Op.equalIn 10000 25 (.agg (bv z16)) (.agg (bv z16))).run Tryd.prog W = .ok true W := fun W => by rw [eq25 W 9998 _ _ rfl rfl, decide_eq_true rfl]
  have hno : ¬ (0 ≤ n ∧ n < 64) := by omega
  have HL := Lib.hid fun w => link_any n w
  rw [linkS_no hno] at HL
  have HGl := Lib.hid fun w => global_any P hP m n w
  rw [globalS_no (fun h => hno h.1)] at HGl
  simp only at HL HGl
  clear hnd hg
  generalize rnodeS a = V at *
  have HAb := Lib.hid hB
  have hd1 : decide (V < 0) = false := decide_eq_false (by omega)
  have hd2 : decide (0 ≤ V) = true := decide_eq_true hw
  clear hB hPb
  go_enter Tryd.func6, Tryd.ntmps6
  go_wp2_with (first
    | (go_at_call 19; refine (HL.out _).mono ?_; rintro e w1 ⟨rfl, hb1⟩; have p0 := row_call hb1 r0; have p1 := row_call hb1 r1; have B1 := Lib.hid (below_call (below2 w (.cells (pv P m) 47) (.cells (bv a) 22)) hb1); have c16 := (cell_row (row_alloc p0 (.cells (bv z16) 25)) 16).trans (pv_bits P m hP))
    | (apply wpList_rowstore (vs := bv z16) isz25; exact rfl; exact rfl; exact rfl; exact rfl; (with_reducible exact row1 w1 _ _); exact (by simp [go_sem, *]); exact (by simp [go_sem, *]); exact (by simp [go_sem, *]); try simp only [Act.put, List.setIfInBounds_toArray, List.set_cons_zero, List.set_cons_succ]; try simp (disch := simp [go_sem]) only [setRow_alloc_at, setRow_alloc_past, setRow_drew])
    | (apply wpList_subload (cs := bv P) Tryd.underlying22 rfl isz22; exact rfl; exact rfl; exact rfl; (with_reducible exact row_alloc p0 _); exact pv_addr P m; exact (by simp [go_sem, *]); simp only [Act.put, List.setIfInBounds_toArray, List.set_cons_zero, List.set_cons_succ])
    | (apply wpList_build40; exact rfl; exact rfl; exact rfl; exact rfl; exact (by simp [go_sem, *]); simp only [Act.put, List.setIfInBounds_toArray, List.set_cons_zero, List.set_cons_succ])
    | (apply wpList_rowstore (vs := pv P m) isz40; exact rfl; exact rfl; exact rfl; exact rfl; (with_reducible exact row2b w1 _ _ _); exact (by simp [go_sem, *]); exact (by simp [go_sem, *]); exact (by simp [go_sem, *]); try simp only [Act.put, List.setIfInBounds_toArray, List.set_cons_zero, List.set_cons_succ]; try simp (disch := simp [go_sem]) only [setRow_alloc_at, setRow_alloc_past, setRow_drew])
    | (apply wpList_rowload Tryd.underlying40 rfl isz40; exact rfl; exact rfl; exact rfl; (with_reducible exact row2b w1 _ _ _); exact (by simp [go_sem, *]); simp only [Act.put, List.setIfInBounds_toArray, List.set_cons_zero, List.set_cons_succ])
    | (go_at_call 20; refine (HGl.out _).mono ?_; rintro e w2 ⟨rfl, hb2⟩; have q0 := row_call hb2 (row_alloc (row_alloc p0 (.cells (bv z16) 25)) (.cells (pv P m) 40)); have q1 := row_call hb2 (row_alloc (row_alloc p1 (.cells (bv z16) 25)) (.cells (pv P m) 40)); have q2 := row_call hb2 (row2a w1 (bv z16) 25 (.cells (pv P m) 40)); have B2 := Lib.hid (below_call (below_new (below_new B1.out (.cells (bv z16) 25)) (.cells (pv P m) 40)) hb2))
    | (apply wpList_rowstore (vs := bv z16) isz25; exact rfl; exact rfl; exact rfl; exact rfl; (with_reducible exact row1 w2 _ _); exact (by simp [go_sem, *]); exact (by simp [go_sem, *]); exact (by simp [go_sem, *]); try simp only [Act.put, List.setIfInBounds_toArray, List.set_cons_zero, List.set_cons_succ]; try simp (disch := simp [go_sem]) only [setRow_alloc_at, setRow_alloc_past, setRow_drew])
    | (apply wpList_rowload Tryd.underlying22 rfl isz22; exact rfl; exact rfl; exact rfl; (with_reducible exact row_alloc q1 _); exact (by simp [go_sem, *]); simp only [Act.put, List.setIfInBounds_toArray, List.set_cons_zero, List.set_cons_succ])
    | (go_at_call 21; refine (HNd.out _).mono ?_; rintro e w3 ⟨rfl, hb3⟩; have s0 := row_call hb3 (row_alloc q0 (.cells (bv z16) 25)); have s1 := row_call hb3 (row_alloc q1 (.cells (bv z16) 25)); have s2 := row_call hb3 (row_alloc q2 (.cells (bv z16) 25)); have s4 := row_call hb3 (row1 w2 (bv z16) 25); have B3 := Lib.hid (below_call (below_new B2.out (.cells (bv z16) 25)) hb3))
    | (apply wpList_rowload Tryd.underlying22 rfl isz22; exact rfl; exact rfl; exact rfl; (with_reducible exact s1); exact (by simp [go_sem, *]); simp only [Act.put, List.setIfInBounds_toArray, List.set_cons_zero, List.set_cons_succ])
    | (go_at_call 22; refine (HRn.out _).mono ?_; rintro e w4 ⟨rfl, hb4⟩; have t0 := row_call hb4 s0; have t1 := row_call hb4 s1; have t2 := row_call hb4 s2; have t4 := row_call hb4 s4; have B4 := Lib.hid (below_call B3.out hb4)))
  have c0 : ∀ w', Since w4 w' → w'.cell? ⟨w.heap.size + 1, 0, none⟩ = some (.int .u8 (nth a 0)) := fun w' h => later h t1 (by rw [bv_get, if_pos (by rw [ha]; decide)])
  refine wp_region_calm (Since _) (by kernel_rfl) (by kernel_rfl) (Since.drew _) ?_
  (refine wpQuiet_step (fun K hK => ?_); rw [if_pos (by rfl)]; apply quiet_val; (intro wq hwq; go_simp; (try go_ints); exact rfl); refine hK _ ?_; clear hK K; simp only [Act.put, List.setIfInBounds_toArray, List.set_cons_zero, List.set_cons_succ])
  (refine wpQuiet_step (fun K hK => ?_); rw [if_pos (by rfl)]; apply quiet_val; (intro wq hwq; go_simp; (try go_ints); exact rfl); refine hK _ ?_; clear hK K; simp only [Act.put, List.setIfInBounds_toArray, List.set_cons_zero, List.set_cons_succ])
  (refine wpQuiet_step (fun K hK => ?_); rw [if_pos (by rfl)]; apply quiet_val; (intro wq hwq; go_simp; (try go_ints); exact rfl); refine hK _ ?_; clear hK K; simp only [Act.put, List.setIfInBounds_toArray, List.set_cons_zero, List.set_cons_succ])
  (refine wpQuiet_skip (by rfl) ?_; simp only [Act.put, List.setIfInBounds_toArray, List.set_cons_zero, List.set_cons_succ])
  (refine wpQuiet_skip (by rfl) ?_; simp only [Act.put, List.setIfInBounds_toArray, List.set_cons_zero, List.set_cons_succ])
  (refine wpQuiet_step (fun K hK => ?_); rw [if_pos (by rfl)]; apply quiet_val; (intro wq hwq; go_simp; (try go_ints); exact rfl); refine hK _ ?_; clear hK K; simp only [Act.put, List.setIfInBounds_toArray, List.set_cons_zero, List.set_cons_succ])
  (refine wpQuiet_step (fun K hK => ?_); rw [if_pos (by rfl)]; apply quiet_val; (intro wq hwq; go_simp; (try go_ints); exact rfl); refine hK _ ?_; clear hK K; simp only [Act.put, List.setIfInBounds_toArray, List.set_cons_zero, List.set_cons_succ])
  (refine wpQuiet_step (fun K hK => ?_); rw [if_pos (by rfl)]; apply quiet_val; (intro wq hwq; go_simp; (try go_ints); exact rfl); refine hK _ ?_; clear hK K; simp only [Act.put, List.setIfInBounds_toArray, List.set_cons_zero, List.set_cons_succ])
  (refine wpQuiet_step (fun K hK => ?_); rw [if_pos (by rfl)]; apply quiet_val; (intro wq hwq; go_simp; (try go_ints); exact rfl); refine hK _ ?_; clear hK K; simp only [Act.put, List.setIfInBounds_toArray, List.set_cons_zero, List.set_cons_succ])
  (refine wpQuiet_step (fun K hK => ?_); rw [if_pos (by rfl)]; apply quiet_val; (intro wq hwq; go_simp; (try go_ints); exact rfl); refine hK _ ?_; clear hK K; simp only [Act.put, List.setIfInBounds_toArray, List.set_cons_zero, List.set_cons_succ])
  (refine wpQuiet_step (fun K hK => ?_); rw [if_pos (by rfl)]; apply quiet_val; (intro wq hwq; go_simp; (try go_ints); exact rfl); refine hK _ ?_; clear hK K; simp only [Act.put, List.setIfInBounds_toArray, List.set_cons_zero, List.set_cons_succ])
  (refine wpQuiet_step (fun K hK => ?_); rw [if_pos (by rfl)]; apply quiet_val; (intro wq hwq; go_simp; (try go_ints); exact rfl); refine hK _ ?_; clear hK K; simp only [Act.put, List.setIfInBounds_toArray, List.set_cons_zero, List.set_cons_succ])
  (refine wpQuiet_step (fun K hK => ?_); rw [if_pos (by rfl)]; apply quiet_val; (intro wq hwq; go_simp; (try go_ints); exact rfl); refine hK _ ?_; clear hK K; simp only [Act.put, List.setIfInBounds_toArray, List.set_cons_zero, List.set_cons_succ])
  (refine wpQuiet_step (fun K hK => ?_); rw [if_pos (by rfl)]; apply quiet_val; (intro wq hwq; go_simp; (try go_ints); exact rfl); refine hK _ ?_; clear hK K; simp only [Act.put, List.setIfInBounds_toArray, List.set_cons_zero, List.set_cons_succ])
  (refine wpQuiet_step (fun K hK => ?_); rw [if_pos (by rfl)]; apply quiet_val; (intro wq hwq; go_simp; (try go_ints); exact rfl); refine hK _ ?_; clear hK K; simp only [Act.put, List.setIfInBounds_toArray, List.set_cons_zero, List.set_cons_succ])
  (refine wpQuiet_step (fun K hK => ?_); rw [if_pos (by rfl)]; apply quiet_val; (intro wq hwq; go_simp; (try go_ints); exact rfl); refine hK _ ?_; clear hK K; simp only [Act.put, List.setIfInBounds_toArray, List.set_cons_zero, List.set_cons_succ])
  (refine wpQuiet_step (fun K hK => ?_); rw [if_pos (by rfl)]; apply quiet_val; (intro wq hwq; go_simp; (try go_ints); exact rfl); refine hK _ ?_; clear hK K; simp only [Act.put, List.setIfInBounds_toArray, List.set_cons_zero, List.set_cons_succ])
  (refine wpQuiet_step (fun K hK => ?_); rw [if_pos (by rfl)]; apply quiet_val; (intro wq hwq; go_simp; (try go_ints); exact rfl); refine hK _ ?_; clear hK K; simp only [Act.put, List.setIfInBounds_toArray, List.set_cons_zero, List.set_cons_succ])
  (refine wpQuiet_step (fun K hK => ?_); rw [if_pos (by rfl)]; apply quiet_val; (intro wq hwq; go_simp; (try go_ints); exact rfl); refine hK _ ?_; clear hK K; simp only [Act.put, List.setIfInBounds_toArray, List.set_cons_zero, List.set_cons_succ])
  (refine wpQuiet_step (fun K hK => ?_); rw [if_pos (by rfl)]; apply quiet_val; (intro wq hwq; go_simp; (try go_ints); exact rfl); refine hK _ ?_; clear hK K; simp only [Act.put, List.setIfInBounds_toArray, List.set_cons_zero, List.set_cons_succ])
  (refine wpQuiet_step (fun K hK => ?_); rw [if_pos (by rfl)]; apply quiet_rowload (cs := bv a) Tryd.underlying22 rfl isz22; exact rfl; exact rfl; exact fun w h => laterRow h t1; exact (by simp [go_sem, *]); refine hK _ ?_; clear hK K; simp only [Act.put, List.setIfInBounds_toArray, List.set_cons_zero, List.set_cons_succ])
  (refine wpQuiet_step (fun K hK => ?_); rw [if_pos (by rfl)]; apply quiet_call; (intro wq; go_simp; exact ⟨rfl, rfl⟩); (intro wq hwq; exact Since.call hwq (HMc.out _)); refine hK _ ?_; clear hK K; simp only [Act.put, List.setIfInBounds_toArray, List.set_cons_zero, List.set_cons_succ])
  (refine wpQuiet_step (fun K hK => ?_); rw [if_pos (by rfl)]; apply quiet_val; (intro wq hwq; go_simp; (try go_ints); exact rfl); refine hK _ ?_; clear hK K; simp only [Act.put, List.setIfInBounds_toArray, List.set_cons_zero, List.set_cons_succ])
  (refine wpQuiet_step (fun K hK => ?_); rw [if_pos (by rfl)]; apply quiet_val; (intro wq hwq; go_simp; (try go_ints); exact rfl); refine hK _ ?_; clear hK K; simp only [Act.put, List.setIfInBounds_toArray, List.set_cons_zero, List.set_cons_succ])
  (refine wpQuiet_step (fun K hK => ?_); rw [if_pos (by rfl)]; apply quiet_val; (intro wq hwq; go_simp; (try go_ints); exact rfl); refine hK _ ?_; clear hK K; simp only [Act.put, List.setIfInBounds_toArray, List.set_cons_zero, List.set_cons_succ])
  (refine wpQuiet_step (fun K hK => ?_); rw [if_pos (by rfl)]; apply quiet_val; (intro wq hwq; go_simp; (try go_ints); exact rfl); refine hK _ ?_; clear hK K; simp only [Act.put, List.setIfInBounds_toArray, List.set_cons_zero, List.set_cons_succ])
  (refine wpQuiet_step (fun K hK => ?_); rw [if_pos (by rfl)]; apply quiet_val; (intro wq hwq; go_simp; (try go_ints); exact rfl); refine hK _ ?_; clear hK K; simp only [Act.put, List.setIfInBounds_toArray, List.set_cons_zero, List.set_cons_succ])
  refine wpQuiet_nil ?_; intro wn hwn
  have B5 := Lib.hid (hwn.out B4.out)
  have u0 := laterRow hwn t0
  have u2 := laterRow hwn t2
  have u4 := laterRow hwn t4
  clear hwn c0
  go_wp2_with (first
    | (go_at_call 14; refine (HK.out _ (HG.out.since B5.out)).mono ?_; rintro e w6 ⟨rfl, hb6⟩))
  go_ret
  exact ⟨rfl, below_call B5.out hb6⟩

set_option maxHeartbeats 2000000 in
set_option maxRecDepth 100000 in
theorem nodes_pos_high (P : List Int) (hP : P.length = 16) (hPb : byt P) (m n : Int) (a : List Int) (ha : a.length = 16) (hB : byt a) (hw : 0 ≤ rnodeS a) (hnd : nodeS a = (rnodeS a, 0)) (hn : ¬ n < 0) (hn2 : 63 < n) (w : World) (hg : Glob w) :
    Calls Tryd.prog 6 #[.int .i64 n, .agg (pv P m), .agg (bv a)] w fun e w' => e = .returned (.bool true) ∧ Below w.heap.size w w' := by
  have r0 := row2a w (pv P m) 47 (.cells (bv a) 22)
  have r1 := row2b w (bv a) 22 (.cells (pv P m) 47)
  have HK := Lib.hid (fun w hg => known_any w hg)
  have HG := Lib.hid hg
  have HNd := Lib.hid fun w => Node_any a ha hB w
  have HRn := Lib.hid fun w => rnode_any a ha w
  have HMc := Lib.hid fun w => multicast_any a ha w
  rw [hnd] at HNd
  have ez : ∀ W, (Op.equalIn 10000 25 (.agg (bv z16)) (.agg (bv z16))).run Tryd.prog W = .ok true W := fun W => by rw [eq25 W 9998 _ _ rfl rfl, decide_eq_true rfl]
  have hno : ¬ (0 ≤ n ∧ n < 64) := by omega
  have HL := Lib.hid fun w => link_any n w
  rw [linkS_no hno] at HL
  have HGl := Lib.hid fun w => global_any P hP m n w
  rw [globalS_no (fun h => hno h.1)] at HGl
  simp only at HL HGl
  clear hnd hg
  generalize rnodeS a = V at *
  have HAb := Lib.hid hB
  have hd1 : decide (V < 0) = false := decide_eq_false (by omega)
  have hd2 : decide (0 ≤ V) = true := decide_eq_true hw
  clear hB hPb
  go_enter Tryd.func6, Tryd.ntmps6
  go_wp2_with (first
    | (go_at_call 19; refine (HL.out _).mono ?_; rintro e w1 ⟨rfl, hb1⟩; have p0 := row_call hb1 r0; have p1 := row_call hb1 r1; have B1 := Lib.hid (below_call (below2 w (.cells (pv P m) 47) (.cells (bv a) 22)) hb1); have c16 := (cell_row (row_alloc p0 (.cells (bv z16) 25)) 16).trans (pv_bits P m hP))
    | (apply wpList_rowstore (vs := bv z16) isz25; exact rfl; exact rfl; exact rfl; exact rfl; (with_reducible exact row1 w1 _ _); exact (by simp [go_sem, *]); exact (by simp [go_sem, *]); exact (by simp [go_sem, *]); try simp only [Act.put, List.setIfInBounds_toArray, List.set_cons_zero, List.set_cons_succ]; try simp (disch := simp [go_sem]) only [setRow_alloc_at, setRow_alloc_past, setRow_drew])
    | (apply wpList_subload (cs := bv P) Tryd.underlying22 rfl isz22; exact rfl; exact rfl; exact rfl; (with_reducible exact row_alloc p0 _); exact pv_addr P m; exact (by simp [go_sem, *]); simp only [Act.put, List.setIfInBounds_toArray, List.set_cons_zero, List.set_cons_succ])
    | (apply wpList_build40; exact rfl; exact rfl; exact rfl; exact rfl; exact (by simp [go_sem, *]); simp only [Act.put, List.setIfInBounds_toArray, List.set_cons_zero, List.set_cons_succ])
    | (apply wpList_rowstore (vs := pv P m) isz40; exact rfl; exact rfl; exact rfl; exact rfl; (with_reducible exact row2b w1 _ _ _); exact (by simp [go_sem, *]); exact (by simp [go_sem, *]); exact (by simp [go_sem, *]); try simp only [Act.put, List.setIfInBounds_toArray, List.set_cons_zero, List.set_cons_succ]; try simp (disch := simp [go_sem]) only [setRow_alloc_at, setRow_alloc_past, setRow_drew])
    | (apply wpList_rowload Tryd.underlying40 rfl isz40; exact rfl; exact rfl; exact rfl; (with_reducible exact row2b w1 _ _ _); exact (by simp [go_sem, *]); simp only [Act.put, List.setIfInBounds_toArray, List.set_cons_zero, List.set_cons_succ])
    | (go_at_call 20; refine (HGl.out _).mono ?_; rintro e w2 ⟨rfl, hb2⟩; have q0 := row_call hb2 (row_alloc (row_alloc p0 (.cells (bv z16) 25)) (.cells (pv P m) 40)); have q1 := row_call hb2 (row_alloc (row_alloc p1 (.cells (bv z16) 25)) (.cells (pv P m) 40)); have q2 := row_call hb2 (row2a w1 (bv z16) 25 (.cells (pv P m) 40)); have B2 := Lib.hid (below_call (below_new (below_new B1.out (.cells (bv z16) 25)) (.cells (pv P m) 40)) hb2))
    | (apply wpList_rowstore (vs := bv z16) isz25; exact rfl; exact rfl; exact rfl; exact rfl; (with_reducible exact row1 w2 _ _); exact (by simp [go_sem, *]); exact (by simp [go_sem, *]); exact (by simp [go_sem, *]); try simp only [Act.put, List.setIfInBounds_toArray, List.set_cons_zero, List.set_cons_succ]; try simp (disch := simp [go_sem]) only [setRow_alloc_at, setRow_alloc_past, setRow_drew])
    | (apply wpList_rowload Tryd.underlying22 rfl isz22; exact rfl; exact rfl; exact rfl; (with_reducible exact row_alloc q1 _); exact (by simp [go_sem, *]); simp only [Act.put, List.setIfInBounds_toArray, List.set_cons_zero, List.set_cons_succ])
    | (go_at_call 21; refine (HNd.out _).mono ?_; rintro e w3 ⟨rfl, hb3⟩; have s0 := row_call hb3 (row_alloc q0 (.cells (bv z16) 25)); have s1 := row_call hb3 (row_alloc q1 (.cells (bv z16) 25)); have s2 := row_call hb3 (row_alloc q2 (.cells (bv z16) 25)); have s4 := row_call hb3 (row1 w2 (bv z16) 25); have B3 := Lib.hid (below_call (below_new B2.out (.cells (bv z16) 25)) hb3))
    | (apply wpList_rowload Tryd.underlying22 rfl isz22; exact rfl; exact rfl; exact rfl; (with_reducible exact s1); exact (by simp [go_sem, *]); simp only [Act.put, List.setIfInBounds_toArray, List.set_cons_zero, List.set_cons_succ])
    | (go_at_call 22; refine (HRn.out _).mono ?_; rintro e w4 ⟨rfl, hb4⟩; have t0 := row_call hb4 s0; have t1 := row_call hb4 s1; have t2 := row_call hb4 s2; have t4 := row_call hb4 s4; have B4 := Lib.hid (below_call B3.out hb4)))
  have c0 : ∀ w', Since w4 w' → w'.cell? ⟨w.heap.size + 1, 0, none⟩ = some (.int .u8 (nth a 0)) := fun w' h => later h t1 (by rw [bv_get, if_pos (by rw [ha]; decide)])
  refine wp_region_calm (Since _) (by kernel_rfl) (by kernel_rfl) (Since.drew _) ?_
  (refine wpQuiet_step (fun K hK => ?_); rw [if_pos (by rfl)]; apply quiet_val; (intro wq hwq; go_simp; (try go_ints); exact rfl); refine hK _ ?_; clear hK K; simp only [Act.put, List.setIfInBounds_toArray, List.set_cons_zero, List.set_cons_succ])
  (refine wpQuiet_step (fun K hK => ?_); rw [if_pos (by rfl)]; apply quiet_val; (intro wq hwq; go_simp; (try go_ints); exact rfl); refine hK _ ?_; clear hK K; simp only [Act.put, List.setIfInBounds_toArray, List.set_cons_zero, List.set_cons_succ])
  (refine wpQuiet_step (fun K hK => ?_); rw [if_pos (by rfl)]; apply quiet_val; (intro wq hwq; go_simp; (try go_ints); exact rfl); refine hK _ ?_; clear hK K; simp only [Act.put, List.setIfInBounds_toArray, List.set_cons_zero, List.set_cons_succ])
  (refine wpQuiet_skip (by rfl) ?_; simp only [Act.put, List.setIfInBounds_toArray, List.set_cons_zero, List.set_cons_succ])
  (refine wpQuiet_skip (by rfl) ?_; simp only [Act.put, List.setIfInBounds_toArray, List.set_cons_zero, List.set_cons_succ])
  (refine wpQuiet_step (fun K hK => ?_); rw [if_pos (by rfl)]; apply quiet_val; (intro wq hwq; go_simp; (try go_ints); exact rfl); refine hK _ ?_; clear hK K; simp only [Act.put, List.setIfInBounds_toArray, List.set_cons_zero, List.set_cons_succ])
  (refine wpQuiet_step (fun K hK => ?_); rw [if_pos (by rfl)]; apply quiet_val; (intro wq hwq; go_simp; (try go_ints); exact rfl); refine hK _ ?_; clear hK K; simp only [Act.put, List.setIfInBounds_toArray, List.set_cons_zero, List.set_cons_succ])
  (refine wpQuiet_step (fun K hK => ?_); rw [if_pos (by rfl)]; apply quiet_val; (intro wq hwq; go_simp; (try go_ints); exact rfl); refine hK _ ?_; clear hK K; simp only [Act.put, List.setIfInBounds_toArray, List.set_cons_zero, List.set_cons_succ])
  (refine wpQuiet_step (fun K hK => ?_); rw [if_pos (by rfl)]; apply quiet_val; (intro wq hwq; go_simp; (try go_ints); exact rfl); refine hK _ ?_; clear hK K; simp only [Act.put, List.setIfInBounds_toArray, List.set_cons_zero, List.set_cons_succ])
  (refine wpQuiet_step (fun K hK => ?_); rw [if_pos (by rfl)]; apply quiet_val; (intro wq hwq; go_simp; (try go_ints); exact rfl); refine hK _ ?_; clear hK K; simp only [Act.put, List.setIfInBounds_toArray, List.set_cons_zero, List.set_cons_succ])
  (refine wpQuiet_step (fun K hK => ?_); rw [if_pos (by rfl)]; apply quiet_val; (intro wq hwq; go_simp; (try go_ints); exact rfl); refine hK _ ?_; clear hK K; simp only [Act.put, List.setIfInBounds_toArray, List.set_cons_zero, List.set_cons_succ])
  (refine wpQuiet_step (fun K hK => ?_); rw [if_pos (by rfl)]; apply quiet_val; (intro wq hwq; go_simp; (try go_ints); exact rfl); refine hK _ ?_; clear hK K; simp only [Act.put, List.setIfInBounds_toArray, List.set_cons_zero, List.set_cons_succ])
  (refine wpQuiet_step (fun K hK => ?_); rw [if_pos (by rfl)]; apply quiet_val; (intro wq hwq; go_simp; (try go_ints); exact rfl); refine hK _ ?_; clear hK K; simp only [Act.put, List.setIfInBounds_toArray, List.set_cons_zero, List.set_cons_succ])
  (refine wpQuiet_step (fun K hK => ?_); rw [if_pos (by rfl)]; apply quiet_val; (intro wq hwq; go_simp; (try go_ints); exact rfl); refine hK _ ?_; clear hK K; simp only [Act.put, List.setIfInBounds_toArray, List.set_cons_zero, List.set_cons_succ])
  (refine wpQuiet_step (fun K hK => ?_); rw [if_pos (by rfl)]; apply quiet_val; (intro wq hwq; go_simp; (try go_ints); exact rfl); refine hK _ ?_; clear hK K; simp only [Act.put, List.setIfInBounds_toArray, List.set_cons_zero, List.set_cons_succ])
  (refine wpQuiet_step (fun K hK => ?_); rw [if_pos (by rfl)]; apply quiet_val; (intro wq hwq; go_simp; (try go_ints); exact rfl); refine hK _ ?_; clear hK K; simp only [Act.put, List.setIfInBounds_toArray, List.set_cons_zero, List.set_cons_succ])
  (refine wpQuiet_step (fun K hK => ?_); rw [if_pos (by rfl)]; apply quiet_val; (intro wq hwq; go_simp; (try go_ints); exact rfl); refine hK _ ?_; clear hK K; simp only [Act.put, List.setIfInBounds_toArray, List.set_cons_zero, List.set_cons_succ])
  (refine wpQuiet_step (fun K hK => ?_); rw [if_pos (by rfl)]; apply quiet_val; (intro wq hwq; go_simp; (try go_ints); exact rfl); refine hK _ ?_; clear hK K; simp only [Act.put, List.setIfInBounds_toArray, List.set_cons_zero, List.set_cons_succ])
  (refine wpQuiet_step (fun K hK => ?_); rw [if_pos (by rfl)]; apply quiet_val; (intro wq hwq; go_simp; (try go_ints); exact rfl); refine hK _ ?_; clear hK K; simp only [Act.put, List.setIfInBounds_toArray, List.set_cons_zero, List.set_cons_succ])
  (refine wpQuiet_step (fun K hK => ?_); rw [if_pos (by rfl)]; apply quiet_val; (intro wq hwq; go_simp; (try go_ints); exact rfl); refine hK _ ?_; clear hK K; simp only [Act.put, List.setIfInBounds_toArray, List.set_cons_zero, List.set_cons_succ])
  (refine wpQuiet_step (fun K hK => ?_); rw [if_pos (by rfl)]; apply quiet_rowload (cs := bv a) Tryd.underlying22 rfl isz22; exact rfl; exact rfl; exact fun w h => laterRow h t1; exact (by simp [go_sem, *]); refine hK _ ?_; clear hK K; simp only [Act.put, List.setIfInBounds_toArray, List.set_cons_zero, List.set_cons_succ])
  (refine wpQuiet_step (fun K hK => ?_); rw [if_pos (by rfl)]; apply quiet_call; (intro wq; go_simp; exact ⟨rfl, rfl⟩); (intro wq hwq; exact Since.call hwq (HMc.out _)); refine hK _ ?_; clear hK K; simp only [Act.put, List.setIfInBounds_toArray, List.set_cons_zero, List.set_cons_succ])
  (refine wpQuiet_step (fun K hK => ?_); rw [if_pos (by rfl)]; apply quiet_val; (intro wq hwq; go_simp; (try go_ints); exact rfl); refine hK _ ?_; clear hK K; simp only [Act.put, List.setIfInBounds_toArray, List.set_cons_zero, List.set_cons_succ])
  (refine wpQuiet_step (fun K hK => ?_); rw [if_pos (by rfl)]; apply quiet_val; (intro wq hwq; go_simp; (try go_ints); exact rfl); refine hK _ ?_; clear hK K; simp only [Act.put, List.setIfInBounds_toArray, List.set_cons_zero, List.set_cons_succ])
  (refine wpQuiet_step (fun K hK => ?_); rw [if_pos (by rfl)]; apply quiet_val; (intro wq hwq; go_simp; (try go_ints); exact rfl); refine hK _ ?_; clear hK K; simp only [Act.put, List.setIfInBounds_toArray, List.set_cons_zero, List.set_cons_succ])
  (refine wpQuiet_step (fun K hK => ?_); rw [if_pos (by rfl)]; apply quiet_val; (intro wq hwq; go_simp; (try go_ints); exact rfl); refine hK _ ?_; clear hK K; simp only [Act.put, List.setIfInBounds_toArray, List.set_cons_zero, List.set_cons_succ])
  (refine wpQuiet_step (fun K hK => ?_); rw [if_pos (by rfl)]; apply quiet_val; (intro wq hwq; go_simp; (try go_ints); exact rfl); refine hK _ ?_; clear hK K; simp only [Act.put, List.setIfInBounds_toArray, List.set_cons_zero, List.set_cons_succ])
  refine wpQuiet_nil ?_; intro wn hwn
  have B5 := Lib.hid (hwn.out B4.out)
  have u0 := laterRow hwn t0
  have u2 := laterRow hwn t2
  have u4 := laterRow hwn t4
  clear hwn c0
  go_wp2_with (first
    | (go_at_call 14; refine (HK.out _ (HG.out.since B5.out)).mono ?_; rintro e w6 ⟨rfl, hb6⟩))
  go_ret
  exact ⟨rfl, below_call B5.out hb6⟩

set_option maxHeartbeats 2000000 in
set_option maxRecDepth 100000 in
theorem nodes_pos_noright (P : List Int) (hP : P.length = 16) (hPb : byt P) (m n : Int) (a : List Int) (ha : a.length = 16) (hB : byt a) (hw : 0 ≤ rnodeS a) (hnd : nodeS a = (rnodeS a, 0)) (hn : ¬ n < 0) (hn2 : ¬ 63 < n) (hr : rightB P m = false) (w : World) (hg : Glob w) :
    Calls Tryd.prog 6 #[.int .i64 n, .agg (pv P m), .agg (bv a)] w fun e w' => e = .returned (.bool true) ∧ Below w.heap.size w w' := by
  have r0 := row2a w (pv P m) 47 (.cells (bv a) 22)
  have r1 := row2b w (bv a) 22 (.cells (pv P m) 47)
  have HK := Lib.hid (fun w hg => known_any w hg)
  have HG := Lib.hid hg
  have HNd := Lib.hid fun w => Node_any a ha hB w
  have HRn := Lib.hid fun w => rnode_any a ha w
  have HMc := Lib.hid fun w => multicast_any a ha w
  rw [hnd] at HNd
  have ez : ∀ W, (Op.equalIn 10000 25 (.agg (bv z16)) (.agg (bv z16))).run Tryd.prog W = .ok true W := fun W => by rw [eq25 W 9998 _ _ rfl rfl, decide_eq_true rfl]
  have hin : 0 ≤ n ∧ n < 64 := by omega
  have HL := Lib.hid fun w => link_any n w
  have hlen := linkS_length n
  have HRl := Lib.hid fun w => rlink_any n hin.1 (by omega) w
  rw [← rlink_eq hin] at HRl
  rw [linkS_ok hin] at HL
  have HGl := Lib.hid fun w => global_any P hP m n w
  rw [globalS_no (fun h => by rw [hr] at h; exact absurd h.2.1 (by decide))] at HGl
  simp only at HGl
  generalize (linkS n).1 = L at *
  have eL : ∀ W, (Op.equalIn 10000 25 (.agg (bv L)) (.agg (bv L))).run Tryd.prog W = .ok true W := fun W => by rw [eq25 W 9998 _ _ hlen hlen, decide_eq_true rfl]
  have HRt := Lib.hid fun w => rright_no hP hPb (n := m) (by rw [right_eq hP hPb]; exact hr) w
  clear hr
  clear hnd hg
  generalize rnodeS a = V at *
  have HAb := Lib.hid hB
  have hd1 : decide (V < 0) = false := decide_eq_false (by omega)
  have hd2 : decide (0 ≤ V) = true := decide_eq_true hw
  clear hB hPb
  go_enter Tryd.func6, Tryd.ntmps6
  go_wp2_with (first
    | (go_at_call 19; refine (HL.out _).mono ?_; rintro e w1 ⟨rfl, hb1⟩; have p0 := row_call hb1 r0; have p1 := row_call hb1 r1; have B1 := Lib.hid (below_call (below2 w (.cells (pv P m) 47) (.cells (bv a) 22)) hb1); have c16 := (cell_row (row_alloc p0 (.cells (bv L) 25)) 16).trans (pv_bits P m hP))
    | (apply wpList_rowstore (vs := bv L) isz25; exact rfl; exact rfl; exact rfl; exact rfl; (with_reducible exact row1 w1 _ _); exact (by simp [go_sem, *]); exact (by simp [go_sem, *]); exact (by simp [go_sem, *]); try simp only [Act.put, List.setIfInBounds_toArray, List.set_cons_zero, List.set_cons_succ]; try simp (disch := simp [go_sem]) only [setRow_alloc_at, setRow_alloc_past, setRow_drew])
    | (apply wpList_subload (cs := bv P) Tryd.underlying22 rfl isz22; exact rfl; exact rfl; exact rfl; (with_reducible exact row_alloc p0 _); exact pv_addr P m; exact (by simp [go_sem, *]); simp only [Act.put, List.setIfInBounds_toArray, List.set_cons_zero, List.set_cons_succ])
    | (apply wpList_build40; exact rfl; exact rfl; exact rfl; exact rfl; exact (by simp [go_sem, *]); simp only [Act.put, List.setIfInBounds_toArray, List.set_cons_zero, List.set_cons_succ])
    | (apply wpList_rowstore (vs := pv P m) isz40; exact rfl; exact rfl; exact rfl; exact rfl; (with_reducible exact row2b w1 _ _ _); exact (by simp [go_sem, *]); exact (by simp [go_sem, *]); exact (by simp [go_sem, *]); try simp only [Act.put, List.setIfInBounds_toArray, List.set_cons_zero, List.set_cons_succ]; try simp (disch := simp [go_sem]) only [setRow_alloc_at, setRow_alloc_past, setRow_drew])
    | (apply wpList_rowload Tryd.underlying40 rfl isz40; exact rfl; exact rfl; exact rfl; (with_reducible exact row2b w1 _ _ _); exact (by simp [go_sem, *]); simp only [Act.put, List.setIfInBounds_toArray, List.set_cons_zero, List.set_cons_succ])
    | (go_at_call 20; refine (HGl.out _).mono ?_; rintro e w2 ⟨rfl, hb2⟩; have q0 := row_call hb2 (row_alloc (row_alloc p0 (.cells (bv L) 25)) (.cells (pv P m) 40)); have q1 := row_call hb2 (row_alloc (row_alloc p1 (.cells (bv L) 25)) (.cells (pv P m) 40)); have q2 := row_call hb2 (row2a w1 (bv L) 25 (.cells (pv P m) 40)); have B2 := Lib.hid (below_call (below_new (below_new B1.out (.cells (bv L) 25)) (.cells (pv P m) 40)) hb2))
    | (apply wpList_rowstore (vs := bv z16) isz25; exact rfl; exact rfl; exact rfl; exact rfl; (with_reducible exact row1 w2 _ _); exact (by simp [go_sem, *]); exact (by simp [go_sem, *]); exact (by simp [go_sem, *]); try simp only [Act.put, List.setIfInBounds_toArray, List.set_cons_zero, List.set_cons_succ]; try simp (disch := simp [go_sem]) only [setRow_alloc_at, setRow_alloc_past, setRow_drew])
    | (apply wpList_rowload Tryd.underlying22 rfl isz22; exact rfl; exact rfl; exact rfl; (with_reducible exact row_alloc q1 _); exact (by simp [go_sem, *]); simp only [Act.put, List.setIfInBounds_toArray, List.set_cons_zero, List.set_cons_succ])
    | (go_at_call 21; refine (HNd.out _).mono ?_; rintro e w3 ⟨rfl, hb3⟩; have s0 := row_call hb3 (row_alloc q0 (.cells (bv z16) 25)); have s1 := row_call hb3 (row_alloc q1 (.cells (bv z16) 25)); have s2 := row_call hb3 (row_alloc q2 (.cells (bv z16) 25)); have s4 := row_call hb3 (row1 w2 (bv z16) 25); have B3 := Lib.hid (below_call (below_new B2.out (.cells (bv z16) 25)) hb3))
    | (apply wpList_rowload Tryd.underlying22 rfl isz22; exact rfl; exact rfl; exact rfl; (with_reducible exact s1); exact (by simp [go_sem, *]); simp only [Act.put, List.setIfInBounds_toArray, List.set_cons_zero, List.set_cons_succ])
    | (go_at_call 22; refine (HRn.out _).mono ?_; rintro e w4 ⟨rfl, hb4⟩; have t0 := row_call hb4 s0; have t1 := row_call hb4 s1; have t2 := row_call hb4 s2; have t4 := row_call hb4 s4; have B4 := Lib.hid (below_call B3.out hb4)))
  have c0 : ∀ w', Since w4 w' → w'.cell? ⟨w.heap.size + 1, 0, none⟩ = some (.int .u8 (nth a 0)) := fun w' h => later h t1 (by rw [bv_get, if_pos (by rw [ha]; decide)])
  refine wp_region_calm (Since _) (by kernel_rfl) (by kernel_rfl) (Since.drew _) ?_
  (refine wpQuiet_step (fun K hK => ?_); rw [if_pos (by rfl)]; apply quiet_val; (intro wq hwq; go_simp; (try go_ints); exact rfl); refine hK _ ?_; clear hK K; simp only [Act.put, List.setIfInBounds_toArray, List.set_cons_zero, List.set_cons_succ])
  (refine wpQuiet_step (fun K hK => ?_); rw [if_pos (by rfl)]; apply quiet_val; (intro wq hwq; go_simp; (try go_ints); exact rfl); refine hK _ ?_; clear hK K; simp only [Act.put, List.setIfInBounds_toArray, List.set_cons_zero, List.set_cons_succ])
  (refine wpQuiet_step (fun K hK => ?_); rw [if_pos (by rfl)]; apply quiet_val; (intro wq hwq; go_simp; (try go_ints); exact rfl); refine hK _ ?_; clear hK K; simp only [Act.put, List.setIfInBounds_toArray, List.set_cons_zero, List.set_cons_succ])
  (refine wpQuiet_skip (by rfl) ?_; simp only [Act.put, List.setIfInBounds_toArray, List.set_cons_zero, List.set_cons_succ])
  (refine wpQuiet_skip (by rfl) ?_; simp only [Act.put, List.setIfInBounds_toArray, List.set_cons_zero, List.set_cons_succ])
  (refine wpQuiet_step (fun K hK => ?_); rw [if_pos (by rfl)]; apply quiet_val; (intro wq hwq; go_simp; (try go_ints); exact rfl); refine hK _ ?_; clear hK K; simp only [Act.put, List.setIfInBounds_toArray, List.set_cons_zero, List.set_cons_succ])
  (refine wpQuiet_step (fun K hK => ?_); rw [if_pos (by rfl)]; apply quiet_val; (intro wq hwq; go_simp; (try go_ints); exact rfl); refine hK _ ?_; clear hK K; simp only [Act.put, List.setIfInBounds_toArray, List.set_cons_zero, List.set_cons_succ])
  (refine wpQuiet_step (fun K hK => ?_); rw [if_pos (by rfl)]; apply quiet_val; (intro wq hwq; go_simp; (try go_ints); exact rfl); refine hK _ ?_; clear hK K; simp only [Act.put, List.setIfInBounds_toArray, List.set_cons_zero, List.set_cons_succ])
  (refine wpQuiet_step (fun K hK => ?_); rw [if_pos (by rfl)]; apply quiet_val; (intro wq hwq; go_simp; (try go_ints); exact rfl); refine hK _ ?_; clear hK K; simp only [Act.put, List.setIfInBounds_toArray, List.set_cons_zero, List.set_cons_succ])
  (refine wpQuiet_step (fun K hK => ?_); rw [if_pos (by rfl)]; apply quiet_val; (intro wq hwq; go_simp; (try go_ints); exact rfl); refine hK _ ?_; clear hK K; simp only [Act.put, List.setIfInBounds_toArray, List.set_cons_zero, List.set_cons_succ])
  (refine wpQuiet_step (fun K hK => ?_); rw [if_pos (by rfl)]; apply quiet_val; (intro wq hwq; go_simp; (try go_ints); exact rfl); refine hK _ ?_; clear hK K; simp only [Act.put, List.setIfInBounds_toArray, List.set_cons_zero, List.set_cons_succ])
  (refine wpQuiet_step (fun K hK => ?_); rw [if_pos (by rfl)]; apply quiet_val; (intro wq hwq; go_simp; (try go_ints); exact rfl); refine hK _ ?_; clear hK K; simp only [Act.put, List.setIfInBounds_toArray, List.set_cons_zero, List.set_cons_succ])
  (refine wpQuiet_step (fun K hK => ?_); rw [if_pos (by rfl)]; apply quiet_val; (intro wq hwq; go_simp; (try go_ints); exact rfl); refine hK _ ?_; clear hK K; simp only [Act.put, List.setIfInBounds_toArray, List.set_cons_zero, List.set_cons_succ])
  (refine wpQuiet_step (fun K hK => ?_); rw [if_pos (by rfl)]; apply quiet_val; (intro wq hwq; go_simp; (try go_ints); exact rfl); refine hK _ ?_; clear hK K; simp only [Act.put, List.setIfInBounds_toArray, List.set_cons_zero, List.set_cons_succ])
  (refine wpQuiet_step (fun K hK => ?_); rw [if_pos (by rfl)]; apply quiet_val; (intro wq hwq; go_simp; (try go_ints); exact rfl); refine hK _ ?_; clear hK K; simp only [Act.put, List.setIfInBounds_toArray, List.set_cons_zero, List.set_cons_succ])
  (refine wpQuiet_step (fun K hK => ?_); rw [if_pos (by rfl)]; apply quiet_val; (intro wq hwq; go_simp; (try go_ints); exact rfl); refine hK _ ?_; clear hK K; simp only [Act.put, List.setIfInBounds_toArray, List.set_cons_zero, List.set_cons_succ])
  (refine wpQuiet_step (fun K hK => ?_); rw [if_pos (by rfl)]; apply quiet_val; (intro wq hwq; go_simp; (try go_ints); exact rfl); refine hK _ ?_; clear hK K; simp only [Act.put, List.setIfInBounds_toArray, List.set_cons_zero, List.set_cons_succ])
  (refine wpQuiet_step (fun K hK => ?_); rw [if_pos (by rfl)]; apply quiet_val; (intro wq hwq; go_simp; (try go_ints); exact rfl); refine hK _ ?_; clear hK K; simp only [Act.put, List.setIfInBounds_toArray, List.set_cons_zero, List.set_cons_succ])
  (refine wpQuiet_step (fun K hK => ?_); rw [if_pos (by rfl)]; apply quiet_val; (intro wq hwq; go_simp; (try go_ints); exact rfl); refine hK _ ?_; clear hK K; simp only [Act.put, List.setIfInBounds_toArray, List.set_cons_zero, List.set_cons_succ])
  (refine wpQuiet_step (fun K hK => ?_); rw [if_pos (by rfl)]; apply quiet_val; (intro wq hwq; go_simp; (try go_ints); exact rfl); refine hK _ ?_; clear hK K; simp only [Act.put, List.setIfInBounds_toArray, List.set_cons_zero, List.set_cons_succ])
  (refine wpQuiet_step (fun K hK => ?_); rw [if_pos (by rfl)]; apply quiet_rowload (cs := bv a) Tryd.underlying22 rfl isz22; exact rfl; exact rfl; exact fun w h => laterRow h t1; exact (by simp [go_sem, *]); refine hK _ ?_; clear hK K; simp only [Act.put, List.setIfInBounds_toArray, List.set_cons_zero, List.set_cons_succ])
  (refine wpQuiet_step (fun K hK => ?_); rw [if_pos (by rfl)]; apply quiet_call; (intro wq; go_simp; exact ⟨rfl, rfl⟩); (intro wq hwq; exact Since.call hwq (HMc.out _)); refine hK _ ?_; clear hK K; simp only [Act.put, List.setIfInBounds_toArray, List.set_cons_zero, List.set_cons_succ])
  (refine wpQuiet_step (fun K hK => ?_); rw [if_pos (by rfl)]; apply quiet_val; (intro wq hwq; go_simp; (try go_ints); exact rfl); refine hK _ ?_; clear hK K; simp only [Act.put, List.setIfInBounds_toArray, List.set_cons_zero, List.set_cons_succ])
  (refine wpQuiet_step (fun K hK => ?_); rw [if_pos (by rfl)]; apply quiet_val; (intro wq hwq; go_simp; (try go_ints); exact rfl); refine hK _ ?_; clear hK K; simp only [Act.put, List.setIfInBounds_toArray, List.set_cons_zero, List.set_cons_succ])
  (refine wpQuiet_step (fun K hK => ?_); rw [if_pos (by rfl)]; apply quiet_val; (intro wq hwq; go_simp; (try go_ints); exact rfl); refine hK _ ?_; clear hK K; simp only [Act.put, List.setIfInBounds_toArray, List.set_cons_zero, List.set_cons_succ])
  (refine wpQuiet_step (fun K hK => ?_); rw [if_pos (by rfl)]; apply quiet_val; (intro wq hwq; go_simp; (try go_ints); exact rfl); refine hK _ ?_; clear hK K; simp only [Act.put, List.setIfInBounds_toArray, List.set_cons_zero, List.set_cons_succ])
  (refine wpQuiet_step (fun K hK => ?_); rw [if_pos (by rfl)]; apply quiet_val; (intro wq hwq; go_simp; (try go_ints); exact rfl); refine hK _ ?_; clear hK K; simp only [Act.put, List.setIfInBounds_toArray, List.set_cons_zero, List.set_cons_succ])
  refine wpQuiet_nil ?_; intro wn hwn
  have B5 := Lib.hid (hwn.out B4.out)
  have u0 := laterRow hwn t0
  have u2 := laterRow hwn t2
  have u4 := laterRow hwn t4
  clear hwn c0
  go_wp2
  refine wp_region_calm (Since _) (by kernel_rfl) (by kernel_rfl) (Since.drew _) ?_
  (refine wpQuiet_step (fun K hK => ?_); rw [if_pos (by rfl)]; apply quiet_val; (intro wq hwq; go_simp; (try go_ints); exact rfl); refine hK _ ?_; clear hK K; simp only [Act.put, List.setIfInBounds_toArray, List.set_cons_zero, List.set_cons_succ])
  (refine wpQuiet_step (fun K hK => ?_); rw [if_pos (by rfl)]; apply quiet_val; (intro wq hwq; go_simp; (try go_ints); exact rfl); refine hK _ ?_; clear hK K; simp only [Act.put, List.setIfInBounds_toArray, List.set_cons_zero, List.set_cons_succ])
  (refine wpQuiet_step (fun K hK => ?_); rw [if_pos (by rfl)]; apply quiet_val; (intro wq hwq; go_simp; (try go_ints); exact rfl); refine hK _ ?_; clear hK K; simp only [Act.put, List.setIfInBounds_toArray, List.set_cons_zero, List.set_cons_succ])
  (refine wpQuiet_step (fun K hK => ?_); rw [if_pos (by rfl)]; apply quiet_rowload (cs := bv L) Tryd.underlying25 rfl isz25; exact rfl; exact rfl; exact fun w h => laterRow h u2; exact (by simp [go_sem, *]); refine hK _ ?_; clear hK K; simp only [Act.put, List.setIfInBounds_toArray, List.set_cons_zero, List.set_cons_succ])
  (refine wpQuiet_step (fun K hK => ?_); rw [if_pos (by rfl)]; apply quiet_val; (intro wq hwq; go_simp; (try go_ints); exact rfl); refine hK _ ?_; clear hK K; simp only [Act.put, List.setIfInBounds_toArray, List.set_cons_zero, List.set_cons_succ])
  (refine wpQuiet_step (fun K hK => ?_); rw [if_pos (by rfl)]; apply quiet_call; (intro wq; go_simp; exact ⟨rfl, rfl⟩); (intro wq hwq; exact Since.call hwq (HRl.out _)); refine hK _ ?_; clear hK K; simp only [Act.put, List.setIfInBounds_toArray, List.set_cons_zero, List.set_cons_succ])
  (refine wpQuiet_step (fun K hK => ?_); rw [if_pos (by rfl)]; apply quiet_val; (intro wq hwq; go_simp; (try go_ints); exact rfl); refine hK _ ?_; clear hK K; simp only [Act.put, List.setIfInBounds_toArray, List.set_cons_zero, List.set_cons_succ])
  (refine wpQuiet_step (fun K hK => ?_); rw [if_pos (by rfl)]; apply quiet_val; (intro wq hwq; go_simp; (try go_ints); exact rfl); refine hK _ ?_; clear hK K; simp only [Act.put, List.setIfInBounds_toArray, List.set_cons_zero, List.set_cons_succ])
  refine wpQuiet_nil ?_; intro wn hwn
  have B6 := Lib.hid (hwn.out B5.out)
  have v0 := laterRow hwn u0
  have v2 := laterRow hwn u2
  have v4 := laterRow hwn u4
  clear hwn
  go_wp2_with (first
    | (apply wpList_rowload Tryd.underlying47 rfl isz47; exact rfl; exact rfl; exact rfl; (with_reducible exact v0); exact (by simp [go_sem, *]); simp only [Act.put, List.setIfInBounds_toArray, List.set_cons_zero, List.set_cons_succ])
    | (go_at_call 25; refine (HRt.out _).mono ?_; rintro e w7 ⟨rfl, hb7⟩; have x4 := row_call hb7 v4; have B7 := Lib.hid (below_call B6.out hb7))
    | (go_at_call 14; refine (HK.out _ (HG.out.since B7.out)).mono ?_; rintro e w8 ⟨rfl, hb8⟩; have y4 := row_call hb8 x4)
    | (apply wpList_rowload Tryd.underlying25 rfl isz25; exact rfl; exact rfl; exact rfl; (with_reducible exact y4); exact (by simp [go_sem, *]); simp only [Act.put, List.setIfInBounds_toArray, List.set_cons_zero, List.set_cons_succ]))
  go_ret
  exact ⟨rfl, below_call B7.out hb8⟩

set_option maxHeartbeats 2000000 in
set_option maxRecDepth 100000 in
theorem nodes_pos_no64 (P : List Int) (hP : P.length = 16) (hPb : byt P) (m n : Int) (a : List Int) (ha : a.length = 16) (hB : byt a) (hw : 0 ≤ rnodeS a) (hnd : nodeS a = (rnodeS a, 0)) (hn : ¬ n < 0) (hn2 : ¬ 63 < n) (hr : rightB P m = true) (hm : m ≠ 64) (w : World) (hg : Glob w) :
    Calls Tryd.prog 6 #[.int .i64 n, .agg (pv P m), .agg (bv a)] w fun e w' => e = .returned (.bool true) ∧ Below w.heap.size w w' := by
  have r0 := row2a w (pv P m) 47 (.cells (bv a) 22)
  have r1 := row2b w (bv a) 22 (.cells (pv P m) 47)
  have HK := Lib.hid (fun w hg => known_any w hg)
  have HG := Lib.hid hg
  have HNd := Lib.hid fun w => Node_any a ha hB w
  have HRn := Lib.hid fun w => rnode_any a ha w
  have HMc := Lib.hid fun w => multicast_any a ha w
  rw [hnd] at HNd
  have ez : ∀ W, (Op.equalIn 10000 25 (.agg (bv z16)) (.agg (bv z16))).run Tryd.prog W = .ok true W := fun W => by rw [eq25 W 9998 _ _ rfl rfl, decide_eq_true rfl]
  have hin : 0 ≤ n ∧ n < 64 := by omega
  have HL := Lib.hid fun w => link_any n w
  have hlen := linkS_length n
  have HRl := Lib.hid fun w => rlink_any n hin.1 (by omega) w
  rw [← rlink_eq hin] at HRl
  rw [linkS_ok hin] at HL
  have HGl := Lib.hid fun w => global_any P hP m n w
  rw [globalS_no (fun h => hm h.2.2)] at HGl
  simp only at HGl
  generalize (linkS n).1 = L at *
  have eL : ∀ W, (Op.equalIn 10000 25 (.agg (bv L)) (.agg (bv L))).run Tryd.prog W = .ok true W := fun W => by rw [eq25 W 9998 _ _ hlen hlen, decide_eq_true rfl]
  have HRt := Lib.hid fun w => rright_yes hP hPb (n := m) (by rw [right_eq hP hPb]; exact hr) w
  clear hr
  clear hnd hg
  generalize rnodeS a = V at *
  have HAb := Lib.hid hB
  have hd1 : decide (V < 0) = false := decide_eq_false (by omega)
  have hd2 : decide (0 ≤ V) = true := decide_eq_true hw
  clear hB hPb
  go_enter Tryd.func6, Tryd.ntmps6
  go_wp2_with (first
    | (go_at_call 19; refine (HL.out _).mono ?_; rintro e w1 ⟨rfl, hb1⟩; have p0 := row_call hb1 r0; have p1 := row_call hb1 r1; have B1 := Lib.hid (below_call (below2 w (.cells (pv P m) 47) (.cells (bv a) 22)) hb1); have c16 := (cell_row (row_alloc p0 (.cells (bv L) 25)) 16).trans (pv_bits P m hP))
    | (apply wpList_rowstore (vs := bv L) isz25; exact rfl; exact rfl; exact rfl; exact rfl; (with_reducible exact row1 w1 _ _); exact (by simp [go_sem, *]); exact (by simp [go_sem, *]); exact (by simp [go_sem, *]); try simp only [Act.put, List.setIfInBounds_toArray, List.set_cons_zero, List.set_cons_succ]; try simp (disch := simp [go_sem]) only [setRow_alloc_at, setRow_alloc_past, setRow_drew])
    | (apply wpList_subload (cs := bv P) Tryd.underlying22 rfl isz22; exact rfl; exact rfl; exact rfl; (with_reducible exact row_alloc p0 _); exact pv_addr P m; exact (by simp [go_sem, *]); simp only [Act.put, List.setIfInBounds_toArray, List.set_cons_zero, List.set_cons_succ])
    | (apply wpList_build40; exact rfl; exact rfl; exact rfl; exact rfl; exact (by simp [go_sem, *]); simp only [Act.put, List.setIfInBounds_toArray, List.set_cons_zero, List.set_cons_succ])
    | (apply wpList_rowstore (vs := pv P m) isz40; exact rfl; exact rfl; exact rfl; exact rfl; (with_reducible exact row2b w1 _ _ _); exact (by simp [go_sem, *]); exact (by simp [go_sem, *]); exact (by simp [go_sem, *]); try simp only [Act.put, List.setIfInBounds_toArray, List.set_cons_zero, List.set_cons_succ]; try simp (disch := simp [go_sem]) only [setRow_alloc_at, setRow_alloc_past, setRow_drew])
    | (apply wpList_rowload Tryd.underlying40 rfl isz40; exact rfl; exact rfl; exact rfl; (with_reducible exact row2b w1 _ _ _); exact (by simp [go_sem, *]); simp only [Act.put, List.setIfInBounds_toArray, List.set_cons_zero, List.set_cons_succ])
    | (go_at_call 20; refine (HGl.out _).mono ?_; rintro e w2 ⟨rfl, hb2⟩; have q0 := row_call hb2 (row_alloc (row_alloc p0 (.cells (bv L) 25)) (.cells (pv P m) 40)); have q1 := row_call hb2 (row_alloc (row_alloc p1 (.cells (bv L) 25)) (.cells (pv P m) 40)); have q2 := row_call hb2 (row2a w1 (bv L) 25 (.cells (pv P m) 40)); have B2 := Lib.hid (below_call (below_new (below_new B1.out (.cells (bv L) 25)) (.cells (pv P m) 40)) hb2))
    | (apply wpList_rowstore (vs := bv z16) isz25; exact rfl; exact rfl; exact rfl; exact rfl; (with_reducible exact row1 w2 _ _); exact (by simp [go_sem, *]); exact (by simp [go_sem, *]); exact (by simp [go_sem, *]); try simp only [Act.put, List.setIfInBounds_toArray, List.set_cons_zero, List.set_cons_succ]; try simp (disch := simp [go_sem]) only [setRow_alloc_at, setRow_alloc_past, setRow_drew])
    | (apply wpList_rowload Tryd.underlying22 rfl isz22; exact rfl; exact rfl; exact rfl; (with_reducible exact row_alloc q1 _); exact (by simp [go_sem, *]); simp only [Act.put, List.setIfInBounds_toArray, List.set_cons_zero, List.set_cons_succ])
    | (go_at_call 21; refine (HNd.out _).mono ?_; rintro e w3 ⟨rfl, hb3⟩; have s0 := row_call hb3 (row_alloc q0 (.cells (bv z16) 25)); have s1 := row_call hb3 (row_alloc q1 (.cells (bv z16) 25)); have s2 := row_call hb3 (row_alloc q2 (.cells (bv z16) 25)); have s4 := row_call hb3 (row1 w2 (bv z16) 25); have B3 := Lib.hid (below_call (below_new B2.out (.cells (bv z16) 25)) hb3))
    | (apply wpList_rowload Tryd.underlying22 rfl isz22; exact rfl; exact rfl; exact rfl; (with_reducible exact s1); exact (by simp [go_sem, *]); simp only [Act.put, List.setIfInBounds_toArray, List.set_cons_zero, List.set_cons_succ])
    | (go_at_call 22; refine (HRn.out _).mono ?_; rintro e w4 ⟨rfl, hb4⟩; have t0 := row_call hb4 s0; have t1 := row_call hb4 s1; have t2 := row_call hb4 s2; have t4 := row_call hb4 s4; have B4 := Lib.hid (below_call B3.out hb4)))
  have c0 : ∀ w', Since w4 w' → w'.cell? ⟨w.heap.size + 1, 0, none⟩ = some (.int .u8 (nth a 0)) := fun w' h => later h t1 (by rw [bv_get, if_pos (by rw [ha]; decide)])
  refine wp_region_calm (Since _) (by kernel_rfl) (by kernel_rfl) (Since.drew _) ?_
  (refine wpQuiet_step (fun K hK => ?_); rw [if_pos (by rfl)]; apply quiet_val; (intro wq hwq; go_simp; (try go_ints); exact rfl); refine hK _ ?_; clear hK K; simp only [Act.put, List.setIfInBounds_toArray, List.set_cons_zero, List.set_cons_succ])
  (refine wpQuiet_step (fun K hK => ?_); rw [if_pos (by rfl)]; apply quiet_val; (intro wq hwq; go_simp; (try go_ints); exact rfl); refine hK _ ?_; clear hK K; simp only [Act.put, List.setIfInBounds_toArray, List.set_cons_zero, List.set_cons_succ])
  (refine wpQuiet_step (fun K hK => ?_); rw [if_pos (by rfl)]; apply quiet_val; (intro wq hwq; go_simp; (try go_ints); exact rfl); refine hK _ ?_; clear hK K; simp only [Act.put, List.setIfInBounds_toArray, List.set_cons_zero, List.set_cons_succ])
  (refine wpQuiet_skip (by rfl) ?_; simp only [Act.put, List.setIfInBounds_toArray, List.set_cons_zero, List.set_cons_succ])
  (refine wpQuiet_skip (by rfl) ?_; simp only [Act.put, List.setIfInBounds_toArray, List.set_cons_zero, List.set_cons_succ])
  (refine wpQuiet_step (fun K hK => ?_); rw [if_pos (by rfl)]; apply quiet_val; (intro wq hwq; go_simp; (try go_ints); exact rfl); refine hK _ ?_; clear hK K; simp only [Act.put, List.setIfInBounds_toArray, List.set_cons_zero, List.set_cons_succ])
  (refine wpQuiet_step (fun K hK => ?_); rw [if_pos (by rfl)]; apply quiet_val; (intro wq hwq; go_simp; (try go_ints); exact rfl); refine hK _ ?_; clear hK K; simp only [Act.put, List.setIfInBounds_toArray, List.set_cons_zero, List.set_cons_succ])
  (refine wpQuiet_step (fun K hK => ?_); rw [if_pos (by rfl)]; apply quiet_val; (intro wq hwq; go_simp; (try go_ints); exact rfl); refine hK _ ?_; clear hK K; simp only [Act.put, List.setIfInBounds_toArray, List.set_cons_zero, List.set_cons_succ])
  (refine wpQuiet_step (fun K hK => ?_); rw [if_pos (by rfl)]; apply quiet_val; (intro wq hwq; go_simp; (try go_ints); exact rfl); refine hK _ ?_; clear hK K; simp only [Act.put, List.setIfInBounds_toArray, List.set_cons_zero, List.set_cons_succ])
  (refine wpQuiet_step (fun K hK => ?_); rw [if_pos (by rfl)]; apply quiet_val; (intro wq hwq; go_simp; (try go_ints); exact rfl); refine hK _ ?_; clear hK K; simp only [Act.put, List.setIfInBounds_toArray, List.set_cons_zero, List.set_cons_succ])
  (refine wpQuiet_step (fun K hK => ?_); rw [if_pos (by rfl)]; apply quiet_val; (intro wq hwq; go_simp; (try go_ints); exact rfl); refine hK _ ?_; clear hK K; simp only [Act.put, List.setIfInBounds_toArray, List.set_cons_zero, List.set_cons_succ])
  (refine wpQuiet_step (fun K hK => ?_); rw [if_pos (by rfl)]; apply quiet_val; (intro wq hwq; go_simp; (try go_ints); exact rfl); refine hK _ ?_; clear hK K; simp only [Act.put, List.setIfInBounds_toArray, List.set_cons_zero, List.set_cons_succ])
  (refine wpQuiet_step (fun K hK => ?_); rw [if_pos (by rfl)]; apply quiet_val; (intro wq hwq; go_simp; (try go_ints); exact rfl); refine hK _ ?_; clear hK K; simp only [Act.put, List.setIfInBounds_toArray, List.set_cons_zero, List.set_cons_succ])
  (refine wpQuiet_step (fun K hK => ?_); rw [if_pos (by rfl)]; apply quiet_val; (intro wq hwq; go_simp; (try go_ints); exact rfl); refine hK _ ?_; clear hK K; simp only [Act.put, List.setIfInBounds_toArray, List.set_cons_zero, List.set_cons_succ])
  (refine wpQuiet_step (fun K hK => ?_); rw [if_pos (by rfl)]; apply quiet_val; (intro wq hwq; go_simp; (try go_ints); exact rfl); refine hK _ ?_; clear hK K; simp only [Act.put, List.setIfInBounds_toArray, List.set_cons_zero, List.set_cons_succ])
  (refine wpQuiet_step (fun K hK => ?_); rw [if_pos (by rfl)]; apply quiet_val; (intro wq hwq; go_simp; (try go_ints); exact rfl); refine hK _ ?_; clear hK K; simp only [Act.put, List.setIfInBounds_toArray, List.set_cons_zero, List.set_cons_succ])
  (refine wpQuiet_step (fun K hK => ?_); rw [if_pos (by rfl)]; apply quiet_val; (intro wq hwq; go_simp; (try go_ints); exact rfl); refine hK _ ?_; clear hK K; simp only [Act.put, List.setIfInBounds_toArray, List.set_cons_zero, List.set_cons_succ])
  (refine wpQuiet_step (fun K hK => ?_); rw [if_pos (by rfl)]; apply quiet_val; (intro wq hwq; go_simp; (try go_ints); exact rfl); refine hK _ ?_; clear hK K; simp only [Act.put, List.setIfInBounds_toArray, List.set_cons_zero, List.set_cons_succ])
  (refine wpQuiet_step (fun K hK => ?_); rw [if_pos (by rfl)]; apply quiet_val; (intro wq hwq; go_simp; (try go_ints); exact rfl); refine hK _ ?_; clear hK K; simp only [Act.put, List.setIfInBounds_toArray, List.set_cons_zero, List.set_cons_succ])
  (refine wpQuiet_step (fun K hK => ?_); rw [if_pos (by rfl)]; apply quiet_val; (intro wq hwq; go_simp; (try go_ints); exact rfl); refine hK _ ?_; clear hK K; simp only [Act.put, List.setIfInBounds_toArray, List.set_cons_zero, List.set_cons_succ])
  (refine wpQuiet_step (fun K hK => ?_); rw [if_pos (by rfl)]; apply quiet_rowload (cs := bv a) Tryd.underlying22 rfl isz22; exact rfl; exact rfl; exact fun w h => laterRow h t1; exact (by simp [go_sem, *]); refine hK _ ?_; clear hK K; simp only [Act.put, List.setIfInBounds_toArray, List.set_cons_zero, List.set_cons_succ])
  (refine wpQuiet_step (fun K hK => ?_); rw [if_pos (by rfl)]; apply quiet_call; (intro wq; go_simp; exact ⟨rfl, rfl⟩); (intro wq hwq; exact Since.call hwq (HMc.out _)); refine hK _ ?_; clear hK K; simp only [Act.put, List.setIfInBounds_toArray, List.set_cons_zero, List.set_cons_succ])
  (refine wpQuiet_step (fun K hK => ?_); rw [if_pos (by rfl)]; apply quiet_val; (intro wq hwq; go_simp; (try go_ints); exact rfl); refine hK _ ?_; clear hK K; simp only [Act.put, List.setIfInBounds_toArray, List.set_cons_zero, List.set_cons_succ])
  (refine wpQuiet_step (fun K hK => ?_); rw [if_pos (by rfl)]; apply quiet_val; (intro wq hwq; go_simp; (try go_ints); exact rfl); refine hK _ ?_; clear hK K; simp only [Act.put, List.setIfInBounds_toArray, List.set_cons_zero, List.set_cons_succ])
  (refine wpQuiet_step (fun K hK => ?_); rw [if_pos (by rfl)]; apply quiet_val; (intro wq hwq; go_simp; (try go_ints); exact rfl); refine hK _ ?_; clear hK K; simp only [Act.put, List.setIfInBounds_toArray, List.set_cons_zero, List.set_cons_succ])
  (refine wpQuiet_step (fun K hK => ?_); rw [if_pos (by rfl)]; apply quiet_val; (intro wq hwq; go_simp; (try go_ints); exact rfl); refine hK _ ?_; clear hK K; simp only [Act.put, List.setIfInBounds_toArray, List.set_cons_zero, List.set_cons_succ])
  (refine wpQuiet_step (fun K hK => ?_); rw [if_pos (by rfl)]; apply quiet_val; (intro wq hwq; go_simp; (try go_ints); exact rfl); refine hK _ ?_; clear hK K; simp only [Act.put, List.setIfInBounds_toArray, List.set_cons_zero, List.set_cons_succ])
  refine wpQuiet_nil ?_; intro wn hwn
  have B5 := Lib.hid (hwn.out B4.out)
  have u0 := laterRow hwn t0
  have u2 := laterRow hwn t2
  have u4 := laterRow hwn t4
  clear hwn c0
  go_wp2
  refine wp_region_calm (Since _) (by kernel_rfl) (by kernel_rfl) (Since.drew _) ?_
  (refine wpQuiet_step (fun K hK => ?_); rw [if_pos (by rfl)]; apply quiet_val; (intro wq hwq; go_simp; (try go_ints); exact rfl); refine hK _ ?_; clear hK K; simp only [Act.put, List.setIfInBounds_toArray, List.set_cons_zero, List.set_cons_succ])
  (refine wpQuiet_step (fun K hK => ?_); rw [if_pos (by rfl)]; apply quiet_val; (intro wq hwq; go_simp; (try go_ints); exact rfl); refine hK _ ?_; clear hK K; simp only [Act.put, List.setIfInBounds_toArray, List.set_cons_zero, List.set_cons_succ])
  (refine wpQuiet_step (fun K hK => ?_); rw [if_pos (by rfl)]; apply quiet_val; (intro wq hwq; go_simp; (try go_ints); exact rfl); refine hK _ ?_; clear hK K; simp only [Act.put, List.setIfInBounds_toArray, List.set_cons_zero, List.set_cons_succ])
  (refine wpQuiet_step (fun K hK => ?_); rw [if_pos (by rfl)]; apply quiet_rowload (cs := bv L) Tryd.underlying25 rfl isz25; exact rfl; exact rfl; exact fun w h => laterRow h u2; exact (by simp [go_sem, *]); refine hK _ ?_; clear hK K; simp only [Act.put, List.setIfInBounds_toArray, List.set_cons_zero, List.set_cons_succ])
  (refine wpQuiet_step (fun K hK => ?_); rw [if_pos (by rfl)]; apply quiet_val; (intro wq hwq; go_simp; (try go_ints); exact rfl); refine hK _ ?_; clear hK K; simp only [Act.put, List.setIfInBounds_toArray, List.set_cons_zero, List.set_cons_succ])
  (refine wpQuiet_step (fun K hK => ?_); rw [if_pos (by rfl)]; apply quiet_call; (intro wq; go_simp; exact ⟨rfl, rfl⟩); (intro wq hwq; exact Since.call hwq (HRl.out _)); refine hK _ ?_; clear hK K; simp only [Act.put, List.setIfInBounds_toArray, List.set_cons_zero, List.set_cons_succ])
  (refine wpQuiet_step (fun K hK => ?_); rw [if_pos (by rfl)]; apply quiet_val; (intro wq hwq; go_simp; (try go_ints); exact rfl); refine hK _ ?_; clear hK K; simp only [Act.put, List.setIfInBounds_toArray, List.set_cons_zero, List.set_cons_succ])
  (refine wpQuiet_step (fun K hK => ?_); rw [if_pos (by rfl)]; apply quiet_val; (intro wq hwq; go_simp; (try go_ints); exact rfl); refine hK _ ?_; clear hK K; simp only [Act.put, List.setIfInBounds_toArray, List.set_cons_zero, List.set_cons_succ])
  refine wpQuiet_nil ?_; intro wn hwn
  have B6 := Lib.hid (hwn.out B5.out)
  have v0 := laterRow hwn u0
  have v2 := laterRow hwn u2
  have v4 := laterRow hwn u4
  clear hwn
  have hm' : (m == 64) = false := beq_eq_false_iff_ne.2 hm
  go_wp2_with (first
    | (apply wpList_rowload Tryd.underlying47 rfl isz47; exact rfl; exact rfl; exact rfl; (with_reducible exact v0); exact (by simp [go_sem, *]); simp only [Act.put, List.setIfInBounds_toArray, List.set_cons_zero, List.set_cons_succ])
    | (go_at_call 25; refine (HRt.out _).mono ?_; rintro e w7 ⟨rfl, hb7⟩; have x4 := row_call hb7 v4; have B7 := Lib.hid (below_call B6.out hb7); have c16' := (cell_row (row_call hb7 v0) 16).trans (pv_bits P m hP))
    | (go_at_call 14; refine (HK.out _ (HG.out.since B7.out)).mono ?_; rintro e w8 ⟨rfl, hb8⟩; have y4 := row_call hb8 x4)
    | (apply wpList_rowload Tryd.underlying25 rfl isz25; exact rfl; exact rfl; exact rfl; (with_reducible exact y4); exact (by simp [go_sem, *]); simp only [Act.put, List.setIfInBounds_toArray, List.set_cons_zero, List.set_cons_succ]))
  go_ret
  exact ⟨rfl, below_call B7.out hb8⟩

set_option maxHeartbeats 2000000 in
set_option maxRecDepth 100000 in
theorem nodes_pos_all (P : List Int) (hP : P.length = 16) (hPb : byt P) (n : Int) (a : List Int) (ha : a.length = 16) (hB : byt a) (hw : 0 ≤ rnodeS a) (hnd : nodeS a = (rnodeS a, 0)) (hn : ¬ n < 0) (hn2 : ¬ 63 < n) (hr : rightB P 64 = true) (w : World) (hg : Glob w) :
    Calls Tryd.prog 6 #[.int .i64 n, .agg (pv P 64), .agg (bv a)] w fun e w' => e = .returned (.bool true) ∧ Below w.heap.size w w' := by
  have r0 := row2a w (pv P 64) 47 (.cells (bv a) 22)
  have r1 := row2b w (bv a) 22 (.cells (pv P 64) 47)
  have HK := Lib.hid (fun w hg => known_any w hg)
  have HG := Lib.hid hg
  have HNd := Lib.hid fun w => Node_any a ha hB w
  have HRn := Lib.hid fun w => rnode_any a ha w
  have HMc := Lib.hid fun w => multicast_any a ha w
  rw [hnd] at HNd
  have ez : ∀ W, (Op.equalIn 10000 25 (.agg (bv z16)) (.agg (bv z16))).run Tryd.prog W = .ok true W := fun W => by rw [eq25 W 9998 _ _ rfl rfl, decide_eq_true rfl]
  have hin : 0 ≤ n ∧ n < 64 := by omega
  have HL := Lib.hid fun w => link_any n w
  have hlen := linkS_length n
  have HRl := Lib.hid fun w => rlink_any n hin.1 (by omega) w
  rw [← rlink_eq hin] at HRl
  rw [linkS_ok hin] at HL
  have HGl := Lib.hid fun w => global_any P hP 64 n w
  rw [globalS_yes ⟨hin, hr, rfl⟩] at HGl
  simp only at HGl
  have hGl : (P.take 8 ++ (linkS n).1.drop 8).length = 16 := by simp [hP, hlen]
  have hG1 : ∀ k, k < 8 → nth (P.take 8 ++ (linkS n).1.drop 8) k = nth P k := fun k hk => by
    simp only [nth, List.getD]
    rw [List.getElem?_append_left (by simp [hP]; omega), List.getElem?_take_of_lt hk]
  have hG2 : ∀ k, 8 ≤ k → k < 16 → nth (P.take 8 ++ (linkS n).1.drop 8) k = nth (linkS n).1 k := fun k hk hk2 => by
    simp only [nth, List.getD, List.getElem?_append]
    rw [if_neg (by simp [hP]; omega)]
    simp [hP, show 8 + (k - 8) = k by omega]
  generalize P.take 8 ++ (linkS n).1.drop 8 = Gv at *
  generalize (linkS n).1 = L at *
  have eL : ∀ W, (Op.equalIn 10000 25 (.agg (bv L)) (.agg (bv L))).run Tryd.prog W = .ok true W := fun W => by rw [eq25 W 9998 _ _ hlen hlen, decide_eq_true rfl]
  have HRt := Lib.hid fun w => rright_yes hP hPb (n := 64) (by rw [right_eq hP hPb]; exact hr) w
  clear hr
  clear hnd hg
  generalize rnodeS a = V at *
  have HAb := Lib.hid hB
  have hd1 : decide (V < 0) = false := decide_eq_false (by omega)
  have hd2 : decide (0 ≤ V) = true := decide_eq_true hw
  clear hB hPb
  go_enter Tryd.func6, Tryd.ntmps6
  go_wp2_with (first
    | (go_at_call 19; refine (HL.out _).mono ?_; rintro e w1 ⟨rfl, hb1⟩; have p0 := row_call hb1 r0; have p1 := row_call hb1 r1; have B1 := Lib.hid (below_call (below2 w (.cells (pv P 64) 47) (.cells (bv a) 22)) hb1); have c16 := (cell_row (row_alloc p0 (.cells (bv L) 25)) 16).trans (pv_bits P 64 hP))
    | (apply wpList_rowstore (vs := bv L) isz25; exact rfl; exact rfl; exact rfl; exact rfl; (with_reducible exact row1 w1 _ _); exact (by simp [go_sem, *]); exact (by simp [go_sem, *]); exact (by simp [go_sem, *]); try simp only [Act.put, List.setIfInBounds_toArray, List.set_cons_zero, List.set_cons_succ]; try simp (disch := simp [go_sem]) only [setRow_alloc_at, setRow_alloc_past, setRow_drew])
    | (apply wpList_subload (cs := bv P) Tryd.underlying22 rfl isz22; exact rfl; exact rfl; exact rfl; (with_reducible exact row_alloc p0 _); exact pv_addr P 64; exact (by simp [go_sem, *]); simp only [Act.put, List.setIfInBounds_toArray, List.set_cons_zero, List.set_cons_succ])
    | (apply wpList_build40; exact rfl; exact rfl; exact rfl; exact rfl; exact (by simp [go_sem, *]); simp only [Act.put, List.setIfInBounds_toArray, List.set_cons_zero, List.set_cons_succ])
    | (apply wpList_rowstore (vs := pv P 64) isz40; exact rfl; exact rfl; exact rfl; exact rfl; (with_reducible exact row2b w1 _ _ _); exact (by simp [go_sem, *]); exact (by simp [go_sem, *]); exact (by simp [go_sem, *]); try simp only [Act.put, List.setIfInBounds_toArray, List.set_cons_zero, List.set_cons_succ]; try simp (disch := simp [go_sem]) only [setRow_alloc_at, setRow_alloc_past, setRow_drew])
    | (apply wpList_rowload Tryd.underlying40 rfl isz40; exact rfl; exact rfl; exact rfl; (with_reducible exact row2b w1 _ _ _); exact (by simp [go_sem, *]); simp only [Act.put, List.setIfInBounds_toArray, List.set_cons_zero, List.set_cons_succ])
    | (go_at_call 20; refine (HGl.out _).mono ?_; rintro e w2 ⟨rfl, hb2⟩; have q0 := row_call hb2 (row_alloc (row_alloc p0 (.cells (bv L) 25)) (.cells (pv P 64) 40)); have q1 := row_call hb2 (row_alloc (row_alloc p1 (.cells (bv L) 25)) (.cells (pv P 64) 40)); have q2 := row_call hb2 (row2a w1 (bv L) 25 (.cells (pv P 64) 40)); have B2 := Lib.hid (below_call (below_new (below_new B1.out (.cells (bv L) 25)) (.cells (pv P 64) 40)) hb2))
    | (apply wpList_rowstore (vs := bv Gv) isz25; exact rfl; exact rfl; exact rfl; exact rfl; (with_reducible exact row1 w2 _ _); exact (by simp [go_sem, *]); exact (by simp [go_sem, *]); exact (by simp [go_sem, *]); try simp only [Act.put, List.setIfInBounds_toArray, List.set_cons_zero, List.set_cons_succ]; try simp (disch := simp [go_sem]) only [setRow_alloc_at, setRow_alloc_past, setRow_drew])
    | (apply wpList_rowload Tryd.underlying22 rfl isz22; exact rfl; exact rfl; exact rfl; (with_reducible exact row_alloc q1 _); exact (by simp [go_sem, *]); simp only [Act.put, List.setIfInBounds_toArray, List.set_cons_zero, List.set_cons_succ])
    | (go_at_call 21; refine (HNd.out _).mono ?_; rintro e w3 ⟨rfl, hb3⟩; have s0 := row_call hb3 (row_alloc q0 (.cells (bv Gv) 25)); have s1 := row_call hb3 (row_alloc q1 (.cells (bv Gv) 25)); have s2 := row_call hb3 (row_alloc q2 (.cells (bv Gv) 25)); have s4 := row_call hb3 (row1 w2 (bv Gv) 25); have B3 := Lib.hid (below_call (below_new B2.out (.cells (bv Gv) 25)) hb3))
    | (apply wpList_rowload Tryd.underlying22 rfl isz22; exact rfl; exact rfl; exact rfl; (with_reducible exact s1); exact (by simp [go_sem, *]); simp only [Act.put, List.setIfInBounds_toArray, List.set_cons_zero, List.set_cons_succ])
    | (go_at_call 22; refine (HRn.out _).mono ?_; rintro e w4 ⟨rfl, hb4⟩; have t0 := row_call hb4 s0; have t1 := row_call hb4 s1; have t2 := row_call hb4 s2; have t4 := row_call hb4 s4; have B4 := Lib.hid (below_call B3.out hb4)))
  have c0 : ∀ w', Since w4 w' → w'.cell? ⟨w.heap.size + 1, 0, none⟩ = some (.int .u8 (nth a 0)) := fun w' h => later h t1 (by rw [bv_get, if_pos (by rw [ha]; decide)])
  refine wp_region_calm (Since _) (by kernel_rfl) (by kernel_rfl) (Since.drew _) ?_
  (refine wpQuiet_step (fun K hK => ?_); rw [if_pos (by rfl)]; apply quiet_val; (intro wq hwq; go_simp; (try go_ints); exact rfl); refine hK _ ?_; clear hK K; simp only [Act.put, List.setIfInBounds_toArray, List.set_cons_zero, List.set_cons_succ])
  (refine wpQuiet_step (fun K hK => ?_); rw [if_pos (by rfl)]; apply quiet_val; (intro wq hwq; go_simp; (try go_ints); exact rfl); refine hK _ ?_; clear hK K; simp only [Act.put, List.setIfInBounds_toArray, List.set_cons_zero, List.set_cons_succ])
  (refine wpQuiet_step (fun K hK => ?_); rw [if_pos (by rfl)]; apply quiet_val; (intro wq hwq; go_simp; (try go_ints); exact rfl); refine hK _ ?_; clear hK K; simp only [Act.put, List.setIfInBounds_toArray, List.set_cons_zero, List.set_cons_succ])
  (refine wpQuiet_skip (by rfl) ?_; simp only [Act.put, List.setIfInBounds_toArray, List.set_cons_zero, List.set_cons_succ])
  (refine wpQuiet_skip (by rfl) ?_; simp only [Act.put, List.setIfInBounds_toArray, List.set_cons_zero, List.set_cons_succ])
  (refine wpQuiet_step (fun K hK => ?_); rw [if_pos (by rfl)]; apply quiet_val; (intro wq hwq; go_simp; (try go_ints); exact rfl); refine hK _ ?_; clear hK K; simp only [Act.put, List.setIfInBounds_toArray, List.set_cons_zero, List.set_cons_succ])
  (refine wpQuiet_step (fun K hK => ?_); rw [if_pos (by rfl)]; apply quiet_val; (intro wq hwq; go_simp; (try go_ints); exact rfl); refine hK _ ?_; clear hK K; simp only [Act.put, List.setIfInBounds_toArray, List.set_cons_zero, List.set_cons_succ])
  (refine wpQuiet_step (fun K hK => ?_); rw [if_pos (by rfl)]; apply quiet_val; (intro wq hwq; go_simp; (try go_ints); exact rfl); refine hK _ ?_; clear hK K; simp only [Act.put, List.setIfInBounds_toArray, List.set_cons_zero, List.set_cons_succ])
  (refine wpQuiet_step (fun K hK => ?_); rw [if_pos (by rfl)]; apply quiet_val; (intro wq hwq; go_simp; (try go_ints); exact rfl); refine hK _ ?_; clear hK K; simp only [Act.put, List.setIfInBounds_toArray, List.set_cons_zero, List.set_cons_succ])
  (refine wpQuiet_step (fun K hK => ?_); rw [if_pos (by rfl)]; apply quiet_val; (intro wq hwq; go_simp; (try go_ints); exact rfl); refine hK _ ?_; clear hK K; simp only [Act.put, List.setIfInBounds_toArray, List.set_cons_zero, List.set_cons_succ])
  (refine wpQuiet_step (fun K hK => ?_); rw [if_pos (by rfl)]; apply quiet_val; (intro wq hwq; go_simp; (try go_ints); exact rfl); refine hK _ ?_; clear hK K; simp only [Act.put, List.setIfInBounds_toArray, List.set_cons_zero, List.set_cons_succ])
  (refine wpQuiet_step (fun K hK => ?_); rw [if_pos (by rfl)]; apply quiet_val; (intro wq hwq; go_simp; (try go_ints); exact rfl); refine hK _ ?_; clear hK K; simp only [Act.put, List.setIfInBounds_toArray, List.set_cons_zero, List.set_cons_succ])
  (refine wpQuiet_step (fun K hK => ?_); rw [if_pos (by rfl)]; apply quiet_val; (intro wq hwq; go_simp; (try go_ints); exact rfl); refine hK _ ?_; clear hK K; simp only [Act.put, List.setIfInBounds_toArray, List.set_cons_zero, List.set_cons_succ])
  (refine wpQuiet_step (fun K hK => ?_); rw [if_pos (by rfl)]; apply quiet_val; (intro wq hwq; go_simp; (try go_ints); exact rfl); refine hK _ ?_; clear hK K; simp only [Act.put, List.setIfInBounds_toArray, List.set_cons_zero, List.set_cons_succ])
  (refine wpQuiet_step (fun K hK => ?_); rw [if_pos (by rfl)]; apply quiet_val; (intro wq hwq; go_simp; (try go_ints); exact rfl); refine hK _ ?_; clear hK K; simp only [Act.put, List.setIfInBounds_toArray, List.set_cons_zero, List.set_cons_succ])
  (refine wpQuiet_step (fun K hK => ?_); rw [if_pos (by rfl)]; apply quiet_val; (intro wq hwq; go_simp; (try go_ints); exact rfl); refine hK _ ?_; clear hK K; simp only [Act.put, List.setIfInBounds_toArray, List.set_cons_zero, List.set_cons_succ])
  (refine wpQuiet_step (fun K hK => ?_); rw [if_pos (by rfl)]; apply quiet_val; (intro wq hwq; go_simp; (try go_ints); exact rfl); refine hK _ ?_; clear hK K; simp only [Act.put, List.setIfInBounds_toArray, List.set_cons_zero, List.set_cons_succ])
  (refine wpQuiet_step (fun K hK => ?_); rw [if_pos (by rfl)]; apply quiet_val; (intro wq hwq; go_simp; (try go_ints); exact rfl); refine hK _ ?_; clear hK K; simp only [Act.put, List.setIfInBounds_toArray, List.set_cons_zero, List.set_cons_succ])
  (refine wpQuiet_step (fun K hK => ?_); rw [if_pos (by rfl)]; apply quiet_val; (intro wq hwq; go_simp; (try go_ints); exact rfl); refine hK _ ?_; clear hK K; simp only [Act.put, List.setIfInBounds_toArray, List.set_cons_zero, List.set_cons_succ])
  (refine wpQuiet_step (fun K hK => ?_); rw [if_pos (by rfl)]; apply quiet_val; (intro wq hwq; go_simp; (try go_ints); exact rfl); refine hK _ ?_; clear hK K; simp only [Act.put, List.setIfInBounds_toArray, List.set_cons_zero, List.set_cons_succ])
  (refine wpQuiet_step (fun K hK => ?_); rw [if_pos (by rfl)]; apply quiet_rowload (cs := bv a) Tryd.underlying22 rfl isz22; exact rfl; exact rfl; exact fun w h => laterRow h t1; exact (by simp [go_sem, *]); refine hK _ ?_; clear hK K; simp only [Act.put, List.setIfInBounds_toArray, List.set_cons_zero, List.set_cons_succ])
  (refine wpQuiet_step (fun K hK => ?_); rw [if_pos (by rfl)]; apply quiet_call; (intro wq; go_simp; exact ⟨rfl, rfl⟩); (intro wq hwq; exact Since.call hwq (HMc.out _)); refine hK _ ?_; clear hK K; simp only [Act.put, List.setIfInBounds_toArray, List.set_cons_zero, List.set_cons_succ])
  (refine wpQuiet_step (fun K hK => ?_); rw [if_pos (by rfl)]; apply quiet_val; (intro wq hwq; go_simp; (try go_ints); exact rfl); refine hK _ ?_; clear hK K; simp only [Act.put, List.setIfInBounds_toArray, List.set_cons_zero, List.set_cons_succ])
  (refine wpQuiet_step (fun K hK => ?_); rw [if_pos (by rfl)]; apply quiet_val; (intro wq hwq; go_simp; (try go_ints); exact rfl); refine hK _ ?_; clear hK K; simp only [Act.put, List.setIfInBounds_toArray, List.set_cons_zero, List.set_cons_succ])
  (refine wpQuiet_step (fun K hK => ?_); rw [if_pos (by rfl)]; apply quiet_val; (intro wq hwq; go_simp; (try go_ints); exact rfl); refine hK _ ?_; clear hK K; simp only [Act.put, List.setIfInBounds_toArray, List.set_cons_zero, List.set_cons_succ])
  (refine wpQuiet_step (fun K hK => ?_); rw [if_pos (by rfl)]; apply quiet_val; (intro wq hwq; go_simp; (try go_ints); exact rfl); refine hK _ ?_; clear hK K; simp only [Act.put, List.setIfInBounds_toArray, List.set_cons_zero, List.set_cons_succ])
  (refine wpQuiet_step (fun K hK => ?_); rw [if_pos (by rfl)]; apply quiet_val; (intro wq hwq; go_simp; (try go_ints); exact rfl); refine hK _ ?_; clear hK K; simp only [Act.put, List.setIfInBounds_toArray, List.set_cons_zero, List.set_cons_succ])
  refine wpQuiet_nil ?_; intro wn hwn
  have B5 := Lib.hid (hwn.out B4.out)
  have u0 := laterRow hwn t0
  have u2 := laterRow hwn t2
  have u4 := laterRow hwn t4
  clear hwn c0
  go_wp2
  refine wp_region_calm (Since _) (by kernel_rfl) (by kernel_rfl) (Since.drew _) ?_
  (refine wpQuiet_step (fun K hK => ?_); rw [if_pos (by rfl)]; apply quiet_val; (intro wq hwq; go_simp; (try go_ints); exact rfl); refine hK _ ?_; clear hK K; simp only [Act.put, List.setIfInBounds_toArray, List.set_cons_zero, List.set_cons_succ])
  (refine wpQuiet_step (fun K hK => ?_); rw [if_pos (by rfl)]; apply quiet_val; (intro wq hwq; go_simp; (try go_ints); exact rfl); refine hK _ ?_; clear hK K; simp only [Act.put, List.setIfInBounds_toArray, List.set_cons_zero, List.set_cons_succ])
  (refine wpQuiet_step (fun K hK => ?_); rw [if_pos (by rfl)]; apply quiet_val; (intro wq hwq; go_simp; (try go_ints); exact rfl); refine hK _ ?_; clear hK K; simp only [Act.put, List.setIfInBounds_toArray, List.set_cons_zero, List.set_cons_succ])
  (refine wpQuiet_step (fun K hK => ?_); rw [if_pos (by rfl)]; apply quiet_rowload (cs := bv L) Tryd.underlying25 rfl isz25; exact rfl; exact rfl; exact fun w h => laterRow h u2; exact (by simp [go_sem, *]); refine hK _ ?_; clear hK K; simp only [Act.put, List.setIfInBounds_toArray, List.set_cons_zero, List.set_cons_succ])
  (refine wpQuiet_step (fun K hK => ?_); rw [if_pos (by rfl)]; apply quiet_val; (intro wq hwq; go_simp; (try go_ints); exact rfl); refine hK _ ?_; clear hK K; simp only [Act.put, List.setIfInBounds_toArray, List.set_cons_zero, List.set_cons_succ])
  (refine wpQuiet_step (fun K hK => ?_); rw [if_pos (by rfl)]; apply quiet_call; (intro wq; go_simp; exact ⟨rfl, rfl⟩); (intro wq hwq; exact Since.call hwq (HRl.out _)); refine hK _ ?_; clear hK K; simp only [Act.put, List.setIfInBounds_toArray, List.set_cons_zero, List.set_cons_succ])
  (refine wpQuiet_step (fun K hK => ?_); rw [if_pos (by rfl)]; apply quiet_val; (intro wq hwq; go_simp; (try go_ints); exact rfl); refine hK _ ?_; clear hK K; simp only [Act.put, List.setIfInBounds_toArray, List.set_cons_zero, List.set_cons_succ])
  (refine wpQuiet_step (fun K hK => ?_); rw [if_pos (by rfl)]; apply quiet_val; (intro wq hwq; go_simp; (try go_ints); exact rfl); refine hK _ ?_; clear hK K; simp only [Act.put, List.setIfInBounds_toArray, List.set_cons_zero, List.set_cons_succ])
  refine wpQuiet_nil ?_; intro wn hwn
  have B6 := Lib.hid (hwn.out B5.out)
  have v0 := laterRow hwn u0
  have v2 := laterRow hwn u2
  have v4 := laterRow hwn u4
  clear hwn
  go_wp2_with (first
    | (apply wpList_rowload Tryd.underlying47 rfl isz47; exact rfl; exact rfl; exact rfl; (with_reducible exact v0); exact (by simp [go_sem, *]); simp only [Act.put, List.setIfInBounds_toArray, List.set_cons_zero, List.set_cons_succ])
    | (go_at_call 25; refine (HRt.out _).mono ?_; rintro e w7 ⟨rfl, hb7⟩; have x0 := row_call hb7 v0; have x2 := row_call hb7 v2; have x4 := row_call hb7 v4; have B7 := Lib.hid (below_call B6.out hb7); have c16' := (cell_row (row_call hb7 v0) 16).trans (pv_bits P 64 hP)))
  go_loopw [15] (fun t wr => ∃ k : Nat, k ≤ 16 ∧ t = .int .i64 k ∧ Hid (Below w.heap.size w wr) ∧ rowAt wr w.heap.size = some (pv P 64) ∧ rowAt wr w1.heap.size = some (bv L) ∧ rowAt wr w2.heap.size = some (bv Gv)) (fun t _ => 16 - (intOf t).toNat)
  case atStart => exact ⟨0, by omega, rfl, B7, x0, x2, x4⟩
  case round =>
    obtain ⟨k, hk, rfl, HB, y0, y2, y4⟩ := hrel
    by_cases hlt : k < 16
    · have cG : ∀ w', Since wr w' → w'.cell? ⟨w2.heap.size, k, none⟩ = some (.int .u8 (nth Gv k)) := fun w' h => later h y4 (by rw [bv_get, if_pos (by omega)])
      have cL : ∀ w', Since wr w' → w'.cell? ⟨w1.heap.size, k, none⟩ = some (.int .u8 (nth L k)) := fun w' h => later h y2 (by rw [bv_get, if_pos (by omega)])
      have cP : ∀ w', Since wr w' → w'.cell? ⟨w.heap.size, k, none⟩ = some (.int .u8 (nth P k)) := fun w' h => later h y0 (by
        have := pv_addr P 64 k (.int .u8 (nth P k)) (by rw [bv_get, if_pos (by omega)])
        rwa [Nat.zero_add] at this)
      have i0 : (k : Int) < 16 := by omega
      have i1 : (0 : Int) ≤ k := by omega
      by_cases h8 : k < 8
      · have hq := hG1 k h8
        have hd3 : decide ((k : Int) < 8) = true := decide_eq_true (by omega)
        have hd4 : decide ((8 : Int) ≤ k) = false := decide_eq_false (by omega)
        rw [hq] at cG
        have Hq := Lib.hid hq
        clear hG1 hG2 hq
        go_wp2
        refine wp_region_calm (Since _) (by kernel_rfl) (by kernel_rfl) (Since.drew _) ?_
        (refine wpQuiet_step (fun K hK => ?_); rw [if_pos (by rfl)]; apply quiet_val; (intro wq hwq; go_simp; (try go_ints); exact rfl); refine hK _ ?_; clear hK K; simp only [Act.put, List.setIfInBounds_toArray, List.set_cons_zero, List.set_cons_succ])
        (refine wpQuiet_step (fun K hK => ?_); rw [if_pos (by rfl)]; apply quiet_val; (intro wq hwq; go_simp; (try go_ints); exact rfl); refine hK _ ?_; clear hK K; simp only [Act.put, List.setIfInBounds_toArray, List.set_cons_zero, List.set_cons_succ])
        (refine wpQuiet_step (fun K hK => ?_); rw [if_pos (by rfl)]; apply quiet_val; (intro wq hwq; go_simp; (try go_ints); exact rfl); refine hK _ ?_; clear hK K; simp only [Act.put, List.setIfInBounds_toArray, List.set_cons_zero, List.set_cons_succ])
        (refine wpQuiet_step (fun K hK => ?_); rw [if_pos (by rfl)]; apply quiet_val; (intro wq hwq; go_simp; (try go_ints); exact rfl); refine hK _ ?_; clear hK K; simp only [Act.put, List.setIfInBounds_toArray, List.set_cons_zero, List.set_cons_succ])
        (refine wpQuiet_step (fun K hK => ?_); rw [if_pos (by rfl)]; apply quiet_val; (intro wq hwq; go_simp; (try go_ints); exact rfl); refine hK _ ?_; clear hK K; simp only [Act.put, List.setIfInBounds_toArray, List.set_cons_zero, List.set_cons_succ])
        (refine wpQuiet_step (fun K hK => ?_); rw [if_pos (by rfl)]; apply quiet_val; (intro wq hwq; go_simp; (try go_ints); exact rfl); refine hK _ ?_; clear hK K; simp only [Act.put, List.setIfInBounds_toArray, List.set_cons_zero, List.set_cons_succ])
        (refine wpQuiet_step (fun K hK => ?_); rw [if_pos (by rfl)]; apply quiet_val; (intro wq hwq; go_simp; (try go_ints); exact rfl); refine hK _ ?_; clear hK K; simp only [Act.put, List.setIfInBounds_toArray, List.set_cons_zero, List.set_cons_succ])
        (refine wpQuiet_step (fun K hK => ?_); rw [if_pos (by rfl)]; apply quiet_val; (intro wq hwq; go_simp; (try go_ints); exact rfl); refine hK _ ?_; clear hK K; simp only [Act.put, List.setIfInBounds_toArray, List.set_cons_zero, List.set_cons_succ])
        (refine wpQuiet_step (fun K hK => ?_); rw [if_pos (by rfl)]; apply quiet_val; (intro wq hwq; go_simp; (try go_ints); exact rfl); refine hK _ ?_; clear hK K; simp only [Act.put, List.setIfInBounds_toArray, List.set_cons_zero, List.set_cons_succ])
        (refine wpQuiet_step (fun K hK => ?_); rw [if_pos (by rfl)]; apply quiet_val; (intro wq hwq; go_simp; (try go_ints); exact rfl); refine hK _ ?_; clear hK K; simp only [Act.put, List.setIfInBounds_toArray, List.set_cons_zero, List.set_cons_succ])
        (refine wpQuiet_step (fun K hK => ?_); rw [if_pos (by rfl)]; apply quiet_val; (intro wq hwq; go_simp; (try go_ints); exact rfl); refine hK _ ?_; clear hK K; simp only [Act.put, List.setIfInBounds_toArray, List.set_cons_zero, List.set_cons_succ])
        (refine wpQuiet_step (fun K hK => ?_); rw [if_pos (by rfl)]; apply quiet_val; (intro wq hwq; go_simp; (try go_ints); exact rfl); refine hK _ ?_; clear hK K; simp only [Act.put, List.setIfInBounds_toArray, List.set_cons_zero, List.set_cons_succ])
        (refine wpQuiet_step (fun K hK => ?_); rw [if_pos (by rfl)]; apply quiet_val; (intro wq hwq; go_simp; (try go_ints); exact rfl); refine hK _ ?_; clear hK K; simp only [Act.put, List.setIfInBounds_toArray, List.set_cons_zero, List.set_cons_succ])
        (refine wpQuiet_step (fun K hK => ?_); rw [if_pos (by rfl)]; apply quiet_val; (intro wq hwq; go_simp; (try go_ints); exact rfl); refine hK _ ?_; clear hK K; simp only [Act.put, List.setIfInBounds_toArray, List.set_cons_zero, List.set_cons_succ])
        (refine wpQuiet_step (fun K hK => ?_); rw [if_pos (by rfl)]; apply quiet_val; (intro wq hwq; go_simp; (try go_ints); exact rfl); refine hK _ ?_; clear hK K; simp only [Act.put, List.setIfInBounds_toArray, List.set_cons_zero, List.set_cons_succ])
        (refine wpQuiet_step (fun K hK => ?_); rw [if_pos (by rfl)]; apply quiet_val; (intro wq hwq; go_simp; (try go_ints); exact rfl); refine hK _ ?_; clear hK K; simp only [Act.put, List.setIfInBounds_toArray, List.set_cons_zero, List.set_cons_succ])
        (refine wpQuiet_skip (by rfl) ?_; simp only [Act.put, List.setIfInBounds_toArray, List.set_cons_zero, List.set_cons_succ])
        (refine wpQuiet_skip (by rfl) ?_; simp only [Act.put, List.setIfInBounds_toArray, List.set_cons_zero, List.set_cons_succ])
        (refine wpQuiet_skip (by rfl) ?_; simp only [Act.put, List.setIfInBounds_toArray, List.set_cons_zero, List.set_cons_succ])
        (refine wpQuiet_skip (by rfl) ?_; simp only [Act.put, List.setIfInBounds_toArray, List.set_cons_zero, List.set_cons_succ])
        (refine wpQuiet_skip (by rfl) ?_; simp only [Act.put, List.setIfInBounds_toArray, List.set_cons_zero, List.set_cons_succ])
        (refine wpQuiet_skip (by rfl) ?_; simp only [Act.put, List.setIfInBounds_toArray, List.set_cons_zero, List.set_cons_succ])
        (refine wpQuiet_skip (by rfl) ?_; simp only [Act.put, List.setIfInBounds_toArray, List.set_cons_zero, List.set_cons_succ])
        (refine wpQuiet_step (fun K hK => ?_); rw [if_pos (by rfl)]; apply quiet_val; (intro wq hwq; go_simp; (try go_ints); exact rfl); refine hK _ ?_; clear hK K; simp only [Act.put, List.setIfInBounds_toArray, List.set_cons_zero, List.set_cons_succ])
        (refine wpQuiet_step (fun K hK => ?_); rw [if_pos (by rfl)]; apply quiet_val; (intro wq hwq; go_simp; (try go_ints); exact rfl); refine hK _ ?_; clear hK K; simp only [Act.put, List.setIfInBounds_toArray, List.set_cons_zero, List.set_cons_succ])
        refine wpQuiet_nil ?_; intro wn hwn
        go_wp2
        go_roundw
        case rel => exact ⟨k + 1, by omega, by go_num, Lib.hid (hwn.out HB.out), laterRow hwn y0, laterRow hwn y2, laterRow hwn y4⟩
        case measure => simp [intOf]; omega
      · have hq := hG2 k (by omega) hlt
        have hd3 : decide ((k : Int) < 8) = false := decide_eq_false (by omega)
        have hd4 : decide ((8 : Int) ≤ k) = true := decide_eq_true (by omega)
        rw [hq] at cG
        have Hq := Lib.hid hq
        clear hG1 hG2 hq
        go_wp2
        refine wp_region_calm (Since _) (by kernel_rfl) (by kernel_rfl) (Since.drew _) ?_
        (refine wpQuiet_step (fun K hK => ?_); rw [if_pos (by rfl)]; apply quiet_val; (intro wq hwq; go_simp; (try go_ints); exact rfl); refine hK _ ?_; clear hK K; simp only [Act.put, List.setIfInBounds_toArray, List.set_cons_zero, List.set_cons_succ])
        (refine wpQuiet_step (fun K hK => ?_); rw [if_pos (by rfl)]; apply quiet_val; (intro wq hwq; go_simp; (try go_ints); exact rfl); refine hK _ ?_; clear hK K; simp only [Act.put, List.setIfInBounds_toArray, List.set_cons_zero, List.set_cons_succ])
        (refine wpQuiet_step (fun K hK => ?_); rw [if_pos (by rfl)]; apply quiet_val; (intro wq hwq; go_simp; (try go_ints); exact rfl); refine hK _ ?_; clear hK K; simp only [Act.put, List.setIfInBounds_toArray, List.set_cons_zero, List.set_cons_succ])
        (refine wpQuiet_skip (by rfl) ?_; simp only [Act.put, List.setIfInBounds_toArray, List.set_cons_zero, List.set_cons_succ])
        (refine wpQuiet_skip (by rfl) ?_; simp only [Act.put, List.setIfInBounds_toArray, List.set_cons_zero, List.set_cons_succ])
        (refine wpQuiet_skip (by rfl) ?_; simp only [Act.put, List.setIfInBounds_toArray, List.set_cons_zero, List.set_cons_succ])
        (refine wpQuiet_skip (by rfl) ?_; simp only [Act.put, List.setIfInBounds_toArray, List.set_cons_zero, List.set_cons_succ])
        (refine wpQuiet_skip (by rfl) ?_; simp only [Act.put, List.setIfInBounds_toArray, List.set_cons_zero, List.set_cons_succ])
        (refine wpQuiet_skip (by rfl) ?_; simp only [Act.put, List.setIfInBounds_toArray, List.set_cons_zero, List.set_cons_succ])
        (refine wpQuiet_skip (by rfl) ?_; simp only [Act.put, List.setIfInBounds_toArray, List.set_cons_zero, List.set_cons_succ])
        (refine wpQuiet_skip (by rfl) ?_; simp only [Act.put, List.setIfInBounds_toArray, List.set_cons_zero, List.set_cons_succ])
        (refine wpQuiet_step (fun K hK => ?_); rw [if_pos (by rfl)]; apply quiet_val; (intro wq hwq; go_simp; (try go_ints); exact rfl); refine hK _ ?_; clear hK K; simp only [Act.put, List.setIfInBounds_toArray, List.set_cons_zero, List.set_cons_succ])
        (refine wpQuiet_step (fun K hK => ?_); rw [if_pos (by rfl)]; apply quiet_val; (intro wq hwq; go_simp; (try go_ints); exact rfl); refine hK _ ?_; clear hK K; simp only [Act.put, List.setIfInBounds_toArray, List.set_cons_zero, List.set_cons_succ])
        (refine wpQuiet_step (fun K hK => ?_); rw [if_pos (by rfl)]; apply quiet_val; (intro wq hwq; go_simp; (try go_ints); exact rfl); refine hK _ ?_; clear hK K; simp only [Act.put, List.setIfInBounds_toArray, List.set_cons_zero, List.set_cons_succ])
        (refine wpQuiet_step (fun K hK => ?_); rw [if_pos (by rfl)]; apply quiet_val; (intro wq hwq; go_simp; (try go_ints); exact rfl); refine hK _ ?_; clear hK K; simp only [Act.put, List.setIfInBounds_toArray, List.set_cons_zero, List.set_cons_succ])
        (refine wpQuiet_step (fun K hK => ?_); rw [if_pos (by rfl)]; apply quiet_val; (intro wq hwq; go_simp; (try go_ints); exact rfl); refine hK _ ?_; clear hK K; simp only [Act.put, List.setIfInBounds_toArray, List.set_cons_zero, List.set_cons_succ])
        (refine wpQuiet_step (fun K hK => ?_); rw [if_pos (by rfl)]; apply quiet_val; (intro wq hwq; go_simp; (try go_ints); exact rfl); refine hK _ ?_; clear hK K; simp only [Act.put, List.setIfInBounds_toArray, List.set_cons_zero, List.set_cons_succ])
        (refine wpQuiet_step (fun K hK => ?_); rw [if_pos (by rfl)]; apply quiet_val; (intro wq hwq; go_simp; (try go_ints); exact rfl); refine hK _ ?_; clear hK K; simp only [Act.put, List.setIfInBounds_toArray, List.set_cons_zero, List.set_cons_succ])
        (refine wpQuiet_step (fun K hK => ?_); rw [if_pos (by rfl)]; apply quiet_val; (intro wq hwq; go_simp; (try go_ints); exact rfl); refine hK _ ?_; clear hK K; simp only [Act.put, List.setIfInBounds_toArray, List.set_cons_zero, List.set_cons_succ])
        (refine wpQuiet_step (fun K hK => ?_); rw [if_pos (by rfl)]; apply quiet_val; (intro wq hwq; go_simp; (try go_ints); exact rfl); refine hK _ ?_; clear hK K; simp only [Act.put, List.setIfInBounds_toArray, List.set_cons_zero, List.set_cons_succ])
        (refine wpQuiet_step (fun K hK => ?_); rw [if_pos (by rfl)]; apply quiet_val; (intro wq hwq; go_simp; (try go_ints); exact rfl); refine hK _ ?_; clear hK K; simp only [Act.put, List.setIfInBounds_toArray, List.set_cons_zero, List.set_cons_succ])
        (refine wpQuiet_step (fun K hK => ?_); rw [if_pos (by rfl)]; apply quiet_val; (intro wq hwq; go_simp; (try go_ints); exact rfl); refine hK _ ?_; clear hK K; simp only [Act.put, List.setIfInBounds_toArray, List.set_cons_zero, List.set_cons_succ])
        (refine wpQuiet_step (fun K hK => ?_); rw [if_pos (by rfl)]; apply quiet_val; (intro wq hwq; go_simp; (try go_ints); exact rfl); refine hK _ ?_; clear hK K; simp only [Act.put, List.setIfInBounds_toArray, List.set_cons_zero, List.set_cons_succ])
        (refine wpQuiet_step (fun K hK => ?_); rw [if_pos (by rfl)]; apply quiet_val; (intro wq hwq; go_simp; (try go_ints); exact rfl); refine hK _ ?_; clear hK K; simp only [Act.put, List.setIfInBounds_toArray, List.set_cons_zero, List.set_cons_succ])
        (refine wpQuiet_step (fun K hK => ?_); rw [if_pos (by rfl)]; apply quiet_val; (intro wq hwq; go_simp; (try go_ints); exact rfl); refine hK _ ?_; clear hK K; simp only [Act.put, List.setIfInBounds_toArray, List.set_cons_zero, List.set_cons_succ])
        refine wpQuiet_nil ?_; intro wn hwn
        go_wp2
        go_roundw
        case rel => exact ⟨k + 1, by omega, by go_num, Lib.hid (hwn.out HB.out), laterRow hwn y0, laterRow hwn y2, laterRow hwn y4⟩
        case measure => simp [intOf]; omega
    · go_wp2_with (first
        | (go_at_call 14; refine (HK.out _ (HG.out.since HB.out)).mono ?_; rintro e w8 ⟨rfl, hb8⟩))
      go_ret
      exact ⟨rfl, below_call HB.out hb8⟩

end Go.Proofs.YtodeiapaehlmfaaDoor
