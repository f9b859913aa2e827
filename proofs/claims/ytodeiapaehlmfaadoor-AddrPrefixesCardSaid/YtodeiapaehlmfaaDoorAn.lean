import Derived.Test.YtodeiapaehlmfaaDoorAm
namespace Go.Proofs.YtodeiapaehlmfaaDoor
open Go Go.RowKit
attribute [local go_sem] rowAt_alloc_at rowAt_alloc_past rowAt_drew rowAt_drewN bv_size iv_size bv_one iv_one bv_set iv_set bv_get iv_get bv_elem iv_elem zlit16 zlit8 z16_length z8_length eq25 eq22 eq23 pv_size pv_one cutS_length zplit
attribute [local irreducible] wpQuiet
set_option linter.unusedSimpArgs false

theorem Cut_yes {l : List Int} (hl : l.length = 16) {n : Int} (hn : 0 ≤ n ∧ n ≤ 128) {X : List Int} (hX : cutS n l = X) (w : World) : Calls Tryd.prog 16 #[.agg (bv l), .int .i64 n] w fun e w' =>
    e = .returned (.tuple #[.agg (pv X n), .int .i64 0]) ∧ Below w.heap.size w w' := by
  have := Cut_any l hl n w
  rw [cutPS_yes hn, hX] at this
  exact this
theorem has_yes {l a : List Int} (hl : l.length = 16) (ha : a.length = 16) {n : Int} (h : hasB l n a = true) (w : World) : Calls Tryd.prog 18 #[.agg (pv l n), .agg (bv a)] w fun e w' => e = .returned (.bool true) ∧ Below w.heap.size w w' := by
  have := has_any l hl n a ha w
  rwa [h] at this
theorem rightB_cut {l : List Int} (hB : byt l) (hl : l.length = 16) {n : Int} (hn : 0 ≤ n ∧ n ≤ 128) : rightB (cutS n l) n = true := by
  unfold rightB
  rw [cutS_twice n n hB hl, decide_eq_true hn, Int.min_self, decide_eq_true rfl]
  rfl
theorem hasB_cut {l : List Int} (hB : byt l) (hl : l.length = 16) {n : Int} (hn : 0 ≤ n ∧ n ≤ 128) : hasB (cutS n l) n l = true := by
  unfold hasB
  rw [rightB_cut hB hl hn, decide_eq_true rfl]
  rfl
theorem rightB_more {l : List Int} (hB : byt l) (hl : l.length = 16) {n m : Int} (hm : 0 ≤ m ∧ m ≤ 128) (h : n ≤ m) : rightB (cutS n l) m = true := by
  unfold rightB
  rw [cutS_twice n m hB hl, decide_eq_true hm, show min n m = n by omega, decide_eq_true rfl]
  rfl
theorem mod129 (n : Int) : 0 ≤ wrap64 ((IntKind.u64.wrap n).tmod 129) ∧ wrap64 ((IntKind.u64.wrap n).tmod 129) ≤ 128 := by
  rw [IntKind.wrap_u64]
  have h0 : 0 ≤ n % 18446744073709551616 := Int.emod_nonneg _ (by decide)
  generalize n % 18446744073709551616 = u at *
  rw [Int.tmod_eq_emod_of_nonneg h0]
  unfold wrap64
  omega

set_option maxHeartbeats 1000000 in
set_option maxRecDepth 100000 in
theorem law_cuts (a : List Int) (ha : a.length = 16) (hB : byt a) (n m : Int) (w : World) (hg : Glob w) : Calls Tryd.prog 5 #[.agg (bv a), .int .i64 n, .int .i64 m] w fun e w' => e = .returned (.bool true) ∧ Below w.heap.size w w' := by
  have r0 := row1 w (bv a) 22
  obtain ⟨N, eN⟩ : ∃ N, wrap64 ((IntKind.u64.wrap n).tmod 129) = N := ⟨_, rfl⟩
  obtain ⟨M, eM⟩ : ∃ M, wrap64 ((IntKind.u64.wrap m).tmod 129) = M := ⟨_, rfl⟩
  have hN := mod129 n
  have hM := mod129 m
  rw [eN] at hN
  rw [eM] at hM
  have h1 := Lib.hid (Cut_yes ha hN rfl)
  have hP : (cutS N a).length = 16 := (cutS_length _ _).trans ha
  have h2 := Lib.hid (Cut_yes hP hM (cutS_twice N M hB ha))
  have hX : (cutS (min N M) a).length = 16 := (cutS_length _ _).trans ha
  have hK : 0 ≤ min N M ∧ min N M ≤ 128 := by omega
  have h3 := Lib.hid (Cut_yes ha hK rfl)
  have hr1 := Lib.hid (right_yes hP (rightB_cut hB ha hN))
  have hr2 := Lib.hid (right_yes hX (rightB_more hB ha hM (by omega : min N M ≤ M)))
  have hh1 := Lib.hid (has_yes hP ha (hasB_cut hB ha hN))
  have hh2 := Lib.hid (has_yes hX ha (hasB_cut hB ha hK))
  have HK := Lib.hid (fun w hg => known_any w hg)
  have HG := Lib.hid hg
  have hNi := Lib.hid hN
  have hMi := Lib.hid hM
  generalize cutS N a = P at *
  generalize cutS (min N M) a = X at *
  have e25 : ∀ W, (Op.equalIn 10000 25 (.agg (bv X)) (.agg (bv X))).run Tryd.prog W = .ok true W := fun W => by rw [eq25 W 9998 _ _ hX hX, decide_eq_true rfl]
  clear hg hB
  go_enter Tryd.func5, Tryd.ntmps5
  go_wp2_with (first
    | (apply wpList_rowload Tryd.underlying22 rfl isz22; exact rfl; exact rfl; exact rfl; (with_reducible exact r0); exact (by simp [go_sem, *]); simp only [Act.put, List.setIfInBounds_toArray, List.set_cons_zero, List.set_cons_succ])
    | (go_at_call 16; with_reducible refine (h1.out _).mono ?_; rintro e w1 ⟨rfl, hb1⟩; have p0 := row_call hb1 r0; have B1 := Lib.hid (below_call (below1 w (.cells (bv a) 22)) hb1))
    | (apply wpList_rowstore (vs := pv P N) isz40; exact rfl; exact rfl; exact rfl; exact rfl; (with_reducible exact row1 _ _ _); exact (by simp [go_sem, *]); exact (by simp [go_sem, *]); exact (by simp [go_sem, *]); try simp only [Act.put, List.setIfInBounds_toArray, List.set_cons_zero, List.set_cons_succ]; try simp (disch := simp [go_sem]) only [setRow_alloc_at, setRow_alloc_past, setRow_drew])
    | (apply wpList_subload (cs := bv P) Tryd.underlying25 rfl isz25; exact rfl; exact rfl; exact rfl; (with_reducible exact row1 _ _ _); exact pv_addr P N; exact (by simp [go_sem, *]); simp only [Act.put, List.setIfInBounds_toArray, List.set_cons_zero, List.set_cons_succ])
    | (go_at_call 16; with_reducible refine (h2.out _).mono ?_; rintro e w2 ⟨rfl, hb2⟩; have q1 := row_call hb2 (row1 w1 (pv P N) 40); have q0 := row_call hb2 (row_alloc p0 (.cells (pv P N) 40)); have B2 := Lib.hid (below_call (below_new B1.out (.cells (pv P N) 40)) hb2))
    | (apply wpList_rowstore (vs := pv X M) isz40; exact rfl; exact rfl; exact rfl; exact rfl; (with_reducible exact row1 _ _ _); exact (by simp [go_sem, *]); exact (by simp [go_sem, *]); exact (by simp [go_sem, *]); try simp only [Act.put, List.setIfInBounds_toArray, List.set_cons_zero, List.set_cons_succ]; try simp (disch := simp [go_sem]) only [setRow_alloc_at, setRow_alloc_past, setRow_drew])
    | (apply wpList_rowload Tryd.underlying22 rfl isz22; exact rfl; exact rfl; exact rfl; (with_reducible exact row_alloc q0 _); exact (by simp [go_sem, *]); simp only [Act.put, List.setIfInBounds_toArray, List.set_cons_zero, List.set_cons_succ])
    | (go_at_call 16; with_reducible refine (h3.out _).mono ?_; rintro e w3 ⟨rfl, hb3⟩; have s2 := row_call hb3 (row1 w2 (pv X M) 40); have s1 := row_call hb3 (row_alloc q1 (.cells (pv X M) 40)); have s0 := row_call hb3 (row_alloc q0 (.cells (pv X M) 40)); have B3 := Lib.hid (below_call (below_new B2.out (.cells (pv X M) 40)) hb3))
    | (apply wpList_rowstore (vs := pv X (min N M)) isz40; exact rfl; exact rfl; exact rfl; exact rfl; (with_reducible exact row1 _ _ _); exact (by simp [go_sem, *]); exact (by simp [go_sem, *]); exact (by simp [go_sem, *]); try simp only [Act.put, List.setIfInBounds_toArray, List.set_cons_zero, List.set_cons_succ]; try simp (disch := simp [go_sem]) only [setRow_alloc_at, setRow_alloc_past, setRow_drew])
    | (go_at_call 14; refine (HK.out _ (HG.out.since (below_new B3.out (.cells (pv X (min N M)) 40)))).mono ?_; rintro e w4 ⟨rfl, hb4⟩; have t3 := row_call hb4 (row1 w3 (pv X (min N M)) 40); have t2 := row_call hb4 (row_alloc s2 (.cells (pv X (min N M)) 40)); have t1 := row_call hb4 (row_alloc s1 (.cells (pv X (min N M)) 40)); have t0 := row_call hb4 (row_alloc s0 (.cells (pv X (min N M)) 40)); have B4 := Lib.hid (below_call (below_new B3.out (.cells (pv X (min N M)) 40)) hb4); have c16 := (cell_row t2 16).trans (pv_bits X M hX))
    | (apply wpList_subload (cs := bv X) Tryd.underlying25 rfl isz25; exact rfl; exact rfl; exact rfl; (with_reducible exact t2); exact pv_addr X M; exact (by simp [go_sem, *]); simp only [Act.put, List.setIfInBounds_toArray, List.set_cons_zero, List.set_cons_succ])
    | (apply wpList_subload (cs := bv X) Tryd.underlying25 rfl isz25; exact rfl; exact rfl; exact rfl; (with_reducible exact t3); exact pv_addr X (min N M); exact (by simp [go_sem, *]); simp only [Act.put, List.setIfInBounds_toArray, List.set_cons_zero, List.set_cons_succ])
    | (apply wpList_rowload Tryd.underlying40 rfl isz40; exact rfl; exact rfl; exact rfl; (with_reducible exact t1); exact (by simp [go_sem, *]); simp only [Act.put, List.setIfInBounds_toArray, List.set_cons_zero, List.set_cons_succ])
    | (go_at_call 17; with_reducible refine (hr1.out _).mono ?_; rintro e w5 ⟨rfl, hb5⟩; have u3 := row_call hb5 t3; have u2 := row_call hb5 t2; have u1 := row_call hb5 t1; have u0 := row_call hb5 t0; have B5 := Lib.hid (below_call B4.out hb5))
    | (apply wpList_rowload Tryd.underlying40 rfl isz40; exact rfl; exact rfl; exact rfl; (with_reducible exact u2); exact (by simp [go_sem, *]); simp only [Act.put, List.setIfInBounds_toArray, List.set_cons_zero, List.set_cons_succ])
    | (go_at_call 17; with_reducible refine (hr2.out _).mono ?_; rintro e w6 ⟨rfl, hb6⟩; have v3 := row_call hb6 u3; have v1 := row_call hb6 u1; have v0 := row_call hb6 u0; have B6 := Lib.hid (below_call B5.out hb6))
    | (apply wpList_rowload Tryd.underlying40 rfl isz40; exact rfl; exact rfl; exact rfl; (with_reducible exact v1); exact (by simp [go_sem, *]); simp only [Act.put, List.setIfInBounds_toArray, List.set_cons_zero, List.set_cons_succ])
    | (apply wpList_rowload Tryd.underlying22 rfl isz22; exact rfl; exact rfl; exact rfl; (with_reducible exact v0); exact (by simp [go_sem, *]); simp only [Act.put, List.setIfInBounds_toArray, List.set_cons_zero, List.set_cons_succ])
    | (go_at_call 18; with_reducible refine (hh1.out _).mono ?_; rintro e w7 ⟨rfl, hb7⟩; have x3 := row_call hb7 v3; have x0 := row_call hb7 v0; have B7 := Lib.hid (below_call B6.out hb7))
    | (apply wpList_rowload Tryd.underlying40 rfl isz40; exact rfl; exact rfl; exact rfl; (with_reducible exact x3); exact (by simp [go_sem, *]); simp only [Act.put, List.setIfInBounds_toArray, List.set_cons_zero, List.set_cons_succ])
    | (apply wpList_rowload Tryd.underlying22 rfl isz22; exact rfl; exact rfl; exact rfl; (with_reducible exact x0); exact (by simp [go_sem, *]); simp only [Act.put, List.setIfInBounds_toArray, List.set_cons_zero, List.set_cons_succ])
    | (go_at_call 18; with_reducible refine (hh2.out _).mono ?_; rintro e w8 ⟨rfl, hb8⟩; have B8 := Lib.hid (below_call B7.out hb8)))
  go_ret
  exact ⟨rfl, B8.out⟩

end Go.Proofs.YtodeiapaehlmfaaDoor
