import Derived.Test.YtodeiapaehlmfaaDoorA5

namespace Go.Proofs.YtodeiapaehlmfaaDoor
open Go Go.RowKit
attribute [local go_sem] rowAt_alloc_at rowAt_alloc_past rowAt_drew rowAt_drewN bv_size iv_size bv_one iv_one bv_set iv_set bv_get iv_get bv_elem iv_elem zlit16 zlit8 z16_length z8_length eq25 eq22 eq23 pv_size pv_one cutS_length
attribute [local irreducible] wpQuiet
set_option linter.unusedSimpArgs false

/-! ### addr.Cut -/
def zp : Array Value := pv z16 0
def cutPS (l : List Int) (n : Int) : List Int × Int × Int := if 0 ≤ n ∧ n ≤ 128 then (cutS n l, n, 0) else (z16, 0, 1)
theorem zplit : #[Value.int .u8 0, Value.int .u8 0, Value.int .u8 0, Value.int .u8 0, Value.int .u8 0, Value.int .u8 0, Value.int .u8 0, Value.int .u8 0, Value.int .u8 0, Value.int .u8 0, Value.int .u8 0, Value.int .u8 0, Value.int .u8 0, Value.int .u8 0, Value.int .u8 0, Value.int .u8 0, Value.int .i64 0] = pv z16 0 := rfl
attribute [local go_sem] zplit
theorem bv16 {l : List Int} (h : l.length = 16) : ∃ x0 x1 x2 x3 x4 x5 x6 x7 x8 x9 x10 x11 x12 x13 x14 x15, l = [x0, x1, x2, x3, x4, x5, x6, x7, x8, x9, x10, x11, x12, x13, x14, x15] := by
  match l, h with
  | [x0, x1, x2, x3, x4, x5, x6, x7, x8, x9, x10, x11, x12, x13, x14, x15], _ => exact ⟨x0, x1, x2, x3, x4, x5, x6, x7, x8, x9, x10, x11, x12, x13, x14, x15, rfl⟩
theorem run_build40 (c : List Int) (hc : c.length = 16) (n : Int) (w : World) : (Instr.build 40 #[(0, .agg (bv c)), (1, .int .i64 n)]).run Tryd.prog w = .ok (.agg (pv c n)) w := by
  obtain ⟨x0, x1, x2, x3, x4, x5, x6, x7, x8, x9, x10, x11, x12, x13, x14, x15, rfl⟩ := bv16 hc
  kernel_rfl
theorem wpList_build40 {ops : Array Oper} {rest : List Oper} {o : Oper} {a : Act} {w : World} {Q : Exit → Act → World → Prop} {x y : Operand} {c : List Int} {n : Int} (hw : Region.wanted o (yielded ops a.tmps) = true) (ho : o.op = .build 40 #[(0, x), (1, y)])
    (hx : a.eval x = .agg (bv c)) (hy : a.eval y = .int .i64 n) (hc : c.length = 16) (h : wpList Tryd.prog ops Q rest (a.put o.dst (.agg (pv c n))) w) : wpList Tryd.prog ops Q (o :: rest) a w := by
  refine wpList_wanted hw fun _ hK => ?_
  unfold Oper.wp execOp
  have e : (#[(0, x), (1, y)] : Array (Nat × Operand)).map (fun (p : Nat × Operand) => (p.1, a.eval p.2)) = #[(0, .agg (bv c)), (1, .int .i64 n)] := by simp [hx, hy]
  simp only [ho]
  show o.upon _ _ _ _ ((do pure (.value (← Instr.build 40 ((#[(0, x), (1, y)] : Array (Nat × Operand)).map (fun (p : Nat × Operand) => (p.1, a.eval p.2))))) : Sem Next).run Tryd.prog w)
  rw [e]
  simp only [Sem.run_bind, run_build40 c hc n w, Result.andThen_ok, Sem.run_pure]
  exact hK _ _ h

theorem cutPS_yes {l : List Int} {n : Int} (h : 0 ≤ n ∧ n ≤ 128) : cutPS l n = (cutS n l, n, 0) := if_pos h
theorem cutPS_no {l : List Int} {n : Int} (h : ¬ (0 ≤ n ∧ n ≤ 128)) : cutPS l n = (z16, 0, 1) := if_neg h

set_option maxHeartbeats 400000 in
theorem Cut_any (l : List Int) (hl : l.length = 16) (n : Int) (w : World) : Calls Tryd.prog 16 #[.agg (bv l), .int .i64 n] w fun e w' =>
    e = .returned (.tuple #[.agg (pv (cutPS l n).1 (cutPS l n).2.1), .int .i64 (cutPS l n).2.2]) ∧ Below w.heap.size w w' := by
  by_cases hn : 0 ≤ n ∧ n ≤ 128
  · go_enter Tryd.func16, Tryd.ntmps16
    have r0 := row2a w (bv l) 25 (.cells (pv z16 0) 40)
    have r1 := row2b w (pv z16 0) 40 (.cells (bv l) 25)
    go_wp2_with (first | (go_at_call 35; (refine (bits_yes n hn _).mono ?_); rintro e1 w1 ⟨rfl, hb1⟩; have q0 := row_call hb1 r0; have q1 := row_call hb1 r1) | (apply wpList_rowload Tryd.underlying25 rfl isz25; exact rfl; exact rfl; exact rfl; (with_reducible exact q0); exact (by simp [go_sem, *]); simp only [Act.put, List.setIfInBounds_toArray, List.set_cons_zero, List.set_cons_succ]) | (go_at_call 36; (refine (cut_any l hl n hn.1 hn.2 _).mono ?_); rintro e1 w2 ⟨rfl, hb2⟩; have s1 := row_call hb2 q1) | (apply wpList_build40; exact rfl; exact rfl; exact rfl; exact rfl; exact (by simp [go_sem, *]); simp only [Act.put, List.setIfInBounds_toArray, List.set_cons_zero, List.set_cons_succ]) | (apply wpList_rowstore (vs := pv (cutS n l) n) isz40; exact rfl; exact rfl; exact rfl; exact rfl; (with_reducible exact s1); exact (by simp [go_sem, *]); exact (by simp [go_sem, *]); exact (by simp [go_sem, *]); try simp only [Act.put, List.setIfInBounds_toArray, List.set_cons_zero, List.set_cons_succ]))
    refine bodyPost_ret (results_row_tmp rfl Tryd.underlying40 rfl isz40 _ _ (w.heap.size + 1) (pv (cutS n l) n) rfl (rowAt_setRow_same s1 _) (by simp [go_sem, *])) rfl ?_
    exact ⟨by rw [cutPS_yes hn]; rfl, below_set (below_call (below_call (below2 _ _ _) hb1) hb2) (by omega) _⟩
  · go_enter Tryd.func16, Tryd.ntmps16
    have r1 := row2b w (pv z16 0) 40 (.cells (bv l) 25)
    go_wp2_with (first | (go_at_call 35; (refine (bits_no n hn _).mono ?_); rintro e1 w1 ⟨rfl, hb1⟩; have q1 := row_call hb1 r1) | (apply wpList_rowstore (vs := pv z16 0) isz40; exact rfl; exact rfl; exact rfl; exact rfl; (with_reducible exact q1); exact (by simp [go_sem, *]); exact (by simp [go_sem, *]); exact (by simp [go_sem, *]); try simp only [Act.put, List.setIfInBounds_toArray, List.set_cons_zero, List.set_cons_succ]))
    refine bodyPost_ret (results_row_tmp rfl Tryd.underlying40 rfl isz40 _ _ (w.heap.size + 1) (pv z16 0) rfl (rowAt_setRow_same q1 _) (by simp [go_sem, *])) rfl ?_
    exact ⟨by rw [cutPS_no hn]; rfl, below_set (below_call (below2 _ _ _) hb1) (by omega) _⟩
end Go.Proofs.YtodeiapaehlmfaaDoor
