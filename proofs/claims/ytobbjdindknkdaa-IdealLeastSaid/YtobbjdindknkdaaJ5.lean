/- The check ahead of the search, and the document's. -/
import Derived.Test.YtobbjdindknkdaaJ4
namespace Go.Proofs.Ytobbjdindknkdaa
open Go Go.RowKit
attribute [local irreducible] wpQuiet wpPure wpHold wpKeep wpQuietS
set_option linter.unusedSimpArgs false
set_option linter.unusedVariables false

set_option maxHeartbeats 800000 in
theorem check_nil (p : Pol) (w : World) : Calls Try.prog 23 #[.pointer none, .agg p.cells] w fun e w' => e = .returned (.int .i64 13) ∧ Below w.heap.size w w' := by
  obtain ⟨c, l, i, f, s, ma, mb, mc, md⟩ := p
  simp only [Pol.cells] at *
  go_enter Try.func23, Try.ntmps23
  go_wp2
  go_ret
  exact ⟨rfl, below1 _ _⟩
set_option maxHeartbeats 800000 in
theorem check_any (a : Addr) (p : Pol) (w : World) : Calls Try.prog 23 #[.pointer (some a), .agg p.cells] w fun e w' => e = .returned (.int .i64 (checkS p)) ∧ Below w.heap.size w w' := by
  have r0 := row1 w p.cells 40
  have HF := Lib.hid fun w => pcheck_any p w
  have HP : Hid (checkS p = if polE p ≠ 0 then polE p else if p.c ≠ 0 then 6 else 0) := Lib.hid rfl
  generalize polE p = E at *
  generalize checkS p = R at *
  obtain ⟨c, l, i, f, s, ma, mb, mc, md⟩ := p
  by_cases hE : E = 0
  · subst hE
    by_cases hc : c = 0
    · have HP2 : Hid (R = 0) := Lib.hid (HP.out.trans (by rw [if_neg (by simp), if_neg (by simp [hc])]))
      clear HP
      simp only [Pol.cells] at *
      subst hc
      go_enter Try.func23, Try.ntmps23
      go_wp2_with (go_at_call 39; refine (HF.out _).mono ?_; rintro e w1 ⟨rfl, hb1⟩; have q1 := row_call hb1 r0; have p0 := (cell_row q1 0).trans rfl; simp only [List.getElem?_toArray, List.getElem?_cons_zero, List.getElem?_cons_succ] at p0)
      go_ret
      exact ⟨by rw [HP2.out]; rfl, below_call (below1 _ _) hb1⟩
    · have HP2 : Hid (R = 6) := Lib.hid (HP.out.trans (by rw [if_neg (by simp), if_pos (by simpa using hc)]))
      clear HP
      simp only [Pol.cells] at *
      go_enter Try.func23, Try.ntmps23
      go_wp2_with (go_at_call 39; refine (HF.out _).mono ?_; rintro e w1 ⟨rfl, hb1⟩; have q1 := row_call hb1 r0; have p0 := (cell_row q1 0).trans rfl; simp only [List.getElem?_toArray, List.getElem?_cons_zero, List.getElem?_cons_succ] at p0)
      go_ret
      exact ⟨by rw [HP2.out]; rfl, below_call (below1 _ _) hb1⟩
  · have HP2 : Hid (R = E) := Lib.hid (HP.out.trans (if_pos hE))
    clear HP
    simp only [Pol.cells] at *
    go_enter Try.func23, Try.ntmps23
    go_wp2_with (go_at_call 39; refine (HF.out _).mono ?_; rintro e w1 ⟨rfl, hb1⟩)
    go_ret
    exact ⟨by rw [HP2.out]; rfl, below_call (below1 _ _) hb1⟩

/-! ### the document's check -/
theorem rleast_at {n : Int} {b : Bool} (h : leastB n = b) (w : World) : Calls Try.prog 30 #[.int .i64 n] w fun e w' => e = .returned (.bool b) ∧ Below w.heap.size w w' := by
  have := rleast n w
  rwa [h] at this
theorem rvalid_at {n : Int} {b : Bool} (h : validI n = b) (w : World) : Calls Try.prog 31 #[.int .i64 n] w fun e w' => e = .returned (.bool b) ∧ Below w.heap.size w w' := by
  have := rvalid n w
  rwa [h] at this
def rcheckS (p : Pol) : Int := if p.c ≠ 0 ∧ p.c ≠ 1 then 6 else if (p.c = 0 ∧ goodZ p.f p.s = false) ∨ (p.c = 1 ∧ goodH p.ma p.mb p.mc p.md = false) ∨ leastB p.l = false ∨ validI p.i = false then 1 else 0
theorem rcheck_eq (p : Pol) : rcheckS p = polE p := by
  unfold rcheckS polE funS errOf
  by_cases h0 : p.c = 0
  · rw [if_neg (by omega)]
    simp only [h0, if_true]
    cases goodZ p.f p.s <;> cases leastB p.l <;> cases validI p.i <;> simp
  · by_cases h1 : p.c = 1
    · rw [if_neg (by omega)]
      simp only [h1, if_true]
      cases goodH p.ma p.mb p.mc p.md <;> cases leastB p.l <;> cases validI p.i <;> simp
    · rw [if_pos ⟨h0, h1⟩]
      simp [h0, h1]
set_option maxHeartbeats 800000 in
theorem rc_0_false_x_x (c l i f s ma mb mc md : Int) (hc : c = 0) (h1 : goodZ f s = false) (w : World) : Calls Try.prog 10 #[.agg #[.int .i64 c, .int .i64 l, .int .i64 i, .int .i64 f, .int .i64 s, .int .i64 ma, .int .i64 mb, .int .i64 mc, .int .i64 md]] w fun e w' => e = .returned (.int .i64 1) ∧ Below w.heap.size w w' := by
  have r0 := row1 w #[.int .i64 c, .int .i64 l, .int .i64 i, .int .i64 f, .int .i64 s, .int .i64 ma, .int .i64 mb, .int .i64 mc, .int .i64 md] 28
  have B0 := Lib.hid (below1 w (.cells #[.int .i64 c, .int .i64 l, .int .i64 i, .int .i64 f, .int .i64 s, .int .i64 ma, .int .i64 mb, .int .i64 mc, .int .i64 md] 28))
  have H1 : Hid (∀ w, Calls Try.prog 28 #[.agg #[.int .i64 f, .int .i64 s]] w fun e w' => e = .returned (.bool false) ∧ Below w.heap.size w w') := Lib.hid fun w => by have := rgood15 f s w; rwa [h1] at this
  clear h1
  subst hc
  go_enter Try.func10, Try.ntmps10
  go_wp2_with (first
    | (go_at_call 28; refine (H1.out _).mono ?_; rintro e w1 ⟨rfl, hb1⟩))
  go_ret
  exact ⟨rfl, below_call B0.out hb1⟩
set_option maxHeartbeats 800000 in
theorem rc_0_true_false_x (c l i f s ma mb mc md : Int) (hc : c = 0) (h1 : goodZ f s = true) (h2 : leastB l = false) (w : World) : Calls Try.prog 10 #[.agg #[.int .i64 c, .int .i64 l, .int .i64 i, .int .i64 f, .int .i64 s, .int .i64 ma, .int .i64 mb, .int .i64 mc, .int .i64 md]] w fun e w' => e = .returned (.int .i64 1) ∧ Below w.heap.size w w' := by
  have r0 := row1 w #[.int .i64 c, .int .i64 l, .int .i64 i, .int .i64 f, .int .i64 s, .int .i64 ma, .int .i64 mb, .int .i64 mc, .int .i64 md] 28
  have B0 := Lib.hid (below1 w (.cells #[.int .i64 c, .int .i64 l, .int .i64 i, .int .i64 f, .int .i64 s, .int .i64 ma, .int .i64 mb, .int .i64 mc, .int .i64 md] 28))
  have H1 : Hid (∀ w, Calls Try.prog 28 #[.agg #[.int .i64 f, .int .i64 s]] w fun e w' => e = .returned (.bool true) ∧ Below w.heap.size w w') := Lib.hid fun w => by have := rgood15 f s w; rwa [h1] at this
  have H2 := Lib.hid fun w => rleast_at h2 w
  clear h1 h2
  subst hc
  go_enter Try.func10, Try.ntmps10
  go_wp2_with (first
    | (go_at_call 28; refine (H1.out _).mono ?_; rintro e w1 ⟨rfl, hb1⟩; have q1 := row_call hb1 r0; have p1_0 := (cell_row q1 0).trans rfl; have p1_1 := (cell_row q1 1).trans rfl; have p1_2 := (cell_row q1 2).trans rfl; have p1_5 := (cell_row q1 5).trans rfl; have p1_6 := (cell_row q1 6).trans rfl; have p1_7 := (cell_row q1 7).trans rfl; have p1_8 := (cell_row q1 8).trans rfl; simp only [List.getElem?_toArray, List.getElem?_cons_zero, List.getElem?_cons_succ] at p1_0 p1_1 p1_2 p1_5 p1_6 p1_7 p1_8)
    | (go_at_call 30; refine (H2.out _).mono ?_; rintro e w2 ⟨rfl, hb2⟩))
  go_ret
  exact ⟨rfl, below_call (below_call B0.out hb1) hb2⟩
set_option maxHeartbeats 800000 in
theorem rc_0_true_true_false (c l i f s ma mb mc md : Int) (hc : c = 0) (h1 : goodZ f s = true) (h2 : leastB l = true) (h3 : validI i = false) (w : World) : Calls Try.prog 10 #[.agg #[.int .i64 c, .int .i64 l, .int .i64 i, .int .i64 f, .int .i64 s, .int .i64 ma, .int .i64 mb, .int .i64 mc, .int .i64 md]] w fun e w' => e = .returned (.int .i64 1) ∧ Below w.heap.size w w' := by
  have r0 := row1 w #[.int .i64 c, .int .i64 l, .int .i64 i, .int .i64 f, .int .i64 s, .int .i64 ma, .int .i64 mb, .int .i64 mc, .int .i64 md] 28
  have B0 := Lib.hid (below1 w (.cells #[.int .i64 c, .int .i64 l, .int .i64 i, .int .i64 f, .int .i64 s, .int .i64 ma, .int .i64 mb, .int .i64 mc, .int .i64 md] 28))
  have H1 : Hid (∀ w, Calls Try.prog 28 #[.agg #[.int .i64 f, .int .i64 s]] w fun e w' => e = .returned (.bool true) ∧ Below w.heap.size w w') := Lib.hid fun w => by have := rgood15 f s w; rwa [h1] at this
  have H2 := Lib.hid fun w => rleast_at h2 w
  have H3 := Lib.hid fun w => rvalid_at h3 w
  clear h1 h2 h3
  subst hc
  go_enter Try.func10, Try.ntmps10
  go_wp2_with (first
    | (go_at_call 28; refine (H1.out _).mono ?_; rintro e w1 ⟨rfl, hb1⟩; have q1 := row_call hb1 r0; have p1_0 := (cell_row q1 0).trans rfl; have p1_1 := (cell_row q1 1).trans rfl; have p1_2 := (cell_row q1 2).trans rfl; have p1_5 := (cell_row q1 5).trans rfl; have p1_6 := (cell_row q1 6).trans rfl; have p1_7 := (cell_row q1 7).trans rfl; have p1_8 := (cell_row q1 8).trans rfl; simp only [List.getElem?_toArray, List.getElem?_cons_zero, List.getElem?_cons_succ] at p1_0 p1_1 p1_2 p1_5 p1_6 p1_7 p1_8)
    | (go_at_call 30; refine (H2.out _).mono ?_; rintro e w2 ⟨rfl, hb2⟩; have q2 := row_call hb2 q1; have p2_0 := (cell_row q2 0).trans rfl; have p2_1 := (cell_row q2 1).trans rfl; have p2_2 := (cell_row q2 2).trans rfl; have p2_5 := (cell_row q2 5).trans rfl; have p2_6 := (cell_row q2 6).trans rfl; have p2_7 := (cell_row q2 7).trans rfl; have p2_8 := (cell_row q2 8).trans rfl; simp only [List.getElem?_toArray, List.getElem?_cons_zero, List.getElem?_cons_succ] at p2_0 p2_1 p2_2 p2_5 p2_6 p2_7 p2_8)
    | (go_at_call 31; refine (H3.out _).mono ?_; rintro e w3 ⟨rfl, hb3⟩))
  go_ret
  exact ⟨rfl, below_call (below_call (below_call B0.out hb1) hb2) hb3⟩
set_option maxHeartbeats 800000 in
theorem rc_0_true_true_true (c l i f s ma mb mc md : Int) (hc : c = 0) (h1 : goodZ f s = true) (h2 : leastB l = true) (h3 : validI i = true) (w : World) : Calls Try.prog 10 #[.agg #[.int .i64 c, .int .i64 l, .int .i64 i, .int .i64 f, .int .i64 s, .int .i64 ma, .int .i64 mb, .int .i64 mc, .int .i64 md]] w fun e w' => e = .returned (.int .i64 0) ∧ Below w.heap.size w w' := by
  have r0 := row1 w #[.int .i64 c, .int .i64 l, .int .i64 i, .int .i64 f, .int .i64 s, .int .i64 ma, .int .i64 mb, .int .i64 mc, .int .i64 md] 28
  have B0 := Lib.hid (below1 w (.cells #[.int .i64 c, .int .i64 l, .int .i64 i, .int .i64 f, .int .i64 s, .int .i64 ma, .int .i64 mb, .int .i64 mc, .int .i64 md] 28))
  have H1 : Hid (∀ w, Calls Try.prog 28 #[.agg #[.int .i64 f, .int .i64 s]] w fun e w' => e = .returned (.bool true) ∧ Below w.heap.size w w') := Lib.hid fun w => by have := rgood15 f s w; rwa [h1] at this
  have H2 := Lib.hid fun w => rleast_at h2 w
  have H3 := Lib.hid fun w => rvalid_at h3 w
  clear h1 h2 h3
  subst hc
  go_enter Try.func10, Try.ntmps10
  go_wp2_with (first
    | (go_at_call 28; refine (H1.out _).mono ?_; rintro e w1 ⟨rfl, hb1⟩; have q1 := row_call hb1 r0; have p1_0 := (cell_row q1 0).trans rfl; have p1_1 := (cell_row q1 1).trans rfl; have p1_2 := (cell_row q1 2).trans rfl; have p1_5 := (cell_row q1 5).trans rfl; have p1_6 := (cell_row q1 6).trans rfl; have p1_7 := (cell_row q1 7).trans rfl; have p1_8 := (cell_row q1 8).trans rfl; simp only [List.getElem?_toArray, List.getElem?_cons_zero, List.getElem?_cons_succ] at p1_0 p1_1 p1_2 p1_5 p1_6 p1_7 p1_8)
    | (go_at_call 30; refine (H2.out _).mono ?_; rintro e w2 ⟨rfl, hb2⟩; have q2 := row_call hb2 q1; have p2_0 := (cell_row q2 0).trans rfl; have p2_1 := (cell_row q2 1).trans rfl; have p2_2 := (cell_row q2 2).trans rfl; have p2_5 := (cell_row q2 5).trans rfl; have p2_6 := (cell_row q2 6).trans rfl; have p2_7 := (cell_row q2 7).trans rfl; have p2_8 := (cell_row q2 8).trans rfl; simp only [List.getElem?_toArray, List.getElem?_cons_zero, List.getElem?_cons_succ] at p2_0 p2_1 p2_2 p2_5 p2_6 p2_7 p2_8)
    | (go_at_call 31; refine (H3.out _).mono ?_; rintro e w3 ⟨rfl, hb3⟩))
  go_ret
  exact ⟨rfl, below_call (below_call (below_call B0.out hb1) hb2) hb3⟩
set_option maxHeartbeats 800000 in
theorem rc_1_false_x_x (c l i f s ma mb mc md : Int) (hc : c = 1) (h1 : goodH ma mb mc md = false) (w : World) : Calls Try.prog 10 #[.agg #[.int .i64 c, .int .i64 l, .int .i64 i, .int .i64 f, .int .i64 s, .int .i64 ma, .int .i64 mb, .int .i64 mc, .int .i64 md]] w fun e w' => e = .returned (.int .i64 1) ∧ Below w.heap.size w w' := by
  have r0 := row1 w #[.int .i64 c, .int .i64 l, .int .i64 i, .int .i64 f, .int .i64 s, .int .i64 ma, .int .i64 mb, .int .i64 mc, .int .i64 md] 28
  have B0 := Lib.hid (below1 w (.cells #[.int .i64 c, .int .i64 l, .int .i64 i, .int .i64 f, .int .i64 s, .int .i64 ma, .int .i64 mb, .int .i64 mc, .int .i64 md] 28))
  have H1 : Hid (∀ w, Calls Try.prog 29 #[.agg #[.int .i64 ma, .int .i64 mb, .int .i64 mc, .int .i64 md]] w fun e w' => e = .returned (.bool false) ∧ Below w.heap.size w w') := Lib.hid fun w => by have := rgood16 ma mb mc md w; rwa [h1] at this
  clear h1
  subst hc
  go_enter Try.func10, Try.ntmps10
  go_wp2_with (first
    | (go_at_call 29; refine (H1.out _).mono ?_; rintro e w1 ⟨rfl, hb1⟩))
  go_ret
  exact ⟨rfl, below_call B0.out hb1⟩
set_option maxHeartbeats 800000 in
theorem rc_1_true_false_x (c l i f s ma mb mc md : Int) (hc : c = 1) (h1 : goodH ma mb mc md = true) (h2 : leastB l = false) (w : World) : Calls Try.prog 10 #[.agg #[.int .i64 c, .int .i64 l, .int .i64 i, .int .i64 f, .int .i64 s, .int .i64 ma, .int .i64 mb, .int .i64 mc, .int .i64 md]] w fun e w' => e = .returned (.int .i64 1) ∧ Below w.heap.size w w' := by
  have r0 := row1 w #[.int .i64 c, .int .i64 l, .int .i64 i, .int .i64 f, .int .i64 s, .int .i64 ma, .int .i64 mb, .int .i64 mc, .int .i64 md] 28
  have B0 := Lib.hid (below1 w (.cells #[.int .i64 c, .int .i64 l, .int .i64 i, .int .i64 f, .int .i64 s, .int .i64 ma, .int .i64 mb, .int .i64 mc, .int .i64 md] 28))
  have H1 : Hid (∀ w, Calls Try.prog 29 #[.agg #[.int .i64 ma, .int .i64 mb, .int .i64 mc, .int .i64 md]] w fun e w' => e = .returned (.bool true) ∧ Below w.heap.size w w') := Lib.hid fun w => by have := rgood16 ma mb mc md w; rwa [h1] at this
  have H2 := Lib.hid fun w => rleast_at h2 w
  clear h1 h2
  subst hc
  go_enter Try.func10, Try.ntmps10
  go_wp2_with (first
    | (go_at_call 29; refine (H1.out _).mono ?_; rintro e w1 ⟨rfl, hb1⟩; have q1 := row_call hb1 r0; have p1_0 := (cell_row q1 0).trans rfl; have p1_1 := (cell_row q1 1).trans rfl; have p1_2 := (cell_row q1 2).trans rfl; have p1_5 := (cell_row q1 5).trans rfl; have p1_6 := (cell_row q1 6).trans rfl; have p1_7 := (cell_row q1 7).trans rfl; have p1_8 := (cell_row q1 8).trans rfl; simp only [List.getElem?_toArray, List.getElem?_cons_zero, List.getElem?_cons_succ] at p1_0 p1_1 p1_2 p1_5 p1_6 p1_7 p1_8)
    | (go_at_call 30; refine (H2.out _).mono ?_; rintro e w2 ⟨rfl, hb2⟩))
  go_ret
  exact ⟨rfl, below_call (below_call B0.out hb1) hb2⟩
set_option maxHeartbeats 800000 in
theorem rc_1_true_true_false (c l i f s ma mb mc md : Int) (hc : c = 1) (h1 : goodH ma mb mc md = true) (h2 : leastB l = true) (h3 : validI i = false) (w : World) : Calls Try.prog 10 #[.agg #[.int .i64 c, .int .i64 l, .int .i64 i, .int .i64 f, .int .i64 s, .int .i64 ma, .int .i64 mb, .int .i64 mc, .int .i64 md]] w fun e w' => e = .returned (.int .i64 1) ∧ Below w.heap.size w w' := by
  have r0 := row1 w #[.int .i64 c, .int .i64 l, .int .i64 i, .int .i64 f, .int .i64 s, .int .i64 ma, .int .i64 mb, .int .i64 mc, .int .i64 md] 28
  have B0 := Lib.hid (below1 w (.cells #[.int .i64 c, .int .i64 l, .int .i64 i, .int .i64 f, .int .i64 s, .int .i64 ma, .int .i64 mb, .int .i64 mc, .int .i64 md] 28))
  have H1 : Hid (∀ w, Calls Try.prog 29 #[.agg #[.int .i64 ma, .int .i64 mb, .int .i64 mc, .int .i64 md]] w fun e w' => e = .returned (.bool true) ∧ Below w.heap.size w w') := Lib.hid fun w => by have := rgood16 ma mb mc md w; rwa [h1] at this
  have H2 := Lib.hid fun w => rleast_at h2 w
  have H3 := Lib.hid fun w => rvalid_at h3 w
  clear h1 h2 h3
  subst hc
  go_enter Try.func10, Try.ntmps10
  go_wp2_with (first
    | (go_at_call 29; refine (H1.out _).mono ?_; rintro e w1 ⟨rfl, hb1⟩; have q1 := row_call hb1 r0; have p1_0 := (cell_row q1 0).trans rfl; have p1_1 := (cell_row q1 1).trans rfl; have p1_2 := (cell_row q1 2).trans rfl; have p1_5 := (cell_row q1 5).trans rfl; have p1_6 := (cell_row q1 6).trans rfl; have p1_7 := (cell_row q1 7).trans rfl; have p1_8 := (cell_row q1 8).trans rfl; simp only [List.getElem?_toArray, List.getElem?_cons_zero, List.getElem?_cons_succ] at p1_0 p1_1 p1_2 p1_5 p1_6 p1_7 p1_8)
    | (go_at_call 30; refine (H2.out _).mono ?_; rintro e w2 ⟨rfl, hb2⟩; have q2 := row_call hb2 q1; have p2_0 := (cell_row q2 0).trans rfl; have p2_1 := (cell_row q2 1).trans rfl; have p2_2 := (cell_row q2 2).trans rfl; have p2_5 := (cell_row q2 5).trans rfl; have p2_6 := (cell_row q2 6).trans rfl; have p2_7 := (cell_row q2 7).trans rfl; have p2_8 := (cell_row q2 8).trans rfl; simp only [List.getElem?_toArray, List.getElem?_cons_zero, List.getElem?_cons_succ] at p2_0 p2_1 p2_2 p2_5 p2_6 p2_7 p2_8)
    | (go_at_call 31; refine (H3.out _).mono ?_; rintro e w3 ⟨rfl, hb3⟩))
  go_ret
  exact ⟨rfl, below_call (below_call (below_call B0.out hb1) hb2) hb3⟩
set_option maxHeartbeats 800000 in
theorem rc_1_true_true_true (c l i f s ma mb mc md : Int) (hc : c = 1) (h1 : goodH ma mb mc md = true) (h2 : leastB l = true) (h3 : validI i = true) (w : World) : Calls Try.prog 10 #[.agg #[.int .i64 c, .int .i64 l, .int .i64 i, .int .i64 f, .int .i64 s, .int .i64 ma, .int .i64 mb, .int .i64 mc, .int .i64 md]] w fun e w' => e = .returned (.int .i64 0) ∧ Below w.heap.size w w' := by
  have r0 := row1 w #[.int .i64 c, .int .i64 l, .int .i64 i, .int .i64 f, .int .i64 s, .int .i64 ma, .int .i64 mb, .int .i64 mc, .int .i64 md] 28
  have B0 := Lib.hid (below1 w (.cells #[.int .i64 c, .int .i64 l, .int .i64 i, .int .i64 f, .int .i64 s, .int .i64 ma, .int .i64 mb, .int .i64 mc, .int .i64 md] 28))
  have H1 : Hid (∀ w, Calls Try.prog 29 #[.agg #[.int .i64 ma, .int .i64 mb, .int .i64 mc, .int .i64 md]] w fun e w' => e = .returned (.bool true) ∧ Below w.heap.size w w') := Lib.hid fun w => by have := rgood16 ma mb mc md w; rwa [h1] at this
  have H2 := Lib.hid fun w => rleast_at h2 w
  have H3 := Lib.hid fun w => rvalid_at h3 w
  clear h1 h2 h3
  subst hc
  go_enter Try.func10, Try.ntmps10
  go_wp2_with (first
    | (go_at_call 29; refine (H1.out _).mono ?_; rintro e w1 ⟨rfl, hb1⟩; have q1 := row_call hb1 r0; have p1_0 := (cell_row q1 0).trans rfl; have p1_1 := (cell_row q1 1).trans rfl; have p1_2 := (cell_row q1 2).trans rfl; have p1_5 := (cell_row q1 5).trans rfl; have p1_6 := (cell_row q1 6).trans rfl; have p1_7 := (cell_row q1 7).trans rfl; have p1_8 := (cell_row q1 8).trans rfl; simp only [List.getElem?_toArray, List.getElem?_cons_zero, List.getElem?_cons_succ] at p1_0 p1_1 p1_2 p1_5 p1_6 p1_7 p1_8)
    | (go_at_call 30; refine (H2.out _).mono ?_; rintro e w2 ⟨rfl, hb2⟩; have q2 := row_call hb2 q1; have p2_0 := (cell_row q2 0).trans rfl; have p2_1 := (cell_row q2 1).trans rfl; have p2_2 := (cell_row q2 2).trans rfl; have p2_5 := (cell_row q2 5).trans rfl; have p2_6 := (cell_row q2 6).trans rfl; have p2_7 := (cell_row q2 7).trans rfl; have p2_8 := (cell_row q2 8).trans rfl; simp only [List.getElem?_toArray, List.getElem?_cons_zero, List.getElem?_cons_succ] at p2_0 p2_1 p2_2 p2_5 p2_6 p2_7 p2_8)
    | (go_at_call 31; refine (H3.out _).mono ?_; rintro e w3 ⟨rfl, hb3⟩))
  go_ret
  exact ⟨rfl, below_call (below_call (below_call B0.out hb1) hb2) hb3⟩
set_option maxHeartbeats 800000 in
theorem rc_other (c l i f s ma mb mc md : Int) (h0 : ¬ c = 0) (h1 : ¬ c = 1) (w : World) : Calls Try.prog 10 #[.agg #[.int .i64 c, .int .i64 l, .int .i64 i, .int .i64 f, .int .i64 s, .int .i64 ma, .int .i64 mb, .int .i64 mc, .int .i64 md]] w fun e w' => e = .returned (.int .i64 6) ∧ Below w.heap.size w w' := by
  have e0 : (c != 0) = true := by simpa using h0
  have e1 : (c != 1) = true := by simpa using h1
  go_enter Try.func10, Try.ntmps10
  go_wp2
  go_ret
  exact ⟨rfl, below1 _ _⟩
theorem rcheck_any (p : Pol) (w : World) : Calls Try.prog 10 #[.agg p.cells] w fun e w' => e = .returned (.int .i64 (polE p)) ∧ Below w.heap.size w w' := by
  rw [← rcheck_eq p]
  obtain ⟨c, l, i, f, s, ma, mb, mc, md⟩ := p
  unfold rcheckS Pol.cells
  simp only
  by_cases h0 : c = 0
  · cases h1 : goodZ f s with
    | false => rw [if_neg (by omega), if_pos (Or.inl ⟨h0, rfl⟩)]; exact rc_0_false_x_x c l i f s ma mb mc md h0 h1 w
    | true =>
      cases h2 : leastB l with
      | false => rw [if_neg (by omega), if_pos (Or.inr (Or.inr (Or.inl rfl)))]; exact rc_0_true_false_x c l i f s ma mb mc md h0 h1 h2 w
      | true =>
        cases h3 : validI i with
        | false => rw [if_neg (by omega), if_pos (Or.inr (Or.inr (Or.inr rfl)))]; exact rc_0_true_true_false c l i f s ma mb mc md h0 h1 h2 h3 w
        | true => rw [if_neg (by omega), if_neg (by simp [h0])]; exact rc_0_true_true_true c l i f s ma mb mc md h0 h1 h2 h3 w
  · by_cases hc1 : c = 1
    · cases h1 : goodH ma mb mc md with
      | false => rw [if_neg (by omega), if_pos (Or.inr (Or.inl ⟨hc1, rfl⟩))]; exact rc_1_false_x_x c l i f s ma mb mc md hc1 h1 w
      | true =>
        cases h2 : leastB l with
        | false => rw [if_neg (by omega), if_pos (Or.inr (Or.inr (Or.inl rfl)))]; exact rc_1_true_false_x c l i f s ma mb mc md hc1 h1 h2 w
        | true =>
          cases h3 : validI i with
          | false => rw [if_neg (by omega), if_pos (Or.inr (Or.inr (Or.inr rfl)))]; exact rc_1_true_true_false c l i f s ma mb mc md hc1 h1 h2 h3 w
          | true => rw [if_neg (by omega), if_neg (by simp [h0])]; exact rc_1_true_true_true c l i f s ma mb mc md hc1 h1 h2 h3 w
    · rw [if_pos ⟨h0, hc1⟩]; exact rc_other c l i f s ma mb mc md h0 hc1 w


end Go.Proofs.Ytobbjdindknkdaa
