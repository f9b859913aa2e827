/- The hysteresis policy's check. -/
import Derived.Test.YtobbjdindknkdaaJ2
import Derived.Test.YtobbjdindknkdaaK5
namespace Go.Proofs.Ytobbjdindknkdaa
open Go Go.RowKit
attribute [local irreducible] wpQuiet wpPure wpHold wpKeep wpQuietS
set_option linter.unusedSimpArgs false
set_option linter.unusedVariables false

def finB (n f : Int) : Bool := decide (f ≤ n ∧ n < 65535)
theorem fin_any (n f : Int) (w : World) : Calls Try.prog 60 #[.int .i64 n, .int .i64 f] w fun e w' => e = .returned (.bool (finB n f)) ∧ Below w.heap.size w w' := by
  go_enter Try.func60, Try.ntmps60
  go_wp2
  all_goals
    go_ret
    exact ⟨ret_bool (by rw [Bool.eq_iff_iff]; simp [finB] <;> omega), Below.refl _ _⟩
theorem fin_at {n f : Int} {b : Bool} (h : finB n f = b) (w : World) : Calls Try.prog 60 #[.int .i64 n, .int .i64 f] w fun e w' => e = .returned (.bool b) ∧ Below w.heap.size w w' := by
  have := fin_any n f w
  rwa [h] at this
theorem valid_at {x : Int} {b : Bool} (h : validI x = b) (t : TypeId) (w : World) (n : Nat) (hn : n = w.heap.size) : Calls Try.prog 47 #[.slice (some ⟨n, 0, none⟩) 1 1] (w.alloc (.cells #[.int .i64 x] t)) fun e w' => e = .returned (.bool b) ∧ w.alloc (.cells #[.int .i64 x] t) = w' := by
  have := valid_one x t w n hn
  rwa [h] at this

set_option maxHeartbeats 800000 in
theorem hcheck_any (a b c d : Int) (w : World) : Calls Try.prog 54 #[.agg #[.int .i64 a, .int .i64 b, .int .i64 c, .int .i64 d]] w fun e w' => e = .returned (.int .i64 (errOf (goodH a b c d))) ∧ Below w.heap.size w w' := by
  have r0 := row1 w #[.int .i64 a, .int .i64 b, .int .i64 c, .int .i64 d] 38
  have B0 := Lib.hid (below1 w (.cells #[.int .i64 a, .int .i64 b, .int .i64 c, .int .i64 d] 38))
  cases ha : finB a 128 with
  | false =>
    have HE : Hid (errOf (goodH a b c d) = 1) := Lib.hid (by rw [show goodH a b c d = false by simp [goodH]; simp [finB] at ha; omega]; rfl)
    have HA := Lib.hid fun w => fin_at ha w
    clear ha
    go_enter Try.func54, Try.ntmps54
    go_wp2_with (go_at_call 60; refine (HA.out _).mono ?_; rintro e w1 ⟨rfl, hb1⟩)
    go_ret
    exact ⟨by rw [HE.out]; rfl, below_call B0.out hb1⟩
  | true =>
    have HA := Lib.hid fun w => fin_at ha w
    cases hb : finB b 0 with
    | false =>
      have HE : Hid (errOf (goodH a b c d) = 1) := Lib.hid (by rw [show goodH a b c d = false by simp [goodH]; simp [finB] at ha hb; omega]; rfl)
      have HBb := Lib.hid fun w => fin_at hb w
      clear ha hb
      go_enter Try.func54, Try.ntmps54
      go_wp2_with (first
        | (go_at_call 60; with_reducible refine (HA.out _).mono ?_; rintro e w1 ⟨rfl, hb1⟩; have q1 := row_call hb1 r0; have p1 := (cell_row q1 1).trans rfl; simp only [List.getElem?_toArray, List.getElem?_cons_zero, List.getElem?_cons_succ] at p1)
        | (go_at_call 60; with_reducible refine (HBb.out _).mono ?_; rintro e w2 ⟨rfl, hb2⟩))
      go_ret
      exact ⟨by rw [HE.out]; rfl, below_call (below_call B0.out hb1) hb2⟩
    | true =>
      have HBb := Lib.hid fun w => fin_at hb w
      cases hc : validI c with
      | false =>
        have HE : Hid (errOf (goodH a b c d) = 1) := Lib.hid (by rw [show goodH a b c d = false by simp [goodH]; simp [finB] at ha hb; simp [validI] at hc; omega]; rfl)
        have HV := Lib.hid fun t w n hn => valid_at hc t w n hn
        clear ha hb hc
        go_enter Try.func54, Try.ntmps54
        go_wp2_with (first
          | (go_at_call 60; with_reducible refine (HA.out _).mono ?_; rintro e w1 ⟨rfl, hb1⟩; have q1 := row_call hb1 r0; have p1 := (cell_row q1 1).trans rfl; simp only [List.getElem?_toArray, List.getElem?_cons_zero, List.getElem?_cons_succ] at p1)
          | (go_at_call 60; with_reducible refine (HBb.out _).mono ?_; rintro e w2 ⟨rfl, hb2⟩; have q2 := row_call hb2 q1; have p2 := (cell_row q2 2).trans rfl; simp only [List.getElem?_toArray, List.getElem?_cons_zero, List.getElem?_cons_succ] at p2)
          | (go_at_call 47; refine (HV.out _ _ _ (by simp)).mono ?_; rintro e w3 ⟨rfl, rfl⟩))
        go_ret
        exact ⟨by rw [HE.out]; rfl, below_new (below_call (below_call B0.out hb1) hb2) _⟩
      | true =>
        have HV := Lib.hid fun t w n hn => valid_at hc t w n hn
        have hg : errOf (goodH a b c d) = errOf (decide (1 ≤ d ∧ d ≤ 8)) := by
          congr 1
          rw [Bool.eq_iff_iff]
          simp [goodH]
          simp [finB] at ha hb
          simp [validI] at hc
          omega
        have HE := Lib.hid hg
        clear ha hb hc hg
        go_enter Try.func54, Try.ntmps54
        by_cases hd1 : d < 1
        · have HE2 := Lib.hid (HE.out.trans (show errOf _ = 1 by rw [decide_eq_false (by omega)]; rfl))
          clear HE
          go_wp2_with (first
            | (go_at_call 60; with_reducible refine (HA.out _).mono ?_; rintro e w1 ⟨rfl, hb1⟩; have q1 := row_call hb1 r0; have p1 := (cell_row q1 1).trans rfl; simp only [List.getElem?_toArray, List.getElem?_cons_zero, List.getElem?_cons_succ] at p1)
            | (go_at_call 60; with_reducible refine (HBb.out _).mono ?_; rintro e w2 ⟨rfl, hb2⟩; have q2 := row_call hb2 q1; have p2 := (cell_row q2 2).trans rfl; have p3 := (cell_row q2 3).trans rfl; have l2 := row_lt q2; simp only [List.getElem?_toArray, List.getElem?_cons_zero, List.getElem?_cons_succ] at p2 p3)
            | (go_at_call 47; refine (HV.out _ _ _ (by simp)).mono ?_; rintro e w3 ⟨rfl, rfl⟩))
          go_ret
          exact ⟨by rw [HE2.out]; rfl, below_new (below_call (below_call B0.out hb1) hb2) _⟩
        · by_cases hd2 : 8 < d
          · have HE2 := Lib.hid (HE.out.trans (show errOf _ = 1 by rw [decide_eq_false (by omega)]; rfl))
            clear HE
            go_wp2_with (first
              | (go_at_call 60; with_reducible refine (HA.out _).mono ?_; rintro e w1 ⟨rfl, hb1⟩; have q1 := row_call hb1 r0; have p1 := (cell_row q1 1).trans rfl; simp only [List.getElem?_toArray, List.getElem?_cons_zero, List.getElem?_cons_succ] at p1)
              | (go_at_call 60; with_reducible refine (HBb.out _).mono ?_; rintro e w2 ⟨rfl, hb2⟩; have q2 := row_call hb2 q1; have p2 := (cell_row q2 2).trans rfl; have p3 := (cell_row q2 3).trans rfl; have l2 := row_lt q2; simp only [List.getElem?_toArray, List.getElem?_cons_zero, List.getElem?_cons_succ] at p2 p3)
              | (go_at_call 47; refine (HV.out _ _ _ (by simp)).mono ?_; rintro e w3 ⟨rfl, rfl⟩))
            go_ret
            exact ⟨by rw [HE2.out]; rfl, below_new (below_call (below_call B0.out hb1) hb2) _⟩
          · have HE2 := Lib.hid (HE.out.trans (show errOf _ = 0 by rw [decide_eq_true (by omega)]; rfl))
            clear HE
            go_wp2_with (first
              | (go_at_call 60; with_reducible refine (HA.out _).mono ?_; rintro e w1 ⟨rfl, hb1⟩; have q1 := row_call hb1 r0; have p1 := (cell_row q1 1).trans rfl; simp only [List.getElem?_toArray, List.getElem?_cons_zero, List.getElem?_cons_succ] at p1)
              | (go_at_call 60; with_reducible refine (HBb.out _).mono ?_; rintro e w2 ⟨rfl, hb2⟩; have q2 := row_call hb2 q1; have p2 := (cell_row q2 2).trans rfl; have p3 := (cell_row q2 3).trans rfl; have l2 := row_lt q2; simp only [List.getElem?_toArray, List.getElem?_cons_zero, List.getElem?_cons_succ] at p2 p3)
              | (go_at_call 47; refine (HV.out _ _ _ (by simp)).mono ?_; rintro e w3 ⟨rfl, rfl⟩))
            go_ret
            exact ⟨by rw [HE2.out]; rfl, below_new (below_call (below_call B0.out hb1) hb2) _⟩

end Go.Proofs.Ytobbjdindknkdaa
