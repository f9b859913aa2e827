/- The zero policy: steps, increases, ranks. -/
import Derived.Test.YtobbjdindknkdaaJ1
namespace Go.Proofs.Ytobbjdindknkdaa
open Go Go.RowKit
attribute [local irreducible] wpQuiet wpPure wpHold wpKeep
set_option linter.unusedSimpArgs false
set_option linter.unusedVariables false

def costB (n : Int) : Bool := decide (128 ≤ n ∧ n ≤ 65535)
theorem cost_any (n : Int) (w : World) : Calls Try.prog 57 #[.int .i64 n] w fun e w' => e = .returned (.bool (costB n)) ∧ Below w.heap.size w w' := by
  have hv := valid_one n 33 w w.heap.size rfl
  have HV : Hid (∀ (t : TypeId), Calls Try.prog 47 #[.slice (some ⟨w.heap.size, 0, none⟩) 1 1] (w.alloc (.cells #[.int .i64 n] t)) fun e w' => e = .returned (.bool (validI n)) ∧ w.alloc (.cells #[.int .i64 n] t) = w') := Lib.hid fun t => valid_one n t w w.heap.size rfl
  clear hv
  cases h : validI n with
  | false =>
    have hc : costB n = false := by unfold validI at h; unfold costB; simp at h ⊢; omega
    rw [h] at HV
    rw [hc]
    clear h hc
    go_enter Try.func57, Try.ntmps57
    go_wp2_with (go_at_call 47; refine (HV.out _).mono ?_; rintro e w' ⟨rfl, rfl⟩)
    go_ret
    exact ⟨rfl, below1 _ _⟩
  | true =>
    have hc : costB n = decide (128 ≤ n) := by unfold validI at h; unfold costB; rw [Bool.eq_iff_iff]; simp at h ⊢; omega
    rw [h] at HV
    have HC := Lib.hid hc
    clear h hc
    go_enter Try.func57, Try.ntmps57
    go_wp2_with (go_at_call 47; refine (HV.out _).mono ?_; rintro e w' ⟨rfl, rfl⟩)
    go_ret
    exact ⟨ret_bool HC.out.symm, below1 _ _⟩
theorem least_any (n : Int) (w : World) : Calls Try.prog 56 #[.int .i64 n] w fun e w' => e = .returned (.bool (leastB n)) ∧ Below w.heap.size w w' := by
  have HV : Hid (∀ (t : TypeId), Calls Try.prog 47 #[.slice (some ⟨w.heap.size, 0, none⟩) 1 1] (w.alloc (.cells #[.int .i64 n] t)) fun e w' => e = .returned (.bool (validI n)) ∧ w.alloc (.cells #[.int .i64 n] t) = w') := Lib.hid fun t => valid_one n t w w.heap.size rfl
  by_cases h0 : 0 < n
  · have hc : leastB n = validI n := by unfold validI leastB; rw [Bool.eq_iff_iff]; simp; omega
    have HC := Lib.hid hc
    clear hc
    generalize validI n = V at *
    go_enter Try.func56, Try.ntmps56
    go_wp2_with (go_at_call 47; refine (HV.out _).mono ?_; rintro e w' ⟨rfl, rfl⟩)
    go_ret
    exact ⟨ret_bool HC.out.symm, below1 _ _⟩
  · have hc : leastB n = false := by unfold leastB; simp; omega
    have HC := Lib.hid hc
    clear hc
    go_enter Try.func56, Try.ntmps56
    go_wp2
    go_ret
    exact ⟨ret_bool HC.out.symm, Below.refl _ _⟩
theorem step_ok (n : Int) (hn : 128 ≤ n ∧ n ≤ 65535) (w : World) : Calls Try.prog 55 #[.int .i64 n] w fun e w' => e = .returned (.tuple #[.int .i64 (stepS n), .int .i64 0]) ∧ Below w.heap.size w w' := by
  have HC : Hid (∀ w, Calls Try.prog 57 #[.int .i64 n] w fun e w' => e = .returned (.bool true) ∧ Below w.heap.size w w') := Lib.hid fun w => by
    have := cost_any n w
    rwa [show costB n = true by unfold costB; simp; omega] at this
  have HE : Hid (min (max (3 * n / 128 - 2) 1) 9 = stepS n) := Lib.hid (by unfold stepS; (repeat' split) <;> omega)
  obtain ⟨h0, h1⟩ := hn
  go_enter Try.func55, Try.ntmps55
  go_wp2_with (go_at_call 57; refine (HC.out _).mono ?_; rintro e w' ⟨rfl, hb⟩)
  go_ret2
  exact ⟨by rw [← HE.out]; rfl, hb⟩
def errOf (b : Bool) : Int := if b then 0 else 1
theorem errOf_true : errOf true = 0 := rfl
theorem errOf_false : errOf false = 1 := rfl
theorem zcheck_any (f s : Int) (w : World) : Calls Try.prog 53 #[.agg #[.int .i64 f, .int .i64 s]] w fun e w' => e = .returned (.int .i64 (errOf (goodZ f s))) ∧ Below w.heap.size w w' := by
  go_enter Try.func53, Try.ntmps53
  go_wp2
  all_goals
    go_ret
    exact ⟨ret_int (by first | (rw [show goodZ f s = true by simp [goodZ]; omega]; rfl) | (rw [show goodZ f s = false by simp [goodZ]; omega]; rfl)), below1 _ _⟩
theorem zcheck_ok (f s : Int) (hf : 1 ≤ f ∧ f ≤ 4) (hs : 0 ≤ s ∧ s ≤ 5) (w : World) : Calls Try.prog 53 #[.agg #[.int .i64 f, .int .i64 s]] w fun e w' => e = .returned (.int .i64 0) ∧ Below w.heap.size w w' := by
  have := zcheck_any f s w
  rwa [show goodZ f s = true by simp [goodZ]; omega] at this

set_option maxHeartbeats 400000 in
theorem inc_ok (f s c l : Int) (hf : 1 ≤ f ∧ f ≤ 4) (hs : 0 ≤ s ∧ s ≤ 5) (hc : 128 ≤ c ∧ c ≤ 65535) (hl : 1 ≤ l ∧ l ≤ 65535) (w : World) :
    Calls Try.prog 48 #[.agg #[.int .i64 f, .int .i64 s], .int .i64 c, .int .i64 l] w fun e w' => e = .returned (.tuple #[.int .i64 (incS f s c l), .int .i64 0]) ∧ Below w.heap.size w w' := by
  have r0 := row1 w #[.int .i64 f, .int .i64 s] 37
  have HZ := Lib.hid fun w => zcheck_ok f s hf hs w
  have HS := Lib.hid fun w => step_ok c hc w
  have HL : Hid (∀ w, Calls Try.prog 56 #[.int .i64 l] w fun e w' => e = .returned (.bool true) ∧ Below w.heap.size w w') := Lib.hid fun w => by
    have := least_any l w
    rwa [show leastB l = true by unfold leastB; simp; omega] at this
  have hx := stepS_range c
  have HE : Hid (incS f s c l = if 65535 < (f * stepS c + s) * l then 65535 else (f * stepS c + s) * l) := Lib.hid rfl
  generalize stepS c = x at *
  obtain ⟨g0, g1⟩ := mul_range hf hx
  obtain ⟨g2, g3⟩ := mul_range2 (y := f * x + s) (by omega) hl
  have e1 : wrap64 (f * x) = f * x := by unfold wrap64; omega
  have e2 : wrap64 (f * x + s) = f * x + s := by unfold wrap64; omega
  have e3 : wrap64 ((f * x + s) * l) = (f * x + s) * l := by unfold wrap64; omega
  have HM : Hid (min ((f * x + s) * l) 65535 = incS f s c l) := Lib.hid (by rw [HE.out]; split <;> omega)
  obtain ⟨g4, g5⟩ := hs
  have B0 := Lib.hid (below1 w (.cells #[.int .i64 f, .int .i64 s] 37))
  clear hf hc hl hx HE
  go_enter Try.func48, Try.ntmps48
  go_wp2_with (first
    | (go_at_call 53; refine (HZ.out _).mono ?_; rintro e w1 ⟨rfl, hb1⟩)
    | (go_at_call 55; refine (HS.out _).mono ?_; rintro e w2 ⟨rfl, hb2⟩)
    | (go_at_call 56; refine (HL.out _).mono ?_; rintro e w3 ⟨rfl, hb3⟩; have q3 := row_call hb3 (row_call hb2 (row_call hb1 r0)); have p0 := (cell_row q3 0).trans rfl; have p1 := (cell_row q3 1).trans rfl; simp only [List.getElem?_toArray, List.getElem?_cons_zero, List.getElem?_cons_succ] at p0 p1))
  go_ret2
  exact ⟨by rw [← HM.out]; rfl, below_call (below_call (below_call B0.out hb1) hb2) hb3⟩

set_option maxHeartbeats 400000 in
theorem right_ok (k r c : Int) (hk : 0 ≤ k ∧ k < 64) (hr : 0 ≤ r ∧ r ≤ 65535) (hc : 128 ≤ c ∧ c ≤ 65535) (w : World) :
    Calls Try.prog 49 #[.agg #[.int .i64 k, .int .i64 r, .int .i64 c]] w fun e w' => e = .returned (.bool true) ∧ Below w.heap.size w w' := by
  have HC : Hid (∀ w, Calls Try.prog 57 #[.int .i64 c] w fun e w' => e = .returned (.bool true) ∧ Below w.heap.size w w') := Lib.hid fun w => by
    have := cost_any c w
    rwa [show costB c = true by unfold costB; simp; omega] at this
  have HV : Hid (∀ (w : World) (t : TypeId) (n : Nat) (hn : n = w.heap.size), Calls Try.prog 47 #[.slice (some ⟨n, 0, none⟩) 1 1] (w.alloc (.cells #[.int .i64 r] t)) fun e w' => e = .returned (.bool true) ∧ w.alloc (.cells #[.int .i64 r] t) = w') := Lib.hid fun w t n hn => by
    have := valid_one r t w n hn
    rwa [show validI r = true by unfold validI; simp; omega] at this
  obtain ⟨k0, k1⟩ := hk
  clear hr hc
  go_enter Try.func49, Try.ntmps49
  go_wp2_with (first
    | (go_at_call 47; refine (HV.out _ _ _ (by simp)).mono ?_; rintro e w1 ⟨rfl, rfl⟩)
    | (go_at_call 57; refine (HC.out _).mono ?_; rintro e w2 ⟨rfl, hb2⟩))
  go_ret
  exact ⟨rfl, below_call (below2 _ _ _) hb2⟩
def addI (r n : Int) : Int := min (r + min n 65535) 65535
set_option maxHeartbeats 400000 in
theorem add_one (r n : Int) (hr : 0 ≤ r ∧ r ≤ 65535) (hn : 0 ≤ n ∧ n ≤ 65535) (w : World) (b : Nat) (hc : w.cell? ⟨b, 0, none⟩ = some (.int .i64 n)) :
    Calls Try.prog 50 #[.int .i64 r, .slice (some ⟨b, 0, none⟩) 1 1] w fun e w' => e = .returned (.tuple #[.int .i64 (addI r n), .int .i64 0]) ∧ Below w.heap.size w w' := by
  have HV : Hid (∀ (w : World) (t : TypeId) (n : Nat) (hn : n = w.heap.size), Calls Try.prog 47 #[.slice (some ⟨n, 0, none⟩) 1 1] (w.alloc (.cells #[.int .i64 r] t)) fun e w' => e = .returned (.bool true) ∧ w.alloc (.cells #[.int .i64 r] t) = w') := Lib.hid fun w t n hn => by
    have := valid_one r t w n hn
    rwa [show validI r = true by unfold validI; simp; omega] at this
  have hbl := cell_lt hc
  simp only at hbl
  have HE : Hid (addI r n = min (r + min n 65535) 65535) := Lib.hid rfl
  have HCc := Lib.hid hc
  clear hc
  obtain ⟨h0, h1⟩ := hr
  obtain ⟨n0, n1⟩ := hn
  go_enter Try.func50, Try.ntmps50
  go_wp2_with (first
    | (go_at_call 47; refine (HV.out _ _ _ (by simp)).mono ?_; rintro e w1 ⟨rfl, rfl⟩))
  have hcc : (w.alloc (.cells #[.int .i64 r] 3)).cell? ⟨b, 0, none⟩ = some (.int .i64 n) := (World.cell?_alloc_lt w _ ⟨b, 0, none⟩ hbl).trans HCc.out
  have HB := Lib.hid (below1 w (.cells #[.int .i64 r] 3))
  generalize w.alloc (.cells #[.int .i64 r] 3) = W at *
  go_loop [6, 16] (fun s t => ∃ k : Nat, k ≤ 1 ∧ t = .int .i64 k ∧ s = .int .i64 (if k = 0 then r else addI r n)) (fun _ t => 1 - (intOf t).toNat)
  case atStart => exact ⟨0, by omega, rfl, rfl⟩
  case round =>
    obtain ⟨k, hk, rfl, rfl⟩ := hrel
    rcases Nat.eq_zero_or_pos k with h0 | h0
    · subst h0
      rw [if_pos rfl]
      go_wp2
      refine ⟨⟨1, by omega, by go_num, by rw [if_neg (by omega), HE.out]⟩, by simp [intOf]⟩
    · have hk1 : k = 1 := by omega
      subst hk1
      rw [if_neg (by omega)]
      go_wp2
      go_ret2
      exact ⟨rfl, HB.out⟩
set_option maxHeartbeats 400000 in
theorem rank_ok (f s k r c l : Int) (hf : 1 ≤ f ∧ f ≤ 4) (hs : 0 ≤ s ∧ s ≤ 5) (hk : 0 ≤ k ∧ k < 64) (hr : 0 ≤ r ∧ r ≤ 65535) (hc : 128 ≤ c ∧ c ≤ 65534) (hl : 1 ≤ l ∧ l ≤ 65535) (w : World) :
    Calls Try.prog 41 #[.agg #[.int .i64 f, .int .i64 s], .agg #[.int .i64 k, .int .i64 r, .int .i64 c], .int .i64 l] w fun e w' => e = .returned (.tuple #[.int .i64 (rankS f s r c l), .int .i64 0]) ∧ Below w.heap.size w w' := by
  have r0 := row2a w #[.int .i64 f, .int .i64 s] 37 (.cells #[.int .i64 k, .int .i64 r, .int .i64 c] 98)
  have r1 := row2b w #[.int .i64 k, .int .i64 r, .int .i64 c] 98 (.cells #[.int .i64 f, .int .i64 s] 37)
  have B0 := Lib.hid (below2 w (.cells #[.int .i64 f, .int .i64 s] 37) (.cells #[.int .i64 k, .int .i64 r, .int .i64 c] 98))
  have HI := Lib.hid fun w => inc_ok f s c l hf hs (by omega) hl w
  have HR := Lib.hid fun w => right_ok k r c hk hr (by omega) w
  have hi := inc_range (c := c) hf hs hl
  have HE : Hid (rankS f s r c l = addI r (incS f s c l)) := Lib.hid (by unfold rankS addI; split <;> omega)
  generalize incS f s c l = x at *
  have HA := Lib.hid fun w b hc => add_one r x hr (by omega) w b hc
  have hc1 : ¬ (c = 65535) := by omega
  clear hf hs hl hi hr hk hc
  go_enter Try.func41, Try.ntmps41
  go_wp2_with (first
    | (go_at_call 48; refine (HI.out _).mono ?_; rintro e w1 ⟨rfl, hb1⟩; have q1 := row_call hb1 r1; have p0 := (cell_row q1 0).trans rfl; have p1 := (cell_row q1 1).trans rfl; have p2 := (cell_row q1 2).trans rfl; simp only [List.getElem?_toArray, List.getElem?_cons_zero, List.getElem?_cons_succ] at p0 p1 p2)
    | (go_at_call 49; refine (HR.out _).mono ?_; rintro e w2 ⟨rfl, hb2⟩; have q2 := row_call hb2 q1; have z1 := (cell_row q2 1).trans rfl; have z2 := (cell_row q2 2).trans rfl; simp only [List.getElem?_toArray, List.getElem?_cons_zero, List.getElem?_cons_succ] at z1 z2)
    | (go_at_call 50; refine (HA.out _ _ (by first | exact World.cell?_alloc_new _ _ _ | (rw [World.cell?_alloc_new]; rfl))).mono ?_; rintro e w3 ⟨rfl, hb3⟩))
  go_ret2
  exact ⟨by rw [HE.out]; rfl, below_call (below_new (below_call (below_call B0.out hb1) hb2) _) hb3⟩

end Go.Proofs.Ytobbjdindknkdaa
