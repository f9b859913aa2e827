/- The document's checks of a policy, and its ranks. -/
import Derived.Test.YtobbjdindknkdaaI5
namespace Go.Proofs.Ytobbjdindknkdaa
open Go Go.RowKit
attribute [local irreducible] wpQuiet wpPure wpHold wpKeep
set_option linter.unusedSimpArgs false
set_option linter.unusedVariables false

theorem ret_bool {a b : Bool} (h : a = b) : Ending.returned (.bool a) = Ending.returned (.bool b) := by rw [h]
theorem ret_int {k : IntKind} {a b : Int} (h : a = b) : Ending.returned (.int k a) = Ending.returned (.int k b) := by rw [h]

/-! ### the document's policies -/
def goodZ (f s : Int) : Bool := decide (1 ≤ f ∧ f ≤ 4 ∧ 0 ≤ s ∧ s ≤ 5)
def goodH (a b c d : Int) : Bool := decide (128 ≤ a ∧ a ≤ 65534 ∧ 0 ≤ b ∧ b ≤ 65534 ∧ 0 ≤ c ∧ c ≤ 65535 ∧ 1 ≤ d ∧ d ≤ 8)
def leastB (n : Int) : Bool := decide (1 ≤ n ∧ n ≤ 65535)
def validI (n : Int) : Bool := decide (0 ≤ n ∧ n ≤ 65535)
set_option maxHeartbeats 400000 in
theorem rgood15 (f s : Int) (w : World) : Calls Try.prog 28 #[.agg #[.int .i64 f, .int .i64 s]] w fun e w' => e = .returned (.bool (goodZ f s)) ∧ Below w.heap.size w w' := by
  go_enter Try.func28, Try.ntmps28
  go_wp2
  all_goals
    go_ret
    exact ⟨ret_bool (by rw [Bool.eq_iff_iff]; simp [goodZ] <;> omega), below1 _ _⟩
set_option maxHeartbeats 400000 in
theorem rgood16 (a b c d : Int) (w : World) : Calls Try.prog 29 #[.agg #[.int .i64 a, .int .i64 b, .int .i64 c, .int .i64 d]] w fun e w' => e = .returned (.bool (goodH a b c d)) ∧ Below w.heap.size w w' := by
  go_enter Try.func29, Try.ntmps29
  go_wp2
  all_goals
    go_ret
    exact ⟨ret_bool (by rw [Bool.eq_iff_iff]; simp [goodH] <;> omega), below1 _ _⟩
theorem rleast (n : Int) (w : World) : Calls Try.prog 30 #[.int .i64 n] w fun e w' => e = .returned (.bool (leastB n)) ∧ Below w.heap.size w w' := by
  go_enter Try.func30, Try.ntmps30
  go_wp2
  all_goals
    go_ret
    exact ⟨ret_bool (by rw [Bool.eq_iff_iff]; simp [leastB] <;> omega), Below.refl _ _⟩
theorem rvalid (n : Int) (w : World) : Calls Try.prog 31 #[.int .i64 n] w fun e w' => e = .returned (.bool (validI n)) ∧ Below w.heap.size w w' := by
  go_enter Try.func31, Try.ntmps31
  go_wp2
  all_goals
    go_ret
    exact ⟨ret_bool (by rw [Bool.eq_iff_iff]; simp [validI] <;> omega), Below.refl _ _⟩

def stepS (c : Int) : Int := if 3 * c / 128 - 2 < 1 then 1 else if 9 < 3 * c / 128 - 2 then 9 else 3 * c / 128 - 2
def incS (f s c l : Int) : Int := if 65535 < (f * stepS c + s) * l then 65535 else (f * stepS c + s) * l
def rankS (f s r c l : Int) : Int := if 65535 < r + incS f s c l ∨ c = 65535 then 65535 else r + incS f s c l
theorem stepS_range (c : Int) : 1 ≤ stepS c ∧ stepS c ≤ 9 := by unfold stepS; split <;> (try split) <;> omega
theorem mul_range {f x : Int} (hf : 1 ≤ f ∧ f ≤ 4) (hx : 1 ≤ x ∧ x ≤ 9) : 1 ≤ f * x ∧ f * x ≤ 36 := by
  obtain ⟨h1, h2⟩ := hf
  have : f = 1 ∨ f = 2 ∨ f = 3 ∨ f = 4 := by omega
  rcases this with rfl | rfl | rfl | rfl <;> omega
theorem mul_range2 {y l : Int} (hy : 1 ≤ y ∧ y ≤ 41) (hl : 1 ≤ l ∧ l ≤ 65535) : l ≤ y * l ∧ y * l ≤ 2686935 := by
  have h1 : 0 ≤ (y - 1) * l := Int.mul_nonneg (by omega) (by omega)
  have h2 : 0 ≤ (41 - y) * l := Int.mul_nonneg (by omega) (by omega)
  rw [Int.sub_mul] at h1 h2
  omega
theorem inc_range {f s c l : Int} (hf : 1 ≤ f ∧ f ≤ 4) (hs : 0 ≤ s ∧ s ≤ 5) (hl : 1 ≤ l ∧ l ≤ 65535) : 1 ≤ incS f s c l ∧ incS f s c l ≤ 65535 := by
  have h1 := mul_range hf (stepS_range c)
  have h2 := mul_range2 (y := f * stepS c + s) (by omega) hl
  unfold incS
  split <;> omega
theorem rank_range {f s r c l : Int} (hf : 1 ≤ f ∧ f ≤ 4) (hs : 0 ≤ s ∧ s ≤ 5) (hl : 1 ≤ l ∧ l ≤ 65535) (hr : 0 ≤ r ∧ r ≤ 65535) : (r < rankS f s r c l ∨ rankS f s r c l = 65535) ∧ rankS f s r c l ≤ 65535 ∧ r ≤ rankS f s r c l := by
  have := inc_range (c := c) hf hs hl
  unfold rankS
  split <;> omega
set_option maxHeartbeats 400000 in
theorem rstep (c : Int) (hc : 0 ≤ c ∧ c ≤ 65535) (w : World) : Calls Try.prog 51 #[.int .i64 c] w fun e w' => e = .returned (.int .i64 (stepS c)) ∧ Below w.heap.size w w' := by
  obtain ⟨h0, h1⟩ := hc
  go_enter Try.func51, Try.ntmps51
  go_wp2
  all_goals
    go_ret
    exact ⟨ret_int (by unfold stepS; (repeat' split) <;> omega), Below.refl _ _⟩
set_option maxHeartbeats 400000 in
theorem rinc (f s c l : Int) (hf : 1 ≤ f ∧ f ≤ 4) (hs : 0 ≤ s ∧ s ≤ 5) (hc : 0 ≤ c ∧ c ≤ 65535) (hl : 1 ≤ l ∧ l ≤ 65535) (w : World) : Calls Try.prog 42 #[.agg #[.int .i64 f, .int .i64 s], .int .i64 c, .int .i64 l] w fun e w' => e = .returned (.int .i64 (incS f s c l)) ∧ Below w.heap.size w w' := by
  have r0 := row1 w #[.int .i64 f, .int .i64 s] 24
  have c0 : ∀ w', Since (w.alloc (.cells #[.int .i64 f, .int .i64 s] 24)) w' → w'.cell? ⟨w.heap.size, 0, none⟩ = some (.int .i64 f) := fun w' h => later h r0 rfl
  have c1 : ∀ w', Since (w.alloc (.cells #[.int .i64 f, .int .i64 s] 24)) w' → w'.cell? ⟨w.heap.size, 1, none⟩ = some (.int .i64 s) := fun w' h => later h r0 rfl
  have HS := Lib.hid fun w => rstep c hc w
  have hx := stepS_range c
  have HE : Hid (incS f s c l = if 65535 < (f * stepS c + s) * l then 65535 else (f * stepS c + s) * l) := Lib.hid rfl
  generalize stepS c = x at *
  have hm := mul_range hf hx
  have hm2 := mul_range2 (y := f * x + s) (by omega) hl
  obtain ⟨g0, g1⟩ := hm
  obtain ⟨g2, g3⟩ := hm2
  obtain ⟨g4, g5⟩ := hs
  have e1 : wrap64 (f * x) = f * x := by unfold wrap64; omega
  have e2 : wrap64 (f * x + s) = f * x + s := by unfold wrap64; omega
  have e3 : wrap64 ((f * x + s) * l) = (f * x + s) * l := by unfold wrap64; omega
  have B0 := Lib.hid (below1 w (.cells #[.int .i64 f, .int .i64 s] 24))
  clear r0 hf hc hl hx
  go_enter Try.func42, Try.ntmps42
  go_wp2
  refine wp_region_calm (Since _) (by kernel_rfl) (by kernel_rfl) (Since.drew _) ?_
  (refine wpQuiet_step (fun K hK => ?_); rw [if_pos (by rfl)]; apply quiet_val; (intro wq hwq; go_simp; (try go_ints); exact rfl); refine hK _ ?_; clear hK K; simp only [Act.put, List.setIfInBounds_toArray, List.set_cons_zero, List.set_cons_succ])
  (refine wpQuiet_step (fun K hK => ?_); rw [if_pos (by rfl)]; apply quiet_val; (intro wq hwq; go_simp; (try go_ints); exact rfl); refine hK _ ?_; clear hK K; simp only [Act.put, List.setIfInBounds_toArray, List.set_cons_zero, List.set_cons_succ])
  (refine wpQuiet_step (fun K hK => ?_); rw [if_pos (by rfl)]; apply quiet_val; (intro wq hwq; go_simp; (try go_ints); exact rfl); refine hK _ ?_; clear hK K; simp only [Act.put, List.setIfInBounds_toArray, List.set_cons_zero, List.set_cons_succ])
  (refine wpQuiet_step (fun K hK => ?_); rw [if_pos (by rfl)]; apply quiet_call; (intro wq; go_simp; exact ⟨rfl, rfl⟩); (intro wq hwq; exact Since.call hwq (HS.out _)); refine hK _ ?_; clear hK K; simp only [Act.put, List.setIfInBounds_toArray, List.set_cons_zero, List.set_cons_succ])
  (refine wpQuiet_step (fun K hK => ?_); rw [if_pos (by rfl)]; apply quiet_val; (intro wq hwq; go_simp; (try go_ints); exact rfl); refine hK _ ?_; clear hK K; simp only [Act.put, List.setIfInBounds_toArray, List.set_cons_zero, List.set_cons_succ])
  (refine wpQuiet_step (fun K hK => ?_); rw [if_pos (by rfl)]; apply quiet_val; (intro wq hwq; go_simp; (try go_ints); exact rfl); refine hK _ ?_; clear hK K; simp only [Act.put, List.setIfInBounds_toArray, List.set_cons_zero, List.set_cons_succ])
  (refine wpQuiet_step (fun K hK => ?_); rw [if_pos (by rfl)]; apply quiet_val; (intro wq hwq; go_simp; (try go_ints); exact rfl); refine hK _ ?_; clear hK K; simp only [Act.put, List.setIfInBounds_toArray, List.set_cons_zero, List.set_cons_succ])
  (refine wpQuiet_step (fun K hK => ?_); rw [if_pos (by rfl)]; apply quiet_val; (intro wq hwq; go_simp; (try go_ints); exact rfl); refine hK _ ?_; clear hK K; simp only [Act.put, List.setIfInBounds_toArray, List.set_cons_zero, List.set_cons_succ])
  (refine wpQuiet_step (fun K hK => ?_); rw [if_pos (by rfl)]; apply quiet_val; (intro wq hwq; go_simp; (try go_ints); exact rfl); refine hK _ ?_; clear hK K; simp only [Act.put, List.setIfInBounds_toArray, List.set_cons_zero, List.set_cons_succ])
  (refine wpQuiet_step (fun K hK => ?_); rw [if_pos (by rfl)]; apply quiet_val; (intro wq hwq; go_simp; (try go_ints); exact rfl); refine hK _ ?_; clear hK K; simp only [Act.put, List.setIfInBounds_toArray, List.set_cons_zero, List.set_cons_succ])
  (refine wpQuiet_step (fun K hK => ?_); rw [if_pos (by rfl)]; apply quiet_val; (intro wq hwq; go_simp; (try go_ints); exact rfl); refine hK _ ?_; clear hK K; simp only [Act.put, List.setIfInBounds_toArray, List.set_cons_zero, List.set_cons_succ])
  refine wpQuiet_nil ?_; intro wn hwn
  have B1 := Lib.hid (hwn.out B0.out)
  clear c0 c1 e1 e2 hwn
  rw [e3]
  clear e3
  generalize (f * x + s) * l = y at *
  by_cases hy : 65535 < y
  · have HE2 := Lib.hid (HE.out.trans (if_pos hy))
    clear HE
    go_wp2
    go_ret
    exact ⟨by rw [HE2.out]; rfl, B1.out⟩
  · have HE2 := Lib.hid (HE.out.trans (if_neg hy))
    clear HE
    go_wp2
    go_ret
    exact ⟨by rw [HE2.out]; rfl, B1.out⟩
set_option maxHeartbeats 400000 in
theorem rrank (f s k r c l : Int) (hf : 1 ≤ f ∧ f ≤ 4) (hs : 0 ≤ s ∧ s ≤ 5) (hr : 0 ≤ r ∧ r ≤ 65535) (hc : 0 ≤ c ∧ c ≤ 65535) (hl : 1 ≤ l ∧ l ≤ 65535) (w : World) :
    Calls Try.prog 33 #[.agg #[.int .i64 f, .int .i64 s], .agg #[.int .i64 k, .int .i64 r, .int .i64 c], .int .i64 l] w fun e w' => e = .returned (.int .i64 (rankS f s r c l)) ∧ Below w.heap.size w w' := by
  have r0 := row2a w #[.int .i64 f, .int .i64 s] 24 (.cells #[.int .i64 k, .int .i64 r, .int .i64 c] 83)
  have r1 := row2b w #[.int .i64 k, .int .i64 r, .int .i64 c] 83 (.cells #[.int .i64 f, .int .i64 s] 24)
  have B0 := Lib.hid (below2 w (.cells #[.int .i64 f, .int .i64 s] 24) (.cells #[.int .i64 k, .int .i64 r, .int .i64 c] 83))
  have HI := Lib.hid fun w => rinc f s c l hf hs hc hl w
  have hi := inc_range (c := c) hf hs hl
  have HE : Hid (rankS f s r c l = if 65535 < r + incS f s c l ∨ c = 65535 then 65535 else r + incS f s c l) := Lib.hid rfl
  generalize incS f s c l = x at *
  clear hf hs hl
  obtain ⟨i0, i1⟩ := hi
  obtain ⟨i2, i3⟩ := hr
  go_enter Try.func33, Try.ntmps33
  go_wp2
  generalize (w.alloc (.cells #[.int .i64 f, .int .i64 s] 24)).alloc (.cells #[.int .i64 k, .int .i64 r, .int .i64 c] 83) = W at *
  have c0 : ∀ w', Since W w' → w'.cell? ⟨w.heap.size, 0, none⟩ = some (.int .i64 f) := fun w' h => later h r0 rfl
  have c1 : ∀ w', Since W w' → w'.cell? ⟨w.heap.size, 1, none⟩ = some (.int .i64 s) := fun w' h => later h r0 rfl
  have d1 : ∀ w', Since W w' → w'.cell? ⟨w.heap.size + 1, 1, none⟩ = some (.int .i64 r) := fun w' h => later h r1 rfl
  have d2 : ∀ w', Since W w' → w'.cell? ⟨w.heap.size + 1, 2, none⟩ = some (.int .i64 c) := fun w' h => later h r1 rfl
  refine wp_region_calm (Since _) (by kernel_rfl) (by kernel_rfl) (Since.drew _) ?_
  (refine wpQuiet_step (fun K hK => ?_); rw [if_pos (by rfl)]; apply quiet_val; (intro wq hwq; go_simp; (try go_ints); exact rfl); refine hK _ ?_; clear hK K; simp only [Act.put, List.setIfInBounds_toArray, List.set_cons_zero, List.set_cons_succ])
  (refine wpQuiet_step (fun K hK => ?_); rw [if_pos (by rfl)]; apply quiet_val; (intro wq hwq; go_simp; (try go_ints); exact rfl); refine hK _ ?_; clear hK K; simp only [Act.put, List.setIfInBounds_toArray, List.set_cons_zero, List.set_cons_succ])
  (refine wpQuiet_step (fun K hK => ?_); rw [if_pos (by rfl)]; apply quiet_val; (intro wq hwq; go_simp; (try go_ints); exact rfl); refine hK _ ?_; clear hK K; simp only [Act.put, List.setIfInBounds_toArray, List.set_cons_zero, List.set_cons_succ])
  (refine wpQuiet_step (fun K hK => ?_); rw [if_pos (by rfl)]; apply quiet_val; (intro wq hwq; go_simp; (try go_ints); exact rfl); refine hK _ ?_; clear hK K; simp only [Act.put, List.setIfInBounds_toArray, List.set_cons_zero, List.set_cons_succ])
  (refine wpQuiet_step (fun K hK => ?_); rw [if_pos (by rfl)]; apply quiet_val; (intro wq hwq; go_simp; (try go_ints); exact rfl); refine hK _ ?_; clear hK K; simp only [Act.put, List.setIfInBounds_toArray, List.set_cons_zero, List.set_cons_succ])
  (refine wpQuiet_step (fun K hK => ?_); rw [if_pos (by rfl)]; apply quiet_val; (intro wq hwq; go_simp; (try go_ints); exact rfl); refine hK _ ?_; clear hK K; simp only [Act.put, List.setIfInBounds_toArray, List.set_cons_zero, List.set_cons_succ])
  (refine wpQuiet_step (fun K hK => ?_); rw [if_pos (by rfl)]; apply quiet_call; (intro wq; go_simp; exact ⟨rfl, rfl⟩); (intro wq hwq; exact Since.call hwq (HI.out _)); refine hK _ ?_; clear hK K; simp only [Act.put, List.setIfInBounds_toArray, List.set_cons_zero, List.set_cons_succ])
  (refine wpQuiet_step (fun K hK => ?_); rw [if_pos (by rfl)]; apply quiet_val; (intro wq hwq; go_simp; (try go_ints); exact rfl); refine hK _ ?_; clear hK K; simp only [Act.put, List.setIfInBounds_toArray, List.set_cons_zero, List.set_cons_succ])
  (refine wpQuiet_step (fun K hK => ?_); rw [if_pos (by rfl)]; apply quiet_val; (intro wq hwq; go_simp; (try go_ints); exact rfl); refine hK _ ?_; clear hK K; simp only [Act.put, List.setIfInBounds_toArray, List.set_cons_zero, List.set_cons_succ])
  refine wpQuiet_nil ?_; intro wn hwn
  have B1 := Lib.hid (hwn.out B0.out)
  have q2 := d2 _ hwn
  clear c0 c1 d1 d2 hwn
  by_cases hy : 65535 < r + x
  · have HE2 := Lib.hid (HE.out.trans (if_pos (Or.inl hy)))
    clear HE
    go_wp2
    go_ret
    exact ⟨by rw [HE2.out]; rfl, B1.out⟩
  · by_cases hz : c = 65535
    · have HE2 := Lib.hid (HE.out.trans (if_pos (Or.inr hz)))
      subst hz
      clear HE
      go_wp2
      go_ret
      exact ⟨by rw [HE2.out]; rfl, B1.out⟩
    · have HE2 := Lib.hid (HE.out.trans (if_neg (fun h => h.elim hy hz)))
      clear HE
      go_wp2
      go_ret
      exact ⟨by rw [HE2.out]; rfl, B1.out⟩

/-! ### rank and zero -/
set_option maxHeartbeats 400000 in
theorem valid_any (b : Nat) (xs : List Int) (hx : xs.length ≤ 65536) (w : World) (hc : ∀ j x, xs[j]? = some x → w.cell? ⟨b, j, none⟩ = some (.int .i64 x)) :
    Calls Try.prog 47 #[.slice (some ⟨b, 0, none⟩) xs.length xs.length] w fun e w' => e = .returned (.bool (xs.all validI)) ∧ w = w' := by
  have HC := Lib.hid hc; clear hc
  go_enter Try.func47, Try.ntmps47
  go_wp2
  go_loop [7] (fun t => ∃ k : Nat, k ≤ xs.length ∧ t = .int .i64 k ∧ Hid (xs.all validI = (xs.drop k).all validI)) (fun t => xs.length - (intOf t).toNat)
  case atStart => exact ⟨0, by omega, rfl, Lib.hid rfl⟩
  case round =>
    obtain ⟨k, hk, rfl, HE⟩ := hrel
    by_cases hlt : k < xs.length
    · obtain ⟨x, hxk⟩ : ∃ x, xs[k]? = some x := ⟨xs[k], List.getElem?_eq_getElem hlt⟩
      have hd : xs.drop k = x :: xs.drop (k + 1) := by
        have : xs[k] = x := by rw [List.getElem?_eq_getElem hlt] at hxk; exact Option.some.inj hxk
        rw [← this]; exact List.drop_eq_getElem_cons hlt
      have hck := HC.out k x hxk
      have HE2 := HE.out
      rw [hd, List.all_cons] at HE2
      clear HE hd hxk
      by_cases h0 : x < 0
      · have HE3 := Lib.hid (HE2.trans (by simp [validI, show ¬ (0 ≤ x) by omega]) : xs.all validI = false)
        clear HE2
        go_wp2
        go_ret
        exact ⟨by rw [HE3.out]; rfl, rfl⟩
      · by_cases h1 : 65535 < x
        · have HE3 := Lib.hid (HE2.trans (by simp [validI, show ¬ (x ≤ 65535) by omega]) : xs.all validI = false)
          clear HE2
          go_wp2
          go_ret
          exact ⟨by rw [HE3.out]; rfl, rfl⟩
        · have HE3 := Lib.hid (HE2.trans (by simp [validI, show 0 ≤ x by omega, show x ≤ 65535 by omega]) : xs.all validI = (xs.drop (k + 1)).all validI)
          clear HE2
          go_wp2
          go_round
          case rel => exact ⟨k + 1, by omega, by go_num, HE3⟩
          case measure => simp [intOf]; omega
    · have HE3 : Hid (xs.all validI = true) := Lib.hid (by rw [HE.out, List.drop_eq_nil_of_le (by omega)]; rfl)
      clear HE
      go_wp2
      go_ret
      exact ⟨by rw [HE3.out]; rfl, rfl⟩
/-- at a slice of one or two just made -/
theorem valid_one (x : Int) (t : TypeId) (w : World) (n : Nat) (hn : n = w.heap.size) : Calls Try.prog 47 #[.slice (some ⟨n, 0, none⟩) 1 1] (w.alloc (.cells #[.int .i64 x] t)) fun e w' => e = .returned (.bool (validI x)) ∧ w.alloc (.cells #[.int .i64 x] t) = w' := by
  subst hn
  have := valid_any w.heap.size [x] (by simp) (w.alloc (.cells #[.int .i64 x] t)) (fun j y hj => by
    rw [World.cell?_alloc_new]
    match j, hj with
    | 0, hj => simpa using hj)
  simpa using this
theorem valid_two (x y : Int) (t : TypeId) (w : World) (n : Nat) (hn : n = w.heap.size) : Calls Try.prog 47 #[.slice (some ⟨n, 0, none⟩) 2 2] (w.alloc (.cells #[.int .i64 x, .int .i64 y] t)) fun e w' => e = .returned (.bool (validI x && validI y)) ∧ w.alloc (.cells #[.int .i64 x, .int .i64 y] t) = w' := by
  subst hn
  have := valid_any w.heap.size [x, y] (by simp) (w.alloc (.cells #[.int .i64 x, .int .i64 y] t)) (fun j z hj => by
    rw [World.cell?_alloc_new]
    match j, hj with
    | 0, hj => simpa using hj
    | 1, hj => simpa using hj)
  simpa using this

end Go.Proofs.Ytobbjdindknkdaa
