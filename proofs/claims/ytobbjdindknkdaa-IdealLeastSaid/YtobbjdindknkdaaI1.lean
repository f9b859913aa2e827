/- The order of jobs, and the heap as it lies in memory. -/
import Derived.Test.YtobbjdindknkdaaK2

namespace Go.Proofs.Ytobbjdindknkdaa
open Go Go.RowKit
attribute [local irreducible] wpQuiet
set_option linter.unusedSimpArgs false
set_option linter.unusedVariables false

/-! ### cmp -/
def cmpI (a b : Int) : Int := if a < b then -1 else if b < a then 1 else 0
theorem nan_any (a : Int) (w : World) : Calls Try.prog 61 #[.int .i64 a] w fun e w' => e = .returned (.bool false) ∧ w = w' := by
  go_enter Try.func61, Try.ntmps61
  go_wp2
  go_ret
  exact ⟨rfl, rfl⟩
theorem cmp_any (a b : Int) (w : World) : Calls Try.prog 59 #[.int .i64 a, .int .i64 b] w fun e w' => e = .returned (.int .i64 (cmpI a b)) ∧ w = w' := by
  by_cases h1 : a < b
  · have hd : cmpI a b = -1 := if_pos h1
    rw [hd]
    clear hd
    go_enter Try.func59, Try.ntmps59
    go_wp2_with (go_at_call 61; refine (nan_any _ _).mono ?_; rintro e w' ⟨rfl, rfl⟩)
    go_ret
    exact ⟨rfl, rfl⟩
  · by_cases h2 : b < a
    · have hd : cmpI a b = 1 := by unfold cmpI; rw [if_neg h1, if_pos h2]
      rw [hd]
      clear hd
      go_enter Try.func59, Try.ntmps59
      go_wp2_with (go_at_call 61; refine (nan_any _ _).mono ?_; rintro e w' ⟨rfl, rfl⟩)
      go_ret
      exact ⟨rfl, rfl⟩
    · have hd : cmpI a b = 0 := by unfold cmpI; rw [if_neg h1, if_neg h2]
      rw [hd]
      clear hd
      go_enter Try.func59, Try.ntmps59
      go_wp2_with (go_at_call 61; refine (nan_any _ _).mono ?_; rintro e w' ⟨rfl, rfl⟩)
      go_ret
      exact ⟨rfl, rfl⟩
theorem cmp_below (a b : Int) (w : World) : Calls Try.prog 59 #[.int .i64 a, .int .i64 b] w fun e w' => e = .returned (.int .i64 (cmpI a b)) ∧ Below w.heap.size w w' :=
  (cmp_any a b w).mono fun e w' ⟨h, hw⟩ => ⟨h, hw ▸ Below.refl _ _⟩
def orI : List Int → Int
  | [] => 0
  | x :: r => if x ≠ 0 then x else orI r
theorem orI_hit {x : Int} {r : List Int} (h : x ≠ 0) : orI (x :: r) = x := if_pos h
theorem orI_miss {r : List Int} : orI (0 :: r) = orI r := if_neg (by simp)
set_option maxHeartbeats 400000 in
theorem or_any (b : Nat) (xs : List Int) (hx : xs.length ≤ 65536) (w : World) (hc : ∀ j x, xs[j]? = some x → w.cell? ⟨b, j, none⟩ = some (.int .i64 x)) :
    Calls Try.prog 58 #[.slice (some ⟨b, 0, none⟩) xs.length xs.length] w fun e w' => e = .returned (.int .i64 (orI xs)) ∧ w = w' := by
  have HC := Lib.hid hc; clear hc
  go_enter Try.func58, Try.ntmps58
  go_wp2
  go_loop [8] (fun t => ∃ k : Nat, k ≤ xs.length ∧ t = .int .i64 k ∧ Hid (orI xs = orI (xs.drop k))) (fun t => xs.length - (intOf t).toNat)
  case atStart => exact ⟨0, by omega, rfl, Lib.hid rfl⟩
  case round =>
    obtain ⟨k, hk, rfl, HE⟩ := hrel
    by_cases hlt : k < xs.length
    · obtain ⟨x, hxk⟩ : ∃ x, xs[k]? = some x := ⟨xs[k], List.getElem?_eq_getElem hlt⟩
      have hd : xs.drop k = x :: xs.drop (k + 1) := by
        have : xs[k] = x := by rw [List.getElem?_eq_getElem hlt] at hxk; exact Option.some.inj hxk
        rw [← this]; exact List.drop_eq_getElem_cons hlt
      have hck := HC.out k x hxk
      have HE2 := HE.out
      rw [hd] at HE2
      clear HE hd hxk
      by_cases hz : x = 0
      · subst hz
        rw [orI_miss] at HE2
        have HE3 := Lib.hid HE2; clear HE2
        go_wp2
        go_round
        case rel => exact ⟨k + 1, by omega, by go_num, HE3⟩
        case measure => simp [intOf]; omega
      · rw [orI_hit hz] at HE2
        have HE3 := Lib.hid HE2; clear HE2
        go_wp2
        go_ret
        exact ⟨by rw [HE3.out]; rfl, rfl⟩
    · have HE3 : Hid (orI xs = 0) := Lib.hid (by rw [HE.out, List.drop_eq_nil_of_le (by omega)]; rfl)
      clear HE
      go_wp2
      go_ret
      exact ⟨by rw [HE3.out]; rfl, rfl⟩

/-! ### jobs -/
abbrev Job := Int × Int × Int
def jagg (j : Job) : Array Value := #[.int .i64 j.1, .int .i64 j.2.1, .int .i64 j.2.2]
def jcells (js : List Job) : List Value := js.flatMap fun j => (jagg j).toList
def aheadI (a b : Job) : Int := orI [cmpI a.1 b.1, cmpI a.2.1 b.2.1, cmpI a.2.2 b.2.2]
def lessJ (a b : Job) : Bool := decide (aheadI a b < 0)
set_option maxHeartbeats 400000 in
theorem ahead_any (a b : Job) (w : World) : Calls Try.prog 52 #[.agg (jagg a), .agg (jagg b)] w fun e w' => e = .returned (.int .i64 (aheadI a b)) ∧ Below w.heap.size w w' := by
  obtain ⟨a0, a1, a2⟩ := a
  obtain ⟨b0, b1, b2⟩ := b
  have r0 := row2a w (jagg (a0, a1, a2)) 85 (.cells (jagg (b0, b1, b2)) 85)
  have r1 := row2b w (jagg (b0, b1, b2)) 85 (.cells (jagg (a0, a1, a2)) 85)
  have c0 : ∀ w', Since ((w.alloc (.cells (jagg (a0, a1, a2)) 85)).alloc (.cells (jagg (b0, b1, b2)) 85)) w' → w'.cell? ⟨w.heap.size, 0, none⟩ = some (.int .i64 a0) := fun w' h => later h r0 rfl
  have c1 : ∀ w', Since ((w.alloc (.cells (jagg (a0, a1, a2)) 85)).alloc (.cells (jagg (b0, b1, b2)) 85)) w' → w'.cell? ⟨w.heap.size, 1, none⟩ = some (.int .i64 a1) := fun w' h => later h r0 rfl
  have c2 : ∀ w', Since ((w.alloc (.cells (jagg (a0, a1, a2)) 85)).alloc (.cells (jagg (b0, b1, b2)) 85)) w' → w'.cell? ⟨w.heap.size, 2, none⟩ = some (.int .i64 a2) := fun w' h => later h r0 rfl
  have d0 : ∀ w', Since ((w.alloc (.cells (jagg (a0, a1, a2)) 85)).alloc (.cells (jagg (b0, b1, b2)) 85)) w' → w'.cell? ⟨w.heap.size + 1, 0, none⟩ = some (.int .i64 b0) := fun w' h => later h r1 rfl
  have d1 : ∀ w', Since ((w.alloc (.cells (jagg (a0, a1, a2)) 85)).alloc (.cells (jagg (b0, b1, b2)) 85)) w' → w'.cell? ⟨w.heap.size + 1, 1, none⟩ = some (.int .i64 b1) := fun w' h => later h r1 rfl
  have d2 : ∀ w', Since ((w.alloc (.cells (jagg (a0, a1, a2)) 85)).alloc (.cells (jagg (b0, b1, b2)) 85)) w' → w'.cell? ⟨w.heap.size + 1, 2, none⟩ = some (.int .i64 b2) := fun w' h => later h r1 rfl
  have B0 := Lib.hid (below2 w (.cells (jagg (a0, a1, a2)) 85) (.cells (jagg (b0, b1, b2)) 85))
  clear r0 r1
  have HS : Hid (aheadI (a0, a1, a2) (b0, b1, b2) = orI [cmpI a0 b0, cmpI a1 b1, cmpI a2 b2]) := Lib.hid rfl
  unfold jagg at *
  simp only at *
  go_enter Try.func52, Try.ntmps52
  go_wp2
  refine wp_region_flow (Since _) 15 (by kernel_rfl) (by kernel_rfl) (Since.drew _) ?_; simp only [List.take_succ_cons, List.take_zero, List.drop_succ_cons, List.drop_zero]
  (refine wpQuiet_step (fun K hK => ?_); rw [if_pos (by rfl)]; apply quiet_val; (intro wq hwq; go_simp; (try go_ints); exact rfl); refine hK _ ?_; clear hK K; simp only [Act.put, List.setIfInBounds_toArray, List.set_cons_zero, List.set_cons_succ])
  (refine wpQuiet_step (fun K hK => ?_); rw [if_pos (by rfl)]; apply quiet_val; (intro wq hwq; go_simp; (try go_ints); exact rfl); refine hK _ ?_; clear hK K; simp only [Act.put, List.setIfInBounds_toArray, List.set_cons_zero, List.set_cons_succ])
  (refine wpQuiet_step (fun K hK => ?_); rw [if_pos (by rfl)]; apply quiet_val; (intro wq hwq; go_simp; (try go_ints); exact rfl); refine hK _ ?_; clear hK K; simp only [Act.put, List.setIfInBounds_toArray, List.set_cons_zero, List.set_cons_succ])
  (refine wpQuiet_step (fun K hK => ?_); rw [if_pos (by rfl)]; apply quiet_val; (intro wq hwq; go_simp; (try go_ints); exact rfl); refine hK _ ?_; clear hK K; simp only [Act.put, List.setIfInBounds_toArray, List.set_cons_zero, List.set_cons_succ])
  (refine wpQuiet_step (fun K hK => ?_); rw [if_pos (by rfl)]; apply quiet_call; (intro wq; go_simp; exact ⟨rfl, rfl⟩); (intro wq hwq; exact Since.call hwq (cmp_below _ _ _)); refine hK _ ?_; clear hK K; simp only [Act.put, List.setIfInBounds_toArray, List.set_cons_zero, List.set_cons_succ])
  (refine wpQuiet_step (fun K hK => ?_); rw [if_pos (by rfl)]; apply quiet_val; (intro wq hwq; go_simp; (try go_ints); exact rfl); refine hK _ ?_; clear hK K; simp only [Act.put, List.setIfInBounds_toArray, List.set_cons_zero, List.set_cons_succ])
  (refine wpQuiet_step (fun K hK => ?_); rw [if_pos (by rfl)]; apply quiet_val; (intro wq hwq; go_simp; (try go_ints); exact rfl); refine hK _ ?_; clear hK K; simp only [Act.put, List.setIfInBounds_toArray, List.set_cons_zero, List.set_cons_succ])
  (refine wpQuiet_step (fun K hK => ?_); rw [if_pos (by rfl)]; apply quiet_val; (intro wq hwq; go_simp; (try go_ints); exact rfl); refine hK _ ?_; clear hK K; simp only [Act.put, List.setIfInBounds_toArray, List.set_cons_zero, List.set_cons_succ])
  (refine wpQuiet_step (fun K hK => ?_); rw [if_pos (by rfl)]; apply quiet_val; (intro wq hwq; go_simp; (try go_ints); exact rfl); refine hK _ ?_; clear hK K; simp only [Act.put, List.setIfInBounds_toArray, List.set_cons_zero, List.set_cons_succ])
  (refine wpQuiet_step (fun K hK => ?_); rw [if_pos (by rfl)]; apply quiet_call; (intro wq; go_simp; exact ⟨rfl, rfl⟩); (intro wq hwq; exact Since.call hwq (cmp_below _ _ _)); refine hK _ ?_; clear hK K; simp only [Act.put, List.setIfInBounds_toArray, List.set_cons_zero, List.set_cons_succ])
  (refine wpQuiet_step (fun K hK => ?_); rw [if_pos (by rfl)]; apply quiet_val; (intro wq hwq; go_simp; (try go_ints); exact rfl); refine hK _ ?_; clear hK K; simp only [Act.put, List.setIfInBounds_toArray, List.set_cons_zero, List.set_cons_succ])
  (refine wpQuiet_step (fun K hK => ?_); rw [if_pos (by rfl)]; apply quiet_val; (intro wq hwq; go_simp; (try go_ints); exact rfl); refine hK _ ?_; clear hK K; simp only [Act.put, List.setIfInBounds_toArray, List.set_cons_zero, List.set_cons_succ])
  (refine wpQuiet_step (fun K hK => ?_); rw [if_pos (by rfl)]; apply quiet_val; (intro wq hwq; go_simp; (try go_ints); exact rfl); refine hK _ ?_; clear hK K; simp only [Act.put, List.setIfInBounds_toArray, List.set_cons_zero, List.set_cons_succ])
  (refine wpQuiet_step (fun K hK => ?_); rw [if_pos (by rfl)]; apply quiet_val; (intro wq hwq; go_simp; (try go_ints); exact rfl); refine hK _ ?_; clear hK K; simp only [Act.put, List.setIfInBounds_toArray, List.set_cons_zero, List.set_cons_succ])
  (refine wpQuiet_step (fun K hK => ?_); rw [if_pos (by rfl)]; apply quiet_call; (intro wq; go_simp; exact ⟨rfl, rfl⟩); (intro wq hwq; exact Since.call hwq (cmp_below _ _ _)); refine hK _ ?_; clear hK K; simp only [Act.put, List.setIfInBounds_toArray, List.set_cons_zero, List.set_cons_succ])
  refine wpQuiet_nil ?_; intro wn hwn
  have B1 := Lib.hid (hwn.out B0.out)
  clear c0 c1 c2 d0 d1 d2 hwn
  generalize cmpI a0 b0 = x0 at *
  generalize cmpI a1 b1 = x1 at *
  generalize cmpI a2 b2 = x2 at *
  have HO := Lib.hid (or_any wn.heap.size [x0, x1, x2] (by simp) (wn.alloc (.cells #[.int .i64 x0, .int .i64 x1, .int .i64 x2] 3)) (fun j x hj => by
    rw [World.cell?_alloc_new]
    match j, hj with
    | 0, hj => simpa using hj
    | 1, hj => simpa using hj
    | 2, hj => simpa using hj))
  go_wp2_with (go_at_call 58; refine HO.out.mono ?_; rintro e w' ⟨rfl, rfl⟩)
  go_ret
  exact ⟨by rw [HS.out]; rfl, below_new B1.out _⟩

/-! ### the heap's memory -/
theorem isz85 : (Try.prog.info? 85).map (·.size) = some 3 := by kernel_rfl
theorem jcells_nil : jcells [] = [] := rfl
theorem jcells_append (a b : List Job) : jcells (a ++ b) = jcells a ++ jcells b := by simp [jcells]
theorem jcells_length : ∀ js : List Job, (jcells js).length = js.length * 3
  | [] => rfl
  | j :: r => by
    have e : jcells (j :: r) = (jagg j).toList ++ jcells r := by simp [jcells]
    rw [e, List.length_append, jcells_length r, List.length_cons]
    simp [jagg]; omega
theorem jcells_at : ∀ {js : List Job} {k : Nat} {a : Job}, js[k]? = some a → ∀ j u, (jagg a)[j]? = some u → (jcells js)[k * 3 + j]? = some u
  | [], k, a, h, _, _, _ => by simp at h
  | q :: r, k, a, h, j, u, hu => by
    have e : jcells (q :: r) = (jagg q).toList ++ jcells r := by simp [jcells]
    have hl : (jagg q).toList.length = 3 := rfl
    rw [e]
    rcases k with _ | k
    · simp only [List.getElem?_cons_zero, Option.some.injEq] at h
      subst h
      have hj : j < 3 := (Array.getElem?_eq_some_iff.1 hu).1
      rw [Nat.zero_mul, Nat.zero_add, List.getElem?_append_left (by omega), Array.getElem?_toList]
      exact hu
    · rw [List.getElem?_cons_succ] at h
      rw [show (k + 1) * 3 + j = 3 + (k * 3 + j) by omega, List.getElem?_append_right (by omega), hl, show 3 + (k * 3 + j) - 3 = k * 3 + j by omega]
      exact jcells_at h j u hu
theorem jcells_take : ∀ (js : List Job) (k : Nat), (jcells js).take (k * 3) = jcells (js.take k)
  | [], k => by simp [jcells]
  | q :: r, 0 => by simp [jcells]
  | q :: r, k + 1 => by
    have e : jcells (q :: r) = (jagg q).toList ++ jcells r := by simp [jcells]
    have e2 : jcells ((q :: r).take (k + 1)) = (jagg q).toList ++ jcells (r.take k) := by simp [jcells]
    have hl : (jagg q).toList.length = 3 := rfl
    rw [e, e2, List.take_append, hl, List.take_of_length_le (by omega), show (k + 1) * 3 - 3 = k * 3 by omega, jcells_take r k]
theorem jcells_drop : ∀ (js : List Job) (k : Nat), (jcells js).drop (k * 3) = jcells (js.drop k)
  | [], k => by simp [jcells]
  | q :: r, 0 => by simp
  | q :: r, k + 1 => by
    have e : jcells (q :: r) = (jagg q).toList ++ jcells r := by simp [jcells]
    have hl : (jagg q).toList.length = 3 := rfl
    rw [e, List.drop_append, hl, List.drop_eq_nil_of_le (by omega), show (k + 1) * 3 - 3 = k * 3 by omega, jcells_drop r k, List.nil_append, List.drop_succ_cons]
theorem jcells_put {js : List Job} {k : Nat} (hk : k < js.length) (a : Job) : putAt 3 k (jagg a).toList (jcells js) = jcells (js.set k a) := by
  unfold putAt
  rw [jcells_take, show k * 3 + 3 = (k + 1) * 3 by omega, jcells_drop, List.set_eq_take_append_cons_drop, if_pos hk, jcells_append]
  simp [jcells]

/-- a heap in memory: its slice, and how many were added -/
structure HeapAt (w : World) (B hb : Nat) (js : List Job) (cnt : Int) (v : Value) : Prop where
  head : rowAt w hb = some #[v, .int .i64 cnt]
  row : w.ownsRow B 85 3 v js.length (jcells js)
  apart : v.ownBlock ≠ some hb
  base : B ≤ hb
theorem HeapAt.below {w w' : World} {B hb : Nat} {js : List Job} {cnt : Int} {v : Value} (h : HeapAt w B hb js cnt v) (hb' : Below w.heap.size w w') : HeapAt w' B hb js cnt v :=
  ⟨row_call hb' h.head, own_of_block h.row fun g hv => hb'.block g (own_lt h.row hv).2, h.apart, h.base⟩
theorem HeapAt.form {w : World} {B hb : Nat} {js : List Job} {cnt : Int} {v : Value} (h : HeapAt w B hb js cnt v) (h0 : 0 < js.length) : ∃ g cap, v = .slice (some ⟨g, 0, none⟩) js.length cap ∧ js.length ≤ cap := by
  rcases h.row.2 with ⟨_, h2⟩ | ⟨g, cap, cur, hv, _, _, hnc, _⟩
  · omega
  · exact ⟨g, cap, hv, hnc⟩

set_option maxHeartbeats 400000 in
theorem less_any {w : World} {B hb : Nat} {js : List Job} {cnt : Int} {v : Value} (h : HeapAt w B hb js cnt v) {i k : Nat} {a b : Job} (hi : js[i]? = some a) (hk : js[k]? = some b) :
    Calls Try.prog 44 #[.pointer (some ⟨hb, 0, none⟩), .int .i64 i, .int .i64 k] w fun e w' => e = .returned (.bool (lessJ a b)) ∧ Below w.heap.size w w' := by
  have hin : i < js.length := (List.getElem?_eq_some_iff.1 hi).1
  have hkn : k < js.length := (List.getElem?_eq_some_iff.1 hk).1
  obtain ⟨g, cap, rfl, hnc⟩ := h.form (by omega)
  have c0 : ∀ w', Since w w' → w'.cell? ⟨hb, 0, none⟩ = some (.slice (some ⟨g, 0, none⟩) js.length cap) := fun w' hs => later hs h.head rfl
  have HO : Hid (∀ w', Since w w' → w'.ownsRow B 85 3 (.slice (some ⟨g, 0, none⟩) js.length cap) js.length (jcells js)) := Lib.hid fun w' hs => (h.below hs).row
  have HA := Lib.hid (jcells_at hi)
  have HB := Lib.hid (jcells_at hk)
  have HL : Hid (lessJ a b = decide (aheadI a b < 0)) := Lib.hid rfl
  have HC := Lib.hid fun w => ahead_any a b w
  have i0 : (0 : Int) ≤ (i : Int) := by omega
  have i1 : (i : Int) < (js.length : Nat) := by omega
  have k0 : (0 : Int) ≤ (k : Int) := by omega
  have k1 : (k : Int) < (js.length : Nat) := by omega
  generalize aheadI a b = X at *
  clear h hi hk
  go_enter Try.func44, Try.ntmps44
  go_wp2
  refine wp_region_calm (Since _) (by kernel_rfl) (by kernel_rfl) (Since.drew _) ?_
  (refine wpQuiet_step (fun K hK => ?_); rw [if_pos (by rfl)]; apply quiet_val; (intro wq hwq; go_simp; (try go_ints); exact rfl); refine hK _ ?_; clear hK K; simp only [Act.put, List.setIfInBounds_toArray, List.set_cons_zero, List.set_cons_succ])
  (refine wpQuiet_step (fun K hK => ?_); rw [if_pos (by rfl)]; apply quiet_val; (intro wq hwq; go_simp; (try go_ints); exact rfl); refine hK _ ?_; clear hK K; simp only [Act.put, List.setIfInBounds_toArray, List.set_cons_zero, List.set_cons_succ])
  (refine wpQuiet_step (fun K hK => ?_); rw [if_pos (by rfl)]; apply quiet_val; (intro wq hwq; go_simp; (try go_ints); exact rfl); refine hK _ ?_; clear hK K; simp only [Act.put, List.setIfInBounds_toArray, List.set_cons_zero, List.set_cons_succ])
  (refine wpQuiet_step (fun K hK => ?_); rw [if_pos (by rfl)]; apply quiet_val; (intro wq hwq; go_simp; (try go_ints); exact rfl); refine hK _ ?_; clear hK K; simp only [Act.put, List.setIfInBounds_toArray, List.set_cons_zero, List.set_cons_succ])
  (refine wpQuiet_step (fun K hK => ?_); rw [if_pos (by rfl)]; apply quiet_val; (intro wq hwq; go_simp; (try go_ints); exact rfl); refine hK _ ?_; clear hK K; simp only [Act.put, List.setIfInBounds_toArray, List.set_cons_zero, List.set_cons_succ])
  (refine wpQuiet_step (fun K hK => ?_); rw [if_pos (by rfl)]; apply quiet_val; (intro wq hwq; go_simp; (try go_ints); exact rfl); refine hK _ ?_; clear hK K; simp only [Act.put, List.setIfInBounds_toArray, List.set_cons_zero, List.set_cons_succ])
  (refine wpQuiet_step (fun K hK => ?_); rw [if_pos (by rfl)]; apply quiet_ownload (vs := jagg a) Try.underlying85 rfl isz85; exact rfl; exact rfl; exact HO.out; exact hin; exact rfl; exact HA.out; refine hK _ ?_; clear hK K; simp only [Act.put, List.setIfInBounds_toArray, List.set_cons_zero, List.set_cons_succ])
  (refine wpQuiet_step (fun K hK => ?_); rw [if_pos (by rfl)]; apply quiet_val; (intro wq hwq; go_simp; (try go_ints); exact rfl); refine hK _ ?_; clear hK K; simp only [Act.put, List.setIfInBounds_toArray, List.set_cons_zero, List.set_cons_succ])
  (refine wpQuiet_step (fun K hK => ?_); rw [if_pos (by rfl)]; apply quiet_val; (intro wq hwq; go_simp; (try go_ints); exact rfl); refine hK _ ?_; clear hK K; simp only [Act.put, List.setIfInBounds_toArray, List.set_cons_zero, List.set_cons_succ])
  (refine wpQuiet_step (fun K hK => ?_); rw [if_pos (by rfl)]; apply quiet_val; (intro wq hwq; go_simp; (try go_ints); exact rfl); refine hK _ ?_; clear hK K; simp only [Act.put, List.setIfInBounds_toArray, List.set_cons_zero, List.set_cons_succ])
  (refine wpQuiet_step (fun K hK => ?_); rw [if_pos (by rfl)]; apply quiet_val; (intro wq hwq; go_simp; (try go_ints); exact rfl); refine hK _ ?_; clear hK K; simp only [Act.put, List.setIfInBounds_toArray, List.set_cons_zero, List.set_cons_succ])
  (refine wpQuiet_step (fun K hK => ?_); rw [if_pos (by rfl)]; apply quiet_val; (intro wq hwq; go_simp; (try go_ints); exact rfl); refine hK _ ?_; clear hK K; simp only [Act.put, List.setIfInBounds_toArray, List.set_cons_zero, List.set_cons_succ])
  (refine wpQuiet_step (fun K hK => ?_); rw [if_pos (by rfl)]; apply quiet_val; (intro wq hwq; go_simp; (try go_ints); exact rfl); refine hK _ ?_; clear hK K; simp only [Act.put, List.setIfInBounds_toArray, List.set_cons_zero, List.set_cons_succ])
  (refine wpQuiet_step (fun K hK => ?_); rw [if_pos (by rfl)]; apply quiet_ownload (vs := jagg b) Try.underlying85 rfl isz85; exact rfl; exact rfl; exact HO.out; exact hkn; exact rfl; exact HB.out; refine hK _ ?_; clear hK K; simp only [Act.put, List.setIfInBounds_toArray, List.set_cons_zero, List.set_cons_succ])
  (refine wpQuiet_step (fun K hK => ?_); rw [if_pos (by rfl)]; apply quiet_call; (intro wq; go_simp; exact ⟨rfl, rfl⟩); (intro wq hwq; exact Since.call hwq (HC.out _)); refine hK _ ?_; clear hK K; simp only [Act.put, List.setIfInBounds_toArray, List.set_cons_zero, List.set_cons_succ])
  (refine wpQuiet_step (fun K hK => ?_); rw [if_pos (by rfl)]; apply quiet_val; (intro wq hwq; go_simp; (try go_ints); exact rfl); refine hK _ ?_; clear hK K; simp only [Act.put, List.setIfInBounds_toArray, List.set_cons_zero, List.set_cons_succ])
  (refine wpQuiet_step (fun K hK => ?_); rw [if_pos (by rfl)]; apply quiet_val; (intro wq hwq; go_simp; (try go_ints); exact rfl); refine hK _ ?_; clear hK K; simp only [Act.put, List.setIfInBounds_toArray, List.set_cons_zero, List.set_cons_succ])
  refine wpQuiet_nil ?_; intro wn hwn
  go_wp2
  go_ret
  exact ⟨by rw [HL.out]; rfl, hwn⟩

end Go.Proofs.Ytobbjdindknkdaa
