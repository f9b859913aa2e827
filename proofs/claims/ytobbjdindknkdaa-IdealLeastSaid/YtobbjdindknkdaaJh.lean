/- Two slices of numbers compared. -/
import Derived.Test.YtobbjdindknkdaaJg
import Derived.Test.YtobbjdindknkdaaK7
namespace Go.Proofs.Ytobbjdindknkdaa
open Go Go.RowKit
attribute [local irreducible] wpQuiet wpPure wpHold wpKeep wpQuietS
set_option linter.unusedSimpArgs false
set_option linter.unusedVariables false

theorem drop_eq_iff {xs ys : List Int} {k : Nat} (hl : xs.length = ys.length) (hk : k < xs.length) : (xs.drop k = ys.drop k) ↔ (xs.getD k 0 = ys.getD k 0 ∧ xs.drop (k + 1) = ys.drop (k + 1)) := by
  rw [List.drop_eq_getElem_cons hk, List.drop_eq_getElem_cons (show k < ys.length by omega), List.cons.injEq]
  simp [List.getD, List.getElem?_eq_getElem hk, List.getElem?_eq_getElem (show k < ys.length by omega)]
theorem getD_get {l : List Int} {k : Nat} (h : k < l.length) : l[k]? = some (l.getD k 0) := by simp [List.getD, List.getElem?_eq_getElem h]
set_option maxHeartbeats 1000000 in
theorem same_any {w : World} {A B : Option Addr} {ca cb : Nat} {xs ys : List Int} (hx : IntsAt w A xs) (hy : IntsAt w B ys) (hxl : xs.length ≤ 1000000) :
    Calls Try.prog 13 #[.slice A xs.length ca, .slice B ys.length cb] w fun e w' => e = .returned (.bool (decide (xs = ys))) ∧ Below w.heap.size w w' := by
  have HX := Lib.hid hx
  have HY := Lib.hid hy
  clear hx hy
  by_cases hl : xs.length = ys.length
  · have hl2 : ¬ ((xs.length : Int) ≠ ys.length) := by omega
    have hl' := Lib.hid hl
    have e0 : ((xs.length : Int) != (ys.length : Int)) = false := by simp [hl]
    clear hl
    go_enter Try.func13, Try.ntmps13
    go_wp2
    go_loopw [5] (fun t wr => ∃ k : Nat, t = .int .i64 k ∧ k ≤ xs.length ∧ Hid (xs = ys ↔ xs.drop k = ys.drop k) ∧ Hid (Below w.heap.size w wr)) (fun t _ => xs.length - (intOf t).toNat)
    case atStart => exact ⟨0, rfl, by omega, Lib.hid (by simp), Lib.hid (Below.refl _ _)⟩
    case round =>
      obtain ⟨k, rfl, hk, HE, HB⟩ := hrel
      by_cases hlt : (k : Int) < xs.length
      · have hkx : k < xs.length := by omega
        have hky : k < ys.length := by have := hl'.out; omega
        obtain ⟨ga, hA, hga, za⟩ := HX.out k _ (getD_get hkx)
        obtain ⟨gb, hB, hgb, zb⟩ := HY.out k _ (getD_get hky)
        have hd := drop_eq_iff hl'.out hkx
        obtain ⟨a, ha⟩ : ∃ a, xs.getD k 0 = a := ⟨_, rfl⟩
        obtain ⟨b, hb⟩ : ∃ b, ys.getD k 0 = b := ⟨_, rfl⟩
        rw [ha] at za hd
        rw [hb] at zb hd
        subst hA
        subst hB
        have zua : ∀ w', Since wr w' → w'.cell? ⟨ga, k, none⟩ = some (.int .i64 a) := fun w' hs => by rw [(below_call HB.out hs).cell hga]; exact za
        have zub : ∀ w', Since wr w' → w'.cell? ⟨gb, k, none⟩ = some (.int .i64 b) := fun w' hs => by rw [(below_call HB.out hs).cell hgb]; exact zb
        have hky' : (k : Int) < ys.length := by omega
        clear za zb
        go_wp2
        refine wp_region_calm (Since _) (by kernel_rfl) (by kernel_rfl) (Since.drew _) ?_
        (refine wpQuiet_step (fun K hK => ?_); rw [if_pos (by rfl)]; apply quiet_val; (intro wq hwq; go_simp; (try go_ints); exact rfl); refine hK _ ?_; clear hK K; simp only [Act.put, List.setIfInBounds_toArray, List.set_cons_zero, List.set_cons_succ])
        (refine wpQuiet_step (fun K hK => ?_); rw [if_pos (by rfl)]; apply quiet_val; (intro wq hwq; go_simp; (try go_ints); exact rfl); refine hK _ ?_; clear hK K; simp only [Act.put, List.setIfInBounds_toArray, List.set_cons_zero, List.set_cons_succ])
        (refine wpQuiet_step (fun K hK => ?_); rw [if_pos (by rfl)]; apply quiet_val; (intro wq hwq; go_simp; (try go_ints); exact rfl); refine hK _ ?_; clear hK K; simp only [Act.put, List.setIfInBounds_toArray, List.set_cons_zero, List.set_cons_succ])
        (refine wpQuiet_step (fun K hK => ?_); rw [if_pos (by rfl)]; apply quiet_val; (intro wq hwq; go_simp; (try go_ints); exact rfl); refine hK _ ?_; clear hK K; simp only [Act.put, List.setIfInBounds_toArray, List.set_cons_zero, List.set_cons_succ])
        (refine wpQuiet_step (fun K hK => ?_); rw [if_pos (by rfl)]; apply quiet_val; (intro wq hwq; go_simp; (try go_ints); exact rfl); refine hK _ ?_; clear hK K; simp only [Act.put, List.setIfInBounds_toArray, List.set_cons_zero, List.set_cons_succ])
        (refine wpQuiet_step (fun K hK => ?_); rw [if_pos (by rfl)]; apply quiet_val; (intro wq hwq; go_simp; (try go_ints); exact rfl); refine hK _ ?_; clear hK K; simp only [Act.put, List.setIfInBounds_toArray, List.set_cons_zero, List.set_cons_succ])
        (refine wpQuiet_step (fun K hK => ?_); rw [if_pos (by rfl)]; apply quiet_val; (intro wq hwq; go_simp; (try go_ints); exact rfl); refine hK _ ?_; clear hK K; simp only [Act.put, List.setIfInBounds_toArray, List.set_cons_zero, List.set_cons_succ])
        (refine wpQuiet_step (fun K hK => ?_); rw [if_pos (by rfl)]; apply quiet_val; (intro wq hwq; go_simp; (try go_ints); exact rfl); refine hK _ ?_; clear hK K; simp only [Act.put, List.setIfInBounds_toArray, List.set_cons_zero, List.set_cons_succ])
        (refine wpQuiet_step (fun K hK => ?_); rw [if_pos (by rfl)]; apply quiet_val; (intro wq hwq; go_simp; (try go_ints); exact rfl); refine hK _ ?_; clear hK K; simp only [Act.put, List.setIfInBounds_toArray, List.set_cons_zero, List.set_cons_succ])
        refine wpQuiet_nil ?_; intro wn hwn
        by_cases hab : a = b
        · have e1 : (a != b) = false := by simp [hab]
          have HE2 : Hid (xs = ys ↔ xs.drop (k + 1) = ys.drop (k + 1)) := Lib.hid (by rw [HE.out, hd]; simp [hab])
          clear hd HE
          go_wp2
          go_roundw
          case rel => exact ⟨k + 1, by go_num, by omega, HE2, Lib.hid (below_call HB.out hwn)⟩
          case measure => simp [intOf]; omega
        · have e1 : (a != b) = true := by simp [hab]
          have HE2 : Hid (¬ xs = ys) := Lib.hid (by rw [HE.out, hd]; simp [hab])
          clear hd HE
          go_wp2
          go_ret
          exact ⟨by rw [decide_eq_false HE2.out]; rfl, below_call HB.out hwn⟩
      · have hkk : k = xs.length := by omega
        have HE2 : Hid (xs = ys) := Lib.hid (HE.out.2 (by rw [hkk, List.drop_length, hl'.out, List.drop_length]))
        clear HE
        go_wp2
        go_ret
        exact ⟨by rw [decide_eq_true HE2.out]; rfl, HB.out⟩
  · have e0 : ((xs.length : Int) != (ys.length : Int)) = true := by simp; omega
    have HE2 : Hid (¬ xs = ys) := Lib.hid (fun e => hl (by rw [e]))
    clear hl
    go_enter Try.func13, Try.ntmps13
    go_wp2
    go_ret
    exact ⟨by rw [decide_eq_false HE2.out]; rfl, Below.refl _ _⟩

end Go.Proofs.Ytobbjdindknkdaa
