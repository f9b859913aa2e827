/- The heap's length, and the first job taken. -/
import Derived.Test.YtobbjdindknkdaaI4
namespace Go.Proofs.Ytobbjdindknkdaa
open Go Go.RowKit
attribute [local irreducible] wpQuiet wpPure wpHold wpKeep
set_option linter.unusedSimpArgs false
set_option linter.unusedVariables false

theorem len_any {w : World} {B hb : Nat} {js : List Job} {cnt : Int} {v : Value} (h : HeapAt w B hb js cnt v) :
    Calls Try.prog 18 #[.pointer (some ⟨hb, 0, none⟩)] w fun e w' => e = .returned (.int .i64 (js.length : Nat)) ∧ w = w' := by
  obtain ⟨A, cap, rfl, hcap⟩ := h.shape
  have c0 : w.cell? ⟨hb, 0, none⟩ = some (.slice A js.length cap) := (cell_row h.head 0).trans rfl
  clear h
  go_enter Try.func18, Try.ntmps18
  go_wp2
  go_ret
  exact ⟨rfl, rfl⟩
theorem len_nil (w : World) : Calls Try.prog 18 #[.pointer none] w fun e w' => e = .returned (.int .i64 0) ∧ w = w' := by
  go_enter Try.func18, Try.ntmps18
  go_wp2
  go_ret
  exact ⟨rfl, rfl⟩
theorem add_nil (node rank : Int) (w : World) : Calls Try.prog 17 #[.pointer none, .int .i64 node, .int .i64 rank] w fun e w' => e = .returned (.tuple #[]) ∧ w = w' := by
  go_enter Try.func17, Try.ntmps17
  go_wp2
  exact bodyPost_ret (v := .tuple #[]) (by simp [results, Try.results17, go_sem]) rfl ⟨rfl, rfl⟩
theorem take_nil (w : World) : Calls Try.prog 15 #[.pointer none] w fun e w' => e = .returned (.tuple #[.int .i64 0, .int .i64 0, .bool false]) ∧ w = w' := by
  go_enter Try.func15, Try.ntmps15
  go_wp2_with (go_at_call 18; refine (len_nil _).mono ?_; rintro e w' ⟨rfl, rfl⟩)
  go_ret3
  exact ⟨rfl, rfl⟩
theorem take_empty {w : World} {B hb : Nat} {cnt : Int} {v : Value} (h : HeapAt w B hb [] cnt v) :
    Calls Try.prog 15 #[.pointer (some ⟨hb, 0, none⟩)] w fun e w' => e = .returned (.tuple #[.int .i64 0, .int .i64 0, .bool false]) ∧ w = w' := by
  have HL := Lib.hid (len_any h)
  clear h
  go_enter Try.func15, Try.ntmps15
  go_wp2_with (go_at_call 18; refine HL.out.mono ?_; rintro e w' ⟨rfl, rfl⟩)
  go_ret3
  exact ⟨rfl, rfl⟩

theorem own_cut {w : World} {base size n k g cap : Nat} {e : TypeId} {xs : List Value} (h : w.ownsRow base e size (.slice (some ⟨g, 0, none⟩) n cap) n xs) (hk : k ≤ n) : w.ownsRow base e size (.slice (some ⟨g, 0, none⟩) k cap) k (xs.take (k * size)) := by
  rcases h.2 with ⟨h1, _⟩ | ⟨g', cap', cur, hv, hbg, hg, hnc, hcm, hcs, htake⟩
  · cases h1
  · injection hv with hv1 hv2 hv3
    injection hv1 with hv1
    injection hv1 with hv1
    subst hv1; subst hv3
    have h1 : k * size ≤ n * size := Nat.mul_le_mul_right _ hk
    refine ⟨by rw [List.length_take, h.1]; omega, .inr ⟨g, cap, cur, rfl, hbg, hg, by omega, hcm, hcs, ?_⟩⟩
    rw [← htake, List.take_take]
    congr 1
    omega
theorem heap_cut {w : World} {B hb g cap n : Nat} {js : List Job} {cnt : Int} (h : HeapAt w B hb js cnt (.slice (some ⟨g, 0, none⟩) n cap)) (hn : js.length = n) {k : Nat} (hk : k ≤ js.length) :
    HeapAt (w.setCell ⟨hb, 0, none⟩ (.slice (some ⟨g, 0, none⟩) k cap)) B hb (js.take k) cnt (.slice (some ⟨g, 0, none⟩) k cap) := by
  subst hn
  have hgb : g ≠ hb := fun e => h.apart (by rw [e]; rfl)
  refine ⟨row_setCell_same h.head 0 _, ?_, fun e => hgb (Option.some.inj e), h.base⟩
  have hl : (js.take k).length = k := by simp; omega
  rw [hl, ← jcells_take]
  refine own_of_block (own_cut h.row hk) (fun q hq => ?_)
  obtain rfl : g = q := Option.some.inj hq
  exact Below.heap_setCell _ _ _ _ hgb
theorem foot_head {w w2 : World} {hb : Nat} {p : Nat → Prop} (h : Foot (fun q => q = hb ∨ p q) w w2) (u : Value) : Foot (fun q => q = hb ∨ p q) w (w2.setCell ⟨hb, 0, none⟩ u) := by
  refine Foot.setCell h (Or.inl ?_) u
  exact Or.inl rfl
def takeJ (js : List Job) : List Job := sinkJ (js.length - 1) ((swapJ js 0 (js.length - 1)).take (js.length - 1)) 0

set_option maxHeartbeats 1000000 in
theorem take_any {w : World} {B hb : Nat} {js : List Job} {cnt : Int} {v : Value} (h : HeapAt w B hb js cnt v) {a : Job} (ha : js[0]? = some a) (hlen : js.length ≤ 1000000) :
    Calls Try.prog 15 #[.pointer (some ⟨hb, 0, none⟩)] w fun e w' => e = .returned (.tuple #[.int .i64 a.2.1, .int .i64 a.1, .bool true]) ∧ ∃ v', HeapAt w' B hb (takeJ js) cnt v' ∧ Foot (fun q => q = hb ∨ v.ownBlock = some q) w w' ∧ v'.ownBlock = v.ownBlock := by
  have h0 : 0 < js.length := (List.getElem?_eq_some_iff.1 ha).1
  obtain ⟨g, cap, rfl, hcap⟩ := h.form h0
  obtain ⟨b, hb'⟩ := lt_get (show js.length - 1 < js.length by omega)
  have HL := Lib.hid (len_any h)
  have HA := Lib.hid ha
  have HB := Lib.hid hb'
  have q0 : w.cell? ⟨g, 0, none⟩ = some (.int .i64 a.1) := by have := h.row.cells (g := g) rfl 0 _ (jcells_at ha 0 _ rfl); rwa [plain_add] at this
  have q1 : w.cell? ⟨g, 1, none⟩ = some (.int .i64 a.2.1) := by have := h.row.cells (g := g) rfl 1 _ (jcells_at ha 1 _ rfl); rwa [plain_add, Nat.zero_add] at this
  have q2 : w.cell? ⟨g, 2, none⟩ = some (.int .i64 a.2.2) := by have := h.row.cells (g := g) rfl 2 _ (jcells_at ha 2 _ rfl); rwa [plain_add, Nat.zero_add] at this
  have c0 : w.cell? ⟨hb, 0, none⟩ = some (.slice (some ⟨g, 0, none⟩) js.length cap) := (cell_row h.head 0).trans rfl
  have HH := Lib.hid h
  have hz : ¬ ((js.length : Int) = 0) := by omega
  have hbl : hb < w.heap.size := row_lt h.head
  have hgl : g < w.heap.size := (own_lt h.row rfl).2
  have hgb : g ≠ hb := fun e => h.apart (by rw [e]; rfl)
  have hcs : (js.length : Int) - 1 = ((js.length - 1 : Nat) : Int) := by omega
  have hB0 := below1 w (.cells (jagg a) 85)
  have HSw := Lib.hid (swap_any (h.below hB0) ha hb')
  have hA5 : rowAt (w.alloc (.cells (jagg a) 85)) w.heap.size = some (jagg a) := row1 w _ _
  unfold jagg at *
  have HB0 := Lib.hid hB0
  have HA5 := Lib.hid hA5
  have HSj := Lib.hid (swapJ_eq ha hb')
  clear h ha hb' hB0 hA5
  go_enter Try.func15, Try.ntmps15
  go_wp2_with (first
    | (go_at_call 18; refine HL.out.mono ?_; rintro e w' ⟨rfl, rfl⟩)
    | (go_at_call 34; refine HSw.out.mono ?_; rintro e w2 ⟨rfl, hh2, hf2⟩; have a5 := Foot.row hf2 HA5.out (fun e => by have h9 : g = w.heap.size := Option.some.inj e; omega); have d2 : w2.cell? ⟨hb, 0, none⟩ = some (.slice (some ⟨g, 0, none⟩) js.length cap) := (cell_row hh2.head 0).trans rfl; have f2 : w2.frozen? ⟨hb, 0, none⟩ = false := frozen_row hh2.head 0; have hl1 : ((js.set 0 b).set (js.length - 1) a).length = js.length := (by simp); have hh3 := heap_cut hh2 hl1 (k := js.length - 1) (by omega); have hl3 : (((js.set 0 b).set (js.length - 1) a).take (js.length - 1)).length = js.length - 1 := (by simp <;> omega); have HSink := Lib.hid (sink_any hh3 (by omega)); have a6 := row_setCell_other a5 (show w.heap.size ≠ hb by omega) 0 (.slice (some ⟨g, 0, none⟩) (js.length - 1) cap); have F3 : Foot (fun q => q = hb ∨ (Value.slice (some ⟨g, 0, none⟩) js.length cap).ownBlock = some q) w (w2.setCell ⟨hb, 0, none⟩ (.slice (some ⟨g, 0, none⟩) (js.length - 1) cap)) := foot_head ((Foot.of_below HB0.out).then hf2 (fun q _ h => Or.inr h)) _; have HF3 := Lib.hid F3; clear F3; have HL3 := Lib.hid hl3; clear hl3 hl1)
    | (go_at_call 35; refine HSink.out.mono ?_; rintro e w4 ⟨rfl, hh4, hf4⟩))
  have a7 := Foot.row hf4 a6 (fun e => by have h9 : g = w.heap.size := Option.some.inj e; omega)
  have e0 : ∀ w', Since w4 w' → w'.cell? ⟨w.heap.size, 0, none⟩ = some (.int .i64 a.1) := fun w' hs => later hs a7 rfl
  have e1 : ∀ w', Since w4 w' → w'.cell? ⟨w.heap.size, 1, none⟩ = some (.int .i64 a.2.1) := fun w' hs => later hs a7 rfl
  refine wp_region_calm (Since _) (by kernel_rfl) (by kernel_rfl) (Since.drew _) ?_
  (refine wpQuiet_step (fun K hK => ?_); rw [if_pos (by rfl)]; apply quiet_val; (intro wq hwq; go_simp; (try go_ints); exact rfl); refine hK _ ?_; clear hK K; simp only [Act.put, List.setIfInBounds_toArray, List.set_cons_zero, List.set_cons_succ])
  (refine wpQuiet_step (fun K hK => ?_); rw [if_pos (by rfl)]; apply quiet_val; (intro wq hwq; go_simp; (try go_ints); exact rfl); refine hK _ ?_; clear hK K; simp only [Act.put, List.setIfInBounds_toArray, List.set_cons_zero, List.set_cons_succ])
  (refine wpQuiet_step (fun K hK => ?_); rw [if_pos (by rfl)]; apply quiet_val; (intro wq hwq; go_simp; (try go_ints); exact rfl); refine hK _ ?_; clear hK K; simp only [Act.put, List.setIfInBounds_toArray, List.set_cons_zero, List.set_cons_succ])
  (refine wpQuiet_step (fun K hK => ?_); rw [if_pos (by rfl)]; apply quiet_val; (intro wq hwq; go_simp; (try go_ints); exact rfl); refine hK _ ?_; clear hK K; simp only [Act.put, List.setIfInBounds_toArray, List.set_cons_zero, List.set_cons_succ])
  (refine wpQuiet_step (fun K hK => ?_); rw [if_pos (by rfl)]; apply quiet_val; (intro wq hwq; go_simp; (try go_ints); exact rfl); refine hK _ ?_; clear hK K; simp only [Act.put, List.setIfInBounds_toArray, List.set_cons_zero, List.set_cons_succ])
  (refine wpQuiet_step (fun K hK => ?_); rw [if_pos (by rfl)]; apply quiet_val; (intro wq hwq; go_simp; (try go_ints); exact rfl); refine hK _ ?_; clear hK K; simp only [Act.put, List.setIfInBounds_toArray, List.set_cons_zero, List.set_cons_succ])
  (refine wpQuiet_step (fun K hK => ?_); rw [if_pos (by rfl)]; apply quiet_val; (intro wq hwq; go_simp; (try go_ints); exact rfl); refine hK _ ?_; clear hK K; simp only [Act.put, List.setIfInBounds_toArray, List.set_cons_zero, List.set_cons_succ])
  refine wpQuiet_nil ?_; intro wn hwn
  go_wp2
  go_ret3
  refine ⟨rfl, .slice (some ⟨g, 0, none⟩) (js.length - 1) cap, ?_, (HF3.out.trans (hf4.mono fun q _ h => Or.inr h)).trans (Foot.of_below hwn), rfl⟩
  have hj : takeJ js = sinkJ (((js.set 0 b).set (js.length - 1) a).take (js.length - 1)).length (((js.set 0 b).set (js.length - 1) a).take (js.length - 1)) 0 := by
    unfold takeJ
    rw [HL3.out, HSj.out]
  rw [hj]
  exact hh4.below hwn

end Go.Proofs.Ytobbjdindknkdaa
