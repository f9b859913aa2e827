/- A job is added to the heap. -/
import Derived.Test.YtobbjdindknkdaaI3
import Derived.Test.YtobbjdindknkdaaK4

namespace Go.Proofs.Ytobbjdindknkdaa
open Go Go.RowKit
attribute [local irreducible] wpQuiet wpPure wpHold wpKeep
set_option linter.unusedSimpArgs false
set_option linter.unusedVariables false

/-! ### Add, Take, Len -/
theorem info85 : (Try.prog.info? 85).map (fun i => (i.zero, i.size, i.bytes)) = some (some (.agg #[.int .i64 0, .int .i64 0, .int .i64 0]), 3, 24) := by kernel_rfl
def addJ (js : List Job) (j : Job) : List Job := riseJ js.length (js ++ [j]) js.length

set_option maxHeartbeats 1000000 in
theorem add_any {w : World} {B hb : Nat} {js : List Job} {cnt : Int} {v : Value} (h : HeapAt w B hb js cnt v) (hB : B ≤ w.heap.size) (node rank : Int) (hlen : js.length < 1000000) :
    Calls Try.prog 17 #[.pointer (some ⟨hb, 0, none⟩), .int .i64 node, .int .i64 rank] w fun e w' => e = .returned (.tuple #[]) ∧ ∃ v', HeapAt w' B hb (addJ js (rank, node, cnt)) (wrap64 (cnt + 1)) v' ∧ Foot (fun q => q = hb ∨ v.ownBlock = some q) w w' ∧
      (∀ q, v'.ownBlock = some q → v.ownBlock = some q ∨ w.heap.size ≤ q) := by
  obtain ⟨i0, hi⟩ := info_parts info85
  obtain ⟨A, cap, rfl, hcap⟩ := h.shape
  have c0 : ∀ w', Since w w' → w'.cell? ⟨hb, 0, none⟩ = some (.slice A js.length cap) := fun w' hs => later hs h.head rfl
  have c1 : ∀ w', Since w w' → w'.cell? ⟨hb, 1, none⟩ = some (.int .i64 cnt) := fun w' hs => later hs h.head rfl
  have HI := Lib.hid hi; clear hi
  have HH := Lib.hid h; clear h
  have HB := Lib.hid hB; clear hB
  go_enter Try.func17, Try.ntmps17
  go_wp2
  refine wp_region_hold (Since _) [0, 1, 2, 3, 5, 6, 7, 8, 9] [4, 10, 11] [12] [13, 14, 15, 16] (by kernel_rfl) (by kernel_rfl) (Since.drew _) ?_; simp only [pick, List.getElem?_cons_succ, List.getElem?_cons_zero]
  (refine wpPure_take (by rfl) (by (intro wq; go_simp; (try go_ints); exact rfl)) ?_; simp only [Act.put, List.setIfInBounds_toArray, List.set_cons_zero, List.set_cons_succ])
  (refine wpPure_take (by rfl) (by (intro wq; go_simp; (try go_ints); exact rfl)) ?_; simp only [Act.put, List.setIfInBounds_toArray, List.set_cons_zero, List.set_cons_succ])
  (refine wpPure_take (by rfl) (by (intro wq; go_simp; (try go_ints); exact rfl)) ?_; simp only [Act.put, List.setIfInBounds_toArray, List.set_cons_zero, List.set_cons_succ])
  (refine wpPure_take (by rfl) (by (intro wq; go_simp; (try go_ints); exact rfl)) ?_; simp only [Act.put, List.setIfInBounds_toArray, List.set_cons_zero, List.set_cons_succ])
  (refine wpPure_take (by rfl) (by (intro wq; go_simp; (try go_ints); exact rfl)) ?_; simp only [Act.put, List.setIfInBounds_toArray, List.set_cons_zero, List.set_cons_succ])
  (refine wpPure_take (by rfl) (by (intro wq; go_simp; (try go_ints); exact rfl)) ?_; simp only [Act.put, List.setIfInBounds_toArray, List.set_cons_zero, List.set_cons_succ])
  (refine wpPure_take (by rfl) (by (intro wq; go_simp; (try go_ints); exact rfl)) ?_; simp only [Act.put, List.setIfInBounds_toArray, List.set_cons_zero, List.set_cons_succ])
  (refine wpPure_take (by rfl) (by (intro wq; go_simp; (try go_ints); exact rfl)) ?_; simp only [Act.put, List.setIfInBounds_toArray, List.set_cons_zero, List.set_cons_succ])
  (refine wpPure_take (by rfl) (by (intro wq; go_simp; (try go_ints); exact rfl)) ?_; simp only [Act.put, List.setIfInBounds_toArray, List.set_cons_zero, List.set_cons_succ])
  refine wpPure_nil ?_
  (refine wpHold_take (by rfl) (by (intro wq hwq; go_simp; (try go_ints); exact rfl)) ?_; simp only [Act.put, List.setIfInBounds_toArray, List.set_cons_zero, List.set_cons_succ])
  (refine wpHold_take (by rfl) (by (intro wq hwq; go_simp; (try go_ints); exact rfl)) ?_; simp only [Act.put, List.setIfInBounds_toArray, List.set_cons_zero, List.set_cons_succ])
  (refine wpHold_take (by rfl) (by (intro wq hwq; go_simp; (try go_ints); exact rfl)) ?_; simp only [Act.put, List.setIfInBounds_toArray, List.set_cons_zero, List.set_cons_succ])
  refine wpHold_nil ?_
  (refine wpKeep_step (by rfl) (fun K' hK => ?_); go_simp; refine hK _ _ (Below.alloc (Since.drew _) (Nat.le_refl _) _) ?_; clear hK K'; try simp only [Act.put, List.setIfInBounds_toArray, List.set_cons_zero, List.set_cons_succ])
  refine wpKeep_nil ?_
  have hbl : hb < w.heap.size := row_lt HH.out.head
  clear c0 c1
  go_wp2_with (first
        | (at_builtin; refine wpList_append_lies _ rfl (.tmp 12) (.tmp 20) 54 rfl B 85 i0 _ 3 24 Try.underlying54 HI.out.1 HI.out.2.1 HI.out.2.2.1 HI.out.2.2.2 rfl (by decide) (.slice A js.length cap) js.length (jcells js) rfl ((own_of_block HH.out.row (fun g hg => (Below.heap_alloc w (.cells #[.int .i64 rank, .int .i64 node, .int .i64 cnt] 85) _ (own_lt HH.out.row hg).2)))) ⟨w.heap.size, 0, none⟩ 1 1 [.int .i64 rank, .int .i64 node, .int .i64 cnt] rfl rfl ?c1 ?c2 (by decide) ?c3 ?c4 ?c5 _ rfl ?_))
  case c1 =>
    intro j u hj
    rw [plain_add, Nat.zero_add]
    show (w.alloc _).cell? _ = _
    rw [World.cell?_alloc_new]
    simpa using hj
  case c2 =>
    intro u hu
    simp only [List.mem_cons, List.not_mem_nil, or_false] at hu
    rcases hu with rfl | rfl | rfl <;> rfl
  case c3 => unfold maxLen; omega
  case c4 => omega
  case c5 => have := HB.out; simp; omega
  · intro g c w2 hown2 hgrow hat hlt2
    have hg : g ≠ hb := by
      rcases hat with h1 | h1
      · exact fun e => HH.out.apart (h1.trans (by rw [e]))
      · omega
    have hgn : ∀ q, (Value.slice A js.length cap).ownBlock = some q → q ≠ hb := fun q hq e => HH.out.apart (hq.trans (by rw [e]))
    have F2 : Foot (fun q => q = hb ∨ (Value.slice A js.length cap).ownBlock = some q) w w2 :=
      ((((Foot.refl _ w).alloc _).drew).grown hgrow (fun k hk => Or.inl (Or.inr hk)))
    have d2 : rowAt w2 hb = some #[.slice A js.length cap, .int .i64 cnt] := by
      have h1 := row_alloc HH.out.head (.cells #[.int .i64 rank, .int .i64 node, .int .i64 cnt] 85)
      unfold rowAt at h1 ⊢
      rw [hgrow.block hb (by simp; omega) (fun e => hgn hb e.symm rfl)]
      exact h1
    have dc0 : w2.cell? ⟨hb, 0, none⟩ = some (.slice A js.length cap) := (cell_row d2 0).trans rfl
    have dc1 : w2.cell? ⟨hb, 1, none⟩ = some (.int .i64 cnt) := (cell_row d2 1).trans rfl
    have df0 : w2.frozen? ⟨hb, 0, none⟩ = false := frozen_row d2 0
    have df1 : w2.frozen? ⟨hb, 1, none⟩ = false := frozen_row d2 1
    have e0 := row_setCell_same d2 0 (.slice (some ⟨g, 0, none⟩) (js.length + 1) c)
    have e1 := row_setCell_same e0 1 (.int .i64 (wrap64 (cnt + 1)))
    have hl1 : (js ++ [(rank, node, cnt)]).length = js.length + 1 := by simp
    have HH3 : HeapAt ((w2.setCell ⟨hb, 0, none⟩ (.slice (some ⟨g, 0, none⟩) (js.length + 1) c)).setCell ⟨hb, 1, none⟩ (.int .i64 (wrap64 (cnt + 1)))) B hb (js ++ [(rank, node, cnt)]) (wrap64 (cnt + 1)) (.slice (some ⟨g, 0, none⟩) (js.length + 1) c) := by
      refine ⟨e1, ?_, fun e => hg (Option.some.inj e), HH.out.base⟩
      rw [hl1, jcells_append]
      refine own_of_block (w := w2) ?_ (fun q hq => ?_)
      · simpa [jcells, jagg] using hown2
      · obtain rfl : g = q := Option.some.inj hq
        rw [Below.heap_setCell _ _ _ _ hg, Below.heap_setCell _ _ _ _ hg]
    have F3 : Foot (fun q => q = hb ∨ (Value.slice A js.length cap).ownBlock = some q) w ((w2.setCell ⟨hb, 0, none⟩ (.slice (some ⟨g, 0, none⟩) (js.length + 1) c)).setCell ⟨hb, 1, none⟩ (.int .i64 (wrap64 (cnt + 1)))) :=
      (F2.setCell (Or.inl (Or.inl rfl)) _).setCell (Or.inl (Or.inl rfl)) _
    have HRise := Lib.hid (rise_any HH3 (i := js.length) (by simp) (by simp; omega))
    have HAT := Lib.hid hat
    have HF3 := Lib.hid F3
    clear hat hgrow hown2 F2 F3 e0 e1 HH3 hgn d2 hl1
    go_wp2
    refine Calm.normal ?_
    go_wp2_with (go_at_call 36; refine (HRise.out).mono ?_; rintro e w4 ⟨rfl, hh4, hf4⟩)
    go_end0
    refine ⟨rfl, _, hh4, HF3.out.then hf4 (fun q hq hqq => ?_), fun q hq => ?_⟩
    · obtain rfl : g = q := Option.some.inj hqq
      rcases HAT.out with h1 | h1
      · exact Or.inr h1
      · omega
    · obtain rfl : g = q := Option.some.inj hq
      rcases HAT.out with h1 | h1
      · exact Or.inl h1
      · exact Or.inr (by omega)

end Go.Proofs.Ytobbjdindknkdaa
