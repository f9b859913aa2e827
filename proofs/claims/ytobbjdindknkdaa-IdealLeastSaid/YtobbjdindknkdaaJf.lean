/- The document's links: a square of costs. -/
import Derived.Test.YtobbjdindknkdaaJe
namespace Go.Proofs.Ytobbjdindknkdaa
open Go Go.RowKit
attribute [local irreducible] wpQuiet wpPure wpHold wpKeep wpQuietS
set_option linter.unusedSimpArgs false
set_option linter.unusedVariables false

/-! ### the document's links: a square of costs -/
theorem zero49 : ((Try.prog.info? 49).bind (·.zero)).map (fun v => decide (v.cells.size = 4097) && v.cells.toList.all (fun c => match c with | .int .i64 0 => true | _ => false)) = some true := by kernel_rfl
structure RefAt (w : World) (db : Nat) (N : Int) (c : Nat → Nat → Int) : Prop where
  ex : ∃ C : Array Value, rowAt w db = some C ∧ C.size = 4097 ∧ C[0]? = some (.int .i64 N) ∧ ∀ a b, a < 64 → b < 64 → C[1 + a * 64 + b]? = some (.int .i64 (c a b))
theorem RefAt.n {w : World} {db : Nat} {N : Int} {c : Nat → Nat → Int} (h : RefAt w db N c) : w.cell? ⟨db, 0, none⟩ = some (.int .i64 N) := by
  obtain ⟨C, h1, h2, h3, h4⟩ := h.ex
  rw [cell_row h1]; exact h3
theorem RefAt.at {w : World} {db : Nat} {N : Int} {c : Nat → Nat → Int} (h : RefAt w db N c) {a b : Nat} (ha : a < 64) (hb : b < 64) : w.cell? ⟨db, 1 + a * 64 + b, none⟩ = some (.int .i64 (c a b)) := by
  obtain ⟨C, h1, h2, h3, h4⟩ := h.ex
  rw [cell_row h1]; exact h4 a b ha hb
theorem RefAt.lt {w : World} {db : Nat} {N : Int} {c : Nat → Nat → Int} (h : RefAt w db N c) : db < w.heap.size := by
  obtain ⟨C, h1, h2, h3, h4⟩ := h.ex
  exact row_lt h1
theorem RefAt.below {w w' : World} {db : Nat} {N : Int} {c : Nat → Nat → Int} (h : RefAt w db N c) (hb : Below w.heap.size w w') : RefAt w' db N c := by
  obtain ⟨C, h1, h⟩ := h.ex
  exact ⟨C, row_call hb h1, h⟩
theorem RefAt.foot {own : Nat → Prop} {w w' : World} {db : Nat} {N : Int} {c : Nat → Nat → Int} (h : RefAt w db N c) (hf : Foot own w w') (ho : ¬ own db) : RefAt w' db N c := by
  obtain ⟨C, h1, h⟩ := h.ex
  exact ⟨C, hf.row h1 ho, h⟩
theorem RefAt.frozen {w : World} {db : Nat} {N : Int} {c : Nat → Nat → Int} (h : RefAt w db N c) (i : Nat) : w.frozen? ⟨db, i, none⟩ = false := by
  obtain ⟨C, h1, h⟩ := h.ex
  exact frozen_row h1 i
def putC (c : Nat → Nat → Int) (a b : Nat) (x : Int) : Nat → Nat → Int := fun i j => if i = a ∧ j = b then x else c i j
theorem RefAt.put {w : World} {db : Nat} {N : Int} {c : Nat → Nat → Int} (h : RefAt w db N c) {a b : Nat} (ha : a < 64) (hb : b < 64) (x : Int) : RefAt (w.setCell ⟨db, 1 + a * 64 + b, none⟩ (.int .i64 x)) db N (putC c a b x) := by
  obtain ⟨C, h1, h2, h3, h4⟩ := h.ex
  refine ⟨C.setIfInBounds (1 + a * 64 + b) (.int .i64 x), row_setCell_same h1 _ _, by simpa using h2, ?_, fun i j hi hj => ?_⟩
  · rw [Array.getElem?_setIfInBounds, if_neg (by omega)]; exact h3
  · rw [Array.getElem?_setIfInBounds]
    unfold putC
    by_cases he : i = a ∧ j = b
    · obtain ⟨rfl, rfl⟩ := he
      simp [h2]
      omega
    · have : ¬ (1 + a * 64 + b = 1 + i * 64 + j) := by omega
      rw [if_neg this, if_neg he]
      exact h4 i j hi hj
section
variable {ops : Array Oper} {rest : List Oper} {o : Oper} {a : Act} {w : World} {Q : Exit → Act → World → Prop}
theorem run_build49 (n : Int) (w : World) : ∃ C : Array Value, (Instr.build 49 #[(0, .int .i64 n)]).run Try.prog w = .ok (.agg C) w ∧ C.size = 4097 ∧ C[0]? = some (.int .i64 n) ∧ ∀ i, 0 < i → i < 4097 → C[i]? = some (.int .i64 0) := by
  have hz := zero49
  cases hi : Try.prog.info? 49 with
  | none => rw [hi] at hz; cases hz
  | some i =>
    rw [hi] at hz
    cases hv : i.zero with
    | none => simp [hv] at hz
    | some v =>
      simp only [Option.bind_some, hv, Option.map_some, Option.some.injEq, Bool.and_eq_true, decide_eq_true_eq] at hz
      obtain ⟨hs, hall⟩ := hz
      have hzv : (zeroValue 49).run Try.prog w = .ok v w := by simp [zeroValue, typeInfo, hi, hv]
      obtain ⟨i3, hi3, -, hs3, -⟩ := info_parts info3
      have h3 : (sizeOf 3).run Try.prog w = .ok 1 w := by simp [sizeOf, typeInfo, hi3, hs3]
      have hget : ∀ j, j < 4097 → v.cells[j]? = some (.int .i64 0) := fun j hj => by
        have hj' : j < v.cells.size := by omega
        have hm := List.all_eq_true.1 hall v.cells[j] (by simp)
        rw [Array.getElem?_eq_getElem hj']
        split at hm
        · rename_i hc; rw [hc]
        · cases hm
      refine ⟨v.cells.setIfInBounds 0 (.int .i64 n), ?_, by simpa using hs, by simp [hs], fun j h0 hj => ?_⟩
      · have h47 : ∃ k, (sizeOf 47).run Try.prog w = .ok k w := by
          cases h : Try.prog.info? 47 with
          | none => exact absurd h (by decide +kernel)
          | some q => exact ⟨q.size, by simp [sizeOf, typeInfo, h]⟩
        obtain ⟨k, h47⟩ := h47
        have hc : (Value.int .i64 n).cells = #[Value.int .i64 n] := rfl
        have hne : v.cells ≠ #[] := fun e => by rw [e] at hs; simp at hs
        simp [hne, Instr.build, hzv, run_underlying Try.underlying49, h3, h47, Instr.fill, hc, hs]
      · rw [Array.getElem?_setIfInBounds, if_neg (by omega)]
        exact hget j hj
theorem wpList_build49 {n : Int} {x : Operand} (hw : Region.wanted o (yielded ops a.tmps) = true) (ho : o.op = .build 49 #[(0, x)]) (hx : a.eval x = .int .i64 n)
    (h : ∀ C : Array Value, C.size = 4097 → C[0]? = some (.int .i64 n) → (∀ i, 0 < i → i < 4097 → C[i]? = some (.int .i64 0)) → wpList Try.prog ops Q rest (a.put o.dst (.agg C)) w) : wpList Try.prog ops Q (o :: rest) a w := by
  refine wpList_wanted hw fun _ hK => ?_
  obtain ⟨C, h1, h2, h3, h4⟩ := run_build49 n w
  unfold Oper.wp execOp
  simp only [ho, List.map_toArray, List.map_cons, List.map_nil, hx, Sem.run_bind, h1, Result.andThen_ok, Sem.run_pure]
  exact hK _ _ (h C h2 h3 h4)
theorem wpList_box49 {C : Array Value} {x : Operand} (hw : Region.wanted o (yielded ops a.tmps) = true) (ho : o.op = .box 49 x) (hx : a.eval x = .agg C)
    (h : wpList Try.prog ops Q rest (a.put o.dst (.pointer (some ⟨w.heap.size, 0, none⟩))) (w.alloc (.cells C 49))) : wpList Try.prog ops Q (o :: rest) a w := by
  refine wpList_wanted hw fun _ hK => ?_
  unfold Oper.wp execOp
  have h1 : (Instr.box 49 (.agg C)).run Try.prog w = .ok (.pointer (some ⟨w.heap.size, 0, none⟩)) (w.alloc (.cells C 49)) := rfl
  simp only [ho, hx, Sem.run_bind, h1, Result.andThen_ok, Sem.run_pure]
  exact hK _ _ h
end
theorem rnode_any {w : World} {db : Nat} {N : Int} {c : Nat → Nat → Int} (h : RefAt w db N c) (a : Int) : Calls Try.prog 21 #[.pointer (some ⟨db, 0, none⟩), .int .i64 a] w fun e w' => e = .returned (.bool (nodeB N a)) ∧ w = w' := by
  have c0 := h.n
  clear h
  by_cases h0 : 0 ≤ a
  · have HE : Hid (nodeB N a = decide (a < N)) := Lib.hid (by unfold nodeB; rw [Bool.eq_iff_iff]; simp [h0])
    go_enter Try.func21, Try.ntmps21
    go_wp2
    go_ret
    exact ⟨by rw [HE.out]; rfl, rfl⟩
  · have HE : Hid (nodeB N a = false) := Lib.hid (by unfold nodeB; simp [h0])
    go_enter Try.func21, Try.ntmps21
    go_wp2
    go_ret
    exact ⟨by rw [HE.out]; rfl, rfl⟩
theorem rset_any {w : World} {db : Nat} {N : Int} {c : Nat → Nat → Int} (h : RefAt w db N c) {a b : Nat} (ha : a < 64) (hb : b < 64) (x : Int) : Calls Try.prog 22 #[.pointer (some ⟨db, 0, none⟩), .int .i64 a, .int .i64 b, .int .i64 x] w fun e w' => e = .returned (.tuple #[]) ∧ RefAt w' db N (putC (putC c a b x) b a x) ∧ Foot (fun q => q = db) w w' := by
  have HH := Lib.hid h
  have ha' : (a : Int) < 64 := by omega
  have hb' : (b : Int) < 64 := by omega
  clear h
  go_enter Try.func22, Try.ntmps22
  go_wp2
  refine wp_region_pick (Since _) [0, 1, 2, 3, 4, 5, 6, 7, 8, 9, 10, 11, 13, 14, 15] [] [12, 16, 17] (by kernel_rfl) (by kernel_rfl) (Since.drew _) ?_; simp only [pick, List.getElem?_cons_succ, List.getElem?_cons_zero]
  (refine wpPure_take (by rfl) (by (intro wq; go_simp; (try go_ints); exact rfl)) ?_; simp only [Act.put, List.setIfInBounds_toArray, List.set_cons_zero, List.set_cons_succ])
  (refine wpPure_take (by rfl) (by (intro wq; go_simp; (try go_ints); exact rfl)) ?_; simp only [Act.put, List.setIfInBounds_toArray, List.set_cons_zero, List.set_cons_succ])
  (refine wpPure_take (by rfl) (by (intro wq; go_simp; (try go_ints); exact rfl)) ?_; simp only [Act.put, List.setIfInBounds_toArray, List.set_cons_zero, List.set_cons_succ])
  (refine wpPure_take (by rfl) (by (intro wq; go_simp; (try go_ints); exact rfl)) ?_; simp only [Act.put, List.setIfInBounds_toArray, List.set_cons_zero, List.set_cons_succ])
  (refine wpPure_take (by rfl) (by (intro wq; go_simp; (try go_ints); exact rfl)) ?_; simp only [Act.put, List.setIfInBounds_toArray, List.set_cons_zero, List.set_cons_succ])
  (refine wpPure_take (by rfl) (by (intro wq; go_simp; (try go_ints); exact rfl)) ?_; simp only [Act.put, List.setIfInBounds_toArray, List.set_cons_zero, List.set_cons_succ])
  (refine wpPure_take (by rfl) (by (intro wq; go_simp; (try go_ints); exact rfl)) ?_; simp only [Act.put, List.setIfInBounds_toArray, List.set_cons_zero, List.set_cons_succ])
  (refine wpPure_take (by rfl) (by (intro wq; go_simp; (try go_ints); exact rfl)) ?_; simp only [Act.put, List.setIfInBounds_toArray, List.set_cons_zero, List.set_cons_succ])
  (refine wpPure_take (by rfl) (by (intro wq; go_simp; (try go_ints); exact rfl)) ?_; simp only [Act.put, List.setIfInBounds_toArray, List.set_cons_zero, List.set_cons_succ])
  (refine wpPure_take (by rfl) (by (intro wq; go_simp; (try go_ints); exact rfl)) ?_; simp only [Act.put, List.setIfInBounds_toArray, List.set_cons_zero, List.set_cons_succ])
  (refine wpPure_take (by rfl) (by (intro wq; go_simp; (try go_ints); exact rfl)) ?_; simp only [Act.put, List.setIfInBounds_toArray, List.set_cons_zero, List.set_cons_succ])
  (refine wpPure_take (by rfl) (by (intro wq; go_simp; (try go_ints); exact rfl)) ?_; simp only [Act.put, List.setIfInBounds_toArray, List.set_cons_zero, List.set_cons_succ])
  (refine wpPure_take (by rfl) (by (intro wq; go_simp; (try go_ints); exact rfl)) ?_; simp only [Act.put, List.setIfInBounds_toArray, List.set_cons_zero, List.set_cons_succ])
  (refine wpPure_take (by rfl) (by (intro wq; go_simp; (try go_ints); exact rfl)) ?_; simp only [Act.put, List.setIfInBounds_toArray, List.set_cons_zero, List.set_cons_succ])
  (refine wpPure_take (by rfl) (by (intro wq; go_simp; (try go_ints); exact rfl)) ?_; simp only [Act.put, List.setIfInBounds_toArray, List.set_cons_zero, List.set_cons_succ])
  refine wpPure_nil ?_
  refine wpQuiet_nil ?_; intro wn hwn
  have R1 := HH.out.below hwn
  have R2 := R1.put ha hb x
  have R3 := R2.put hb ha x
  have z1 := R1.at ha hb
  have f1 := R1.frozen (1 + a * 64 + b)
  have z2 := R2.at hb ha
  have f2 := R2.frozen (1 + b * 64 + a)
  go_wp2
  refine Calm.normal ?_
  go_wp2
  go_end0
  exact ⟨rfl, R3, ((Foot.of_below hwn).setCell (own := fun q => q = db) (p := ⟨db, _, none⟩) (.inl rfl) _).setCell (p := ⟨db, _, none⟩) (.inl rfl) _⟩
/-- the document's rank by a neighbour -/
def rbyS (c : Nat → Nat → Int) (p : Pol) (i : Nat) (d : Int) (k : Nat) : Int := if c i k = 0 then 65535 else rankS p.f p.s d (c i k) p.l
theorem isz24 : (Try.prog.info? 24).map (·.size) = some 2 := by kernel_rfl
theorem sub_fs (c l ii f s ma mb mc md : Int) : ∀ (j : Nat) (v : Value), (#[Value.int .i64 f, .int .i64 s] : Array Value)[j]? = some v → (#[Value.int .i64 c, .int .i64 l, .int .i64 ii, .int .i64 f, .int .i64 s, .int .i64 ma, .int .i64 mb, .int .i64 mc, .int .i64 md] : Array Value)[3 + j]? = some v := by
  intro j v h
  match j, h with
  | 0, h => exact h
  | 1, h => exact h
  | j + 2, h => simp at h
set_option maxHeartbeats 800000 in
theorem rby_any {w : World} {db : Nat} {N : Int} {c : Nat → Nat → Int} (h : RefAt w db N c) (p : Pol) (hp : GoodP p) {i k : Nat} (hi : i < 64) (hk : k < 64) (d : Int) (hd : 0 ≤ d ∧ d ≤ 65535) (hc : c i k = 0 ∨ (128 ≤ c i k ∧ c i k ≤ 65534)) :
    Calls Try.prog 14 #[.pointer (some ⟨db, 0, none⟩), .agg p.cells, .int .i64 i, .int .i64 d, .int .i64 k] w fun e w' => e = .returned (.int .i64 (rbyS c p i d k)) ∧ Below w.heap.size w w' := by
  have r0 := row1 w p.cells 28
  have z := (h.below (below1 w (.cells p.cells 28))).at hi hk
  have hi' : (i : Int) < 64 := by omega
  have hk' : (k : Int) < 64 := by omega
  have B0 := Lib.hid (below1 w (.cells p.cells 28))
  have HR := Lib.hid fun cc w (h1 : 128 ≤ cc ∧ cc ≤ 65534) => rrank p.f p.s i d cc p.l hp.f hp.s hd ⟨by omega, by omega⟩ hp.l w
  by_cases hz : c i k = 0
  · have HE : Hid (rbyS c p i d k = 65535) := Lib.hid (if_pos hz)
    generalize c i k = cc at *
    subst hz
    clear h hp hd hc
    obtain ⟨c, l, ii, f, s, ma, mb, mc, md⟩ := p
    simp only [Pol.cells] at *
    go_enter Try.func14, Try.ntmps14
    go_wp2
    go_ret
    exact ⟨by rw [HE.out]; rfl, B0.out⟩
  · have HE : Hid (rbyS c p i d k = rankS p.f p.s d (c i k) p.l) := Lib.hid (if_neg hz)
    have hcc : 128 ≤ c i k ∧ c i k ≤ 65534 := by omega
    have zu : ∀ w', Since (w.alloc (.cells p.cells 28)) w' → w'.cell? ⟨db, 1 + i * 64 + k, none⟩ = some (.int .i64 (c i k)) := fun w' hs => ((h.below (below1 w (.cells p.cells 28))).below hs).at hi hk
    have l1 : ∀ w', Since (w.alloc (.cells p.cells 28)) w' → w'.cell? ⟨w.heap.size, 1, none⟩ = some (.int .i64 p.l) := fun w' hs => later hs r0 rfl
    have HR := Lib.hid fun w => HR.out (c i k) w hcc
    generalize c i k = cc at *
    have hz2 : ¬ cc = 0 := hz
    clear h hp hd hc hcc
    obtain ⟨c, l, ii, f, s, ma, mb, mc, md⟩ := p
    simp only [Pol.cells] at *
    go_enter Try.func14, Try.ntmps14
    go_wp2
    refine wp_region_calm (Since _) (by kernel_rfl) (by kernel_rfl) (Since.drew _) ?_
    (refine wpQuiet_step (fun K hK => ?_); rw [if_pos (by rfl)]; apply quiet_val; (intro wq hwq; go_simp; (try go_ints); exact rfl); refine hK _ ?_; clear hK K; simp only [Act.put, List.setIfInBounds_toArray, List.set_cons_zero, List.set_cons_succ])
    (refine wpQuiet_step (fun K hK => ?_); rw [if_pos (by rfl)]; apply quiet_subload (cs := #[.int .i64 f, .int .i64 s]) Try.underlying24 rfl isz24; exact rfl; exact rfl; exact (fun w' hs => laterRow hs r0); exact sub_fs c l ii f s ma mb mc md; exact (by simp [go_sem, *]); refine hK _ ?_; clear hK K; simp only [Act.put, List.setIfInBounds_toArray, List.set_cons_zero, List.set_cons_succ])
    (refine wpQuiet_step (fun K hK => ?_); rw [if_pos (by rfl)]; apply quiet_val; (intro wq hwq; go_simp; (try go_ints); exact rfl); refine hK _ ?_; clear hK K; simp only [Act.put, List.setIfInBounds_toArray, List.set_cons_zero, List.set_cons_succ])
    (refine wpQuiet_step (fun K hK => ?_); rw [if_pos (by rfl)]; apply quiet_val; (intro wq hwq; go_simp; (try go_ints); exact rfl); refine hK _ ?_; clear hK K; simp only [Act.put, List.setIfInBounds_toArray, List.set_cons_zero, List.set_cons_succ])
    (refine wpQuiet_step (fun K hK => ?_); rw [if_pos (by rfl)]; apply quiet_val; (intro wq hwq; go_simp; (try go_ints); exact rfl); refine hK _ ?_; clear hK K; simp only [Act.put, List.setIfInBounds_toArray, List.set_cons_zero, List.set_cons_succ])
    (refine wpQuiet_step (fun K hK => ?_); rw [if_pos (by rfl)]; apply quiet_val; (intro wq hwq; go_simp; (try go_ints); exact rfl); refine hK _ ?_; clear hK K; simp only [Act.put, List.setIfInBounds_toArray, List.set_cons_zero, List.set_cons_succ])
    (refine wpQuiet_step (fun K hK => ?_); rw [if_pos (by rfl)]; apply quiet_val; (intro wq hwq; go_simp; (try go_ints); exact rfl); refine hK _ ?_; clear hK K; simp only [Act.put, List.setIfInBounds_toArray, List.set_cons_zero, List.set_cons_succ])
    (refine wpQuiet_step (fun K hK => ?_); rw [if_pos (by rfl)]; apply quiet_val; (intro wq hwq; go_simp; (try go_ints); exact rfl); refine hK _ ?_; clear hK K; simp only [Act.put, List.setIfInBounds_toArray, List.set_cons_zero, List.set_cons_succ])
    (refine wpQuiet_step (fun K hK => ?_); rw [if_pos (by rfl)]; apply quiet_val; (intro wq hwq; go_simp; (try go_ints); exact rfl); refine hK _ ?_; clear hK K; simp only [Act.put, List.setIfInBounds_toArray, List.set_cons_zero, List.set_cons_succ])
    (refine wpQuiet_step (fun K hK => ?_); rw [if_pos (by rfl)]; apply quiet_val; (intro wq hwq; go_simp; (try go_ints); exact rfl); refine hK _ ?_; clear hK K; simp only [Act.put, List.setIfInBounds_toArray, List.set_cons_zero, List.set_cons_succ])
    (refine wpQuiet_step (fun K hK => ?_); rw [if_pos (by rfl)]; apply quiet_val; (intro wq hwq; go_simp; (try go_ints); exact rfl); refine hK _ ?_; clear hK K; simp only [Act.put, List.setIfInBounds_toArray, List.set_cons_zero, List.set_cons_succ])
    (refine wpQuiet_step (fun K hK => ?_); rw [if_pos (by rfl)]; apply quiet_val; (intro wq hwq; go_simp; (try go_ints); exact rfl); refine hK _ ?_; clear hK K; simp only [Act.put, List.setIfInBounds_toArray, List.set_cons_zero, List.set_cons_succ])
    (refine wpQuiet_step (fun K hK => ?_); rw [if_pos (by rfl)]; apply quiet_val; (intro wq hwq; go_simp; (try go_ints); exact rfl); refine hK _ ?_; clear hK K; simp only [Act.put, List.setIfInBounds_toArray, List.set_cons_zero, List.set_cons_succ])
    (refine wpQuiet_step (fun K hK => ?_); rw [if_pos (by rfl)]; apply quiet_val; (intro wq hwq; go_simp; (try go_ints); exact rfl); refine hK _ ?_; clear hK K; simp only [Act.put, List.setIfInBounds_toArray, List.set_cons_zero, List.set_cons_succ])
    (refine wpQuiet_step (fun K hK => ?_); rw [if_pos (by rfl)]; apply quiet_val; (intro wq hwq; go_simp; (try go_ints); exact rfl); refine hK _ ?_; clear hK K; simp only [Act.put, List.setIfInBounds_toArray, List.set_cons_zero, List.set_cons_succ])
    (refine wpQuiet_step (fun K hK => ?_); rw [if_pos (by rfl)]; apply quiet_call; (intro wq; go_simp; exact ⟨rfl, rfl⟩); (intro wq hwq; exact Since.call hwq (HR.out _)); refine hK _ ?_; clear hK K; simp only [Act.put, List.setIfInBounds_toArray, List.set_cons_zero, List.set_cons_succ])
    (refine wpQuiet_step (fun K hK => ?_); rw [if_pos (by rfl)]; apply quiet_val; (intro wq hwq; go_simp; (try go_ints); exact rfl); refine hK _ ?_; clear hK K; simp only [Act.put, List.setIfInBounds_toArray, List.set_cons_zero, List.set_cons_succ])
    refine wpQuiet_nil ?_; intro wn hwn
    go_wp2
    go_ret
    exact ⟨by rw [HE.out]; rfl, hwn.out B0.out⟩

end Go.Proofs.Ytobbjdindknkdaa
