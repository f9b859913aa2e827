/- Words on memory, second part: what a call may touch (Foot), and rows of structs that a slice owns. -/
import Derived.Test.YtobbjdindknkdaaK1
import Derived.Laws.OwnMore
import Derived.Laws.CopyRow
import Derived.Deep.AppendLies
import Derived.OwnWalk
import Derived.Lib.Strings
import Derived.Lib.Walk
namespace Go.Proofs.Ytobbjdindknkdaa
open Go Go.RowKit
set_option linter.unusedSimpArgs false
set_option linter.unusedVariables false

/-! ### what a call may touch -/
/-- of the blocks that were there only those of 'own' may have turned -/
structure Foot (own : Nat → Prop) (w w' : World) : Prop where
  os : w'.os = w.os
  tape : w'.tape = w.tape
  output : w'.output = w.output
  size : w.heap.size ≤ w'.heap.size
  block : ∀ k, k < w.heap.size → ¬ own k → w'.heap[k]? = w.heap[k]?
section
variable {own own' : Nat → Prop} {a b c w w' : World}
theorem Foot.refl (own : Nat → Prop) (w : World) : Foot own w w := ⟨rfl, rfl, rfl, Nat.le_refl _, fun _ _ _ => rfl⟩
theorem Foot.trans (h : Foot own a b) (k : Foot own b c) : Foot own a c :=
  ⟨k.os.trans h.os, k.tape.trans h.tape, k.output.trans h.output, Nat.le_trans h.size k.size, fun n hn ho => (k.block n (Nat.lt_of_lt_of_le hn h.size) ho).trans (h.block n hn ho)⟩
theorem Foot.mono (h : Foot own a b) (hk : ∀ k, k < a.heap.size → own k → own' k) : Foot own' a b :=
  ⟨h.os, h.tape, h.output, h.size, fun n hn ho => h.block n hn fun h2 => ho (hk n hn h2)⟩
/-- a call that touches what was new to this one is no touch of this one's -/
theorem Foot.then (h : Foot own a b) (k : Foot own' b c) (hk : ∀ n, n < a.heap.size → own' n → own n) : Foot own a c :=
  ⟨k.os.trans h.os, k.tape.trans h.tape, k.output.trans h.output, Nat.le_trans h.size k.size, fun n hn ho => (k.block n (Nat.lt_of_lt_of_le hn h.size) fun h2 => ho (hk n hn h2)).trans (h.block n hn ho)⟩
theorem Foot.of_below (h : Below a.heap.size a b) : Foot own a b := ⟨h.os, h.tape, h.output, h.size, fun n hn _ => h.block n hn⟩
theorem Foot.below {B : Nat} (h : Foot own a b) (hB : B ≤ a.heap.size) (ho : ∀ n, own n → B ≤ n) : Below B a b := ⟨h.os, h.tape, h.output, h.size, fun n hn => h.block n (by omega) fun h2 => by have := ho n h2; omega⟩
theorem Foot.drew (h : Foot own a w) : Foot own a w.drew := ⟨h.os, h.tape, h.output, h.size, h.block⟩
theorem Foot.alloc (h : Foot own a w) (o : Obj) : Foot own a (w.alloc o) := h.trans (Foot.of_below ((Below.refl _ _).alloc (Nat.le_refl _) o))
theorem Foot.setCell (h : Foot own a w) {p : Addr} (hp : own p.block ∨ a.heap.size ≤ p.block) (u : Value) : Foot own a (w.setCell p u) :=
  ⟨h.os, h.tape, h.output, by have := h.size; simpa using this, fun n hn ho => by
    rw [Below.heap_setCell w p u n (fun e => by rcases hp with h1 | h1; (exact ho (e ▸ h1)); omega)]
    exact h.block n hn ho⟩
theorem Foot.setRow (h : Foot own a w) {g : Nat} (hp : own g ∨ a.heap.size ≤ g) (cs : Array Value) : Foot own a (w.setRow g cs) :=
  ⟨h.os, h.tape, h.output, by have := h.size; simpa [World.setRow] using this, fun n hn ho => by
    rw [setRow_other w g n cs (fun e => by rcases hp with h1 | h1; (exact ho (e ▸ h1)); omega)]
    exact h.block n hn ho⟩
theorem Foot.grown (h : Foot own a w) {row : Option Nat} (hg : w.grownBy w' row) (hr : ∀ k, row = some k → own k ∨ a.heap.size ≤ k) : Foot own a w' :=
  ⟨hg.os.trans h.os, hg.tape.trans h.tape, hg.output.trans h.output, Nat.le_trans h.size hg.size, fun n hn ho =>
    (hg.block n (Nat.lt_of_lt_of_le hn h.size) (fun e => by rcases hr n e.symm with h1 | h1; (exact ho h1); omega)).trans (h.block n hn ho)⟩
theorem Foot.cell (h : Foot own a b) {p : Addr} (hp : p.block < a.heap.size) (ho : ¬ own p.block) : b.cell? p = a.cell? p := World.cell?_of_block (h.block p.block hp ho)
theorem Foot.row (h : Foot own a b) {n : Nat} {C : Array Value} (hr : rowAt a n = some C) (ho : ¬ own n) : rowAt b n = some C := by
  have hn := row_lt hr
  unfold rowAt at *
  rw [h.block n hn ho]; exact hr
end

theorem plain_add (b o n : Nat) : (⟨b, o, none⟩ : Addr).add n = ⟨b, o + n, none⟩ := by
  unfold Addr.add
  split
  · rename_i h; subst h; rfl
  · rfl

/-! ### a slice's own row, kept and stored into -/
section
variable {P : Program} {w w' : World} {base n size : Nat} {e : TypeId} {v : Value} {xs : List Value}
theorem own_of_block (h : w.ownsRow base e size v n xs) (hb : ∀ g, v.ownBlock = some g → w'.heap[g]? = w.heap[g]?) : w'.ownsRow base e size v n xs := by
  refine ⟨h.1, ?_⟩
  rcases h.2 with hn | ⟨g, cap, cur, rfl, hbg, hg, rest⟩
  · exact .inl hn
  · exact .inr ⟨g, cap, cur, rfl, hbg, (hb g rfl).trans hg, rest⟩
theorem own_lt (h : w.ownsRow base e size v n xs) {g : Nat} (hv : v.ownBlock = some g) : base ≤ g ∧ g < w.heap.size := h.lt g hv
theorem own_foot {own : Nat → Prop} (h : w.ownsRow base e size v n xs) (hf : Foot own w w') (ho : ∀ g, v.ownBlock = some g → ¬ own g) : w'.ownsRow base e size v n xs :=
  own_of_block h fun g hv => hf.block g (own_lt h hv).2 (ho g hv)
theorem own_below' {B : Nat} (h : w.ownsRow base e size v n xs) (hb : Below w.heap.size w w') : w'.ownsRow base e size v n xs := own_of_block h fun g hv => hb.block g (own_lt h hv).2
theorem own_less {base' : Nat} (h : w.ownsRow base e size v n xs) (hb : base' ≤ base) : w.ownsRow base' e size v n xs := by
  refine ⟨h.1, ?_⟩
  rcases h.2 with hn | ⟨g, cap, cur, rfl, hbg, rest⟩
  · exact .inl hn
  · exact .inr ⟨g, cap, cur, rfl, Nat.le_trans hb hbg, rest⟩

/-- one element of a row of structs stored anew -/
def putAt (size i : Nat) (vs xs : List Value) : List Value := xs.take (i * size) ++ vs ++ xs.drop (i * size + size)
theorem putAt_length {i n : Nat} {vs xs : List Value} (hx : xs.length = n * size) (hv : vs.length = size) (hi : i < n) : (putAt size i vs xs).length = n * size := by
  unfold putAt
  have h1 : (i + 1) * size ≤ n * size := Nat.mul_le_mul_right _ hi
  have h2 : (i + 1) * size = i * size + size := Nat.succ_mul _ _
  simp only [List.length_append, List.length_take, List.length_drop]
  omega
theorem run_storeVar_own {ty : Nat} {g cap i : Nat} (hi : (P.info? ty).map (·.size) = some size) (hown : w.ownsRow base e size (.slice (some ⟨g, 0, none⟩) n cap) n xs) (hin : i < n) (vs : Array Value) (hvs : vs.size = size) (h1 : allOne vs = true) :
    ∃ w', (storeVar ty ⟨g, i * size, none⟩ (.agg vs)).run P w = .ok () w' ∧ w'.ownsRow base e size (.slice (some ⟨g, 0, none⟩) n cap) n (putAt size i vs.toList xs) ∧ (∀ own : Nat → Prop, own g → Foot own w w') ∧ w'.heap.size = w.heap.size := by
  rcases hown.2 with ⟨h, _⟩ | ⟨g', cap', cur, hv, hbg, hg, hnc, hcm, hcs, htake⟩
  · cases h
  · injection hv with hv1 hv2 hv3
    injection hv1 with hv1
    injection hv1 with hv1
    subst hv1; subst hv3
    have h2 : (i + 1) * size = i * size + size := Nat.succ_mul _ _
    have h3 : (i + 1) * size ≤ n * size := Nat.mul_le_mul_right _ hin
    have h4 : n * size ≤ cap * size := Nat.mul_le_mul_right _ hnc
    have hst := run_storeCells_at P g (i * size) e vs.toList 0 cur w hg (by simp; omega) (fun v hv => List.all_eq_true.1 h1 v hv)
    simp only [Nat.add_zero, Array.length_toList, hvs] at hst
    have hs : ∃ t, P.info? ty = some t ∧ t.size = size := by
      cases hq : P.info? ty with
      | none => rw [hq] at hi; cases hi
      | some t => rw [hq] at hi; exact ⟨t, rfl, by simpa using hi⟩
    obtain ⟨t, ht, hts⟩ := hs
    obtain ⟨C, hC⟩ : ∃ C, C = (cur.toList.take (i * size) ++ vs.toList ++ cur.toList.drop (i * size + size)).toArray := ⟨_, rfl⟩
    rw [← hC] at hst
    refine ⟨w.setRow g C, ?_, ⟨putAt_length hown.1 (by simpa using hvs) hin, .inr ⟨g, cap, C, rfl, hbg, setRow_heap w g cur C e (0, 0) hg, hnc, hcm, ?_, ?_⟩⟩, fun own ho => (Foot.refl own w).setRow (Or.inl ho) C, by simp [World.setRow]⟩
    · unfold storeVar
      simp only [Value.cells, Sem.run_bind, sizeOf, typeInfo, run_program, ht, Result.andThen_ok, Sem.run_pure, hts, hvs, ne_eq, not_true_eq_false, ↓reduceIte]
      exact hst
    · rw [hC]; simp only [List.size_toArray, List.length_append, List.length_take, List.length_drop, Array.length_toList]
      omega
    · rw [← htake, hC]
      unfold putAt
      have e1 : (cur.toList.take (n * size)).take (i * size) = cur.toList.take (i * size) := by rw [List.take_take]; congr 1; omega
      have e2 : (cur.toList.take (n * size)).drop (i * size + size) = (cur.toList.drop (i * size + size)).take (n * size - (i * size + size)) := List.drop_take
      rw [e1, e2]
      have hl : (cur.toList.take (i * size) ++ vs.toList).length = i * size + size := by simp; omega
      show List.take (n * size) (cur.toList.take (i * size) ++ vs.toList ++ cur.toList.drop (i * size + size)) = _
      rw [List.take_append, hl, List.take_of_length_le (by omega)]
theorem run_loadVar_own {ty : Nat} {d : TypeDesc} {g cap i : Nat} (hu : P.underlying ty = some d) (hd : (match d with | .struct _ | .array _ _ => true | _ => false) = true) (hi : (P.info? ty).map (·.size) = some size)
    (hown : w.ownsRow base e size (.slice (some ⟨g, 0, none⟩) n cap) n xs) (hin : i < n) (vs : Array Value) (hvs : vs.size = size) (hx : ∀ j u, vs[j]? = some u → xs[i * size + j]? = some u) : (loadVar ty ⟨g, i * size, none⟩).run P w = .ok (.agg vs) w := by
  have hc := hown.cells (g := g) rfl
  have hl : (loadCells ⟨g, i * size, none⟩ vs.toList.length).run P w = .ok vs.toList.toArray w :=
    run_loadCells_list (P := P) w ⟨g, i * size, none⟩ vs.toList (fun j v hv => by
      have := hc _ _ (hx j v (by simpa using hv))
      rw [plain_add] at this ⊢
      rwa [Nat.zero_add] at this)
  have hs : ∃ t, P.info? ty = some t ∧ t.size = size := by
    cases hq : P.info? ty with
    | none => rw [hq] at hi; cases hi
    | some t => rw [hq] at hi; exact ⟨t, rfl, by simpa using hi⟩
  obtain ⟨t, ht, hts⟩ := hs
  have hagg : (isAgg ty).run P w = .ok true w := by
    unfold isAgg
    rw [Sem.run_bind, run_underlying hu w]
    cases d <;> simp_all
  simp only [Array.length_toList, Array.toArray_toList, hvs] at hl
  simp [loadVar, Sem.run_bind, hagg, sizeOf, typeInfo, ht, hts, hl]
end

/-! ### the same, as operations of a region -/
section
variable {P : Program} {ops : Array Oper} {rest : List Oper} {o : Oper} {a : Act} {w : World} {Q : Exit → Act → World → Prop} {base n size : Nat} {e : TypeId} {xs : List Value} {C : World → Prop} {K : Act → Prop}
theorem quiet_ownload {ty : Nat} {d : TypeDesc} {g cap i : Nat} (hu : P.underlying ty = some d) (hd : (match d with | .struct _ | .array _ _ => true | _ => false) = true) (hi : (P.info? ty).map (·.size) = some size)
    {x : Operand} {vs : Array Value} (ho : o.op = .load ty x) (hx : a.eval x = .pointer (some ⟨g, i * size, none⟩)) (hr : ∀ w, C w → w.ownsRow base e size (.slice (some ⟨g, 0, none⟩) n cap) n xs) (hin : i < n) (hvs : vs.size = size)
    (hs : ∀ j u, vs[j]? = some u → xs[i * size + j]? = some u) (h2 : K (a.put o.dst (.agg vs))) : o.quiet P a C K :=
  quiet_val (fun w hw => by
    unfold execOp
    simp only [ho, hx, Instr.loadAt, Instr.sureAddr, Sem.run_bind, Sem.run_pure, Result.andThen_ok, run_loadVar_own hu hd hi (hr w hw) hin vs hvs hs]) h2
theorem wpList_ownload {ty : Nat} {d : TypeDesc} {g cap i : Nat} (hu : P.underlying ty = some d) (hd : (match d with | .struct _ | .array _ _ => true | _ => false) = true) (hi : (P.info? ty).map (·.size) = some size)
    {x : Operand} {vs : Array Value} (hw : Region.wanted o (yielded ops a.tmps) = true) (ho : o.op = .load ty x) (hx : a.eval x = .pointer (some ⟨g, i * size, none⟩)) (hr : w.ownsRow base e size (.slice (some ⟨g, 0, none⟩) n cap) n xs) (hin : i < n) (hvs : vs.size = size)
    (hs : ∀ j u, vs[j]? = some u → xs[i * size + j]? = some u) (h : wpList P ops Q rest (a.put o.dst (.agg vs)) w) : wpList P ops Q (o :: rest) a w := by
  refine wpList_wanted hw fun _ hK => ?_
  unfold Oper.wp execOp
  simp only [ho, hx, Instr.loadAt, Instr.sureAddr, Sem.run_bind, Sem.run_pure, Result.andThen_ok, run_loadVar_own hu hd hi hr hin vs hvs hs]
  exact hK _ _ h
theorem wpList_ownstore {ty : Nat} {g cap i : Nat} (hi : (P.info? ty).map (·.size) = some size)
    {x y : Operand} {vs : Array Value} (hw : Region.wanted o (yielded ops a.tmps) = true) (ho : o.op = .store ty x y) (hx : a.eval x = .pointer (some ⟨g, i * size, none⟩)) (hy : a.eval y = .agg vs) (hr : w.ownsRow base e size (.slice (some ⟨g, 0, none⟩) n cap) n xs) (hin : i < n) (hvs : vs.size = size) (h1 : allOne vs = true)
    (h : ∀ w', w'.ownsRow base e size (.slice (some ⟨g, 0, none⟩) n cap) n (putAt size i vs.toList xs) → (∀ own : Nat → Prop, own g → Foot own w w') → w'.heap.size = w.heap.size → wpList P ops Q rest (a.put o.dst undef) w') : wpList P ops Q (o :: rest) a w := by
  refine wpList_wanted hw fun _ hK => ?_
  obtain ⟨w', h2, h3, h4, h5⟩ := run_storeVar_own (P := P) hi hr hin vs hvs h1
  unfold Oper.wp execOp
  simp only [ho, hx, hy, Instr.storeAt, Instr.sureAddr, Sem.run_bind, Sem.run_pure, Result.andThen_ok, h2]
  exact hK _ _ (h w' h3 h4 h5)
end

end Go.Proofs.Ytobbjdindknkdaa
