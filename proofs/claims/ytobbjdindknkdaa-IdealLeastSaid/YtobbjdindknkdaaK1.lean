/- Words on memory that every seat of this repo uses: rows known whole, regions that draw their order, what lies below. -/
import Derived.Test.YtobbjdindknkdaaRows
import Derived.Deep.Quiet
import Derived.StillTail
import Derived.Below
import Derived.WalkKit
import Derived.WalkSpells
import Derived.WalkLawsBesides
import Derived.Deep.LoopGhost
import Derived.Lib.Hide
namespace Go.Proofs.Ytobbjdindknkdaa
open Go Go.RowKit
set_option linter.unusedSimpArgs false
set_option linter.unusedVariables false


/-! ### rows known whole -/
def rowAt (w : World) (n : Nat) : Option (Array Value) :=
  match w.heap[n]? with
  | some (.cells c _ fr) => if fr = (0, 0) then some c else none
  | _ => none

def allOne (cs : Array Value) : Bool := cs.toList.all (·.oneCell')

theorem rowAt_some {w : World} {n : Nat} {c : Array Value} (h : rowAt w n = some c) : ∃ t, w.heap[n]? = some (.cells c t (0, 0)) := by
  unfold rowAt at h
  split at h
  · rename_i c' t fr hg
    split at h
    · rename_i hf
      injection h with h
      subst h; subst hf
      exact ⟨t, hg⟩
    · cases h
  · cases h

section
variable {w : World}
theorem rowAt_alloc_at (c : Array Value) (t : TypeId) (n : Nat) (hn : n = w.heap.size) : rowAt (w.alloc (.cells c t)) n = some c := by
  subst hn
  unfold rowAt
  rw [heap_alloc_new]
  simp
theorem rowAt_alloc_past (o : Obj) (n : Nat) (hn : n < w.heap.size) : rowAt (w.alloc o) n = rowAt w n := by
  unfold rowAt
  rw [Below.heap_alloc w o n hn]
theorem rowAt_drew (n : Nat) : rowAt w.drew n = rowAt w n := rfl
theorem rowAt_drewN (n k : Nat) : rowAt (w.drewN k) n = rowAt w n := rfl
theorem setRow_alloc_at (c : Array Value) (t : TypeId) (n : Nat) (cs : Array Value) (hn : n = w.heap.size) : (w.alloc (.cells c t)).setRow n cs = w.alloc (.cells cs t) := by
  subst hn
  unfold World.setRow World.alloc
  congr 1
  apply Array.ext_getElem?
  intro k
  simp only [Array.getElem?_modify, Array.getElem?_push]
  by_cases hk : k = w.heap.size <;> simp [hk, eq_comm]
theorem setRow_alloc_past (o : Obj) (n : Nat) (cs : Array Value) (hn : n < w.heap.size) : (w.alloc o).setRow n cs = (w.setRow n cs).alloc o := by
  unfold World.setRow World.alloc
  congr 1
  apply Array.ext_getElem?
  intro k
  simp only [Array.getElem?_modify, Array.getElem?_push, Array.size_modify]
  by_cases hk : k = w.heap.size
  · subst hk; simp [Nat.ne_of_lt hn]
  · simp [hk]
theorem setRow_drew (n : Nat) (cs : Array Value) : w.drew.setRow n cs = (w.setRow n cs).drew := rfl
end

theorem run_loadVar_rowAt {P : Program} (ty : Nat) (d : TypeDesc) (k : Nat) (hu : P.underlying ty = some d) (hd : (match d with | .struct _ | .array _ _ => true | _ => false) = true) (hi : (P.info? ty).map (·.size) = some k) (w : World) (n : Nat)
    (cs : Array Value) (h : rowAt w n = some cs) (hs : cs.size = k) : (loadVar ty ⟨n, 0, none⟩).run P w = .ok (.agg cs) w := by
  obtain ⟨t, hg⟩ := rowAt_some h
  exact run_loadVar_row w n t ty cs (0, 0) d hg hu hd (by rw [hi, hs])

/-- a part of a row, read as an array -/
theorem run_loadVar_sub {P : Program} (ty : Nat) (d : TypeDesc) (k : Nat) (hu : P.underlying ty = some d) (hd : (match d with | .struct _ | .array _ _ => true | _ => false) = true) (hi : (P.info? ty).map (·.size) = some k) (w : World) (n off : Nat)
    (C cs : Array Value) (h : rowAt w n = some C) (hsub : ∀ j v, cs[j]? = some v → C[off + j]? = some v) (hs : cs.size = k) : (loadVar ty ⟨n, off, none⟩).run P w = .ok (.agg cs) w := by
  obtain ⟨t, hg⟩ := rowAt_some h
  have hl : (loadCells ⟨n, off, none⟩ cs.toList.length).run P w = .ok cs.toList.toArray w :=
    run_loadCells_list (P := P) w ⟨n, off, none⟩ cs.toList (fun j v hv => by
      have hadd : (⟨n, off, none⟩ : Addr).add j = ⟨n, off + j, none⟩ := by unfold Addr.add; split <;> simp_all
      rw [hadd, cell_of_row w n (off + j) C t (0, 0) hg]
      exact hsub j v (by simpa using hv))
  cases hq : P.info? ty with
  | none => simp [hq] at hi
  | some i =>
    have hs' : i.size = cs.size := by rw [hs]; simpa [hq] using hi
    have hagg : (isAgg ty).run P w = .ok true w := by
      unfold isAgg
      rw [Sem.run_bind, run_underlying hu w]
      cases d <;> simp_all
    simp only [Array.length_toList, Array.toArray_toList] at hl
    simp [loadVar, Sem.run_bind, hagg, sizeOf, typeInfo, hq, hs', hl]

theorem run_storeVar_rowAt {P : Program} (ty : Nat) (k : Nat) (hi : (P.info? ty).map (·.size) = some k) (w : World) (n : Nat) (vs cs : Array Value) (h : rowAt w n = some cs)
    (h1 : cs.size = k) (h2 : vs.size = k) (h3 : allOne vs = true) : (storeVar ty ⟨n, 0, none⟩ (.agg vs)).run P w = .ok () (w.setRow n vs) := by
  obtain ⟨t, hg⟩ := rowAt_some h
  have hst := run_storeCells_at P n 0 t vs.toList 0 cs w hg (by simp; omega) (fun v hv => by have := List.all_eq_true.1 h3 v hv; exact this)
  cases hq : P.info? ty with
  | none => simp [hq] at hi
  | some i =>
    have hs : i.size = k := by simpa [hq] using hi
    unfold storeVar
    simp only [Value.cells, Sem.run_bind, sizeOf, typeInfo, run_program, hq, Result.andThen_ok, Sem.run_pure, hs, h2, ne_eq, not_true_eq_false, ↓reduceIte]
    have hd : List.drop k cs.toList = [] := List.drop_eq_nil_of_le (by simp; omega)
    simp [hst, h2, hd]

section
variable {P : Program} {ops : Array Oper} {rest : List Oper} {o : Oper} {a : Act} {w : World} {Q : Exit → Act → World → Prop}
theorem wpList_wanted (hw : Region.wanted o (yielded ops a.tmps) = true) (h : ∀ K : Act → World → Prop, (∀ a w, wpList P ops Q rest a w → K a w) → o.wp P a w K Q) : wpList P ops Q (o :: rest) a w :=
  wpList_step fun K hK => by rw [if_pos hw]; exact h K hK
theorem wpList_rowload {ty : Nat} {d : TypeDesc} {k : Nat} (hu : P.underlying ty = some d) (hd : (match d with | .struct _ | .array _ _ => true | _ => false) = true) (hi : (P.info? ty).map (·.size) = some k)
    {x : Operand} {n : Nat} {cs : Array Value} (hw : Region.wanted o (yielded ops a.tmps) = true) (ho : o.op = .load ty x) (hx : a.eval x = .pointer (some ⟨n, 0, none⟩)) (hr : rowAt w n = some cs) (hs : cs.size = k)
    (h : wpList P ops Q rest (a.put o.dst (.agg cs)) w) : wpList P ops Q (o :: rest) a w := by
  refine wpList_wanted hw fun _ hK => ?_
  unfold Oper.wp execOp
  simp only [ho, hx, Instr.loadAt, Instr.sureAddr, Sem.run_bind, Sem.run_pure, Result.andThen_ok, run_loadVar_rowAt ty d k hu hd hi w n cs hr hs]
  exact hK _ _ h
theorem wpList_subload {ty : Nat} {d : TypeDesc} {k : Nat} (hu : P.underlying ty = some d) (hd : (match d with | .struct _ | .array _ _ => true | _ => false) = true) (hi : (P.info? ty).map (·.size) = some k)
    {x : Operand} {n off : Nat} {C cs : Array Value} (hw : Region.wanted o (yielded ops a.tmps) = true) (ho : o.op = .load ty x) (hx : a.eval x = .pointer (some ⟨n, off, none⟩)) (hr : rowAt w n = some C) (hsub : ∀ j v, cs[j]? = some v → C[off + j]? = some v) (hs : cs.size = k)
    (h : wpList P ops Q rest (a.put o.dst (.agg cs)) w) : wpList P ops Q (o :: rest) a w := by
  refine wpList_wanted hw fun _ hK => ?_
  unfold Oper.wp execOp
  simp only [ho, hx, Instr.loadAt, Instr.sureAddr, Sem.run_bind, Sem.run_pure, Result.andThen_ok, run_loadVar_sub ty d k hu hd hi w n off C cs hr hsub hs]
  exact hK _ _ h
theorem wpList_rowstore {ty : Nat} {k : Nat} (hi : (P.info? ty).map (·.size) = some k)
    {x y : Operand} {n : Nat} {cs vs : Array Value} (hw : Region.wanted o (yielded ops a.tmps) = true) (ho : o.op = .store ty x y) (hx : a.eval x = .pointer (some ⟨n, 0, none⟩)) (hy : a.eval y = .agg vs) (hr : rowAt w n = some cs) (h1 : cs.size = k) (h2 : vs.size = k) (h3 : allOne vs = true)
    (h : wpList P ops Q rest (a.put o.dst undef) (w.setRow n vs)) : wpList P ops Q (o :: rest) a w := by
  refine wpList_wanted hw fun _ hK => ?_
  unfold Oper.wp execOp
  simp only [ho, hx, hy, Instr.storeAt, Instr.sureAddr, Sem.run_bind, Sem.run_pure, Result.andThen_ok, run_storeVar_rowAt ty k hi w n vs cs hr h1 h2 h3]
  exact hK _ _ h
end

/-- element k of a list of numbers, not looked into by simp -/
def nth (l : List Int) (k : Nat) : Int := l.getD k 0
/-! ### lists by a function of the place -/
def tab (n : Nat) (f : Nat → Int) : List Int := (List.range n).map f
theorem tab_length (n : Nat) (f : Nat → Int) : (tab n f).length = n := by simp [tab]
theorem nth_tab {n : Nat} (f : Nat → Int) {k : Nat} (h : k < n) : nth (tab n f) k = f k := by simp [nth, tab, h]
theorem tab_congr {n : Nat} {f g : Nat → Int} (h : ∀ j, j < n → f j = g j) : tab n f = tab n g := List.map_congr_left fun j hj => h j (List.mem_range.1 hj)
theorem tab_set {n : Nat} {f g : Nat → Int} {k : Nat} {v : Int} (hk : g k = v) (h : ∀ j, j < n → j ≠ k → g j = f j) : (tab n f).set k v = tab n g := by
  apply List.ext_getElem (by simp [tab])
  intro i h1 h2
  have hi : i < n := by simpa [tab] using h2
  by_cases hik : i = k
  · subst hik; simp [tab, hk]
  · rw [List.getElem_set_ne (by omega)]
    simp [tab, h i hi hik]
theorem tab_nth {l : List Int} {n : Nat} (h : l.length = n) : tab n (nth l) = l := by
  apply List.ext_getElem (by simp [tab, h])
  intro i h1 h2
  simp [tab, nth, h2]
theorem nth_ext {a b : List Int} {n : Nat} (ha : a.length = n) (hb : b.length = n) (h : ∀ j, j < n → nth a j = nth b j) : a = b := by
  rw [← tab_nth ha, ← tab_nth hb]; exact tab_congr h
theorem nth_set_same {l : List Int} {k : Nat} (h : k < l.length) (v : Int) : nth (l.set k v) k = v := by simp [nth, h]
theorem nth_set_other {l : List Int} {k j : Nat} (h : j ≠ k) (v : Int) : nth (l.set k v) j = nth l j := by
  simp [nth, List.getElem?_set, Ne.symm h]
theorem nth_none {l : List Int} {k : Nat} (h : l.length ≤ k) : nth l k = 0 := by simp [nth, List.getElem?_eq_none h]


section
variable {P : Program} {ops : Array Oper} {md : Region.Mode} {C : World → Prop}

/-- Whatever order of the first n operations is picked, each is quiet; behind them L holds of the frame. -/
def headQ (P : Program) (md : Region.Mode) (ops : Array Oper) (C : World → Prop) (n : Nat) (L : Array Bool → Act → Prop) : Nat → Array Bool → Act → Prop
  | 0, listed, a => L listed a
  | f + 1, listed, a =>
    Region.ready md ops listed ≠ [] ∧ ∀ i ∈ Region.ready md ops listed, i < n ∧ qOp P ops C i (headQ P md ops C n L f (listed.setIfInBounds i true)) a

theorem any_of_headQ {n g : Nat} {L : Array Bool → Act → Prop} {Q' : Exit → Act → World → Prop} (hL : ∀ listed a w, C w → L listed a → wpAny P md ops Q' g listed a w) :
    ∀ (f : Nat) (listed : Array Bool) (a : Act) (w : World), C w → headQ P md ops C n L f listed a → wpAny P md ops Q' (f + g) listed a w
  | 0, listed, a, w, hw, h => by rw [Nat.zero_add]; exact hL _ _ _ hw h
  | f + 1, listed, a, w, hw, h => by
    rw [show f + 1 + g = (f + g) + 1 by omega]
    exact ⟨fun h0 => absurd h0 h.1, fun i hi => wpOp_of_qOp hw (fun a' w' hw' h' => any_of_headQ hL f _ a' w' hw' h') (h.2 i hi).2⟩

theorem headQ_first {n i : Nat} {oi : Oper} {v : Value} {L : Array Bool → Act → Prop} (hi : ops[i]? = some oi) (hsel : ∀ (j : Nat) (o : Oper) cs b, ops[j]? = some o → o.op ≠ .select cs b)
    (hs : Region.sinkB md ops n = true) (hc : Region.chainB md ops n = true) (hn : n < ops.size) (hin : i < n)
    (hdone : ∀ listed a, L listed a → ∀ j ∈ Region.ready md ops listed, n ≤ j) :
    ∀ (f : Nat) (listed : Array Bool) (a : Act), HeadInv md ops n listed →
      (∀ j oj, ops[j]? = some oj → j ≠ i → listed.getD j true = false → (∀ e ∈ oj.after, Region.binds md e = true → e.on ≠ i) → oi.apart ops oj = true) →
      i ∈ Region.ready md ops listed → YieldsIn P ops C oi v a →
      headQ P md ops C n L f (listed.setIfInBounds i true) (a.put oi.dst v) → headQ P md ops C n L (f + 1) listed a := by
  intro f
  induction f with
  | zero =>
    intro listed a inv _ hr hy H
    have hun := (mem_ready.1 hr).1
    refine ⟨fun h => (by rw [h] at hr; cases hr), fun j hj => ?_⟩
    have hjn : j < n := by
      rcases Nat.lt_or_ge j n with h | h
      · exact h
      · exact absurd hj (tail_waits hs hc hn inv _ i rfl hin hun j h)
    refine ⟨hjn, ?_⟩
    by_cases hji : j = i
    · subst hji; exact hy.qOp hi H
    · have := hdone _ _ H j (ready_mono hj hji)
      omega
  | succ f ih =>
    intro listed a inv hfree hr hy H
    have hun := (mem_ready.1 hr).1
    refine ⟨fun h => (by rw [h] at hr; cases hr), fun j hj => ?_⟩
    have hjn : j < n := by
      rcases Nat.lt_or_ge j n with h | h
      · exact h
      · exact absurd hj (tail_waits hs hc hn inv _ i rfl hin hun j h)
    refine ⟨hjn, ?_⟩
    by_cases hji : j = i
    · subst hji; exact hy.qOp hi H
    · have h1 := (H.2 j (ready_mono hj hji)).2
      obtain ⟨hjun, oj, hoj, hall⟩ := mem_ready.1 hj
      have hnot : ∀ e ∈ oj.after, Region.binds md e = true → e.on ≠ i := fun e he hb heq => by
        have h1 := hall e he hb
        rw [heq, getD_both hun] at h1
        cases h1
      have h2 := qOp_put hoj (hfree j oj hoj hji hjun hnot) (fun cs b => hsel i oi cs b hi) (fun cs b => hsel j oj cs b hoj) hy h1
      have hfree' : ∀ k ok, ops[k]? = some ok → k ≠ i → (listed.setIfInBounds j true).getD k true = false →
          (∀ e ∈ ok.after, Region.binds md e = true → e.on ≠ i) → oi.apart ops ok = true := fun k ok hk hki hun hno => by
        refine hfree k ok hk hki ?_ hno
        by_cases hjk : j = k
        · subst hjk; exact hjun
        · rw [getD_set_ne true hjk] at hun; exact hun
      refine qOp_mono (fun a' h3 => ih (listed.setIfInBounds j true) a' (inv.set hj hjn) hfree' (ready_mono hr (Ne.symm hji)) h3.1 ?_) h2
      rw [Array.setIfInBounds_comm _ _ hji]
      exact h3.2

theorem headQ_lex {n g : Nat} {Lq : Act → Prop} (hsel : Region.noSelect ops = true) (hs : Region.sinkB md ops n = true) (hc : Region.chainB md ops n = true) (hn : n < ops.size) :
    ∀ (l : List Oper) (k : Nat) (listed : Array Bool) (a : Act), (∀ j, j < l.length → l[j]? = ops[k + j]?) → k + l.length = n → HeadInv md ops n listed →
    Region.lexHead md ops g l.length k listed = true → wpQuiet P ops C Lq l a →
    headQ P md ops C n (fun listed' a' => Region.seqB md ops g n listed' = true ∧ Lq a') l.length listed a
  | [], k, listed, a, _, hk, _, hB, h => by
    have : k = n := by simpa using hk
    subst this
    exact ⟨by simpa [Region.lexHead] using hB, h⟩
  | o :: l, k, listed, a, hl, hk, inv, hB, h => by
    have h0 : ops[k]? = some o := by simpa using (hl 0 (by simp)).symm
    simp only [List.length_cons, Region.lexHead, Bool.and_eq_true] at hB
    obtain ⟨⟨hr, hf⟩, hB'⟩ := hB
    have hkn : k < n := by simp only [List.length_cons] at hk; omega
    have hr' : k ∈ Region.ready md ops listed := by simpa using hr
    have hst : qOp P ops C k (wpQuiet P ops C Lq l) a := by unfold qOp; simp only [h0]; exact h
    obtain ⟨v, hy, hK⟩ := yieldsIn_of_qOp h0 hst
    exact headQ_first h0 (Region.noSelect_spec hsel) hs hc hn hkn (fun listed' a' hL => seqB_ready hL.1) l.length listed a inv (Region.free_spec h0 hf) hr' hy
      (headQ_lex hsel hs hc hn l (k + 1) _ _ (fun j hj => by have := hl (j + 1) (by simp; omega); simpa [Nat.add_assoc, Nat.add_comm 1 j] using this) (by simp only [List.length_cons] at hk; omega) (inv.set hr' hkn) hB' hK)

/-- A region that draws: the first n operations quiet in the class C, the others in the one order that is left. -/
theorem wp_region_flow {id : Nat} {Q : Exit → Act → World → Prop} {a : Act} {w : World} {l : List Oper} (C : World → Prop) (n : Nat) (hm : P.follows .mixedOrders = true) (hB : Region.lexTailB .any l.toArray n = true) (hC : C w.drew)
    (h : wpQuiet P l.toArray C (fun a' => ∀ w', C w' → wpList P l.toArray Q (l.drop n) a' w') (l.take n) a) : (Code.region id l.toArray true).wp P Q a w := by
  simp only [Region.lexTailB, Bool.and_eq_true, decide_eq_true_eq] at hB
  obtain ⟨⟨⟨⟨hsel, hn⟩, hs⟩, hc⟩, hlex⟩ := hB
  have hn' : n < l.length := by simpa using hn
  have htl : (l.take n).length = n := by simp; omega
  have hdl : (l.drop n).length = l.toArray.size - n := by simp
  have inv0 : HeadInv .any l.toArray n (Array.replicate l.toArray.size false) :=
    ⟨by simp, fun j oj _ hl => (by rw [getD_replicate_false] at hl; cases hl), fun t _ ht => getD_in (by simpa using ht) (getD_replicate_false _ _)⟩
  have H := headQ_lex (md := .any) (g := l.toArray.size - n) hsel hs hc hn (l.take n) 0 _ a (fun j hj => by
    have hj' : j < n := by rw [htl] at hj; exact hj
    simp [hj']) (by simpa using htl) inv0 (by rw [htl]; exact hlex) h
  refine wp_region_any hm ?_
  have := any_of_headQ (Q' := Q) (g := l.toArray.size - n) (fun listed a' w' hw' hL => by
    have := wpAny_of_seq (md := .any) (Q' := Q) (l.drop n) n listed a' w' (fun j => by simp [List.getElem?_drop]) (by rw [hdl]; exact hL.1) (hL.2 w' hw')
    rwa [hdl] at this) _ _ _ _ hC H
  rw [htl, show n + (l.toArray.size - n) = l.toArray.size by omega] at this
  exact this

/-- .. without a tail. -/
theorem wp_region_calm {id : Nat} {Q : Exit → Act → World → Prop} {a : Act} {w : World} {l : List Oper} (C : World → Prop) (hm : P.follows .mixedOrders = true) (hB : Region.lexB .any l.toArray = true) (hC : C w.drew)
    (h : wpQuiet P l.toArray C (fun a' => ∀ w', C w' → Q .normal a' w') l a) : (Code.region id l.toArray true).wp P Q a w :=
  wp_region_quiet (C := C) hm hB hC (by simpa using h)

/-! ### one operation -/
variable {K : Act → Prop} {o : Oper} {a : Act}
theorem quiet_val {v : Value} (h : ∀ w, C w → (execOp a.eval o).run P w = .ok (.value v) w) (h2 : K (a.put o.dst v)) : o.quiet P a C K :=
  ⟨v, fun w hw => by unfold Oper.quietAt; rw [h w hw]; exact ⟨rfl, rfl⟩, h2⟩
theorem quiet_call {v : Value} {f : FuncId} {args : Array Value} (he : ∀ w, (execOp a.eval o).run P w = .ok (.enter f args) w) (h : ∀ w, C w → Calls P f args w fun e w' => e = .returned v ∧ C w') (h2 : K (a.put o.dst v)) : o.quiet P a C K :=
  ⟨v, fun w hw => by unfold Oper.quietAt; rw [he w]; exact ⟨rfl, h w hw⟩, h2⟩
theorem quiet_rowload {ty : Nat} {d : TypeDesc} {k : Nat} (hu : P.underlying ty = some d) (hd : (match d with | .struct _ | .array _ _ => true | _ => false) = true) (hi : (P.info? ty).map (·.size) = some k)
    {x : Operand} {n : Nat} {cs : Array Value} (ho : o.op = .load ty x) (hx : a.eval x = .pointer (some ⟨n, 0, none⟩)) (hr : ∀ w, C w → rowAt w n = some cs) (hs : cs.size = k)
    (h2 : K (a.put o.dst (.agg cs))) : o.quiet P a C K :=
  quiet_val (fun w hw => by
    unfold execOp
    simp only [ho, hx, Instr.loadAt, Instr.sureAddr, Sem.run_bind, Sem.run_pure, Result.andThen_ok, run_loadVar_rowAt ty d k hu hd hi w n cs (hr w hw) hs]) h2

theorem quiet_subload {ty : Nat} {d : TypeDesc} {k : Nat} (hu : P.underlying ty = some d) (hd : (match d with | .struct _ | .array _ _ => true | _ => false) = true) (hi : (P.info? ty).map (·.size) = some k)
    {x : Operand} {n off : Nat} {D cs : Array Value} (ho : o.op = .load ty x) (hx : a.eval x = .pointer (some ⟨n, off, none⟩)) (hr : ∀ w, C w → rowAt w n = some D) (hsub : ∀ j v, cs[j]? = some v → D[off + j]? = some v) (hs : cs.size = k)
    (h2 : K (a.put o.dst (.agg cs))) : o.quiet P a C K :=
  quiet_val (fun w hw => by
    unfold execOp
    simp only [ho, hx, Instr.loadAt, Instr.sureAddr, Sem.run_bind, Sem.run_pure, Result.andThen_ok, run_loadVar_sub ty d k hu hd hi w n off D cs (hr w hw) hsub hs]) h2

theorem wpQuiet_skip {Q : Act → Prop} {a : Act} {o : Oper} {rest : List Oper} (hw : Region.wanted o (yielded ops a.tmps) = false) (h : wpQuiet P ops C Q rest (a.put o.dst undef)) : wpQuiet P ops C Q (o :: rest) a := by
  unfold wpQuiet
  rw [if_neg (by rw [hw]; exact Bool.false_ne_true)]
  exact h

/-- the class: the old blocks are as they were -/
def Since (w0 : World) (w : World) : Prop := Below w0.heap.size w0 w
theorem Since.refl (w : World) : Since w w := Below.refl _ _
theorem Since.drew (w : World) : Since w w.drew := (Below.refl _ _).drew
theorem Since.call {f : FuncId} {args : Array Value} {w0 w : World} {v : Value} (h : Since w0 w) (hc : Calls P f args w fun e w' => e = .returned v ∧ Below w.heap.size w w') : Calls P f args w fun e w' => e = .returned v ∧ Since w0 w' :=
  hc.mono fun _ _ ⟨he, hb⟩ => ⟨he, Below.trans h (hb.mono h.size)⟩
theorem Since.cell {w0 w : World} (h : Since w0 w) {p : Addr} (hp : p.block < w0.heap.size) : w.cell? p = w0.cell? p := Below.cell h hp
theorem Since.rowAt {w0 w : World} (h : Since w0 w) {n : Nat} (hp : n < w0.heap.size) : rowAt w n = Go.Proofs.Ytobbjdindknkdaa.rowAt w0 n := by
  unfold Go.Proofs.Ytobbjdindknkdaa.rowAt
  rw [h.block n hp]
end

section
variable {P : Program}
theorem results_row {fn : Func} {p : Tmp} {ty : TypeId} (h : fn.results = #[.cell p ty]) {d : TypeDesc} {k : Nat} (hu : P.underlying ty = some d) (hd : (match d with | .struct _ | .array _ _ => true | _ => false) = true) (hi : (P.info? ty).map (·.size) = some k)
    (tmps : Array Value) (w : World) (g : Nat) (cs : Array Value) (hp : tmps.getD p undef = .pointer (some ⟨g, 0, none⟩)) (hr : rowAt w g = some cs) (hs : cs.size = k) : (results fn tmps).run P w = .ok (.agg cs) w := by
  obtain ⟨t, hg⟩ := rowAt_some hr
  exact results_cell_row h tmps w g t cs (0, 0) d hp hg hu hd (by rw [hi, hs])
theorem results_row_tmp {fn : Func} {p u : Tmp} {ty : TypeId} (h : fn.results = #[.cell p ty, .tmp u]) {d : TypeDesc} {k : Nat} (hu : P.underlying ty = some d) (hd : (match d with | .struct _ | .array _ _ => true | _ => false) = true) (hi : (P.info? ty).map (·.size) = some k)
    (tmps : Array Value) (w : World) (g : Nat) (cs : Array Value) (hp : tmps.getD p undef = .pointer (some ⟨g, 0, none⟩)) (hr : rowAt w g = some cs) (hs : cs.size = k) : (results fn tmps).run P w = .ok (.tuple #[.agg cs, tmps.getD u undef]) w := by
  rw [results_cell_tmp h tmps P w, hp]
  simp only [asAddr, Sem.run_pure, Result.andThen_ok, run_loadVar_rowAt ty d k hu hd hi w g cs hr hs]
end

theorem rowAt_setRow_same {w : World} {g : Nat} {C : Array Value} (h : rowAt w g = some C) (cs : Array Value) : rowAt (w.setRow g cs) g = some cs := by
  obtain ⟨t, hg⟩ := rowAt_some h
  unfold rowAt
  rw [setRow_heap w g C cs t (0, 0) hg]
  simp
theorem rowAt_setRow_other {w : World} {g k : Nat} (h : k ≠ g) (cs : Array Value) : rowAt (w.setRow g cs) k = rowAt w k := by
  unfold rowAt
  rw [setRow_other w g k cs h]

theorem rowBelow {B : Nat} {w w' : World} (h : Below B w w') {n : Nat} {C : Array Value} (hn : n < B) (hr : rowAt w n = some C) : rowAt w' n = some C := by
  unfold rowAt at *
  rw [h.block n hn]; exact hr
theorem row_lt {w : World} {n : Nat} {C : Array Value} (hr : rowAt w n = some C) : n < w.heap.size := by
  obtain ⟨t, ht⟩ := rowAt_some hr
  exact (Array.getElem?_eq_some_iff.1 ht).1
/-- behind a call that leaves what was there -/
theorem row_call {w w' : World} (h : Below w.heap.size w w') {n : Nat} {C : Array Value} (hr : rowAt w n = some C) : rowAt w' n = some C := rowBelow h (row_lt hr) hr
theorem row_alloc {w : World} {n : Nat} {C : Array Value} (hr : rowAt w n = some C) (o : Obj) : rowAt (w.alloc o) n = some C := by
  rw [rowAt_alloc_past o n (row_lt hr)]; exact hr
theorem row_set {w : World} {n g : Nat} {C : Array Value} (hr : rowAt w n = some C) (hne : n ≠ g) (cs : Array Value) : rowAt (w.setRow g cs) n = some C := by
  rw [rowAt_setRow_other hne]; exact hr
theorem below_call {w W w' : World} (h : Below w.heap.size w W) (hb : Below W.heap.size W w') : Below w.heap.size w w' := h.trans (hb.mono h.size)
theorem below_set {w W : World} (h : Below w.heap.size w W) {g : Nat} (hg : w.heap.size ≤ g) (cs : Array Value) : Below w.heap.size w (W.setRow g cs) :=
  h.trans ⟨rfl, rfl, rfl, by simp [World.setRow], fun k hk => setRow_other _ g k cs (by omega)⟩
theorem below_new {w W : World} (h : Below w.heap.size w W) (o : Obj) : Below w.heap.size w (W.alloc o) := h.alloc h.size o
theorem cell_row {w : World} {n : Nat} {C : Array Value} (hr : rowAt w n = some C) (i : Nat) : w.cell? ⟨n, i, none⟩ = C[i]? := by
  obtain ⟨t, ht⟩ := rowAt_some hr
  exact cell_of_row w n i C t (0, 0) ht
theorem frozen_row {w : World} {n : Nat} {C : Array Value} (hr : rowAt w n = some C) (i : Nat) : w.frozen? ⟨n, i, none⟩ = false := by
  obtain ⟨t, ht⟩ := rowAt_some hr
  exact frozen_of_row w n i C t ht

theorem setCell_row {w : World} {n : Nat} {C : Array Value} (hr : rowAt w n = some C) (i : Nat) (v : Value) : w.setCell ⟨n, i, none⟩ v = w.setRow n (C.setIfInBounds i v) := by
  obtain ⟨t, ht⟩ := rowAt_some hr
  exact setCell_eq_setRow w n i C t (0, 0) v ht
theorem row_setCell_same {w : World} {n : Nat} {C : Array Value} (hr : rowAt w n = some C) (i : Nat) (v : Value) : rowAt (w.setCell ⟨n, i, none⟩ v) n = some (C.setIfInBounds i v) := by
  rw [setCell_row hr]; exact rowAt_setRow_same hr _
theorem row_setCell_other {w : World} {n g : Nat} {C : Array Value} (hr : rowAt w n = some C) (hne : n ≠ g) (i : Nat) (v : Value) : rowAt (w.setCell ⟨g, i, none⟩ v) n = some C := by
  unfold rowAt at *
  rw [Below.heap_setCell w ⟨g, i, none⟩ v n hne]; exact hr
theorem below_setCell {w W : World} (h : Below w.heap.size w W) {g : Nat} (hg : w.heap.size ≤ g) (i : Nat) (v : Value) : Below w.heap.size w (W.setCell ⟨g, i, none⟩ v) := h.setCell hg v


theorem Since.out {w W w' : World} (h : Since W w') (hb : Below w.heap.size w W) : Below w.heap.size w w' := hb.trans (Below.mono h hb.size)
theorem below1 (w : World) (a : Obj) : Below w.heap.size w (w.alloc a) := (Below.refl _ _).alloc (Nat.le_refl _) _
theorem below2 (w : World) (a b : Obj) : Below w.heap.size w ((w.alloc a).alloc b) := ((Below.refl _ _).alloc (Nat.le_refl _) _).alloc (by simp) _
theorem below3 (w : World) (a b c : Obj) : Below w.heap.size w (((w.alloc a).alloc b).alloc c) := (((Below.refl _ _).alloc (Nat.le_refl _) _).alloc (by simp) _).alloc (by simp; omega) _
theorem below_drewN {w W : World} (h : Below w.heap.size w W) (n : Nat) : Below w.heap.size w (W.drewN n) := ⟨h.os, h.tape, h.output, h.size, h.block⟩
/-- the cells of a block of the call's own, in whatever world comes later -/
theorem later {W w' : World} (h : Since W w') {g i : Nat} {C : Array Value} (hg : rowAt W g = some C) {v : Value} (hv : C[i]? = some v) : w'.cell? ⟨g, i, none⟩ = some v := by
  obtain ⟨t, ht⟩ := rowAt_some hg
  have hlt : g < W.heap.size := (Array.getElem?_eq_some_iff.1 ht).1
  rw [Since.cell h (p := ⟨g, i, none⟩) hlt, cell_of_row W g i C t (0, 0) ht, hv]
theorem laterRow {W w' : World} (h : Since W w') {g : Nat} {C : Array Value} (hg : rowAt W g = some C) : rowAt w' g = some C := by
  obtain ⟨t, ht⟩ := rowAt_some hg
  rw [Since.rowAt h (Array.getElem?_eq_some_iff.1 ht).1, hg]
theorem row1 (w : World) (C : Array Value) (t : TypeId) : rowAt (w.alloc (.cells C t)) w.heap.size = some C := rowAt_alloc_at C t _ rfl
theorem row2a (w : World) (C : Array Value) (t : TypeId) (o : Obj) : rowAt ((w.alloc (.cells C t)).alloc o) w.heap.size = some C := by
  rw [rowAt_alloc_past o _ (by simp)]; exact row1 w C t
theorem row2b (w : World) (C : Array Value) (t : TypeId) (o : Obj) : rowAt ((w.alloc o).alloc (.cells C t)) (w.heap.size + 1) = some C := rowAt_alloc_at C t _ (by simp)
theorem cell_lt {w : World} {p : Addr} {v : Value} (h : w.cell? p = some v) : p.block < w.heap.size := by
  by_cases hp : p.block < w.heap.size
  · exact hp
  · have hn : w.heap[p.block]? = none := Array.getElem?_eq_none (by omega)
    simp [World.cell?, hn] at h

end Go.Proofs.Ytobbjdindknkdaa
