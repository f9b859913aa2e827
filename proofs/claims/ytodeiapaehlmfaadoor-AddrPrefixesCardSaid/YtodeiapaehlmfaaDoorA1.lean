import Derived.Test.YtodeiapaehlmfaaDoorRows
import Derived.WalkKit
import Derived.WalkSpells
import Derived.WalkLawsBesides
import Derived.Deep.LoopGhost
namespace Go.Proofs.YtodeiapaehlmfaaDoor
open Go Go.RowKit

/-! ### rows known whole -/
def rowAt (w : World) (n : Nat) : Option (Array Value) :=
  match w.heap[n]? with
  | some (.cells c _ fr) => if fr = (0, 0) then some c else none
  | _ => none

def allOne (cs : Array Value) : Bool := cs.toList.all (·.oneCell')

theorem rowAt_some {w : World} {n : Nat} {c : Array Value} (h : rowAt w n = some c) : ∃ t, w.heap[n]? = some (.cells c t (0, 0)) := by
  unfold rowAt at h
  split at h
  · rename_i c' t fr hg
    split at h
    · rename_i hf
      injection h with h
      subst h; subst hf
      exact ⟨t, hg⟩
    · cases h
  · cases h

section
variable {w : World}
theorem rowAt_alloc_at (c : Array Value) (t : TypeId) (n : Nat) (hn : n = w.heap.size) : rowAt (w.alloc (.cells c t)) n = some c := by
  subst hn
  unfold rowAt
  rw [heap_alloc_new]
  simp
theorem rowAt_alloc_past (o : Obj) (n : Nat) (hn : n < w.heap.size) : rowAt (w.alloc o) n = rowAt w n := by
  unfold rowAt
  rw [Below.heap_alloc w o n hn]
theorem rowAt_drew (n : Nat) : rowAt w.drew n = rowAt w n := rfl
theorem rowAt_drewN (n k : Nat) : rowAt (w.drewN k) n = rowAt w n := rfl
theorem setRow_alloc_at (c : Array Value) (t : TypeId) (n : Nat) (cs : Array Value) (hn : n = w.heap.size) : (w.alloc (.cells c t)).setRow n cs = w.alloc (.cells cs t) := by
  subst hn
  unfold World.setRow World.alloc
  congr 1
  apply Array.ext_getElem?
  intro k
  simp only [Array.getElem?_modify, Array.getElem?_push]
  by_cases hk : k = w.heap.size <;> simp [hk, eq_comm]
theorem setRow_alloc_past (o : Obj) (n : Nat) (cs : Array Value) (hn : n < w.heap.size) : (w.alloc o).setRow n cs = (w.setRow n cs).alloc o := by
  unfold World.setRow World.alloc
  congr 1
  apply Array.ext_getElem?
  intro k
  simp only [Array.getElem?_modify, Array.getElem?_push, Array.size_modify]
  by_cases hk : k = w.heap.size
  · subst hk; simp [Nat.ne_of_lt hn]
  · simp [hk]
theorem setRow_drew (n : Nat) (cs : Array Value) : w.drew.setRow n cs = (w.setRow n cs).drew := rfl
end

theorem run_loadVar_rowAt {P : Program} (ty : Nat) (d : TypeDesc) (k : Nat) (hu : P.underlying ty = some d) (hd : (match d with | .struct _ | .array _ _ => true | _ => false) = true) (hi : (P.info? ty).map (·.size) = some k) (w : World) (n : Nat)
    (cs : Array Value) (h : rowAt w n = some cs) (hs : cs.size = k) : (loadVar ty ⟨n, 0, none⟩).run P w = .ok (.agg cs) w := by
  obtain ⟨t, hg⟩ := rowAt_some h
  exact run_loadVar_row w n t ty cs (0, 0) d hg hu hd (by rw [hi, hs])

/-- a part of a row, read as an array -/
theorem run_loadVar_sub {P : Program} (ty : Nat) (d : TypeDesc) (k : Nat) (hu : P.underlying ty = some d) (hd : (match d with | .struct _ | .array _ _ => true | _ => false) = true) (hi : (P.info? ty).map (·.size) = some k) (w : World) (n off : Nat)
    (C cs : Array Value) (h : rowAt w n = some C) (hsub : ∀ j v, cs[j]? = some v → C[off + j]? = some v) (hs : cs.size = k) : (loadVar ty ⟨n, off, none⟩).run P w = .ok (.agg cs) w := by
  obtain ⟨t, hg⟩ := rowAt_some h
  have hl : (loadCells ⟨n, off, none⟩ cs.toList.length).run P w = .ok cs.toList.toArray w :=
    run_loadCells_list (P := P) w ⟨n, off, none⟩ cs.toList (fun j v hv => by
      have hadd : (⟨n, off, none⟩ : Addr).add j = ⟨n, off + j, none⟩ := by unfold Addr.add; split <;> simp_all
      rw [hadd, cell_of_row w n (off + j) C t (0, 0) hg]
      exact hsub j v (by simpa using hv))
  cases hq : P.info? ty with
  | none => simp [hq] at hi
  | some i =>
    have hs' : i.size = cs.size := by rw [hs]; simpa [hq] using hi
    have hagg : (isAgg ty).run P w = .ok true w := by
      unfold isAgg
      rw [Sem.run_bind, run_underlying hu w]
      cases d <;> simp_all
    simp only [Array.length_toList, Array.toArray_toList] at hl
    simp [loadVar, Sem.run_bind, hagg, sizeOf, typeInfo, hq, hs', hl]

theorem run_storeVar_rowAt {P : Program} (ty : Nat) (k : Nat) (hi : (P.info? ty).map (·.size) = some k) (w : World) (n : Nat) (vs cs : Array Value) (h : rowAt w n = some cs)
    (h1 : cs.size = k) (h2 : vs.size = k) (h3 : allOne vs = true) : (storeVar ty ⟨n, 0, none⟩ (.agg vs)).run P w = .ok () (w.setRow n vs) := by
  obtain ⟨t, hg⟩ := rowAt_some h
  have hst := run_storeCells_at P n 0 t vs.toList 0 cs w hg (by simp; omega) (fun v hv => by have := List.all_eq_true.1 h3 v hv; exact this)
  cases hq : P.info? ty with
  | none => simp [hq] at hi
  | some i =>
    have hs : i.size = k := by simpa [hq] using hi
    unfold storeVar
    simp only [Value.cells, Sem.run_bind, sizeOf, typeInfo, run_program, hq, Result.andThen_ok, Sem.run_pure, hs, h2, ne_eq, not_true_eq_false, ↓reduceIte]
    have hd : List.drop k cs.toList = [] := List.drop_eq_nil_of_le (by simp; omega)
    simp [hst, h2, hd]

section
variable {P : Program} {ops : Array Oper} {rest : List Oper} {o : Oper} {a : Act} {w : World} {Q : Exit → Act → World → Prop}
theorem wpList_wanted (hw : Region.wanted o (yielded ops a.tmps) = true) (h : ∀ K : Act → World → Prop, (∀ a w, wpList P ops Q rest a w → K a w) → o.wp P a w K Q) : wpList P ops Q (o :: rest) a w :=
  wpList_step fun K hK => by rw [if_pos hw]; exact h K hK
theorem wpList_rowload {ty : Nat} {d : TypeDesc} {k : Nat} (hu : P.underlying ty = some d) (hd : (match d with | .struct _ | .array _ _ => true | _ => false) = true) (hi : (P.info? ty).map (·.size) = some k)
    {x : Operand} {n : Nat} {cs : Array Value} (hw : Region.wanted o (yielded ops a.tmps) = true) (ho : o.op = .load ty x) (hx : a.eval x = .pointer (some ⟨n, 0, none⟩)) (hr : rowAt w n = some cs) (hs : cs.size = k)
    (h : wpList P ops Q rest (a.put o.dst (.agg cs)) w) : wpList P ops Q (o :: rest) a w := by
  refine wpList_wanted hw fun _ hK => ?_
  unfold Oper.wp execOp
  simp only [ho, hx, Instr.loadAt, Instr.sureAddr, Sem.run_bind, Sem.run_pure, Result.andThen_ok, run_loadVar_rowAt ty d k hu hd hi w n cs hr hs]
  exact hK _ _ h
theorem wpList_subload {ty : Nat} {d : TypeDesc} {k : Nat} (hu : P.underlying ty = some d) (hd : (match d with | .struct _ | .array _ _ => true | _ => false) = true) (hi : (P.info? ty).map (·.size) = some k)
    {x : Operand} {n off : Nat} {C cs : Array Value} (hw : Region.wanted o (yielded ops a.tmps) = true) (ho : o.op = .load ty x) (hx : a.eval x = .pointer (some ⟨n, off, none⟩)) (hr : rowAt w n = some C) (hsub : ∀ j v, cs[j]? = some v → C[off + j]? = some v) (hs : cs.size = k)
    (h : wpList P ops Q rest (a.put o.dst (.agg cs)) w) : wpList P ops Q (o :: rest) a w := by
  refine wpList_wanted hw fun _ hK => ?_
  unfold Oper.wp execOp
  simp only [ho, hx, Instr.loadAt, Instr.sureAddr, Sem.run_bind, Sem.run_pure, Result.andThen_ok, run_loadVar_sub ty d k hu hd hi w n off C cs hr hsub hs]
  exact hK _ _ h
theorem wpList_rowstore {ty : Nat} {k : Nat} (hi : (P.info? ty).map (·.size) = some k)
    {x y : Operand} {n : Nat} {cs vs : Array Value} (hw : Region.wanted o (yielded ops a.tmps) = true) (ho : o.op = .store ty x y) (hx : a.eval x = .pointer (some ⟨n, 0, none⟩)) (hy : a.eval y = .agg vs) (hr : rowAt w n = some cs) (h1 : cs.size = k) (h2 : vs.size = k) (h3 : allOne vs = true)
    (h : wpList P ops Q rest (a.put o.dst undef) (w.setRow n vs)) : wpList P ops Q (o :: rest) a w := by
  refine wpList_wanted hw fun _ hK => ?_
  unfold Oper.wp execOp
  simp only [ho, hx, hy, Instr.storeAt, Instr.sureAddr, Sem.run_bind, Sem.run_pure, Result.andThen_ok, run_storeVar_rowAt ty k hi w n vs cs hr h1 h2 h3]
  exact hK _ _ h
end

/-! ### the two array types: [16]byte (25, 22) and [8]int (23) -/
def bv (l : List Int) : Array Value := (l.map (Value.int .u8)).toArray
def iv (l : List Int) : Array Value := (l.map (Value.int .i64)).toArray
theorem bv_size (l : List Int) : (bv l).size = l.length := by simp [bv]
theorem iv_size (l : List Int) : (iv l).size = l.length := by simp [iv]
theorem bv_one (l : List Int) : allOne (bv l) = true := by simp [allOne, bv, Value.oneCell']
theorem iv_one (l : List Int) : allOne (iv l) = true := by simp [allOne, iv, Value.oneCell']
theorem bv_set (l : List Int) (k : Nat) (x : Int) : (bv l).setIfInBounds k (.int .u8 x) = bv (l.set k x) := by simp [bv, List.map_set]
theorem iv_set (l : List Int) (k : Nat) (x : Int) : (iv l).setIfInBounds k (.int .i64 x) = iv (l.set k x) := by simp [iv, List.map_set]
/-- element k of a list of numbers, not looked into by simp -/
def nth (l : List Int) (k : Nat) : Int := l.getD k 0
theorem bv_get (l : List Int) (k : Nat) : (bv l)[k]? = if k < l.length then some (.int .u8 (nth l k)) else none := by
  unfold bv nth
  by_cases h : k < l.length <;> simp [h]
theorem iv_get (l : List Int) (k : Nat) : (iv l)[k]? = if k < l.length then some (.int .i64 (nth l k)) else none := by
  unfold iv nth
  by_cases h : k < l.length <;> simp [h]
theorem bv_elem (l : List Int) (k : Nat) (h : k < (bv l).size) : (bv l)[k] = .int .u8 (nth l k) := by
  have e := bv_get l k
  rw [Array.getElem?_eq_getElem h, if_pos (by simpa [bv_size] using h)] at e
  exact Option.some.inj e
theorem iv_elem (l : List Int) (k : Nat) (h : k < (iv l).size) : (iv l)[k] = .int .i64 (nth l k) := by
  have e := iv_get l k
  rw [Array.getElem?_eq_getElem h, if_pos (by simpa [iv_size] using h)] at e
  exact Option.some.inj e

theorem isz25 : (Tryd.prog.info? 25).map (·.size) = some 16 := by kernel_rfl
theorem isz22 : (Tryd.prog.info? 22).map (·.size) = some 16 := by kernel_rfl
theorem isz23 : (Tryd.prog.info? 23).map (·.size) = some 8 := by kernel_rfl

/-- a prefix: 16 bytes, and how many bits -/
def pv (l : List Int) (n : Int) : Array Value := (l.map (Value.int .u8) ++ [Value.int .i64 n]).toArray
theorem pv_size (l : List Int) (n : Int) : (pv l n).size = l.length + 1 := by simp [pv]
theorem pv_one (l : List Int) (n : Int) : allOne (pv l n) = true := by simp [allOne, pv, Value.oneCell']
theorem pv_bits (l : List Int) (n : Int) (hl : l.length = 16) : (pv l n)[16]? = some (.int .i64 n) := by simp [pv, hl]
theorem pv_addr (l : List Int) (n : Int) : ∀ j v, (bv l)[j]? = some v → (pv l n)[0 + j]? = some v := by
  intro j v h
  have hj : j < l.length := by
    have := (Array.getElem?_eq_some_iff.1 h).1
    simpa [bv] using this
  rw [Nat.zero_add]
  rw [← h]
  simp [pv, bv, hj, List.getElem?_append]
theorem isz40 : (Tryd.prog.info? 40).map (·.size) = some 17 := by kernel_rfl
theorem isz47 : (Tryd.prog.info? 47).map (·.size) = some 17 := by kernel_rfl

def z16 : List Int := List.replicate 16 0
def z8 : List Int := List.replicate 8 0
theorem z16_length : z16.length = 16 := rfl
theorem z8_length : z8.length = 8 := rfl
theorem zlit16 : #[Value.int .u8 0, Value.int .u8 0, Value.int .u8 0, Value.int .u8 0, Value.int .u8 0, Value.int .u8 0, Value.int .u8 0, Value.int .u8 0, Value.int .u8 0, Value.int .u8 0, Value.int .u8 0, Value.int .u8 0, Value.int .u8 0, Value.int .u8 0, Value.int .u8 0, Value.int .u8 0] = bv z16 := rfl
theorem zlit8 : #[Value.int .i64 0, Value.int .i64 0, Value.int .i64 0, Value.int .i64 0, Value.int .i64 0, Value.int .i64 0, Value.int .i64 0, Value.int .i64 0] = iv z8 := rfl

/-! ### lists by a function of the place -/
def tab (n : Nat) (f : Nat → Int) : List Int := (List.range n).map f
theorem tab_length (n : Nat) (f : Nat → Int) : (tab n f).length = n := by simp [tab]
theorem nth_tab {n : Nat} (f : Nat → Int) {k : Nat} (h : k < n) : nth (tab n f) k = f k := by simp [nth, tab, h]
theorem tab_congr {n : Nat} {f g : Nat → Int} (h : ∀ j, j < n → f j = g j) : tab n f = tab n g := List.map_congr_left fun j hj => h j (List.mem_range.1 hj)
theorem tab_set {n : Nat} {f g : Nat → Int} {k : Nat} {v : Int} (hk : g k = v) (h : ∀ j, j < n → j ≠ k → g j = f j) : (tab n f).set k v = tab n g := by
  apply List.ext_getElem (by simp [tab])
  intro i h1 h2
  have hi : i < n := by simpa [tab] using h2
  by_cases hik : i = k
  · subst hik; simp [tab, hk]
  · rw [List.getElem_set_ne (by omega)]
    simp [tab, h i hi hik]
theorem tab_nth {l : List Int} {n : Nat} (h : l.length = n) : tab n (nth l) = l := by
  apply List.ext_getElem (by simp [tab, h])
  intro i h1 h2
  simp [tab, nth, h2]
theorem nth_ext {a b : List Int} {n : Nat} (ha : a.length = n) (hb : b.length = n) (h : ∀ j, j < n → nth a j = nth b j) : a = b := by
  rw [← tab_nth ha, ← tab_nth hb]; exact tab_congr h
theorem nth_set_same {l : List Int} {k : Nat} (h : k < l.length) (v : Int) : nth (l.set k v) k = v := by simp [nth, h]
theorem nth_set_other {l : List Int} {k j : Nat} (h : j ≠ k) (v : Int) : nth (l.set k v) j = nth l j := by
  simp [nth, List.getElem?_set, Ne.symm h]
theorem nth_none {l : List Int} {k : Nat} (h : l.length ≤ k) : nth l k = 0 := by simp [nth, List.getElem?_eq_none h]
theorem nth_z16 (k : Nat) : nth z16 k = 0 := by
  by_cases h : k < 16
  · simp only [nth, z16, List.getD_eq_getElem?_getD]
    rw [List.getElem?_replicate, if_pos h]; rfl
  · exact nth_none (by simp [z16]; omega)
theorem nth_z8 (k : Nat) : nth z8 k = 0 := by
  by_cases h : k < 8
  · simp only [nth, z8, List.getD_eq_getElem?_getD]
    rw [List.getElem?_replicate, if_pos h]; rfl
  · exact nth_none (by simp [z8]; omega)
/-- bytes -/
def byt (l : List Int) : Prop := ∀ k, 0 ≤ nth l k ∧ nth l k ≤ 255
theorem byt_of {l : List Int} (h : ∀ x ∈ l, 0 ≤ x ∧ x ≤ 255) : byt l := by
  intro k
  unfold nth
  by_cases hk : k < l.length
  · simp only [List.getD_eq_getElem?_getD, List.getElem?_eq_getElem hk, Option.getD_some]
    exact h _ (List.getElem_mem hk)
  · simp [List.getElem?_eq_none (by omega : l.length ≤ k)]
theorem byt_z16 : byt z16 := fun k => by rw [nth_z16]; omega

end Go.Proofs.YtodeiapaehlmfaaDoor
