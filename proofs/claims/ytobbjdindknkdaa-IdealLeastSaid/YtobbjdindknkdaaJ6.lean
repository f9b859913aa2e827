/- A map keyed by pairs: looked up and updated. -/
import Derived.Test.YtobbjdindknkdaaJ5
import Derived.Test.YtobbjdindknkdaaK6
namespace Go.Proofs.Ytobbjdindknkdaa
open Go Go.RowKit
attribute [local irreducible] wpQuiet wpPure wpHold wpKeep wpQuietS
set_option linter.unusedSimpArgs false
set_option linter.unusedVariables false

theorem run_getObj_map' {w : World} (r : Nat) (es : Array MapEntry) (clk : Nat) (hb : w.heap[r]? = some (.map es clk)) : (getObj r).run Try.prog w = .ok (.map es clk) w := by simp [getObj, Sem.run, hb]
theorem run_setObj_map' {w : World} {r : Nat} {es : Array MapEntry} {clk : Nat} (o : Obj) (hb : w.heap[r]? = some (.map es clk)) : (setObj r o).run Try.prog w = .ok () { w with heap := w.heap.setIfInBounds r o } := by simp [setObj, Sem.run, hb]
/-! ### the map of costs, keyed by pairs -/
def pk (x y : Int) : Value := .agg #[.int .i64 x, .int .i64 y]
abbrev Link := Int × Int × Int
/-- the entries of a map in memory -/
def MapE (es : Array MapEntry) (E : List Link) : Prop := es.toList.map (fun e => (e.key, e.val)) = E.map (fun p => (pk p.1 p.2.1, Value.int .i64 p.2.2))
def MapAt (w : World) (r : Nat) (E : List Link) : Prop := ∃ es clk, w.heap[r]? = some (.map es clk) ∧ MapE es E
def findE (E : List Link) (x y : Int) : Option Int := (E.find? fun p => decide (p.1 = x ∧ p.2.1 = y)).map (·.2.2)
def idxE (x y : Int) : List Link → Nat → Option (Nat × Int)
  | [], _ => none
  | p :: r, i => if x = p.1 ∧ y = p.2.1 then some (i, p.2.2) else idxE x y r (i + 1)
def setE (E : List Link) (x y c : Int) : List Link := match idxE x y E 0 with
  | some (i, _) => E.modify i fun p => (x, y, c)
  | none => E ++ [(x, y, c)]

theorem und92 : Try.prog.underlying 92 = some (.array 2 3) := Try.underlying92
theorem eq92 (w : World) (a b c d : Int) : (Op.equal 92 (pk a b) (pk c d)).run Try.prog w = .ok (decide (a = c ∧ b = d)) w := by
  have h := run_equalIn_ints (P := Try.prog) w 9998 92 3 2 .i64 .i64 Try.underlying92 Try.underlying3 (by kernel_rfl) [a, b] [c, d] rfl rfl
  have e : decide ([a, b] = [c, d]) = decide (a = c ∧ b = d) := by simp
  rw [e] at h
  exact h
theorem run_ask (x y : Int) (w : World) : ∀ (es : List MapEntry) (E : List Link) (i : Nat), es.map (fun e => (e.key, e.val)) = E.map (fun p => (pk p.1 p.2.1, Value.int .i64 p.2.2)) →
    (Instr.findAsking 92 (pk x y) es i).run Try.prog w = .ok ((idxE x y E i).map fun q => (q.1, Value.int .i64 q.2)) w
  | [], E, i, h => by
    have : E = [] := by simpa using h.symm
    subst this
    simp [Instr.findAsking, idxE]
  | e :: es, [], i, h => by simp at h
  | e :: es, p :: E, i, h => by
    simp only [List.map_cons, List.cons.injEq, Prod.mk.injEq] at h
    obtain ⟨⟨h1, h2⟩, h3⟩ := h
    unfold Instr.findAsking
    rw [Sem.run_bind, h1, eq92]
    simp only [Result.andThen_ok, Sem.run_ite]
    by_cases hq : x = p.1 ∧ y = p.2.1
    · simp [idxE, hq, h2]
    · have hd : decide (x = p.1 ∧ y = p.2.1) = false := decide_eq_false hq
      rw [hd]
      simp only [Bool.false_eq_true, if_false]
      rw [run_ask x y w es E (i + 1) h3, idxE, if_neg hq]
theorem run_find (x y : Int) (w : World) (es : List MapEntry) (E : List Link) (h : es.map (fun e => (e.key, e.val)) = E.map (fun p => (pk p.1 p.2.1, Value.int .i64 p.2.2))) :
    (Instr.findKey 92 (pk x y) es).run Try.prog w = .ok ((idxE x y E 0).map fun q => (q.1, Value.int .i64 q.2)) w := by
  have hk := run_ask x y w es E 0 h
  unfold Instr.findKey
  rw [Sem.run_bind, run_underlying und92]
  simp only [Result.andThen_ok]
  cases es with
  | nil =>
    have : E = [] := by simpa using h.symm
    subst this
    simp [Instr.findNow, idxE]
  | cons e es =>
    have : Instr.findNow (.array 2 3) (pk x y) (e :: es) 0 = none := by simp [Instr.findNow, Instr.sameNow]
    rw [this]
    exact hk
theorem run_check92 (x y : Int) (w : World) (em : Bool) : (Instr.checkKey em 10000 92 (pk x y)).run Try.prog w = .ok () w := by
  cases em <;> kernel_rfl
theorem run_lookup87 (x y : Int) (w : World) (r : Nat) (E : List Link) (h : MapAt w r E) :
    (Instr.lookup 87 (.map (some r)) (pk x y) true).run Try.prog w = .ok (.tuple #[.int .i64 (((idxE x y E 0).map (·.2)).getD 0), .bool (idxE x y E 0).isSome]) w := by
  obtain ⟨es, clk, hb, he⟩ := h
  have hf := run_find x y w es.toList E he
  have hz : (zeroValue 3).run Try.prog w = .ok (.int .i64 0) w := by kernel_rfl
  unfold Instr.lookup
  simp only [Sem.run_bind, run_underlying Try.underlying87, Result.andThen_ok, run_getObj_map' r es clk hb, Sem.run_pure, run_check92, hf]
  cases hx : idxE x y E 0 with
  | none => simp [hz]
  | some q => simp
theorem mapE_get {es : Array MapEntry} {E : List Link} (h : MapE es E) {i : Nat} {p : Link} (hi : E[i]? = some p) : ∃ e, es[i]? = some e ∧ e.key = pk p.1 p.2.1 := by
  have h1 : (es.toList.map (fun e => (e.key, e.val)))[i]? = some (pk p.1 p.2.1, Value.int .i64 p.2.2) := by rw [h, List.getElem?_map, hi]; rfl
  rw [List.getElem?_map] at h1
  cases he : es.toList[i]? with
  | none => rw [he] at h1; cases h1
  | some e =>
    rw [he] at h1
    simp only [Option.map_some, Option.some.injEq, Prod.mk.injEq] at h1
    exact ⟨e, by simpa using he, h1.1⟩
theorem idxE_spec (x y : Int) : ∀ (E : List Link) (i j : Nat) (c : Int), idxE x y E i = some (j, c) → i ≤ j ∧ E[j - i]? = some (x, y, c)
  | [], _, _, _, h => by cases h
  | p :: r, i, j, c, h => by
    rw [idxE] at h
    split at h
    · rename_i hq
      simp only [Option.some.injEq, Prod.mk.injEq] at h
      obtain ⟨rfl, rfl⟩ := h
      obtain ⟨p0, p1, p2⟩ := p
      simp only at hq
      obtain ⟨rfl, rfl⟩ := hq
      simp
    · have := idxE_spec x y r (i + 1) j c h
      refine ⟨by omega, ?_⟩
      rw [show j - i = (j - (i + 1)) + 1 by omega, List.getElem?_cons_succ]
      exact this.2
theorem same_bits (x y : Int) : Instr.sameBits 10000 (pk x y) (pk x y) = true := by
  unfold pk
  simp [Instr.sameBits]
theorem run_update87 (x y c : Int) (w : World) (r : Nat) (E : List Link) (h : MapAt w r E) :
    ∃ w', (Instr.mapUpdate 87 (.map (some r)) (pk x y) (.int .i64 c)).run Try.prog w = .ok () w' ∧ MapAt w' r (setE E x y c) ∧ (∀ own : Nat → Prop, own r → Foot own w w') ∧ w'.heap.size = w.heap.size := by
  obtain ⟨es, clk, hb, he⟩ := h
  have hf := run_find x y w es.toList E he
  have hrl : r < w.heap.size := (Array.getElem?_eq_some_iff.1 hb).1
  unfold Instr.mapUpdate
  simp only [Sem.run_bind, run_underlying Try.underlying87, Result.andThen_ok, run_getObj_map' r es clk hb, run_check92, hf]
  have hfoot : ∀ o, (∀ own : Nat → Prop, own r → Foot own w { w with heap := w.heap.setIfInBounds r o }) ∧ ({ w with heap := w.heap.setIfInBounds r o } : World).heap.size = w.heap.size := fun o => ⟨fun own ho => ⟨rfl, rfl, rfl, by simp, fun k hk hn => by
    have : r ≠ k := fun e => hn (e ▸ ho)
    simp [Array.getElem?_setIfInBounds, this]⟩, by simp⟩
  cases hx : idxE x y E 0 with
  | none =>
    refine ⟨{ w with heap := w.heap.setIfInBounds r (.map (es.push { key := pk x y, val := .int .i64 c, born := clk }) (clk + 1)) }, ?_, ⟨es.push { key := pk x y, val := .int .i64 c, born := clk }, clk + 1, by simp [hrl], ?_⟩, (hfoot _).1, (hfoot _).2⟩
    · simp only [Option.map_none]
      exact run_setObj_map' _ hb
    · unfold setE MapE at *
      rw [hx]
      simp [he]
  | some q =>
    obtain ⟨i, c0⟩ := q
    have hs := idxE_spec x y E 0 i c0 hx
    obtain ⟨e, hei, hek⟩ := mapE_get he (by simpa using hs.2)
    have hkt : (Instr.keyThatStays e.key (pk x y)).run Try.prog w = .ok (pk x y) w := by
      unfold Instr.keyThatStays
      rw [hek, if_pos (same_bits x y)]
      rfl
    refine ⟨{ w with heap := w.heap.setIfInBounds r (.map (es.modify i fun e => { e with key := pk x y, val := .int .i64 c }) clk) }, ?_, ⟨es.modify i fun e => { e with key := pk x y, val := .int .i64 c }, clk, by simp [hrl], ?_⟩, (hfoot _).1, (hfoot _).2⟩
    · simp only [Option.map_some, hei, Option.map_some, Option.getD_some, Sem.run_bind, hkt, Result.andThen_ok]
      exact run_setObj_map' _ hb
    · unfold setE MapE at *
      rw [hx]
      simp only [Array.toList_modify]
      refine List.ext_getElem? fun j => ?_
      have hj : (es.toList.map (fun e => (e.key, e.val)))[j]? = (E.map (fun p => (pk p.1 p.2.1, Value.int .i64 p.2.2)))[j]? := by rw [he]
      simp only [List.getElem?_map, List.getElem?_modify] at hj ⊢
      by_cases hij : i = j
      · subst hij
        rw [(show E[i]? = some (x, y, c0) by simpa using hs.2)] at hj ⊢
        cases hes : es.toList[i]? with
        | none => rw [hes] at hj; cases hj
        | some e' => simp
      · simp only [if_neg hij, Option.map_id']
        simpa using hj
end Go.Proofs.Ytobbjdindknkdaa
