import Derived.Test.YtodeiapaehlmfaaDoorAp
namespace Go.Proofs.YtodeiapaehlmfaaDoor
open Go Go.ChangeShapes Go.WideShapes Go.ChangeAt Go.RowKit

/-! ### a prefix, by value: opened -/
section
variable {H : Type} {enc : TypeId × Value → H} {P : Program} {W : World} {base : Nat} {sp : Nat → Bool} {held : Bool} {t e : TypeId} {n : Nat} {q : IntKind}

theorem open_cells_arr {cs : Array Value} {d : DataW H} {ps : List MemPlace} (ht : P.underlying t = some (.array n e)) (he : P.underlying e = some (.int q)) (hc : P.cellsOf e = 1) (hct : P.cellsOf t = n)
    (hd : DataW.Trod enc P W base sp held t (.agg cs) d ps) :
    ∃ l : List Int, l.length = n ∧ (∀ x ∈ l, (Lit.int q x).wf = true) ∧ cs.toList = l.map (Value.int q) ∧ d = .agg (l.map fun x => .lit (.int q x)) ∧ ps = [] := by
  obtain ⟨fuel, hf⟩ := hd
  obtain ⟨xs, m, _, ex, hl, hn, hel⟩ := DataW.trod_array ht hf
  have hl' : cs.toList.length = n := hl.trans hct
  have hl2 : cs.size = n := by simpa using hl'
  have key : ∀ i (hi : i < n), ∃ z, cs.toList[i]'(by omega) = .int q z ∧ xs[i]'(by omega) = (.lit (.int q z), []) ∧ (Lit.int q z).wf = true := by
    intro i hi
    have h1 := hel i hi
    rw [hc, Nat.mul_one, List.getElem?_eq_getElem (by omega)] at h1
    obtain ⟨z, e1, e2, e3⟩ := DataW.trod_int he h1
    refine ⟨z, ?_, e2, e3⟩
    have h0 : ((cs.toList.drop i).take 1)[0]? = some (.int q z) := by
      simp only [Value.cells] at e1
      rw [e1]
      rfl
    have h2 : cs.toList[i]? = some (.int q z) := by simpa using h0
    rw [List.getElem?_eq_getElem (by omega)] at h2
    exact Option.some.inj h2
  have hcells : cs.toList = (cs.toList.map getI).map (Value.int q) := by
    refine List.ext_getElem (by simp) fun i h1 h2 => ?_
    obtain ⟨z, e1, _⟩ := key i (by omega)
    simp only [List.getElem_map]
    rw [e1]
    rfl
  refine ⟨cs.toList.map getI, by simpa using hl', ?_, ?_, ?_, ?_⟩
  · intro x hx
    obtain ⟨i, hi, rfl⟩ := List.mem_iff_getElem.1 hx
    obtain ⟨z, e1, _, e3⟩ := key i (by simpa [hl'] using hi)
    simp only [List.getElem_map]
    rw [e1]
    exact e3
  · exact hcells
  · rw [(Prod.mk.inj ex).1]
    congr 1
    refine List.ext_getElem (by simp [hn]; omega) fun i h1 h2 => ?_
    obtain ⟨z, e1, e2, _⟩ := key i (by simpa [hn] using h1)
    simp only [List.getElem_map]
    rw [e1, e2]
    rfl
  · rw [(Prod.mk.inj ex).2]
    refine List.flatMap_eq_nil_iff.2 fun x hx => ?_
    obtain ⟨i, hi, rfl⟩ := List.mem_iff_getElem.1 hx
    obtain ⟨z, _, e2, _⟩ := key i (by omega)
    rw [e2]

end

set_option maxRecDepth 100000 in
theorem open_prefix {H : Type} {enc : TypeId × Value → H} {W : World} {base b0 : Nat} {sp : Nat → Bool} {held : Bool} {r : Reach} {v : Value} {d : DataW H} {ps : List MemPlace}
    (hval : Value.okWide Tryd.prog W r b0 47 v) (h : DataW.Trod enc Tryd.prog W base sp held 47 v d ps) : ∃ (P : List Int) (m : Int), P.length = 16 ∧ byt P ∧ v = .agg (pv P m) := by
  obtain ⟨cs, rfl, hsz⟩ := okWide_struct Tryd.underlying47 hval
  have c47 : Tryd.prog.cellsOf 47 = 17 := by kernel_rfl
  have c22 : Tryd.prog.cellsOf 22 = 16 := by kernel_rfl
  have c3 : Tryd.prog.cellsOf 3 = 1 := by kernel_rfl
  rw [c47] at hsz
  obtain ⟨fuel, hf⟩ := h
  obtain ⟨y0, y1, n, _, hl, h0, h1⟩ := trod_struct2 Tryd.underlying47 hf
  simp only [Value.cells, List.drop_zero, c22, c3] at h0 h1
  have hd : DataW.Trod enc Tryd.prog W base sp held 22 (.agg (cs.toList.take 16).toArray) y0.1 y0.2 := ⟨n, by simpa [Value.cells] using h0⟩
  obtain ⟨P, hP, hw, hcs, _, _⟩ := open_cells_arr Tryd.underlying22 Tryd.underlying5 (by kernel_rfl) (by kernel_rfl) hd
  obtain ⟨m, hm, _, _⟩ := DataW.trod_int Tryd.underlying3 h1
  refine ⟨P, m, hP, byt_wf hw, ?_⟩
  have hlist : cs.toList = P.map (Value.int .u8) ++ [Value.int .i64 m] := by
    rw [← List.take_append_drop 16 cs.toList]
    congr 1
    rw [← hm]
    exact (List.take_of_length_le (by simp [hsz])).symm
  congr 1
  rw [pv, ← hlist]

end Go.Proofs.YtodeiapaehlmfaaDoor
