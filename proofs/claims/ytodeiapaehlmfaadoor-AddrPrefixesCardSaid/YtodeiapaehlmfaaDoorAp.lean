import Derived.Test.YtodeiapaehlmfaaDoorAo
namespace Go.Proofs.YtodeiapaehlmfaaDoor
open Go Go.ChangeShapes Go.WideShapes Go.ChangeAt Go.RowKit

/-! ### an array of numbers, by value: opened and shut -/
def getI : Value → Int
  | .int _ z => z
  | _ => 0

theorem mapM_all {α β : Type} {f : α → Option β} {g : α → β} : ∀ (L : List α), (∀ i ∈ L, f i = some (g i)) → L.mapM f = some (L.map g)
  | [], _ => rfl
  | i :: L, h => by
    rw [List.mapM_cons, h i (by simp), mapM_all L (fun j hj => h j (by simp [hj]))]
    rfl

section
variable {H : Type} {enc : TypeId × Value → H} {P : Program} {W : World} {base : Nat} {sp : Nat → Bool} {held : Bool} {t e : TypeId} {n : Nat} {q : IntKind}

theorem open_ints_arr {r : Reach} {b0 : Nat} {v : Value} {d : DataW H} {ps : List MemPlace} (ht : P.underlying t = some (.array n e)) (he : P.underlying e = some (.int q)) (hc : P.cellsOf e = 1) (hct : P.cellsOf t = n)
    (hval : Value.okWide P W r b0 t v) (hd : DataW.Trod enc P W base sp held t v d ps) :
    ∃ l : List Int, l.length = n ∧ (∀ x ∈ l, (Lit.int q x).wf = true) ∧ v = .agg (l.map (Value.int q)).toArray ∧ d = .agg (l.map fun x => .lit (.int q x)) ∧ ps = [] := by
  simp only [Value.okWide, ht] at hval
  obtain ⟨cs, rfl, _, _⟩ := hval
  obtain ⟨fuel, hf⟩ := hd
  obtain ⟨xs, m, _, ex, hl, hn, hel⟩ := DataW.trod_array ht hf
  have hl' : cs.toList.length = n := hl.trans hct
  have key : ∀ i (hi : i < n), ∃ z, cs.toList[i]'(by omega) = .int q z ∧ xs[i]'(by omega) = (.lit (.int q z), []) ∧ (Lit.int q z).wf = true := by
    intro i hi
    have h1 := hel i hi
    rw [hc, Nat.mul_one, List.getElem?_eq_getElem (by omega)] at h1
    obtain ⟨z, e1, e2, e3⟩ := DataW.trod_int he h1
    refine ⟨z, ?_, e2, e3⟩
    have h0 : ((cs.toList.drop i).take 1)[0]? = some (.int q z) := by
      simp only [Value.cells] at e1
      rw [e1]
      rfl
    have h2 : cs.toList[i]? = some (.int q z) := by simpa using h0
    rw [List.getElem?_eq_getElem (by omega)] at h2
    exact Option.some.inj h2
  have hcells : cs.toList = (cs.toList.map getI).map (Value.int q) := by
    refine List.ext_getElem (by simp) fun i h1 h2 => ?_
    obtain ⟨z, e1, _⟩ := key i (by omega)
    simp only [List.getElem_map]
    rw [e1]
    rfl
  refine ⟨cs.toList.map getI, by simpa using hl', ?_, ?_, ?_, ?_⟩
  · intro x hx
    obtain ⟨i, hi, rfl⟩ := List.mem_iff_getElem.1 hx
    obtain ⟨z, e1, _, e3⟩ := key i (by simpa [hl'] using hi)
    simp only [List.getElem_map]
    rw [e1]
    exact e3
  · rw [← hcells]
  · rw [(Prod.mk.inj ex).1]
    congr 1
    refine List.ext_getElem (by simp [hn]; omega) fun i h1 h2 => ?_
    obtain ⟨z, e1, e2, _⟩ := key i (by simpa [hn] using h1)
    simp only [List.getElem_map]
    rw [e1, e2]
    rfl
  · rw [(Prod.mk.inj ex).2]
    refine List.flatMap_eq_nil_iff.2 fun x hx => ?_
    obtain ⟨i, hi, rfl⟩ := List.mem_iff_getElem.1 hx
    obtain ⟨z, _, e2, _⟩ := key i (by omega)
    rw [e2]

theorem shut_ints_arr {l : List Int} (ht : P.underlying t = some (.array n e)) (he : P.underlying e = some (.int q)) (hc : P.cellsOf e = 1) (hct : P.cellsOf t = n) (hn : l.length = n) (hw : ∀ x ∈ l, (Lit.int q x).wf = true) :
    DataW.Trod enc P W base sp held t (.agg (l.map (Value.int q)).toArray) (.agg (l.map fun x => .lit (.int q x))) [] := by
  refine ⟨2, ?_⟩
  rw [DataW.trod_step]
  unfold DataW.trodStep
  simp only [ht, Value.cells]
  rw [if_pos (by rw [hct]; simp [hn])]
  have hm := mapM_all (f := fun i => DataW.trod enc P W base sp held 1 e (((l.map (Value.int q)).drop (i * P.cellsOf e)).take (P.cellsOf e))) (g := fun i => ((.lit (.int q (l.getD i 0)) : DataW H), ([] : List MemPlace))) (List.range n) (fun i hi => by
    have hi' : i < l.length := by have := List.mem_range.1 hi; omega
    have hx : (((l.map (Value.int q)).drop (i * P.cellsOf e)).take (P.cellsOf e)) = [.int q l[i]] := by
      rw [hc, Nat.mul_one, List.drop_eq_getElem_cons (by simpa using hi')]
      simp
    rw [hx]
    have hg : l.getD i 0 = l[i] := by simp [List.getD, hi']
    rw [hg]
    simp [DataW.trod, he, hw _ (List.getElem_mem hi')])
  rw [hm]
  have h1 : (List.range n).map (fun i => l.getD i 0) = l := by
    refine List.ext_getElem (by simp [hn]) fun i h1 h2 => ?_
    simp [List.getD, h2]
  have h2 : ((List.range n).map (fun i => ((.lit (.int q (l.getD i 0)) : DataW H), ([] : List MemPlace)))).map (·.1) = l.map fun x => .lit (.int q x) := by
    rw [List.map_map]
    conv => rhs; rw [← h1]
    rw [List.map_map]
    rfl
  simp only [Option.map_some, h2]
  congr 2
  exact List.flatMap_eq_nil_iff.2 fun x hx => by
    obtain ⟨i, _, rfl⟩ := List.mem_map.1 hx
    rfl
end
/-! ### the row's last step (the kit's howto/extra-small.md, section 9) -/
section
variable {H : Type} {enc : TypeId × Value → H} {P : Program}
theorem post_of_below {f : Func} {s : ChangeSpec} {apart fresh handsOn again : Bool} {W W' : World} {args : Array Value} {v : Value} {ds gs : List (DataW H)} {before pa pv : List MemPlace}
    (hW : DataW.Whole enc P f.params.toList s.vars apart W args.toList ds gs before)
    (hres : ∀ (b : Nat) (sp : Nat → Bool) (hd : Bool), DataW.TrodAll enc P W' b sp hd f.resultTypes.toList (v.resultList f.resultTypes.size) (s.fn H (ds ++ gs)).results [])
    (hargs : ∀ sp : Nat → Bool, (∀ p ∈ before, sp p.block = true) → DataW.TrodAll enc P W' 0 sp true f.params.toList args.toList (s.fn H (ds ++ gs)).args pa)
    (hvars : ∀ sp : Nat → Bool, (∀ p ∈ before, sp p.block = true) → DataW.TrodVars enc P W' sp s.vars (s.fn H (ds ++ gs)).vars pv)
    (hps : before = pa ++ pv) (hb : Below W.heap.size W W')
    (hok : ∀ (j : Nat) (t : TypeId) (r : Value), f.resultTypes[j]? = some t → (v.resultList f.resultTypes.size)[j]? = some r → Value.okWide P W' .any 0 t r) :
    s.post enc P f apart fresh handsOn again W args v W' := by
  have hlt : ∀ p ∈ before, p.block < W.heap.size := fun p hp => hW.lt p hp
  have hold : ∀ p ∈ before, (fun b => decide (b < W.heap.size)) p.block = true := fun p hp => by simpa using hlt p hp
  refine ⟨ds, gs, before, [], pa, pv, hW, hres _ _ _, hargs _ hold, hvars _ hold, World.keptBut_mono (fun p hp => ⟨hp, ?_⟩) (hb.frame (· ∈ before)), fun _ => ?_⟩
  · rw [hps, List.mem_append] at hp
    exact Or.inr hp
  · obtain ⟨_, _, _, _, _, hz, hn⟩ := hW
    refine ⟨hok, _, _, ([] ++ pa) ++ pv, ⟨[] ++ pa, pv, trodAll_append (hargs _ (fun _ _ => rfl)) (hres _ _ _), hvars _ (fun _ _ => rfl), rfl, ?_, ?_⟩, ?_⟩
    · intro b off hp
      have hin : MemPlace.cell b off ∈ before := by rw [hps]; simpa using hp
      rw [hb.frozen (hlt _ hin)]
      exact hz b off hin
    · intro ha
      have := hn ha
      rw [hps] at this
      simpa using this
    · intro p hp _
      rw [hps]
      simpa using hp
end

theorem byt_wf {l : List Int} (h : ∀ x ∈ l, (Lit.int .u8 x).wf = true) : byt l := byt_of fun x hx => by
  have := h x hx
  have e1 : IntKind.u8.min = 0 := rfl
  have e2 : IntKind.u8.max = 255 := rfl
  simp [Lit.wf, e1, e2] at this
  omega

end Go.Proofs.YtodeiapaehlmfaaDoor
