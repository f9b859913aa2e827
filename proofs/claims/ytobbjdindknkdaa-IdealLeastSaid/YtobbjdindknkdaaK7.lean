/- Regions that draw their order, sixth rule: operations that are quiet in a class of worlds, then one call alone that may turn the world, then operations that are quiet in a class of worlds again. -/
import Derived.Test.YtobbjdindknkdaaK6
import Derived.Test.YtobbjdindknkdaaK3
namespace Go.Proofs.Ytobbjdindknkdaa
open Go Go.RowKit
set_option linter.unusedSimpArgs false
set_option linter.unusedVariables false
section
variable {P : Program} {ops : Array Oper} {md : Region.Mode}

/-- the lists serve: heads, the one in the middle, the rest -/
def midB (md : Region.Mode) (ops : Array Oper) (hs : List Nat) (x : Nat) (rs : List Nat) : Bool :=
  Region.noSelect ops && !hs.contains x && decide (hs.length + (rs.length + 1) = ops.size) &&
  (match headB md ops hs (Array.replicate ops.size false) with
   | none => false
   | some l1 => closedB md ops (Array.replicate ops.size false) && decide (Region.ready md ops l1 = [x]) && (List.range ops.size).all (fun t => hs.contains t || hs.all fun h => needsB md ops ops.size t h) &&
     closedB md ops (l1.setIfInBounds x true) &&
     (match headB md ops rs (l1.setIfInBounds x true) with
      | none => false
      | some l2 => (Region.ready md ops l2).isEmpty && (List.range ops.size).all (fun t => rs.contains t || (l1.setIfInBounds x true).getD t false)))

/-- the operation in the middle is a call that comes back -/
def midCall (P : Program) (ops : Array Oper) (K : Act → World → Prop) (o : Oper) (a : Act) (w : World) : Prop :=
  Region.wanted o (yielded ops a.tmps) = true ∧ ∃ f args, (execOp a.eval o).run P w = .ok (.enter f args) w ∧ Calls P f args w fun e w' => ∃ v, e = .returned v ∧ K (a.put o.dst v) w'
theorem wpOp_mid {Q : Exit → Act → World → Prop} {i : Nat} {o : Oper} {a : Act} {w : World} {K : Act → World → Prop} (ho : ops[i]? = some o) (h : midCall P ops K o a w) : wpOp P ops Q i K a w := by
  obtain ⟨hw, f, args, he, hc⟩ := h
  unfold wpOp
  simp only [ho]
  rw [if_pos hw]
  unfold Oper.wp
  rw [he]
  refine .inl ?_
  refine Calls.mono hc ?_
  rintro e w' ⟨v, rfl, hk⟩
  exact hk

theorem wp_region_mid {id : Nat} {Q : Exit → Act → World → Prop} {a : Act} {w : World} {l : List Oper} (C : World → Prop) (hs : List Nat) (x : Nat) (ox : Oper) (rs : List Nat) (hm : P.follows .mixedOrders = true) (hx : l[x]? = some ox) (hB : midB .any l.toArray hs x rs = true) (hC : C w.drew)
    (h : wpQuiet P l.toArray C (fun a' => ∀ w', C w' → midCall P l.toArray (fun a2 w2 => ∃ C2 : World → Prop, C2 w2 ∧ wpQuiet P l.toArray C2 (fun a3 => ∀ w3, C2 w3 → Q .normal a3 w3) (pick l rs) a2) ox a' w') (pick l hs) a) : (Code.region id l.toArray true).wp P Q a w := by
  unfold midB at hB
  rw [Bool.and_eq_true, Bool.and_eq_true, Bool.and_eq_true, decide_eq_true_eq] at hB
  obtain ⟨⟨⟨hsel, hxn⟩, hlen⟩, hB⟩ := hB
  have hxn' : x ∉ hs := by simpa using hxn
  split at hB
  · cases hB
  · rename_i l1 h1
    rw [Bool.and_eq_true, Bool.and_eq_true, Bool.and_eq_true, Bool.and_eq_true, decide_eq_true_eq] at hB
    obtain ⟨⟨⟨⟨hcl0, hr1⟩, hw1⟩, hcl⟩, hB⟩ := hB
    split at hB
    · cases hB
    · rename_i l2 h2
      rw [Bool.and_eq_true] at hB
      obtain ⟨hr2, hall⟩ := hB
      have hr2' : Region.ready .any l.toArray l2 = [] := by simpa using hr2
      refine wp_region_any hm ?_
      have inv0 : Closed .any l.toArray [] (Array.replicate l.toArray.size false) := closed_of hcl0 (by simp)
      have hwait1 : ∀ i, (i ∈ hs) → ∀ listed, Closed .any l.toArray [] listed → listed.getD i true = false → ∀ j ∈ Region.ready .any l.toArray listed, j ∈ hs := by
        intro i hi listed inv' hun j hj
        obtain ⟨hjun, oj, hoj, hall⟩ := mem_ready.1 hj
        have hjlt : j < l.toArray.size := (Array.getElem?_eq_some_iff.1 hoj).1
        have h3 := List.all_eq_true.1 hw1 j (List.mem_range.2 hjlt)
        rw [Bool.or_eq_true] at h3
        rcases h3 with h3 | h3
        · simpa using h3
        · have h4 := List.all_eq_true.1 h3 i hi
          have h5 := needs_listed inv' _ _ _ h4 (fun ot hot e he hb => by
            have : ot = oj := Option.some.inj (hot.symm.trans hoj)
            subst this
            exact hall e he hb)
          rw [getD_both hun] at h5
          cases h5
      have hl1 : ∀ j ∈ Region.ready .any l.toArray l1, ¬ (j ∈ hs) := by
        intro j hj
        rw [hr1] at hj
        rw [List.mem_singleton.1 hj]; exact hxn'
      let ps2 : List Nat := (List.range l.toArray.size).filter fun t => (l1.setIfInBounds x true).getD t false
      have inv2 : Closed .any l.toArray ps2 (l1.setIfInBounds x true) := closed_of hcl (List.all_eq_true.2 fun t ht => (List.mem_filter.1 ht).2)
      have hwait2 : ∀ i, (i ∈ rs) → ∀ listed, Closed .any l.toArray ps2 listed → listed.getD i true = false → ∀ j ∈ Region.ready .any l.toArray listed, j ∈ rs := by
        intro i hi listed inv' hun j hj
        obtain ⟨hjun, oj, hoj, _⟩ := mem_ready.1 hj
        have hjlt : j < l.toArray.size := (Array.getElem?_eq_some_iff.1 hoj).1
        have h3 := List.all_eq_true.1 hall j (List.mem_range.2 hjlt)
        rw [Bool.or_eq_true] at h3
        rcases h3 with h3 | h3
        · simpa using h3
        · have h5 := inv'.first j (List.mem_filter.2 ⟨List.mem_range.2 hjlt, h3⟩)
          rw [getD_both hjun] at h5
          cases h5
      have hl2 : ∀ j ∈ Region.ready .any l.toArray l2, ¬ (j ∈ rs) := fun j hj => by rw [hr2'] at hj; cases hj
      have hh := headP_list (md := .any) (C := C) (H := fun i => i ∈ hs) rfl hsel hwait1 hl1 hs _ a (fun i hi => hi) inv0 h1 h
      have key := any_of_headP (Q' := Q) (g := rs.length + 1) (fun listed a' w' hw' hL => by
        obtain ⟨rfl, hL2⟩ := hL
        refine ⟨fun h0 => (by rw [hr1] at h0; cases h0), fun i hi => ?_⟩
        rw [hr1] at hi
        have hix : i = x := List.mem_singleton.1 hi
        subst hix
        refine wpOp_mono (fun a2 w2 hk => ?_) (wpOp_mid (Q := Q) (by simpa using hx) (hL2 w' hw'))
        obtain ⟨C2, hC2, hq2⟩ := hk
        have hh2 := headP_list (md := .any) (C := C2) (H := fun i => i ∈ rs) rfl hsel hwait2 hl2 rs _ a2 (fun i hi => hi) inv2 h2 hq2
        have k2 := any_of_headP (Q' := Q) (g := 0) (fun listed3 a3 w3 hw3 hL3 => by
          obtain ⟨rfl, hL4⟩ := hL3
          exact ⟨hr2', hL4 w3 hw3⟩) _ _ _ _ hC2 hh2
        simpa using k2) _ _ _ _ hC hh
      rw [hlen] at key
      exact key

end
end Go.Proofs.Ytobbjdindknkdaa
