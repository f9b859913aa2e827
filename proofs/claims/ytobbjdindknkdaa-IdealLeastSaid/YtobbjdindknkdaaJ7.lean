/- Links: nodes, costs, set, made. -/
import Derived.Test.YtobbjdindknkdaaJ6
namespace Go.Proofs.Ytobbjdindknkdaa
open Go Go.RowKit
attribute [local irreducible] wpQuiet wpPure wpHold wpKeep wpQuietS
set_option linter.unusedSimpArgs false
set_option linter.unusedVariables false

/-! ### links -/
structure LinksAt (w : World) (lb r : Nat) (n : Int) (E : List Link) : Prop where
  head : rowAt w lb = some #[.int .i64 n, .map (some r)]
  map : MapAt w r E
theorem mapAt_lt {w : World} {r : Nat} {E : List Link} (h : MapAt w r E) : r < w.heap.size := by
  obtain ⟨es, clk, hb, _⟩ := h
  exact (Array.getElem?_eq_some_iff.1 hb).1
theorem mapAt_block {w w' : World} {r : Nat} {E : List Link} (h : MapAt w r E) (hb : w'.heap[r]? = w.heap[r]?) : MapAt w' r E := by
  obtain ⟨es, clk, h1, h2⟩ := h
  exact ⟨es, clk, hb.trans h1, h2⟩
theorem LinksAt.below {w w' : World} {lb r : Nat} {n : Int} {E : List Link} (h : LinksAt w lb r n E) (hb : Below w.heap.size w w') : LinksAt w' lb r n E :=
  ⟨row_call hb h.head, mapAt_block h.map (hb.block r (mapAt_lt h.map))⟩
theorem LinksAt.foot {own : Nat → Prop} {w w' : World} {lb r : Nat} {n : Int} {E : List Link} (h : LinksAt w lb r n E) (hf : Foot own w w') (h1 : ¬ own lb) (h2 : ¬ own r) : LinksAt w' lb r n E :=
  ⟨hf.row h.head h1, mapAt_block h.map (hf.block r (mapAt_lt h.map) h2)⟩
theorem LinksAt.ne {w : World} {lb r : Nat} {n : Int} {E : List Link} (h : LinksAt w lb r n E) : lb ≠ r := by
  intro e
  obtain ⟨es, clk, hb, _⟩ := h.map
  obtain ⟨t, ht⟩ := rowAt_some h.head
  rw [e] at ht
  rw [ht] at hb
  cases hb
def nodeB (n a : Int) : Bool := decide (0 ≤ a ∧ a < n)

theorem nodes_any {w : World} {lb r : Nat} {n : Int} {E : List Link} (h : LinksAt w lb r n E) : Calls Try.prog 24 #[.pointer (some ⟨lb, 0, none⟩)] w fun e w' => e = .returned (.int .i64 n) ∧ w = w' := by
  have c0 := (cell_row h.head 0).trans rfl
  simp only [List.getElem?_toArray, List.getElem?_cons_zero] at c0
  clear h
  go_enter Try.func24, Try.ntmps24
  go_wp2
  go_ret
  exact ⟨rfl, rfl⟩
theorem node_any {w : World} {lb r : Nat} {n : Int} {E : List Link} (h : LinksAt w lb r n E) (a : Int) : Calls Try.prog 45 #[.pointer (some ⟨lb, 0, none⟩), .int .i64 a] w fun e w' => e = .returned (.bool (nodeB n a)) ∧ w = w' := by
  have HN := Lib.hid (nodes_any h)
  clear h
  by_cases h0 : 0 ≤ a
  · have HE : Hid (nodeB n a = decide (a < n)) := Lib.hid (by unfold nodeB; rw [Bool.eq_iff_iff]; simp [h0])
    go_enter Try.func45, Try.ntmps45
    go_wp2_with (go_at_call 24; refine HN.out.mono ?_; rintro e w1 ⟨rfl, rfl⟩)
    go_ret
    exact ⟨by rw [HE.out]; rfl, rfl⟩
  · have HE : Hid (nodeB n a = false) := Lib.hid (by unfold nodeB; simp [h0])
    go_enter Try.func45, Try.ntmps45
    go_wp2
    go_ret
    exact ⟨by rw [HE.out]; rfl, rfl⟩
def bothS (n a b : Int) : Int := if nodeB n a && nodeB n b && decide (a ≠ b) then 0 else 1
set_option maxHeartbeats 400000 in
theorem both_any {w : World} {lb r : Nat} {n : Int} {E : List Link} (h : LinksAt w lb r n E) (a b : Int) : Calls Try.prog 37 #[.pointer (some ⟨lb, 0, none⟩), .int .i64 a, .int .i64 b] w fun e w' => e = .returned (.int .i64 (bothS n a b)) ∧ w = w' := by
  have HA := Lib.hid (node_any h a)
  have HB := Lib.hid (node_any h b)
  clear h
  cases ha : nodeB n a with
  | false =>
    have HE : Hid (bothS n a b = 1) := Lib.hid (by unfold bothS; simp [ha])
    rw [ha] at HA
    clear ha
    go_enter Try.func37, Try.ntmps37
    go_wp2_with (go_at_call 45; with_reducible refine HA.out.mono ?_; rintro e w1 ⟨rfl, rfl⟩)
    go_ret
    exact ⟨by rw [HE.out]; rfl, rfl⟩
  | true =>
    rw [ha] at HA
    cases hb : nodeB n b with
    | false =>
      have HE : Hid (bothS n a b = 1) := Lib.hid (by unfold bothS; simp [hb])
      rw [hb] at HB
      clear ha hb
      go_enter Try.func37, Try.ntmps37
      go_wp2_with (first
        | (go_at_call 45; with_reducible refine HA.out.mono ?_; rintro e w1 ⟨rfl, rfl⟩)
        | (go_at_call 45; with_reducible refine HB.out.mono ?_; rintro e w1 ⟨rfl, rfl⟩))
      go_ret
      exact ⟨by rw [HE.out]; rfl, rfl⟩
    | true =>
      rw [hb] at HB
      by_cases hab : a = b
      · have HE : Hid (bothS n a b = 1) := Lib.hid (by unfold bothS; simp [hab])
        have hd : (a == b) = true := by simpa using hab
        clear ha hb
        go_enter Try.func37, Try.ntmps37
        go_wp2_with (first
          | (go_at_call 45; with_reducible refine HA.out.mono ?_; rintro e w1 ⟨rfl, rfl⟩)
          | (go_at_call 45; with_reducible refine HB.out.mono ?_; rintro e w1 ⟨rfl, rfl⟩))
        go_ret
        exact ⟨by rw [HE.out]; rfl, rfl⟩
      · have HE : Hid (bothS n a b = 0) := Lib.hid (by unfold bothS; simp [ha, hb, hab])
        have hd : (a == b) = false := by simpa using hab
        clear ha hb
        go_enter Try.func37, Try.ntmps37
        go_wp2_with (first
          | (go_at_call 45; with_reducible refine HA.out.mono ?_; rintro e w1 ⟨rfl, rfl⟩)
          | (go_at_call 45; with_reducible refine HB.out.mono ?_; rintro e w1 ⟨rfl, rfl⟩))
        go_ret
        exact ⟨by rw [HE.out]; rfl, rfl⟩
theorem of_any (a b : Int) (w : World) : Calls Try.prog 38 #[.int .i64 a, .int .i64 b] w fun e w' => e = .returned (pk (min a b) (max a b)) ∧ Below w.heap.size w w' := by
  go_enter Try.func38, Try.ntmps38
  go_wp2
  exact bodyPost_ret (v := pk (min a b) (max a b)) (by simp [results, Try.results38, go_sem, pk]) rfl ⟨rfl, below1 _ _⟩

section
variable {ops : Array Oper} {rest : List Oper} {o : Oper} {a : Act} {w : World} {Q : Exit → Act → World → Prop} {C : World → Prop} {K : Act → Prop}
theorem wpList_update87 {x y c : Int} {r : Nat} {E : List Link} {m k v : Operand} (hw : Region.wanted o (yielded ops a.tmps) = true) (ho : o.op = .mapUpdate 87 m k v) (hm : a.eval m = .map (some r)) (hk : a.eval k = pk x y) (hv : a.eval v = .int .i64 c) (hr : MapAt w r E)
    (h : ∀ w', MapAt w' r (setE E x y c) → (∀ own : Nat → Prop, own r → Foot own w w') → w'.heap.size = w.heap.size → wpList Try.prog ops Q rest (a.put o.dst undef) w') : wpList Try.prog ops Q (o :: rest) a w := by
  refine wpList_wanted hw fun _ hK => ?_
  obtain ⟨w', h1, h2, h3, h4⟩ := run_update87 x y c w r E hr
  unfold Oper.wp execOp
  simp only [ho, hm, hk, hv, Sem.run_bind, h1, Result.andThen_ok, Sem.run_pure]
  exact hK _ _ (h w' h2 h3 h4)
theorem wpList_makemap {ty : TypeId} (hw : Region.wanted o (yielded ops a.tmps) = true) (ho : o.op = .makeMap ty none)
    (h : wpList Try.prog ops Q rest (a.put o.dst (.map (some w.heap.size))) (w.alloc (.map #[] 0))) : wpList Try.prog ops Q (o :: rest) a w := by
  refine wpList_wanted hw fun _ hK => ?_
  have h1 : (Instr.makeMap ty none).run Try.prog w = .ok (.map (some w.heap.size)) (w.alloc (.map #[] 0)) := by simp [Instr.makeMap]
  unfold Oper.wp execOp
  simp only [ho, Sem.run_bind, h1, Result.andThen_ok, Sem.run_pure]
  exact hK _ _ h
theorem quiet_lookup87 {x y : Int} {r : Nat} {E : List Link} {m k : Operand} (ho : o.op = .lookup 87 m k true) (hm : a.eval m = .map (some r)) (hk : a.eval k = pk x y) (hr : ∀ w, C w → MapAt w r E)
    (h : K (a.put o.dst (.tuple #[.int .i64 (((idxE x y E 0).map (·.2)).getD 0), .bool (idxE x y E 0).isSome]))) : o.quiet Try.prog a C K :=
  quiet_val (fun w hw => by
    unfold execOp
    simp only [ho, hm, hk, Sem.run_bind, run_lookup87 x y w r E (hr w hw), Result.andThen_ok, Sem.run_pure]) h
end
def setS (n : Int) (E : List Link) (a b c : Int) : Int × List Link := if bothS n a b ≠ 0 then (bothS n a b, E) else if 128 ≤ c ∧ c < 65535 then (0, setE E (min a b) (max a b) c) else (1, E)
set_option maxHeartbeats 400000 in
theorem set_any {w : World} {lb r : Nat} {n : Int} {E : List Link} (h : LinksAt w lb r n E) (a b c : Int) : Calls Try.prog 20 #[.pointer (some ⟨lb, 0, none⟩), .int .i64 a, .int .i64 b, .int .i64 c] w fun e w' =>
    e = .returned (.int .i64 (setS n E a b c).1) ∧ LinksAt w' lb r n (setS n E a b c).2 ∧ Foot (fun q => q = r) w w' := by
  have HB := Lib.hid (both_any h a b)
  by_cases hb : bothS n a b = 0
  · rw [hb] at HB
    by_cases hc : 128 ≤ c ∧ c < 65535
    · have HE : Hid (setS n E a b c = (0, setE E (min a b) (max a b) c)) := Lib.hid (by unfold setS; rw [if_neg (by simp [hb]), if_pos hc])
      have c1 : ∀ w', Since w w' → w'.cell? ⟨lb, 1, none⟩ = some (.map (some r)) := fun w' hs => later hs h.head rfl
      have HH := Lib.hid h
      have HO := Lib.hid fun w => of_any a b w
      obtain ⟨h0, h1⟩ := hc
      clear h hb
      go_enter Try.func20, Try.ntmps20
      go_wp2_with (go_at_call 37; refine HB.out.mono ?_; rintro e w1 ⟨rfl, rfl⟩)
      refine wp_region_flow (Since _) 8 (by kernel_rfl) (by kernel_rfl) (Since.drew _) ?_; simp only [List.take_succ_cons, List.take_zero, List.drop_succ_cons, List.drop_zero]
      (refine wpQuiet_step (fun K hK => ?_); rw [if_pos (by rfl)]; apply quiet_val; (intro wq hwq; go_simp; (try go_ints); exact rfl); refine hK _ ?_; clear hK K; simp only [Act.put, List.setIfInBounds_toArray, List.set_cons_zero, List.set_cons_succ])
      (refine wpQuiet_step (fun K hK => ?_); rw [if_pos (by rfl)]; apply quiet_val; (intro wq hwq; go_simp; (try go_ints); exact rfl); refine hK _ ?_; clear hK K; simp only [Act.put, List.setIfInBounds_toArray, List.set_cons_zero, List.set_cons_succ])
      (refine wpQuiet_step (fun K hK => ?_); rw [if_pos (by rfl)]; apply quiet_val; (intro wq hwq; go_simp; (try go_ints); exact rfl); refine hK _ ?_; clear hK K; simp only [Act.put, List.setIfInBounds_toArray, List.set_cons_zero, List.set_cons_succ])
      (refine wpQuiet_step (fun K hK => ?_); rw [if_pos (by rfl)]; apply quiet_val; (intro wq hwq; go_simp; (try go_ints); exact rfl); refine hK _ ?_; clear hK K; simp only [Act.put, List.setIfInBounds_toArray, List.set_cons_zero, List.set_cons_succ])
      (refine wpQuiet_step (fun K hK => ?_); rw [if_pos (by rfl)]; apply quiet_val; (intro wq hwq; go_simp; (try go_ints); exact rfl); refine hK _ ?_; clear hK K; simp only [Act.put, List.setIfInBounds_toArray, List.set_cons_zero, List.set_cons_succ])
      (refine wpQuiet_step (fun K hK => ?_); rw [if_pos (by rfl)]; apply quiet_val; (intro wq hwq; go_simp; (try go_ints); exact rfl); refine hK _ ?_; clear hK K; simp only [Act.put, List.setIfInBounds_toArray, List.set_cons_zero, List.set_cons_succ])
      (refine wpQuiet_step (fun K hK => ?_); rw [if_pos (by rfl)]; apply quiet_call; (intro wq; go_simp; exact ⟨rfl, rfl⟩); (intro wq hwq; exact Since.call hwq (HO.out _)); refine hK _ ?_; clear hK K; simp only [Act.put, List.setIfInBounds_toArray, List.set_cons_zero, List.set_cons_succ])
      (refine wpQuiet_step (fun K hK => ?_); rw [if_pos (by rfl)]; apply quiet_val; (intro wq hwq; go_simp; (try go_ints); exact rfl); refine hK _ ?_; clear hK K; simp only [Act.put, List.setIfInBounds_toArray, List.set_cons_zero, List.set_cons_succ])
      refine wpQuiet_nil ?_; intro wn hwn
      have HW := Lib.hid hwn
      clear hwn c1
      go_wp2_with (apply wpList_update87; exact rfl; exact rfl; exact rfl; exact rfl; exact rfl; exact (HH.out.below HW.out).map; intro w2 hm2 hf2 hs2; simp only [Act.put, List.setIfInBounds_toArray, List.set_cons_zero, List.set_cons_succ])
      go_ret
      have h0' := HH.out.below HW.out
      have F2 := hf2 (fun q => q = r) rfl
      rw [HE.out]
      exact ⟨rfl, ⟨F2.row h0'.head h0'.ne, hm2⟩, (Foot.of_below HW.out).then F2 (fun q _ h => h)⟩
    · have HE : Hid (setS n E a b c = (1, E)) := Lib.hid (by unfold setS; rw [if_neg (by simp [hb]), if_neg hc])
      have HH := Lib.hid h
      have hc2 : c < 128 ∨ (¬ c < 128 ∧ 65535 ≤ c) := by omega
      clear h hb hc
      rcases hc2 with hc2 | ⟨hc2, hc3⟩
      all_goals
        go_enter Try.func20, Try.ntmps20
        go_wp2_with (go_at_call 37; refine HB.out.mono ?_; rintro e w1 ⟨rfl, rfl⟩)
        go_ret
        rw [HE.out]
        exact ⟨rfl, HH.out, Foot.refl _ _⟩
  · have HE : Hid (setS n E a b c = (bothS n a b, E)) := Lib.hid (by unfold setS; rw [if_pos hb])
    have HH := Lib.hid h
    clear h
    generalize bothS n a b = z at *
    go_enter Try.func20, Try.ntmps20
    go_wp2_with (go_at_call 37; refine HB.out.mono ?_; rintro e w1 ⟨rfl, rfl⟩)
    go_ret
    rw [HE.out]
    exact ⟨rfl, HH.out, Foot.refl _ _⟩
def costOf (E : List Link) (a b : Int) : Option Int := (idxE (min a b) (max a b) E 0).map (·.2)
def costS (n : Int) (E : List Link) (a b : Int) : Int × Int := if nodeB n a && nodeB n b then (match costOf E a b with | some c => (c, 0) | none => (0, 8)) else (0, 1)
set_option maxHeartbeats 400000 in
theorem Cost_any {w : World} {lb r : Nat} {n : Int} {E : List Link} (h : LinksAt w lb r n E) (a b : Int) : Calls Try.prog 40 #[.pointer (some ⟨lb, 0, none⟩), .int .i64 a, .int .i64 b] w fun e w' =>
    e = .returned (.tuple #[.int .i64 (costS n E a b).1, .int .i64 (costS n E a b).2]) ∧ Below w.heap.size w w' := by
  have HA := Lib.hid (node_any h a)
  have HBn := Lib.hid (node_any h b)
  cases ha : nodeB n a with
  | false =>
    have HE : Hid (costS n E a b = (0, 1)) := Lib.hid (by unfold costS; simp [ha])
    rw [ha] at HA
    clear ha h
    go_enter Try.func40, Try.ntmps40
    go_wp2_with (go_at_call 45; with_reducible refine HA.out.mono ?_; rintro e w1 ⟨rfl, rfl⟩)
    go_ret2
    exact ⟨by rw [HE.out]; rfl, Below.refl _ _⟩
  | true =>
    rw [ha] at HA
    cases hb : nodeB n b with
    | false =>
      have HE : Hid (costS n E a b = (0, 1)) := Lib.hid (by unfold costS; simp [hb])
      rw [hb] at HBn
      clear ha hb h
      go_enter Try.func40, Try.ntmps40
      go_wp2_with (first
        | (go_at_call 45; with_reducible refine HA.out.mono ?_; rintro e w1 ⟨rfl, rfl⟩)
        | (go_at_call 45; with_reducible refine HBn.out.mono ?_; rintro e w1 ⟨rfl, rfl⟩))
      go_ret2
      exact ⟨by rw [HE.out]; rfl, Below.refl _ _⟩
    | true =>
      rw [hb] at HBn
      have HC : Hid (costS n E a b = (match (idxE (min a b) (max a b) E 0) with | some q => (q.2, 0) | none => (0, 8))) := Lib.hid (by unfold costS costOf; simp [ha, hb]; cases idxE (min a b) (max a b) E 0 <;> rfl)
      have c1 : ∀ w', Since w w' → w'.cell? ⟨lb, 1, none⟩ = some (.map (some r)) := fun w' hs => later hs h.head rfl
      have HH := Lib.hid h
      have HO := Lib.hid fun w => of_any a b w
      clear h ha hb
      go_enter Try.func40, Try.ntmps40
      go_wp2_with (first
        | (go_at_call 45; with_reducible refine HA.out.mono ?_; rintro e w1 ⟨rfl, rfl⟩)
        | (go_at_call 45; with_reducible refine HBn.out.mono ?_; rintro e w1 ⟨rfl, rfl⟩))
      refine wp_region_calm (Since _) (by kernel_rfl) (by kernel_rfl) (Since.drew _) ?_
      (refine wpQuiet_step (fun K hK => ?_); rw [if_pos (by rfl)]; apply quiet_val; (intro wq hwq; go_simp; (try go_ints); exact rfl); refine hK _ ?_; clear hK K; simp only [Act.put, List.setIfInBounds_toArray, List.set_cons_zero, List.set_cons_succ])
      (refine wpQuiet_step (fun K hK => ?_); rw [if_pos (by rfl)]; apply quiet_val; (intro wq hwq; go_simp; (try go_ints); exact rfl); refine hK _ ?_; clear hK K; simp only [Act.put, List.setIfInBounds_toArray, List.set_cons_zero, List.set_cons_succ])
      (refine wpQuiet_step (fun K hK => ?_); rw [if_pos (by rfl)]; apply quiet_val; (intro wq hwq; go_simp; (try go_ints); exact rfl); refine hK _ ?_; clear hK K; simp only [Act.put, List.setIfInBounds_toArray, List.set_cons_zero, List.set_cons_succ])
      (refine wpQuiet_step (fun K hK => ?_); rw [if_pos (by rfl)]; apply quiet_val; (intro wq hwq; go_simp; (try go_ints); exact rfl); refine hK _ ?_; clear hK K; simp only [Act.put, List.setIfInBounds_toArray, List.set_cons_zero, List.set_cons_succ])
      (refine wpQuiet_step (fun K hK => ?_); rw [if_pos (by rfl)]; apply quiet_val; (intro wq hwq; go_simp; (try go_ints); exact rfl); refine hK _ ?_; clear hK K; simp only [Act.put, List.setIfInBounds_toArray, List.set_cons_zero, List.set_cons_succ])
      (refine wpQuiet_step (fun K hK => ?_); rw [if_pos (by rfl)]; apply quiet_val; (intro wq hwq; go_simp; (try go_ints); exact rfl); refine hK _ ?_; clear hK K; simp only [Act.put, List.setIfInBounds_toArray, List.set_cons_zero, List.set_cons_succ])
      (refine wpQuiet_step (fun K hK => ?_); rw [if_pos (by rfl)]; apply quiet_call; (intro wq; go_simp; exact ⟨rfl, rfl⟩); (intro wq hwq; exact Since.call hwq (HO.out _)); refine hK _ ?_; clear hK K; simp only [Act.put, List.setIfInBounds_toArray, List.set_cons_zero, List.set_cons_succ])
      (refine wpQuiet_step (fun K hK => ?_); rw [if_pos (by rfl)]; refine quiet_lookup87 (E := E) rfl rfl rfl (fun w' h => (HH.out.below h).map) ?_; refine hK _ ?_; clear hK K; simp only [Act.put, List.setIfInBounds_toArray, List.set_cons_zero, List.set_cons_succ])
      generalize idxE (min a b) (max a b) E 0 = z at *
      cases z with
      | none =>
        have HC2 : Hid (costS n E a b = (0, 8)) := HC
        simp only [Option.map_none, Option.getD_none, Option.isSome_none]
        (refine wpQuiet_step (fun K hK => ?_); rw [if_pos (by rfl)]; apply quiet_val; (intro wq hwq; go_simp; (try go_ints); exact rfl); refine hK _ ?_; clear hK K; simp only [Act.put, List.setIfInBounds_toArray, List.set_cons_zero, List.set_cons_succ])
        (refine wpQuiet_step (fun K hK => ?_); rw [if_pos (by rfl)]; apply quiet_val; (intro wq hwq; go_simp; (try go_ints); exact rfl); refine hK _ ?_; clear hK K; simp only [Act.put, List.setIfInBounds_toArray, List.set_cons_zero, List.set_cons_succ])
        (refine wpQuiet_step (fun K hK => ?_); rw [if_pos (by rfl)]; apply quiet_val; (intro wq hwq; go_simp; (try go_ints); exact rfl); refine hK _ ?_; clear hK K; simp only [Act.put, List.setIfInBounds_toArray, List.set_cons_zero, List.set_cons_succ])
        (refine wpQuiet_step (fun K hK => ?_); rw [if_pos (by rfl)]; apply quiet_val; (intro wq hwq; go_simp; (try go_ints); exact rfl); refine hK _ ?_; clear hK K; simp only [Act.put, List.setIfInBounds_toArray, List.set_cons_zero, List.set_cons_succ])
        (refine wpQuiet_step (fun K hK => ?_); rw [if_pos (by rfl)]; apply quiet_val; (intro wq hwq; go_simp; (try go_ints); exact rfl); refine hK _ ?_; clear hK K; simp only [Act.put, List.setIfInBounds_toArray, List.set_cons_zero, List.set_cons_succ])
        refine wpQuiet_nil ?_; intro wn hwn
        go_wp2
        go_ret2
        exact ⟨by rw [HC2.out]; rfl, hwn⟩
      | some z =>
        have HC2 : Hid (costS n E a b = (z.2, 0)) := HC
        simp only [Option.map_some, Option.getD_some, Option.isSome_some]
        (refine wpQuiet_step (fun K hK => ?_); rw [if_pos (by rfl)]; apply quiet_val; (intro wq hwq; go_simp; (try go_ints); exact rfl); refine hK _ ?_; clear hK K; simp only [Act.put, List.setIfInBounds_toArray, List.set_cons_zero, List.set_cons_succ])
        (refine wpQuiet_step (fun K hK => ?_); rw [if_pos (by rfl)]; apply quiet_val; (intro wq hwq; go_simp; (try go_ints); exact rfl); refine hK _ ?_; clear hK K; simp only [Act.put, List.setIfInBounds_toArray, List.set_cons_zero, List.set_cons_succ])
        (refine wpQuiet_step (fun K hK => ?_); rw [if_pos (by rfl)]; apply quiet_val; (intro wq hwq; go_simp; (try go_ints); exact rfl); refine hK _ ?_; clear hK K; simp only [Act.put, List.setIfInBounds_toArray, List.set_cons_zero, List.set_cons_succ])
        (refine wpQuiet_step (fun K hK => ?_); rw [if_pos (by rfl)]; apply quiet_val; (intro wq hwq; go_simp; (try go_ints); exact rfl); refine hK _ ?_; clear hK K; simp only [Act.put, List.setIfInBounds_toArray, List.set_cons_zero, List.set_cons_succ])
        (refine wpQuiet_step (fun K hK => ?_); rw [if_pos (by rfl)]; apply quiet_val; (intro wq hwq; go_simp; (try go_ints); exact rfl); refine hK _ ?_; clear hK K; simp only [Act.put, List.setIfInBounds_toArray, List.set_cons_zero, List.set_cons_succ])
        refine wpQuiet_nil ?_; intro wn hwn
        go_wp2
        go_ret2
        exact ⟨by rw [HC2.out]; rfl, hwn⟩
theorem new_any (n : Int) (hn : 1 ≤ n ∧ n ≤ 64) (w : World) : Calls Try.prog 19 #[.int .i64 n] w fun e w' => ∃ lb r, e = .returned (.tuple #[.pointer (some ⟨lb, 0, none⟩), .int .i64 0]) ∧ LinksAt w' lb r n [] ∧ Below w.heap.size w w' ∧ w.heap.size ≤ lb ∧ w.heap.size ≤ r := by
  obtain ⟨h0, h1⟩ := hn
  go_enter Try.func19, Try.ntmps19
  go_wp2_with (apply wpList_makemap; exact rfl; exact rfl; simp only [Act.put, List.setIfInBounds_toArray, List.set_cons_zero, List.set_cons_succ])
  refine bodyPost_ret (v := .tuple #[.pointer (some ⟨w.heap.size + 1, 0, none⟩), .int .i64 0]) (by simp [results, Try.results19, go_sem]) rfl ⟨w.heap.size + 1, w.heap.size, rfl, ⟨?_, #[], 0, ?_, rfl⟩, ((Below.refl _ _).alloc (Nat.le_refl _) _).alloc (by simp) _, by omega, Nat.le_refl _⟩
  · have e : ((w.alloc (.map #[] 0)).alloc (.cells #[.int .i64 n, .map (some w.heap.size)] 89)).heap[w.heap.size + 1]? = some (.cells #[.int .i64 n, .map (some w.heap.size)] 89) := by
      show ((w.heap.push _).push _)[w.heap.size + 1]? = _
      rw [Array.getElem?_push, if_pos (by simp)]
    unfold rowAt
    rw [e]
    rfl
  · show ((w.heap.push _).push _)[w.heap.size]? = _
    rw [Array.getElem?_push, if_neg (by simp), Array.getElem?_push, if_pos rfl]

end Go.Proofs.Ytobbjdindknkdaa
