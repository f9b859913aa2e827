/- Regions that draw their order, fourth rule: loads may come late behind operations that keep what they read (an allocation); behind those that do not, none does. -/
import Derived.Test.YtobbjdindknkdaaK3
namespace Go.Proofs.Ytobbjdindknkdaa
open Go Go.RowKit
set_option linter.unusedSimpArgs false
set_option linter.unusedVariables false

section
variable {P : Program} {ops : Array Oper} {md : Region.Mode} {C : World → Prop} {Q : Exit → Act → World → Prop}

/-- as long as none of 'bk' has come up, the world is of the class -/
def inI (C : World → Prop) (bk : List Nat) (listed : Array Bool) (w : World) : Prop := (∀ b ∈ bk, listed.getD b false = false) → C w
def wpAnyI (P : Program) (md : Region.Mode) (ops : Array Oper) (Q : Exit → Act → World → Prop) (C : World → Prop) (bk : List Nat) : Nat → Array Bool → Act → World → Prop
  | 0, listed, a, w => Region.ready md ops listed = [] ∧ Q .normal a w
  | fuel + 1, listed, a, w =>
    (Region.ready md ops listed = [] → Q .normal a w) ∧
    ∀ i ∈ Region.ready md ops listed, wpOp P ops Q i (fun a' w' => inI C bk (listed.setIfInBounds i true) w' ∧ wpAnyI P md ops Q C bk fuel (listed.setIfInBounds i true) a' w') a w
theorem any_of_anyI {bk : List Nat} : ∀ (fuel : Nat) (listed : Array Bool) (a : Act) (w : World), wpAnyI P md ops Q C bk fuel listed a w → wpAny P md ops Q fuel listed a w
  | 0, _, _, _, h => h
  | fuel + 1, _, _, _, h => ⟨h.1, fun i hi => wpOp_mono (fun a' w' h' => any_of_anyI fuel _ a' w' h'.2) (h.2 i hi)⟩

theorem anyI_first {ps bk : List Nat} {i : Nat} {oi : Oper} {v : Value} (hi : ops[i]? = some oi) (hib : i ∉ bk) (hsel : ∀ (j : Nat) (o : Oper) cs b, ops[j]? = some o → o.op ≠ .select cs b)
    (hQ : ∀ c (a a' : Act) w, Q (.panic c) a w → Q (.panic c) a' w) (hwait : ∀ listed, Closed md ops ps listed → listed.getD i true = false → (∀ j ∈ Region.ready md ops listed, j ∉ bk) ∧ ∀ b ∈ bk, listed.getD b false = false) :
    ∀ (fuel : Nat) (listed : Array Bool) (a : Act) (w : World), Closed md ops ps listed →
      (∀ j oj, ops[j]? = some oj → j ≠ i → listed.getD j true = false → (∀ e ∈ oj.after, Region.binds md e = true → e.on ≠ i) → oi.apart ops oj = true) →
      i ∈ Region.ready md ops listed → YieldsIf P ops C oi v a → inI C bk listed w →
      wpAnyI P md ops Q C bk fuel (listed.setIfInBounds i true) (a.put oi.dst v) w → wpAnyI P md ops Q C bk (fuel + 1) listed a w := by
  intro fuel
  induction fuel with
  | zero =>
    intro listed a w inv _ hr hy hS H
    have hun := (mem_ready.1 hr).1
    have hC := hS (hwait listed inv hun).2
    refine ⟨fun h => (by rw [h] at hr; cases hr), fun j hj => ?_⟩
    by_cases hji : j = i
    · subst hji; exact hy.wpOp hi hC ⟨fun _ => hC, H⟩
    · have := ready_mono hj hji
      rw [H.1] at this
      cases this
  | succ fuel ih =>
    intro listed a w inv hfree hr hy hS H
    have hun := (mem_ready.1 hr).1
    have hC := hS (hwait listed inv hun).2
    refine ⟨fun h => (by rw [h] at hr; cases hr), fun j hj => ?_⟩
    by_cases hji : j = i
    · subst hji; exact hy.wpOp hi hC ⟨fun _ => hC, H⟩
    · have h1 := H.2 j (ready_mono hj hji)
      have hjb := (hwait listed inv hun).1 j hj
      obtain ⟨hjun, oj, hoj, hall⟩ := mem_ready.1 hj
      have hnot : ∀ e ∈ oj.after, Region.binds md e = true → e.on ≠ i := fun e he hb heq => by
        have h1 := hall e he hb
        rw [heq, getD_both hun] at h1
        cases h1
      have h2 := wpOp_putIf hoj (hfree j oj hoj hji hjun hnot) (fun cs b => hsel i oi cs b hi) (fun cs b => hsel j oj cs b hoj) (fun c a w h => hQ c _ _ w h) hy h1
      have hfree' : ∀ k ok, ops[k]? = some ok → k ≠ i → (listed.setIfInBounds j true).getD k true = false →
          (∀ e ∈ ok.after, Region.binds md e = true → e.on ≠ i) → oi.apart ops ok = true := fun k ok hk hki hun hno => by
        refine hfree k ok hk hki ?_ hno
        by_cases hjk : j = k
        · subst hjk; exact hjun
        · rw [getD_set_ne true hjk] at hun; exact hun
      refine wpOp_mono (fun a' w' h3 => ?_) h2
      have hI : inI C bk (listed.setIfInBounds j true) w' := fun hb => h3.2.1 fun b hbb => by
        have hbi : i ≠ b := fun e => hib (e ▸ hbb)
        have hbj : j ≠ b := fun e => hjb (e ▸ hbb)
        have := hb b hbb
        rw [getD_set_ne false hbj] at this
        rw [getD_set_ne false hbj, getD_set_ne false hbi]
        exact this
      refine ⟨hI, ih (listed.setIfInBounds j true) a' w' (inv.set hj) hfree' (ready_mono hr (Ne.symm hji)) h3.1 hI ?_⟩
      rw [Array.setIfInBounds_comm _ _ hji]
      exact h3.2.2

/-- loads, one by one: each yields in every world of the class -/
def wpHold (P : Program) (ops : Array Oper) (C : World → Prop) (L : Act → Prop) : List Oper → Act → Prop
  | [], a => L a
  | o :: rest, a => (Region.wanted o (yielded ops a.tmps) = true ∧ ∃ v, (∀ w, C w → (execOp a.eval o).run P w = .ok (.value v) w) ∧ wpHold P ops C L rest (a.put o.dst v)) ∨
      (Region.wanted o (yielded ops a.tmps) = false ∧ wpHold P ops C L rest (a.put o.dst undef))
theorem wpHold_nil {L : Act → Prop} {a : Act} (h : L a) : wpHold P ops C L [] a := h
theorem wpHold_take {L : Act → Prop} {a : Act} {o : Oper} {rest : List Oper} {v : Value} (hw : Region.wanted o (yielded ops a.tmps) = true) (h : ∀ w, C w → (execOp a.eval o).run P w = .ok (.value v) w) (h2 : wpHold P ops C L rest (a.put o.dst v)) : wpHold P ops C L (o :: rest) a :=
  .inl ⟨hw, v, h, h2⟩
/-- operations that keep the class, in their order -/
def wpKeep (P : Program) (ops : Array Oper) (Q : Exit → Act → World → Prop) (C : World → Prop) (K : Act → World → Prop) : List Oper → Act → World → Prop
  | [], a, w => K a w
  | o :: rest, a, w => if Region.wanted o (yielded ops a.tmps) = true then o.wp P a w (fun a' w' => C w' ∧ wpKeep P ops Q C K rest a' w') Q else C w ∧ wpKeep P ops Q C K rest (a.put o.dst undef) w
theorem wpKeep_nil {K : Act → World → Prop} {a : Act} {w : World} (h : K a w) : wpKeep P ops Q C K [] a w := h
theorem wpKeep_step {K : Act → World → Prop} {a : Act} {w : World} {o : Oper} {rest : List Oper} (hw : Region.wanted o (yielded ops a.tmps) = true)
    (h : ∀ K' : Act → World → Prop, (∀ a' w', C w' → wpKeep P ops Q C K rest a' w' → K' a' w') → o.wp P a w K' Q) : wpKeep P ops Q C K (o :: rest) a w := by
  unfold wpKeep
  rw [if_pos hw]
  exact h _ fun _ _ h1 h2 => ⟨h1, h2⟩

def holdB (md : Region.Mode) (ops : Array Oper) (ps ls t1 t2 : List Nat) : Bool :=
  Region.noSelect ops && decide (ps.length + (ls.length + (t1.length + t2.length)) = ops.size) && (ls.all fun i => !(t2.contains i)) && (t1.all fun i => !(t2.contains i)) &&
  (match headB md ops ps (Array.replicate ops.size false) with
   | none => false
   | some l1 => closedB md ops l1 && (ps.all fun p => l1.getD p false) && (t2.all fun b => !(l1.getD b false)) && t2.all (fun t => ls.all fun h => needsB md ops ops.size t h) &&
     (match headB md ops ls l1 with
      | none => false
      | some l2 => seqL md ops (t1 ++ t2) l2))

theorem anyI_of_list {l : List Oper} (hl : l.toArray = ops) {bk : List Nat} : ∀ (ts : List Nat) (listed : Array Bool) (a : Act) (w : World), (∀ t ∈ ts, t ∈ bk) →
    seqL md ops ts listed = true → wpList P ops Q (pick l ts) a w → wpAnyI P md ops Q C bk ts.length listed a w
  | [], _, _, _, _, hB, h => ⟨by simpa [seqL] using hB, h⟩
  | k :: r, listed, a, w, hb, hB, h => by
    simp only [seqL, Bool.and_eq_true, decide_eq_true_eq] at hB
    refine ⟨fun h1 => (by rw [hB.1] at h1; cases h1), fun i hi => ?_⟩
    rw [hB.1] at hi
    have hik : i = k := by simpa using hi
    subst hik
    obtain ⟨hun, oi, hoi, _⟩ := mem_ready.1 (show i ∈ Region.ready md ops listed by rw [hB.1]; simp)
    have hli : l[i]? = some oi := by rw [← hl] at hoi; simpa using hoi
    rw [pick_cons hli] at h
    have hw : wpOp P ops Q i (wpList P ops Q (pick l r)) a w := by unfold wpOp; simp only [hoi]; exact h
    have hlt : i < listed.size := by
      rcases Nat.lt_or_ge i listed.size with h' | h'
      · exact h'
      · simp [Array.getElem?_eq_none h'] at hun
    refine wpOp_mono (fun a' w' h' => ⟨fun hno => ?_, anyI_of_list hl r _ a' w' (fun t ht => hb t (List.mem_cons_of_mem _ ht)) hB.2 h'⟩) hw
    have := hno i (hb i List.mem_cons_self)
    simp [hlt] at this
theorem anyI_of_keep {l : List Oper} (hl : l.toArray = ops) {bk t2 : List Nat} (hb : ∀ t ∈ t2, t ∈ bk) : ∀ (t1 : List Nat) (listed : Array Bool) (a : Act) (w : World),
    seqL md ops (t1 ++ t2) listed = true → wpKeep P ops Q C (fun a' w' => wpList P ops Q (pick l t2) a' w') (pick l t1) a w → wpAnyI P md ops Q C bk (t1.length + t2.length) listed a w
  | [], listed, a, w, hB, h => by
    rw [List.length_nil, Nat.zero_add]
    exact anyI_of_list hl t2 listed a w hb hB h
  | k :: r, listed, a, w, hB, h => by
    rw [List.cons_append] at hB
    simp only [seqL, Bool.and_eq_true, decide_eq_true_eq] at hB
    rw [List.length_cons, show r.length + 1 + t2.length = (r.length + t2.length) + 1 by omega]
    refine ⟨fun h1 => (by rw [hB.1] at h1; cases h1), fun i hi => ?_⟩
    rw [hB.1] at hi
    have hik : i = k := by simpa using hi
    subst hik
    obtain ⟨hun, oi, hoi, _⟩ := mem_ready.1 (show i ∈ Region.ready md ops listed by rw [hB.1]; simp)
    have hli : l[i]? = some oi := by rw [← hl] at hoi; simpa using hoi
    rw [pick_cons hli] at h
    have hw : wpOp P ops Q i (fun a' w' => C w' ∧ wpKeep P ops Q C (fun a' w' => wpList P ops Q (pick l t2) a' w') (pick l r) a' w') a w := by
      unfold wpKeep at h
      unfold wpOp
      simp only [hoi]
      split at h
      · rename_i hwt; rw [if_pos hwt]; exact .inl h
      · rename_i hwt; rw [if_neg hwt]; exact h
    exact wpOp_mono (fun a' w' h' => ⟨fun _ => h'.1, anyI_of_keep hl hb r _ a' w' hB.2 h'.2⟩) hw
theorem anyI_of_hold {l : List Oper} (hl : l.toArray = ops) {ps bk : List Nat} (hsel : Region.noSelect ops = true) (hQ : ∀ c (a a' : Act) w, Q (.panic c) a w → Q (.panic c) a' w) {g : Nat} {l2 : Array Bool} {L : Act → Prop} {w : World} (hC : C w)
    (hL : ∀ a, L a → wpAnyI P md ops Q C bk g l2 a w) :
    ∀ (ls : List Nat) (listed : Array Bool) (a : Act), (∀ i ∈ ls, i ∉ bk ∧ ∀ listed, Closed md ops ps listed → listed.getD i true = false → (∀ j ∈ Region.ready md ops listed, j ∉ bk) ∧ ∀ b ∈ bk, listed.getD b false = false) → Closed md ops ps listed →
      headB md ops ls listed = some l2 → wpHold P ops C L (pick l ls) a → wpAnyI P md ops Q C bk (ls.length + g) listed a w
  | [], listed, a, _, _, hB, h => by rw [List.length_nil, Nat.zero_add, Option.some.inj hB]; exact hL a h
  | i :: r, listed, a, hw, inv, hB, h => by
    unfold headB at hB
    split at hB
    · rename_i hc
      rw [Bool.and_eq_true] at hc
      have hr' : i ∈ Region.ready md ops listed := by simpa using hc.1
      obtain ⟨_, oi, hoi, _⟩ := mem_ready.1 hr'
      have hli : l[i]? = some oi := by rw [← hl] at hoi; simpa using hoi
      rw [pick_cons hli] at h
      rw [List.length_cons, show r.length + 1 + g = (r.length + g) + 1 by omega]
      obtain ⟨hib, hwi⟩ := hw i List.mem_cons_self
      rcases h with ⟨hwt, v, hv, h⟩ | ⟨hwt, h⟩
      · exact anyI_first (v := v) hoi hib (Region.noSelect_spec hsel) hQ hwi _ listed a w inv (Region.free_spec hoi hc.2) hr' (.inl ⟨hwt, hv⟩) (fun _ => hC)
          (anyI_of_hold hl hsel hQ hC hL r _ _ (fun j hj => hw j (List.mem_cons_of_mem _ hj)) (inv.set hr') hB h)
      · exact anyI_first (v := undef) hoi hib (Region.noSelect_spec hsel) hQ hwi _ listed a w inv (Region.free_spec hoi hc.2) hr' (.inr ⟨hwt, rfl⟩) (fun _ => hC)
          (anyI_of_hold hl hsel hQ hC hL r _ _ (fun j hj => hw j (List.mem_cons_of_mem _ hj)) (inv.set hr') hB h)
    · cases hB

theorem wp_region_hold' {id : Nat} {a : Act} {w : World} {l : List Oper} (C : World → Prop) (ps ls t1 t2 : List Nat) (hm : P.follows .mixedOrders = true) (hB : holdB .any l.toArray ps ls t1 t2 = true) (hC : C w.drew)
    (hQ : ∀ c (a a' : Act) w, Q (.panic c) a w → Q (.panic c) a' w)
    (h : wpPure P l.toArray (fun a1 => wpHold P l.toArray C (fun a2 => wpKeep P l.toArray Q C (fun a3 w3 => wpList P l.toArray Q (pick l t2) a3 w3) (pick l t1) a2 w.drew) (pick l ls) a1) (pick l ps) a) : (Code.region id l.toArray true).wp P Q a w := by
  unfold holdB at hB
  rw [Bool.and_eq_true, Bool.and_eq_true, Bool.and_eq_true, Bool.and_eq_true, decide_eq_true_eq] at hB
  obtain ⟨⟨⟨⟨hsel, hlen⟩, hlb⟩, htb⟩, hB⟩ := hB
  split at hB
  · cases hB
  · rename_i l1 h1
    rw [Bool.and_eq_true, Bool.and_eq_true, Bool.and_eq_true, Bool.and_eq_true] at hB
    obtain ⟨⟨⟨⟨hcl, hpl⟩, hbl⟩, hw⟩, hB⟩ := hB
    split at hB
    · cases hB
    · rename_i l2 h2
      have inv : Closed .any l.toArray ps l1 := closed_of hcl hpl
      refine wp_region_any hm ?_
      have hwait : ∀ i ∈ ls, i ∉ t2 ∧ ∀ listed, Closed .any l.toArray ps listed → listed.getD i true = false → (∀ j ∈ Region.ready .any l.toArray listed, j ∉ t2) ∧ ∀ b ∈ t2, listed.getD b false = false := by
        intro i hi
        have hib : i ∉ t2 := by
          have := List.all_eq_true.1 hlb i hi
          simpa using this
        refine ⟨hib, fun listed inv' hun => ⟨fun j hj hjb => ?_, fun b hb => ?_⟩⟩
        · obtain ⟨hjun, oj, hoj, hall⟩ := mem_ready.1 hj
          have h4 := List.all_eq_true.1 (List.all_eq_true.1 hw j hjb) i hi
          have h5 := needs_listed inv' _ _ _ h4 (fun ot hot e he hb => by
            have : ot = oj := Option.some.inj (hot.symm.trans hoj)
            subst this
            exact hall e he hb)
          rw [getD_both hun] at h5
          cases h5
        · cases hl : listed.getD b false with
          | false => rfl
          | true =>
            have h4 := List.all_eq_true.1 (List.all_eq_true.1 hw b hb) i hi
            have h5 := needs_listed inv' _ _ _ h4 (fun ot hot e he hb => inv'.down _ _ hot hl e he hb)
            rw [getD_both hun] at h5
            cases h5
      have key := any_of_pure (md := .any) (Q' := Q) (w := w.drew) (g := ls.length + (t1.length + t2.length)) rfl hQ hsel (fun a1 hq => by
        refine any_of_anyI (C := C) (bk := t2) _ _ _ _ ?_
        exact anyI_of_hold rfl hsel hQ hC (fun a2 h => anyI_of_keep rfl (fun t ht => ht) t1 l2 a2 _ hB h) ls l1 a1 hwait inv h2 hq) ps _ a h1 h
      rw [hlen] at key
      exact key
theorem wp_region_hold {id : Nat} {a : Act} {w : World} {l : List Oper} (C : World → Prop) (ps ls t1 t2 : List Nat) (hm : P.follows .mixedOrders = true) (hB : holdB .any l.toArray ps ls t1 t2 = true) (hC : C w.drew)
    (h : wpPure P l.toArray (fun a1 => wpHold P l.toArray C (fun a2 => wpKeep P l.toArray (Calm Q) C (fun a3 w3 => wpList P l.toArray (Calm Q) (pick l t2) a3 w3) (pick l t1) a2 w.drew) (pick l ls) a1) (pick l ps) a) : (Code.region id l.toArray true).wp P Q a w :=
  Code.wp_mono Calm.imp (wp_region_hold' C ps ls t1 t2 hm hB hC (fun _ _ _ _ h => False.elim h) h)
/-! ### cells that lie in a row, read as one value -/
def rangeOf (w : World) (b o : Nat) (cs : Array Value) : Prop := ∀ j v, cs[j]? = some v → w.cell? ⟨b, o + j, none⟩ = some v
theorem run_loadVar_range {ty : Nat} {d : TypeDesc} {k : Nat} (hu : P.underlying ty = some d) (hd : (match d with | .struct _ | .array _ _ => true | _ => false) = true) (hi : (P.info? ty).map (·.size) = some k) (w : World) (b o : Nat)
    (cs : Array Value) (h : rangeOf w b o cs) (hs : cs.size = k) : (loadVar ty ⟨b, o, none⟩).run P w = .ok (.agg cs) w := by
  have hl : (loadCells ⟨b, o, none⟩ cs.toList.length).run P w = .ok cs.toList.toArray w :=
    run_loadCells_list (P := P) w ⟨b, o, none⟩ cs.toList (fun j v hv => by
      rw [plain_add]
      exact h j v (by simpa using hv))
  cases hq : P.info? ty with
  | none => simp [hq] at hi
  | some i =>
    have hs' : i.size = cs.size := by rw [hs]; simpa [hq] using hi
    have hagg : (isAgg ty).run P w = .ok true w := by
      unfold isAgg
      rw [Sem.run_bind, run_underlying hu w]
      cases d <;> simp_all
    simp only [Array.length_toList, Array.toArray_toList] at hl
    simp [loadVar, Sem.run_bind, hagg, sizeOf, typeInfo, hq, hs', hl]
theorem wpHold_range {L : Act → Prop} {a : Act} {op : Oper} {rest : List Oper} {ty : Nat} {d : TypeDesc} {k : Nat} (hu : P.underlying ty = some d) (hd : (match d with | .struct _ | .array _ _ => true | _ => false) = true) (hi : (P.info? ty).map (·.size) = some k)
    {x : Operand} {b o : Nat} {cs : Array Value} (hw : Region.wanted op (yielded ops a.tmps) = true) (ho : op.op = .load ty x) (hx : a.eval x = .pointer (some ⟨b, o, none⟩)) (hr : ∀ w, C w → rangeOf w b o cs) (hs : cs.size = k)
    (h : wpHold P ops C L rest (a.put op.dst (.agg cs))) : wpHold P ops C L (op :: rest) a :=
  wpHold_take hw (fun w hw => by
    unfold execOp
    simp only [ho, hx, Instr.loadAt, Instr.sureAddr, Sem.run_bind, Sem.run_pure, Result.andThen_ok, run_loadVar_range hu hd hi w b o cs (hr w hw) hs]) h
theorem quiet_range {K : Act → Prop} {a : Act} {op : Oper} {ty : Nat} {d : TypeDesc} {k : Nat} (hu : P.underlying ty = some d) (hd : (match d with | .struct _ | .array _ _ => true | _ => false) = true) (hi : (P.info? ty).map (·.size) = some k)
    {x : Operand} {b o : Nat} {cs : Array Value} (ho : op.op = .load ty x) (hx : a.eval x = .pointer (some ⟨b, o, none⟩)) (hr : ∀ w, C w → rangeOf w b o cs) (hs : cs.size = k)
    (h : K (a.put op.dst (.agg cs))) : op.quiet P a C K :=
  quiet_val (fun w hw => by
    unfold execOp
    simp only [ho, hx, Instr.loadAt, Instr.sureAddr, Sem.run_bind, Sem.run_pure, Result.andThen_ok, run_loadVar_range hu hd hi w b o cs (hr w hw) hs]) h
theorem wpList_range {rest : List Oper} {a : Act} {w : World} {op : Oper} {ty : Nat} {d : TypeDesc} {k : Nat} (hu : P.underlying ty = some d) (hd : (match d with | .struct _ | .array _ _ => true | _ => false) = true) (hi : (P.info? ty).map (·.size) = some k)
    {x : Operand} {b o : Nat} {cs : Array Value} (hw : Region.wanted op (yielded ops a.tmps) = true) (ho : op.op = .load ty x) (hx : a.eval x = .pointer (some ⟨b, o, none⟩)) (hr : rangeOf w b o cs) (hs : cs.size = k)
    (h : wpList P ops Q rest (a.put op.dst (.agg cs)) w) : wpList P ops Q (op :: rest) a w := by
  refine wpList_wanted hw fun _ hK => ?_
  unfold Oper.wp execOp
  simp only [ho, hx, Instr.loadAt, Instr.sureAddr, Sem.run_bind, Sem.run_pure, Result.andThen_ok, run_loadVar_range hu hd hi w b o cs hr hs]
  exact hK _ _ h
theorem rangeOf_since {w w' : World} {b o : Nat} {cs : Array Value} (h : rangeOf w b o cs) (hb : b < w.heap.size) (hs : Below w.heap.size w w') : rangeOf w' b o cs := fun j v hv => (hs.cell (p := ⟨b, o + j, none⟩) hb).trans (h j v hv)
end
end Go.Proofs.Ytobbjdindknkdaa
