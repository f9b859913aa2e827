/- Regions that draw their order, third rule: some operations that no world turns are taken first, then those that are quiet in a class of worlds, then the rest in the one order that is left; each named by its number. -/
import Derived.Test.YtobbjdindknkdaaK2
import Derived.OrdersHeld
namespace Go.Proofs.Ytobbjdindknkdaa
open Go Go.RowKit
set_option linter.unusedSimpArgs false
set_option linter.unusedVariables false

def pick (l : List Oper) : List Nat → List Oper
  | [] => []
  | i :: r => match l[i]? with
    | some o => o :: pick l r
    | none => pick l r

section
variable {P : Program} {ops : Array Oper} {md : Region.Mode} {C : World → Prop}

/-- what is listed is closed downwards -/
def closedB (md : Region.Mode) (ops : Array Oper) (listed : Array Bool) : Bool :=
  (List.range ops.size).all fun j => !(listed.getD j false) || (match ops[j]? with
    | some oj => oj.after.all fun e => !(Region.binds md e) || listed.getD e.on false
    | none => true)
/-- does t wait for h, at some removes? -/
def needsB (md : Region.Mode) (ops : Array Oper) : Nat → Nat → Nat → Bool
  | 0, _, _ => false
  | f + 1, t, h => Region.waitsFor md ops t h || (List.range ops.size).any fun j => Region.waitsFor md ops t j && needsB md ops f j h
def headB (md : Region.Mode) (ops : Array Oper) : List Nat → Array Bool → Option (Array Bool)
  | [], listed => some listed
  | i :: r, listed => if (Region.ready md ops listed).contains i && Region.free md ops listed i then headB md ops r (listed.setIfInBounds i true) else none
def seqL (md : Region.Mode) (ops : Array Oper) : List Nat → Array Bool → Bool
  | [], listed => (Region.ready md ops listed).isEmpty
  | i :: r, listed => decide (Region.ready md ops listed = [i]) && seqL md ops r (listed.setIfInBounds i true)
/-- the three lists serve -/
def pickB (md : Region.Mode) (ops : Array Oper) (ps hs ts : List Nat) : Bool :=
  Region.noSelect ops && decide (ps.length + (hs.length + ts.length) = ops.size) &&
  (match headB md ops ps (Array.replicate ops.size false) with
   | none => false
   | some l1 => closedB md ops l1 && (ps.all fun p => l1.getD p false) && (List.range ops.size).all (fun t => (ps ++ hs).contains t || hs.all fun h => needsB md ops ops.size t h) &&
     (match headB md ops hs l1 with
      | none => false
      | some l2 => (hs.all fun p => l2.getD p false) && seqL md ops ts l2))

/-- closed downwards, and the first ones are listed -/
structure Closed (md : Region.Mode) (ops : Array Oper) (ps : List Nat) (listed : Array Bool) : Prop where
  down : ∀ j oj, ops[j]? = some oj → listed.getD j false = true → ∀ e ∈ oj.after, Region.binds md e = true → listed.getD e.on false = true
  first : ∀ p ∈ ps, listed.getD p false = true
theorem closed_of {ps : List Nat} {listed : Array Bool} (h : closedB md ops listed = true) (hp : (ps.all fun p => listed.getD p false) = true) : Closed md ops ps listed := by
  refine ⟨fun j oj hj hl e he hb => ?_, fun p hp' => List.all_eq_true.1 hp p hp'⟩
  have hlt : j < ops.size := (Array.getElem?_eq_some_iff.1 hj).1
  have h1 := List.all_eq_true.1 h j (List.mem_range.2 hlt)
  rw [hl, hj] at h1
  simp only [Bool.not_true, Bool.false_or] at h1
  have h2 := Array.all_eq_true'.1 h1 e he
  rw [hb] at h2
  simpa using h2
theorem Closed.set {ps : List Nat} {i : Nat} {listed : Array Bool} (inv : Closed md ops ps listed) (hi : i ∈ Region.ready md ops listed) : Closed md ops ps (listed.setIfInBounds i true) := by
  obtain ⟨_, oi, hoi, hall⟩ := mem_ready.1 hi
  refine ⟨fun j oj hj hl e he hb => ?_, fun p hp => getD_set_true (inv.first p hp)⟩
  by_cases hij : i = j
  · subst hij
    have : oj = oi := Option.some.inj (hj.symm.trans hoi)
    subst this
    exact getD_set_true (hall e he hb)
  · rw [getD_set_ne false hij] at hl
    exact getD_set_true (inv.down j oj hj hl e he hb)
theorem needs_listed {ps : List Nat} {listed : Array Bool} (inv : Closed md ops ps listed) : ∀ (f t h : Nat), needsB md ops f t h = true → (∀ ot, ops[t]? = some ot → ∀ e ∈ ot.after, Region.binds md e = true → listed.getD e.on false = true) → listed.getD h false = true
  | 0, t, h, hn, _ => by cases hn
  | f + 1, t, h, hn, ha => by
    unfold needsB at hn
    rw [Bool.or_eq_true] at hn
    rcases hn with hn | hn
    · obtain ⟨ot, hot, e, he, hb, hon⟩ := Region.waitsFor_spec hn
      have := ha ot hot e he hb
      rwa [hon] at this
    · obtain ⟨j, hj, hj2⟩ := List.any_eq_true.1 hn
      rw [Bool.and_eq_true] at hj2
      obtain ⟨ot, hot, e, he, hb, hon⟩ := Region.waitsFor_spec hj2.1
      have h1 := ha ot hot e he hb
      rw [hon] at h1
      exact needs_listed inv f j h hj2.2 fun oj hoj e' he' hb' => inv.down j oj hoj h1 e' he' hb'

/-- Whatever order of the heads is picked, each is quiet; behind them L holds of the frame. -/
def headP (P : Program) (md : Region.Mode) (ops : Array Oper) (C : World → Prop) (H : Nat → Prop) (L : Array Bool → Act → Prop) : Nat → Array Bool → Act → Prop
  | 0, listed, a => L listed a
  | f + 1, listed, a =>
    Region.ready md ops listed ≠ [] ∧ ∀ i ∈ Region.ready md ops listed, H i ∧ qOp P ops C i (headP P md ops C H L f (listed.setIfInBounds i true)) a

theorem any_of_headP {H : Nat → Prop} {g : Nat} {L : Array Bool → Act → Prop} {Q' : Exit → Act → World → Prop} (hL : ∀ listed a w, C w → L listed a → wpAny P md ops Q' g listed a w) :
    ∀ (f : Nat) (listed : Array Bool) (a : Act) (w : World), C w → headP P md ops C H L f listed a → wpAny P md ops Q' (f + g) listed a w
  | 0, listed, a, w, hw, h => by rw [Nat.zero_add]; exact hL _ _ _ hw h
  | f + 1, listed, a, w, hw, h => by
    rw [show f + 1 + g = (f + g) + 1 by omega]
    exact ⟨fun h0 => absurd h0 h.1, fun i hi => wpOp_of_qOp hw (fun a' w' hw' h' => any_of_headP hL f _ a' w' hw' h') (h.2 i hi).2⟩

theorem headP_first {ps : List Nat} {H : Nat → Prop} {i : Nat} {oi : Oper} {v : Value} {L : Array Bool → Act → Prop} (hi : ops[i]? = some oi) (hsel : ∀ (j : Nat) (o : Oper) cs b, ops[j]? = some o → o.op ≠ .select cs b)
    (hHi : H i) (hwait : ∀ listed, Closed md ops ps listed → listed.getD i true = false → ∀ j ∈ Region.ready md ops listed, H j)
    (hdone : ∀ listed a, L listed a → ∀ j ∈ Region.ready md ops listed, ¬ H j) :
    ∀ (f : Nat) (listed : Array Bool) (a : Act), Closed md ops ps listed →
      (∀ j oj, ops[j]? = some oj → j ≠ i → listed.getD j true = false → (∀ e ∈ oj.after, Region.binds md e = true → e.on ≠ i) → oi.apart ops oj = true) →
      i ∈ Region.ready md ops listed → YieldsIn P ops C oi v a →
      headP P md ops C H L f (listed.setIfInBounds i true) (a.put oi.dst v) → headP P md ops C H L (f + 1) listed a := by
  intro f
  induction f with
  | zero =>
    intro listed a inv _ hr hy HH
    have hun := (mem_ready.1 hr).1
    refine ⟨fun h => (by rw [h] at hr; cases hr), fun j hj => ?_⟩
    have hjn := hwait listed inv hun j hj
    refine ⟨hjn, ?_⟩
    by_cases hji : j = i
    · subst hji; exact hy.qOp hi HH
    · exact absurd hjn (hdone _ _ HH j (ready_mono hj hji))
  | succ f ih =>
    intro listed a inv hfree hr hy HH
    have hun := (mem_ready.1 hr).1
    refine ⟨fun h => (by rw [h] at hr; cases hr), fun j hj => ?_⟩
    have hjn := hwait listed inv hun j hj
    refine ⟨hjn, ?_⟩
    by_cases hji : j = i
    · subst hji; exact hy.qOp hi HH
    · have h1 := (HH.2 j (ready_mono hj hji)).2
      obtain ⟨hjun, oj, hoj, hall⟩ := mem_ready.1 hj
      have hnot : ∀ e ∈ oj.after, Region.binds md e = true → e.on ≠ i := fun e he hb heq => by
        have h1 := hall e he hb
        rw [heq, getD_both hun] at h1
        cases h1
      have h2 := qOp_put hoj (hfree j oj hoj hji hjun hnot) (fun cs b => hsel i oi cs b hi) (fun cs b => hsel j oj cs b hoj) hy h1
      have hfree' : ∀ k ok, ops[k]? = some ok → k ≠ i → (listed.setIfInBounds j true).getD k true = false →
          (∀ e ∈ ok.after, Region.binds md e = true → e.on ≠ i) → oi.apart ops ok = true := fun k ok hk hki hun hno => by
        refine hfree k ok hk hki ?_ hno
        by_cases hjk : j = k
        · subst hjk; exact hjun
        · rw [getD_set_ne true hjk] at hun; exact hun
      refine qOp_mono (fun a' h3 => ih (listed.setIfInBounds j true) a' (inv.set hj) hfree' (ready_mono hr (Ne.symm hji)) h3.1 ?_) h2
      rw [Array.setIfInBounds_comm _ _ hji]
      exact h3.2

theorem pick_cons {l : List Oper} {i : Nat} {o : Oper} {r : List Nat} (h : l[i]? = some o) : pick l (i :: r) = o :: pick l r := by rw [pick, h]

theorem headP_list {ps : List Nat} {l : List Oper} (hl : l.toArray = ops) {H : Nat → Prop} {Lq : Act → Prop} {l2 : Array Bool} (hsel : Region.noSelect ops = true) (hwait : ∀ i, H i → ∀ listed, Closed md ops ps listed → listed.getD i true = false → ∀ j ∈ Region.ready md ops listed, H j)
    (hl2 : ∀ j ∈ Region.ready md ops l2, ¬ H j) :
    ∀ (hs : List Nat) (listed : Array Bool) (a : Act), (∀ i ∈ hs, H i) → Closed md ops ps listed → headB md ops hs listed = some l2 → wpQuiet P ops C Lq (pick l hs) a →
    headP P md ops C H (fun listed' a' => listed' = l2 ∧ Lq a') hs.length listed a
  | [], listed, a, _, _, hB, h => ⟨Option.some.inj hB, h⟩
  | i :: r, listed, a, hH, inv, hB, h => by
    unfold headB at hB
    split at hB
    · rename_i hc
      rw [Bool.and_eq_true] at hc
      have hr' : i ∈ Region.ready md ops listed := by simpa using hc.1
      obtain ⟨_, oi, hoi, _⟩ := mem_ready.1 hr'
      have hli : l[i]? = some oi := by rw [← hl] at hoi; simpa using hoi
      rw [pick_cons hli] at h
      have hst : qOp P ops C i (wpQuiet P ops C Lq (pick l r)) a := by unfold qOp; simp only [hoi]; exact h
      obtain ⟨v, hy, hK⟩ := yieldsIn_of_qOp hoi hst
      exact headP_first hoi (Region.noSelect_spec hsel) (hH i List.mem_cons_self) (hwait i (hH i List.mem_cons_self)) (fun listed' a' hL => by rw [hL.1]; exact hl2) r.length listed a inv (Region.free_spec hoi hc.2) hr' hy
        (headP_list hl hsel hwait hl2 r _ _ (fun j hj => hH j (List.mem_cons_of_mem _ hj)) (inv.set hr') hB hK)
    · cases hB

theorem any_of_seqL {l : List Oper} (hl : l.toArray = ops) {Q' : Exit → Act → World → Prop} : ∀ (ts : List Nat) (listed : Array Bool) (a : Act) (w : World),
    seqL md ops ts listed = true → wpList P ops Q' (pick l ts) a w → wpAny P md ops Q' ts.length listed a w
  | [], _, _, _, hB, h => ⟨by simpa [seqL] using hB, h⟩
  | k :: r, listed, a, w, hB, h => by
    simp only [seqL, Bool.and_eq_true, decide_eq_true_eq] at hB
    refine ⟨fun h1 => (by rw [hB.1] at h1; cases h1), fun i hi => ?_⟩
    rw [hB.1] at hi
    have hik : i = k := by simpa using hi
    subst hik
    obtain ⟨_, oi, hoi, _⟩ := mem_ready.1 (show i ∈ Region.ready md ops listed by rw [hB.1]; simp)
    have hli : l[i]? = some oi := by rw [← hl] at hoi; simpa using hoi
    rw [pick_cons hli] at h
    have hw : wpOp P ops Q' i (wpList P ops Q' (pick l r)) a w := by unfold wpOp; simp only [hoi]; exact h
    exact wpOp_mono (fun a' w' h' => any_of_seqL hl r _ a' w' hB.2 h') hw

theorem seqL_ready {ts : List Nat} {listed : Array Bool} (h : seqL md ops ts listed = true) : ∀ j ∈ Region.ready md ops listed, j ∈ ts := by
  intro j hj
  cases ts with
  | nil => simp only [seqL, List.isEmpty_iff] at h; rw [h] at hj; cases hj
  | cons k r =>
    simp only [seqL, Bool.and_eq_true, decide_eq_true_eq] at h
    rw [h.1] at hj
    have : j = k := by simpa using hj
    rw [this]; exact List.mem_cons_self

/-- operations that no world turns, one by one -/
def wpPure (P : Program) (ops : Array Oper) (Q : Act → Prop) : List Oper → Act → Prop
  | [], a => Q a
  | o :: rest, a => (Region.wanted o (yielded ops a.tmps) = true ∧ ∃ v, (∀ w, (execOp a.eval o).run P w = .ok (.value v) w) ∧ wpPure P ops Q rest (a.put o.dst v)) ∨
      (Region.wanted o (yielded ops a.tmps) = false ∧ wpPure P ops Q rest (a.put o.dst undef))
theorem wpPure_nil {Q : Act → Prop} {a : Act} (h : Q a) : wpPure P ops Q [] a := h
theorem wpPure_take {Q : Act → Prop} {a : Act} {o : Oper} {rest : List Oper} {v : Value} (hw : Region.wanted o (yielded ops a.tmps) = true) (h : ∀ w, (execOp a.eval o).run P w = .ok (.value v) w) (h2 : wpPure P ops Q rest (a.put o.dst v)) : wpPure P ops Q (o :: rest) a :=
  .inl ⟨hw, v, h, h2⟩
theorem any_of_pure {l : List Oper} (hl : l.toArray = ops) {Q' : Exit → Act → World → Prop} (hQ : ∀ c (a a' : Act) w, Q' (.panic c) a w → Q' (.panic c) a' w) {g : Nat} {l1 : Array Bool} {Lq : Act → Prop} {w : World} (hsel : Region.noSelect ops = true)
    (hL : ∀ a, Lq a → wpAny P md ops Q' g l1 a w) :
    ∀ (ps : List Nat) (listed : Array Bool) (a : Act), headB md ops ps listed = some l1 → wpPure P ops Lq (pick l ps) a → wpAny P md ops Q' (ps.length + g) listed a w
  | [], listed, a, hB, h => by rw [List.length_nil, Nat.zero_add, Option.some.inj hB]; exact hL a h
  | i :: r, listed, a, hB, h => by
    unfold headB at hB
    split at hB
    · rename_i hc
      have hc' := hc
      rw [Bool.and_eq_true] at hc
      have hr' : i ∈ Region.ready md ops listed := by simpa using hc.1
      obtain ⟨_, oi, hoi, _⟩ := mem_ready.1 hr'
      have hli : l[i]? = some oi := by rw [← hl] at hoi; simpa using hoi
      rw [pick_cons hli] at h
      rw [List.length_cons, show r.length + 1 + g = (r.length + g) + 1 by omega]
      rcases h with ⟨hw, v, hv, h⟩ | ⟨hw, h⟩
      · exact wpAny_take (v := v) hoi hsel hc.2 hc.1 (fun c a w h => hQ c _ _ w h) (.inl ⟨hw, hv⟩) (any_of_pure hl hQ hsel hL r _ _ hB h)
      · exact wpAny_take (v := undef) hoi hsel hc.2 hc.1 (fun c a w h => hQ c _ _ w h) (.inr ⟨hw, rfl⟩) (any_of_pure hl hQ hsel hL r _ _ hB h)
    · cases hB

/-- no panic -/
def Calm (Q : Exit → Act → World → Prop) : Exit → Act → World → Prop
  | .panic _, _, _ => False
  | e, a, w => Q e a w
theorem Calm.normal {Q : Exit → Act → World → Prop} {a : Act} {w : World} (h : Q .normal a w) : Calm Q .normal a w := h
theorem Calm.imp {Q : Exit → Act → World → Prop} : ∀ (e : Exit) (a : Act) (w : World), Calm Q e a w → Q e a w := fun e a w h => by
  cases e
  case panic => exact False.elim h
  all_goals exact h

/-- A region that draws: 'ps' are turned by no world, 'hs' are quiet in the class C, 'ts' come in the one order that is left. -/
theorem wp_region_pick' {id : Nat} {Q : Exit → Act → World → Prop} {a : Act} {w : World} {l : List Oper} (C : World → Prop) (ps hs ts : List Nat) (hm : P.follows .mixedOrders = true) (hB : pickB .any l.toArray ps hs ts = true) (hC : C w.drew)
    (hQ : ∀ c (a a' : Act) w, Q (.panic c) a w → Q (.panic c) a' w)
    (h : wpPure P l.toArray (fun a1 => wpQuiet P l.toArray C (fun a' => ∀ w', C w' → wpList P l.toArray Q (pick l ts) a' w') (pick l hs) a1) (pick l ps) a) : (Code.region id l.toArray true).wp P Q a w := by
  unfold pickB at hB
  rw [Bool.and_eq_true, Bool.and_eq_true, decide_eq_true_eq] at hB
  obtain ⟨⟨hsel, hlen⟩, hB⟩ := hB
  split at hB
  · cases hB
  · rename_i l1 h1
    rw [Bool.and_eq_true, Bool.and_eq_true, Bool.and_eq_true] at hB
    obtain ⟨⟨⟨hcl, hpl⟩, hw⟩, hB⟩ := hB
    split at hB
    · cases hB
    · rename_i l2 h2
      rw [Bool.and_eq_true] at hB
      obtain ⟨hnh, hB⟩ := hB
      have inv : Closed .any l.toArray ps l1 := closed_of hcl hpl
      refine wp_region_any hm ?_
      have hwait : ∀ i, (i ∈ hs) → ∀ listed, Closed .any l.toArray ps listed → listed.getD i true = false → ∀ j ∈ Region.ready .any l.toArray listed, j ∈ hs := by
        intro i hi listed inv' hun j hj
        obtain ⟨hjun, oj, hoj, hall⟩ := mem_ready.1 hj
        have hjlt : j < l.toArray.size := (Array.getElem?_eq_some_iff.1 hoj).1
        have h3 := List.all_eq_true.1 hw j (List.mem_range.2 hjlt)
        rw [Bool.or_eq_true] at h3
        rcases h3 with h3 | h3
        · have h5 : j ∈ ps ++ hs := by simpa using h3
          rcases List.mem_append.1 h5 with h4 | h4
          · have h5 := inv'.first j h4
            rw [getD_both hjun] at h5
            cases h5
          · exact h4
        · have h4 := List.all_eq_true.1 h3 i hi
          have h5 := needs_listed inv' _ _ _ h4 (fun ot hot e he hb => by
            have : ot = oj := Option.some.inj (hot.symm.trans hoj)
            subst this
            exact hall e he hb)
          rw [getD_both hun] at h5
          cases h5
      have hl2 : ∀ j ∈ Region.ready .any l.toArray l2, ¬ (j ∈ hs) := by
        intro j hj hjh
        have h6 := List.all_eq_true.1 hnh j hjh
        obtain ⟨hjun, _⟩ := mem_ready.1 hj
        rw [getD_both hjun] at h6
        cases h6
      have key := any_of_pure (md := .any) (Q' := Q) (w := w.drew) (g := hs.length + ts.length) rfl hQ hsel (fun a1 hq => by
        have hh := headP_list (md := .any) (H := fun i => i ∈ hs) rfl hsel hwait hl2 hs l1 a1 (fun i hi => hi) inv h2 hq
        exact any_of_headP (Q' := Q) (g := ts.length) (fun listed a' w' hw' hL => by
          obtain ⟨rfl, hL2⟩ := hL
          exact any_of_seqL rfl ts _ a' w' hB (hL2 w' hw')) _ _ _ _ hC hh) ps _ a h1 h
      rw [hlen] at key
      exact key
theorem wp_region_pick {id : Nat} {Q : Exit → Act → World → Prop} {a : Act} {w : World} {l : List Oper} (C : World → Prop) (ps hs ts : List Nat) (hm : P.follows .mixedOrders = true) (hB : pickB .any l.toArray ps hs ts = true) (hC : C w.drew)
    (h : wpPure P l.toArray (fun a1 => wpQuiet P l.toArray C (fun a' => ∀ w', C w' → wpList P l.toArray (Calm Q) (pick l ts) a' w') (pick l hs) a1) (pick l ps) a) : (Code.region id l.toArray true).wp P Q a w :=
  Code.wp_mono Calm.imp (wp_region_pick' C ps hs ts hm hB hC (fun _ _ _ _ h => False.elim h) h)
end
end Go.Proofs.Ytobbjdindknkdaa
