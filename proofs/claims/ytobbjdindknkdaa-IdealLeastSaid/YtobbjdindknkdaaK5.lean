/- Regions that draw their order, fifth rule: a variable is made at whatever moment; the other operations are quiet whatever is made beside them, and the rest comes in the one order that is left. -/
import Derived.Test.YtobbjdindknkdaaK4
namespace Go.Proofs.Ytobbjdindknkdaa
open Go Go.RowKit
set_option linter.unusedSimpArgs false
set_option linter.unusedVariables false

/-- a class of worlds within C that is kept by whatever only makes memory -/
structure Stab (C C' : World → Prop) : Prop where
  sub : ∀ w, C' w → C w
  keep : ∀ w w', C' w → Below w.heap.size w w' → C' w'
theorem Stab.since (w0 : World) : Stab (Since w0) (Since w0) := ⟨fun _ h => h, fun _ _ h k => Below.trans h (Below.mono k h.size)⟩

section
variable {P : Program} {ops : Array Oper} {md : Region.Mode} {C : World → Prop} {Q : Exit → Act → World → Prop}

def YieldsS (P : Program) (ops : Array Oper) (C : World → Prop) (o : Oper) (v : Value) (a : Act) : Prop :=
  (Region.wanted o (yielded ops a.tmps) = true ∧ ∀ C', Stab C C' → ∀ w, C' w → o.quietAt P a C' w v) ∨
  (Region.wanted o (yielded ops a.tmps) = false ∧ v = undef)
theorem YieldsS.at_ {o : Oper} {v : Value} {a : Act} {C' : World → Prop} (h : YieldsS P ops C o v a) (hs : Stab C C') : YieldsIn P ops C' o v a := h.imp (fun ⟨hw, hv⟩ => ⟨hw, hv C' hs⟩) id
theorem YieldsS.of_same {o : Oper} {v : Value} {a a' : Act} (hy : YieldsS P ops C o v a) (he : execOp a'.eval o = execOp a.eval o)
    (hw : Region.wanted o (yielded ops a'.tmps) = Region.wanted o (yielded ops a.tmps)) : YieldsS P ops C o v a' := by
  unfold YieldsS Oper.quietAt at *
  rw [he, hw]
  exact hy
def qOpS (P : Program) (ops : Array Oper) (C : World → Prop) (i : Nat) (K : Act → Prop) (a : Act) : Prop := ∃ oi v, ops[i]? = some oi ∧ YieldsS P ops C oi v a ∧ K (a.put oi.dst v)
theorem qOpS_mono {i : Nat} {a : Act} {K K' : Act → Prop} (h : ∀ a, K a → K' a) : qOpS P ops C i K a → qOpS P ops C i K' a := fun ⟨oi, v, h1, h2, h3⟩ => ⟨oi, v, h1, h2, h _ h3⟩
theorem qOpS_put {j : Nat} {oi oj : Oper} {v : Value} (hj : ops[j]? = some oj) (hap : oi.apart ops oj = true)
    (hsi : ∀ cs b, oi.op ≠ .select cs b) (hsj : ∀ cs b, oj.op ≠ .select cs b) {K : Act → Prop} {a : Act}
    (hy : YieldsS P ops C oi v a) (h : qOpS P ops C j K (a.put oi.dst v)) : qOpS P ops C j (fun a' => YieldsS P ops C oi v a' ∧ K (a'.put oi.dst v)) a := by
  obtain ⟨h1, h2, h3⟩ := Oper.apart_spec hap
  obtain ⟨oj', u, hj', hu, hK⟩ := h
  obtain rfl : oj = oj' := Option.some.inj (hj.symm.trans hj')
  exact ⟨oj, u, hj, hu.of_same (execOp_put oj hsj a oi.dst v h1).symm (wanted_put oj a oi.dst v h1).symm, hy.of_same (execOp_put oi hsi a oj.dst u h3) (wanted_put oi a oj.dst u h3), by rw [← Act.put_comm a v u h2]; exact hK⟩

/-- Whatever order of the heads is picked, each is quiet; number x may stand among them. -/
def headS (P : Program) (md : Region.Mode) (ops : Array Oper) (C : World → Prop) (x : Nat) (H : Nat → Prop) (L : Array Bool → Act → Prop) : Nat → Array Bool → Act → Prop
  | 0, listed, a => L listed a
  | f + 1, listed, a =>
    (∃ i ∈ Region.ready md ops listed, i ≠ x) ∧ ∀ i ∈ Region.ready md ops listed, i ≠ x → H i ∧ qOpS P ops C i (headS P md ops C x H L f (listed.setIfInBounds i true)) a

theorem headS_first {ps : List Nat} {x : Nat} {H : Nat → Prop} {i : Nat} {oi : Oper} {v : Value} {L : Array Bool → Act → Prop} (hi : ops[i]? = some oi) (hsel : ∀ (j : Nat) (o : Oper) cs b, ops[j]? = some o → o.op ≠ .select cs b)
    (hHi : H i) (hix : i ≠ x) (hwait : ∀ listed, Closed md ops ps listed → listed.getD i true = false → ∀ j ∈ Region.ready md ops listed, j ≠ x → H j)
    (hdone : ∀ listed a, L listed a → ∀ j ∈ Region.ready md ops listed, ¬ H j) :
    ∀ (f : Nat) (listed : Array Bool) (a : Act), Closed md ops ps listed →
      (∀ j oj, ops[j]? = some oj → j ≠ i → listed.getD j true = false → (∀ e ∈ oj.after, Region.binds md e = true → e.on ≠ i) → oi.apart ops oj = true) →
      i ∈ Region.ready md ops listed → YieldsS P ops C oi v a →
      headS P md ops C x H L f (listed.setIfInBounds i true) (a.put oi.dst v) → headS P md ops C x H L (f + 1) listed a := by
  intro f
  induction f with
  | zero =>
    intro listed a inv _ hr hy HH
    have hun := (mem_ready.1 hr).1
    refine ⟨⟨i, hr, hix⟩, fun j hj hjx => ?_⟩
    have hjn := hwait listed inv hun j hj hjx
    refine ⟨hjn, ?_⟩
    by_cases hji : j = i
    · subst hji; exact ⟨oi, v, hi, hy, HH⟩
    · exact absurd hjn (hdone _ _ HH j (ready_mono hj hji))
  | succ f ih =>
    intro listed a inv hfree hr hy HH
    have hun := (mem_ready.1 hr).1
    refine ⟨⟨i, hr, hix⟩, fun j hj hjx => ?_⟩
    have hjn := hwait listed inv hun j hj hjx
    refine ⟨hjn, ?_⟩
    by_cases hji : j = i
    · subst hji; exact ⟨oi, v, hi, hy, HH⟩
    · have h1 := (HH.2 j (ready_mono hj hji) hjx).2
      obtain ⟨hjun, oj, hoj, hall⟩ := mem_ready.1 hj
      have hnot : ∀ e ∈ oj.after, Region.binds md e = true → e.on ≠ i := fun e he hb heq => by
        have h1 := hall e he hb
        rw [heq, getD_both hun] at h1
        cases h1
      have h2 := qOpS_put hoj (hfree j oj hoj hji hjun hnot) (fun cs b => hsel i oi cs b hi) (fun cs b => hsel j oj cs b hoj) hy h1
      have hfree' : ∀ k ok, ops[k]? = some ok → k ≠ i → (listed.setIfInBounds j true).getD k true = false →
          (∀ e ∈ ok.after, Region.binds md e = true → e.on ≠ i) → oi.apart ops ok = true := fun k ok hk hki hun hno => by
        refine hfree k ok hk hki ?_ hno
        by_cases hjk : j = k
        · subst hjk; exact hjun
        · rw [getD_set_ne true hjk] at hun; exact hun
      refine qOpS_mono (fun a' h3 => ih (listed.setIfInBounds j true) a' (inv.set hj) hfree' (ready_mono hr (Ne.symm hji)) h3.1 ?_) h2
      rw [Array.setIfInBounds_comm _ _ hji]
      exact h3.2

/-- the heads, one by one -/
def wpQuietS (P : Program) (ops : Array Oper) (C : World → Prop) (L : Act → Prop) : List Oper → Act → Prop
  | [], a => L a
  | o :: rest, a => (Region.wanted o (yielded ops a.tmps) = true ∧ ∃ v, (∀ C', Stab C C' → ∀ w, C' w → o.quietAt P a C' w v) ∧ wpQuietS P ops C L rest (a.put o.dst v)) ∨
      (Region.wanted o (yielded ops a.tmps) = false ∧ wpQuietS P ops C L rest (a.put o.dst undef))
theorem wpQuietS_nil {L : Act → Prop} {a : Act} (h : L a) : wpQuietS P ops C L [] a := h
theorem wpQuietS_val {L : Act → Prop} {a : Act} {o : Oper} {rest : List Oper} {v : Value} (hw : Region.wanted o (yielded ops a.tmps) = true) (h : ∀ w, C w → (execOp a.eval o).run P w = .ok (.value v) w) (h2 : wpQuietS P ops C L rest (a.put o.dst v)) : wpQuietS P ops C L (o :: rest) a :=
  .inl ⟨hw, v, fun C' hs w hw => by unfold Oper.quietAt; rw [h w (hs.sub w hw)]; exact ⟨rfl, rfl⟩, h2⟩
theorem wpQuietS_skip {L : Act → Prop} {a : Act} {o : Oper} {rest : List Oper} (hw : Region.wanted o (yielded ops a.tmps) = false) (h2 : wpQuietS P ops C L rest (a.put o.dst undef)) : wpQuietS P ops C L (o :: rest) a := .inr ⟨hw, h2⟩
theorem wpQuietS_call {L : Act → Prop} {a : Act} {o : Oper} {rest : List Oper} {v : Value} {f : FuncId} {args : Array Value} (hw : Region.wanted o (yielded ops a.tmps) = true) (he : ∀ w, C w → (execOp a.eval o).run P w = .ok (.enter f args) w)
    (h : ∀ w, C w → Calls P f args w fun e w' => e = .returned v ∧ Below w.heap.size w w') (h2 : wpQuietS P ops C L rest (a.put o.dst v)) : wpQuietS P ops C L (o :: rest) a :=
  .inl ⟨hw, v, fun C' hs w hw => by unfold Oper.quietAt; rw [he w (hs.sub w hw)]; exact ⟨rfl, (h w (hs.sub w hw)).mono fun _ _ ⟨h1, hb⟩ => ⟨h1, hs.keep _ _ hw hb⟩⟩, h2⟩
theorem wpQuietS_range {L : Act → Prop} {a : Act} {op : Oper} {rest : List Oper} {ty : Nat} {d : TypeDesc} {k : Nat} (hu : P.underlying ty = some d) (hd : (match d with | .struct _ | .array _ _ => true | _ => false) = true) (hi : (P.info? ty).map (·.size) = some k)
    {x : Operand} {b o : Nat} {cs : Array Value} (hw : Region.wanted op (yielded ops a.tmps) = true) (ho : op.op = .load ty x) (hx : a.eval x = .pointer (some ⟨b, o, none⟩)) (hr : ∀ w, C w → rangeOf w b o cs) (hs : cs.size = k)
    (h : wpQuietS P ops C L rest (a.put op.dst (.agg cs))) : wpQuietS P ops C L (op :: rest) a :=
  wpQuietS_val hw (fun w hw => by
    unfold execOp
    simp only [ho, hx, Instr.loadAt, Instr.sureAddr, Sem.run_bind, Sem.run_pure, Result.andThen_ok, run_loadVar_range hu hd hi w b o cs (hr w hw) hs]) h

theorem headS_list {ps : List Nat} {x : Nat} {l : List Oper} (hl : l.toArray = ops) {H : Nat → Prop} {Lq : Act → Prop} {l2 : Array Bool} (hsel : Region.noSelect ops = true) (hwait : ∀ i, H i → ∀ listed, Closed md ops ps listed → listed.getD i true = false → ∀ j ∈ Region.ready md ops listed, j ≠ x → H j)
    (hl2 : ∀ j ∈ Region.ready md ops l2, ¬ H j) :
    ∀ (hs : List Nat) (listed : Array Bool) (a : Act), (∀ i ∈ hs, H i ∧ i ≠ x) → Closed md ops ps listed → headB md ops hs listed = some l2 → wpQuietS P ops C Lq (pick l hs) a →
    headS P md ops C x H (fun listed' a' => listed' = l2 ∧ Lq a') hs.length listed a
  | [], listed, a, _, _, hB, h => ⟨Option.some.inj hB, h⟩
  | i :: r, listed, a, hH, inv, hB, h => by
    unfold headB at hB
    split at hB
    · rename_i hc
      rw [Bool.and_eq_true] at hc
      have hr' : i ∈ Region.ready md ops listed := by simpa using hc.1
      obtain ⟨_, oi, hoi, _⟩ := mem_ready.1 hr'
      have hli : l[i]? = some oi := by rw [← hl] at hoi; simpa using hoi
      rw [pick_cons hli] at h
      obtain ⟨hHi, hix⟩ := hH i List.mem_cons_self
      rcases h with ⟨hwt, v, hv, h⟩ | ⟨hwt, h⟩
      · exact headS_first (v := v) hoi (Region.noSelect_spec hsel) hHi hix (hwait i hHi) (fun listed' a' hL => by rw [hL.1]; exact hl2) r.length listed a inv (Region.free_spec hoi hc.2) hr' (.inl ⟨hwt, hv⟩)
          (headS_list hl hsel hwait hl2 r _ _ (fun j hj => hH j (List.mem_cons_of_mem _ hj)) (inv.set hr') hB h)
      · exact headS_first (v := undef) hoi (Region.noSelect_spec hsel) hHi hix (hwait i hHi) (fun listed' a' hL => by rw [hL.1]; exact hl2) r.length listed a inv (Region.free_spec hoi hc.2) hr' (.inr ⟨hwt, rfl⟩)
          (headS_list hl hsel hwait hl2 r _ _ (fun j hj => hH j (List.mem_cons_of_mem _ hj)) (inv.set hr') hB h)
    · cases hB

/-- behind the making -/
theorem any_of_made {ps : List Nat} {x : Nat} {ox : Oper} {p : Value} {H : Nat → Prop} {g : Nat} {l2 : Array Bool} {Lq : Act → Prop} {D : World → Prop} (hx : ops[x]? = some ox) (hsel : Region.noSelect ops = true) (hD : Stab C D)
    (hap : ∀ j oj, H j → ops[j]? = some oj → ox.apart ops oj = true) (hnx : ∀ j oj, H j → ops[j]? = some oj → ∀ e ∈ oj.after, Region.binds md e = true → e.on ≠ x)
    (hwait : ∀ i, H i → ∀ listed, Closed md ops ps listed → listed.getD i true = false → ∀ j ∈ Region.ready md ops listed, j ≠ x → H j)
    (hL : ∀ a w, D w → Lq a → wpAny P md ops Q g (l2.setIfInBounds x true) (a.put ox.dst p) w) :
    ∀ (f : Nat) (listed : Array Bool) (a : Act) (w : World), D w → Closed md ops ps listed → Closed md ops ps (listed.setIfInBounds x true) → headS P md ops C x H (fun listed' a' => listed' = l2 ∧ Lq a') f listed a →
      wpAny P md ops Q (f + g) (listed.setIfInBounds x true) (a.put ox.dst p) w
  | 0, listed, a, w, hw, _, _, h => by rw [Nat.zero_add, h.1]; exact hL a w hw h.2
  | f + 1, listed, a, w, hw, inv, invx, h => by
    rw [show f + 1 + g = (f + g) + 1 by omega]
    obtain ⟨⟨i0, hi0, hi0x⟩, hall⟩ := h
    have hH0 := (hall i0 hi0 hi0x).1
    have hr0 : i0 ∈ Region.ready md ops (listed.setIfInBounds x true) := ready_mono hi0 hi0x
    refine ⟨fun h0 => (by rw [h0] at hr0; cases hr0), fun j hj => ?_⟩
    obtain ⟨hjun, oj, hoj, haf⟩ := mem_ready.1 hj
    have hlx : x < listed.size → (listed.setIfInBounds x true).getD x true = true := fun hlt => by simp [hlt]
    have hjx : j ≠ x := by
      intro e
      subst e
      rcases Nat.lt_or_ge j listed.size with hlt | hge
      · rw [hlx hlt] at hjun; cases hjun
      · have : (listed.setIfInBounds j true).getD j true = true := by simp [Nat.not_lt.2 hge]
        rw [this] at hjun; cases hjun
    have hun0 : (listed.setIfInBounds x true).getD i0 true = false := (mem_ready.1 hr0).1
    have hHj := hwait i0 hH0 _ invx hun0 j hj hjx
    have hjr : j ∈ Region.ready md ops listed := by
      rw [mem_ready]
      refine ⟨by rw [getD_set_ne true (Ne.symm hjx)] at hjun; exact hjun, oj, hoj, fun e he hb => ?_⟩
      have := haf e he hb
      rwa [getD_set_ne false (fun h => hnx j oj hHj hoj e he hb h.symm)] at this
    obtain ⟨_, oj', v, hoj', hy, hK⟩ := hall j hjr hjx
    obtain rfl : oj = oj' := Option.some.inj (hoj.symm.trans hoj')
    obtain ⟨h1, h2, h3⟩ := Oper.apart_spec (hap j oj hHj hoj)
    have hsj : ∀ cs b, oj.op ≠ .select cs b := fun cs b => Region.noSelect_spec hsel j oj cs b hoj
    have hy' : YieldsIn P ops D oj v (a.put ox.dst p) := (hy.at_ hD).of_same (execOp_put oj hsj a ox.dst p h1) (wanted_put oj a ox.dst p h1)
    have hq : qOp P ops D j (fun a' => a' = (a.put ox.dst p).put oj.dst v) (a.put ox.dst p) := hy'.qOp hoj rfl
    refine wpOp_of_qOp hw (fun a' w' hw' h' => ?_) hq
    rw [h', Act.put_comm a p v h2, Array.setIfInBounds_comm _ _ (Ne.symm hjx)]
    refine any_of_made hx hsel hD hap hnx hwait hL f _ _ w' hw' (inv.set hjr) ?_ hK
    rw [← Array.setIfInBounds_comm _ _ (Ne.symm hjx)]
    exact invx.set hj

/-- before the making -/
theorem any_of_headS {ps : List Nat} {x : Nat} {ox : Oper} {O : Obj} {w0 : World} {H : Nat → Prop} {g : Nat} {l2 : Array Bool} {Lq : Act → Prop} (hx : ops[x]? = some ox) (hgd : ox.guard = none) (hsel : Region.noSelect ops = true)
    (hrun : ∀ (a : Act) w, (execOp a.eval ox).run P w = .ok (.value (.pointer (some ⟨w.heap.size, 0, none⟩))) (w.alloc O))
    (hap : ∀ j oj, H j → ops[j]? = some oj → ox.apart ops oj = true) (hnx : ∀ j oj, H j → ops[j]? = some oj → ∀ e ∈ oj.after, Region.binds md e = true → e.on ≠ x) (hxa : ∀ e ∈ ox.after, Region.binds md e = true → False)
    (hwait : ∀ i, H i → ∀ listed, Closed md ops ps listed → listed.getD i true = false → ∀ j ∈ Region.ready md ops listed, j ≠ x → H j) (hL0 : ∀ a w, Since w0 w → Lq a → wpAny P md ops Q (1 + g) l2 a w)
    (hL : ∀ a w b, Since w0 w → w0.heap.size ≤ b → w.heap[b]? = some O → Lq a → wpAny P md ops Q g (l2.setIfInBounds x true) (a.put ox.dst (.pointer (some ⟨b, 0, none⟩))) w) :
    ∀ (f : Nat) (listed : Array Bool) (a : Act) (w : World), Since w0 w → Closed md ops ps listed → listed.getD x true = false → headS P md ops (Since w0) x H (fun listed' a' => listed' = l2 ∧ Lq a') f listed a →
      wpAny P md ops Q (f + 1 + g) listed a w := by
  intro f
  have made : ∀ (f : Nat) (listed : Array Bool) (a : Act) (w : World), Since w0 w → Closed md ops ps listed → x ∈ Region.ready md ops listed → headS P md ops (Since w0) x H (fun listed' a' => listed' = l2 ∧ Lq a') f listed a →
      wpOp P ops Q x (wpAny P md ops Q (f + g) (listed.setIfInBounds x true)) a w := by
    intro f listed a w hw inv hr h
    have hwt : Region.wanted ox (yielded ops a.tmps) = true := by simp [Region.wanted, hgd]
    unfold wpOp
    simp only [hx, hwt, if_true]
    refine .inl ?_
    unfold Oper.wp
    rw [hrun a w]
    have hst : Stab (Since w0) (fun w' => Since w0 w' ∧ w'.heap[w.heap.size]? = some O ∧ w.heap.size < w'.heap.size) := ⟨fun _ h => h.1, fun w1 w2 h k => ⟨(Stab.since w0).keep _ _ h.1 k, (k.block _ h.2.2).trans h.2.1, Nat.lt_of_lt_of_le h.2.2 k.size⟩⟩
    refine any_of_made (D := fun w' => Since w0 w' ∧ w'.heap[w.heap.size]? = some O ∧ w.heap.size < w'.heap.size) hx hsel hst hap hnx hwait (fun a1 w1 hw1 hq => hL a1 w1 w.heap.size hw1.1 hw.size hw1.2.1 hq) f listed a (w.alloc O) ⟨(Stab.since w0).keep _ _ hw (below1 w O), heap_alloc_new w O, by simp⟩ inv (inv.set hr) h
  have xready : ∀ listed : Array Bool, listed.getD x true = false → x ∈ Region.ready md ops listed := fun listed hun => mem_ready.2 ⟨hun, ox, hx, fun e he hb => (hxa e he hb).elim⟩
  induction f with
  | zero =>
    intro listed a w hw inv hun h
    rw [Nat.zero_add, h.1]
    exact hL0 a w hw h.2
  | succ f ih =>
    intro listed a w hw inv hun h
    have hr := xready listed hun
    rw [show f + 1 + 1 + g = (f + 1 + g) + 1 by omega]
    refine ⟨fun h0 => (by rw [h0] at hr; cases hr), fun j hj => ?_⟩
    by_cases hjx : j = x
    · subst hjx
      exact made (f + 1) listed a w hw inv hr h
    · obtain ⟨_, oj, v, hoj, hy, hK⟩ := h.2 j hj hjx
      have hq : qOp P ops (Since w0) j (fun a' => a' = a.put oj.dst v) a := (hy.at_ (Stab.since w0)).qOp hoj rfl
      refine wpOp_of_qOp hw (fun a' w' hw' h' => ?_) hq
      rw [h']
      exact ih _ _ w' hw' (inv.set hj) (by rw [getD_set_ne true hjx]; exact hun) hK

theorem pure_put {ox : Oper} {p : Value} (hsel : Region.noSelect ops = true) {Lq : Act → Prop} : ∀ (ms : List Oper) (a : Act), (∀ o ∈ ms, ox.apart ops o = true ∧ ∃ i : Nat, ops[i]? = some o) → wpPure P ops Lq ms a → wpPure P ops (fun a' => ∃ a0, Lq a0 ∧ a' = a0.put ox.dst p) ms (a.put ox.dst p)
  | [], a, _, h => ⟨a, h, rfl⟩
  | o :: r, a, hap, h => by
    obtain ⟨hapo, i, hi⟩ := hap o List.mem_cons_self
    obtain ⟨h1, h2, h3⟩ := Oper.apart_spec hapo
    have hso : ∀ cs b, o.op ≠ .select cs b := fun cs b => Region.noSelect_spec hsel i o cs b hi
    rcases h with ⟨hw, v, hv, h⟩ | ⟨hw, h⟩
    · refine .inl ⟨(wanted_put o a ox.dst p h1).trans hw, v, fun w => by rw [execOp_put o hso a ox.dst p h1]; exact hv w, ?_⟩
      rw [Act.put_comm a p v h2]
      exact pure_put hsel r _ (fun o ho => hap o (List.mem_cons_of_mem _ ho)) h
    · refine .inr ⟨(wanted_put o a ox.dst p h1).trans hw, ?_⟩
      rw [Act.put_comm a p undef h2]
      exact pure_put hsel r _ (fun o ho => hap o (List.mem_cons_of_mem _ ho)) h
theorem pick_mem {l : List Oper} : ∀ (is : List Nat) (o : Oper), o ∈ pick l is → ∃ i ∈ is, l[i]? = some o
  | [], o, h => by cases h
  | i :: r, o, h => by
    unfold pick at h
    split at h
    · rename_i o' ho'
      rcases List.mem_cons.1 h with h | h
      · exact ⟨i, List.mem_cons_self, h ▸ ho'⟩
      · obtain ⟨j, hj, hjo⟩ := pick_mem r o h
        exact ⟨j, List.mem_cons_of_mem _ hj, hjo⟩
    · obtain ⟨j, hj, hjo⟩ := pick_mem r o h
      exact ⟨j, List.mem_cons_of_mem _ hj, hjo⟩

def freeB (md : Region.Mode) (ops : Array Oper) (ps hs ms : List Nat) (x : Nat) (ts : List Nat) : Bool :=
  Region.noSelect ops && decide (ps.length + (hs.length + 1 + (ms.length + ts.length)) = ops.size) && (hs.all fun i => !(i == x)) && (ps.all fun i => !(i == x)) &&
  (match ops[x]? with
   | none => false
   | some ox => ox.guard.isNone && (ox.after.all fun e => !(Region.binds md e)) && (hs.all fun j => match ops[j]? with
     | some oj => ox.apart ops oj && (oj.after.all fun e => !(Region.binds md e) || !(e.on == x))
     | none => false) && (ms.all fun j => match ops[j]? with
     | some oj => ox.apart ops oj
     | none => false)) &&
  (match headB md ops ps (Array.replicate ops.size false) with
   | none => false
   | some l1 => closedB md ops l1 && (ps.all fun p => l1.getD p false) && !(l1.getD x true) && (List.range ops.size).all (fun t => (ps ++ x :: hs).contains t || hs.all fun h => needsB md ops ops.size t h) &&
     (match headB md ops hs l1 with
      | none => false
      | some l2 => (hs.all fun p => l2.getD p false) &&
        (match headB md ops ms l2, headB md ops ms (l2.setIfInBounds x true) with
         | some l3, some l4 => decide (Region.ready md ops l3 = [x]) && seqL md ops ts (l3.setIfInBounds x true) && seqL md ops ts l4
         | _, _ => false)))

theorem wp_region_free {id : Nat} {Q : Exit → Act → World → Prop} {a : Act} {w : World} {l : List Oper} (ps hs ms : List Nat) (x : Nat) (ts : List Nat) {ox : Oper} {O : Obj} (hm : P.follows .mixedOrders = true) (hx : l[x]? = some ox) (hB : freeB .any l.toArray ps hs ms x ts = true)
    (hrun : ∀ (a : Act) w, (execOp a.eval ox).run P w = .ok (.value (.pointer (some ⟨w.heap.size, 0, none⟩))) (w.alloc O))
    (h : wpPure P l.toArray (fun a1 => wpQuietS P l.toArray (Since w) (fun a2 => wpPure P l.toArray (fun a3 => ∀ w' b, Since w w' → w.heap.size ≤ b → w'.heap[b]? = some O → wpList P l.toArray (Calm Q) (pick l ts) (a3.put ox.dst (.pointer (some ⟨b, 0, none⟩))) w') (pick l ms) a2) (pick l hs) a1) (pick l ps) a) : (Code.region id l.toArray true).wp P Q a w := by
  refine Code.wp_mono Calm.imp ?_
  have hQ : ∀ c (a a' : Act) w, Calm Q (.panic c) a w → Calm Q (.panic c) a' w := fun _ _ _ _ h => False.elim h
  unfold freeB at hB
  have hx' : l.toArray[x]? = some ox := by simpa using hx
  rw [hx'] at hB
  rw [Bool.and_eq_true, Bool.and_eq_true, Bool.and_eq_true, Bool.and_eq_true, Bool.and_eq_true, decide_eq_true_eq] at hB
  obtain ⟨⟨⟨⟨⟨hsel, hlen⟩, hhx⟩, hpx⟩, hox⟩, hB⟩ := hB
  simp only [Bool.and_eq_true] at hox
  obtain ⟨⟨⟨hgd, hxa⟩, hha⟩, hma⟩ := hox
  split at hB
  · cases hB
  · rename_i l1 h1
    rw [Bool.and_eq_true, Bool.and_eq_true, Bool.and_eq_true, Bool.and_eq_true] at hB
    obtain ⟨⟨⟨⟨hcl, hpl⟩, hx1⟩, hw⟩, hB⟩ := hB
    split at hB
    · cases hB
    · rename_i l2 h2
      rw [Bool.and_eq_true] at hB
      obtain ⟨hnh, hB⟩ := hB
      split at hB
      · rename_i l3 l4 h3 h4
        rw [Bool.and_eq_true, Bool.and_eq_true, decide_eq_true_eq] at hB
        obtain ⟨⟨hr3, hseq3⟩, hseq4⟩ := hB
        have inv : Closed .any l.toArray ps l1 := closed_of hcl hpl
        have hhx' : ∀ i ∈ hs, i ≠ x := fun i hi => by have := List.all_eq_true.1 hhx i hi; simpa using this
        have hj : ∀ j oj, j ∈ hs → l.toArray[j]? = some oj → ox.apart l.toArray oj = true ∧ ∀ e ∈ oj.after, Region.binds .any e = true → e.on ≠ x := fun j oj hj hoj => by
          have := List.all_eq_true.1 hha j hj
          rw [hoj] at this
          simp only [Bool.and_eq_true] at this
          refine ⟨this.1, fun e he hb heq => ?_⟩
          have h3 := Array.all_eq_true'.1 this.2 e he
          rw [hb, heq] at h3
          simp at h3
        have hmj : ∀ o ∈ pick l ms, ox.apart l.toArray o = true ∧ ∃ i : Nat, l.toArray[i]? = some o := fun o ho => by
          obtain ⟨i, hi, hio⟩ := pick_mem ms o ho
          have hio' : l.toArray[i]? = some o := by simpa using hio
          have := List.all_eq_true.1 hma i hi
          rw [hio'] at this
          exact ⟨this, i, hio'⟩
        have hwait : ∀ i, (i ∈ hs) → ∀ listed, Closed .any l.toArray ps listed → listed.getD i true = false → ∀ j ∈ Region.ready .any l.toArray listed, j ≠ x → j ∈ hs := by
          intro i hi listed inv' hun j hj hjx
          obtain ⟨hjun, oj, hoj, hall⟩ := mem_ready.1 hj
          have hjlt : j < l.toArray.size := (Array.getElem?_eq_some_iff.1 hoj).1
          have h3 := List.all_eq_true.1 hw j (List.mem_range.2 hjlt)
          rw [Bool.or_eq_true] at h3
          rcases h3 with h3 | h3
          · have h5 : j ∈ ps ++ x :: hs := by simpa using h3
            rcases List.mem_append.1 h5 with h4 | h4
            · have h5 := inv'.first j h4
              rw [getD_both hjun] at h5
              cases h5
            · rcases List.mem_cons.1 h4 with h4 | h4
              · exact absurd h4 hjx
              · exact h4
          · have h4 := List.all_eq_true.1 h3 i hi
            have h5 := needs_listed inv' _ _ _ h4 (fun ot hot e he hb => by
              have : ot = oj := Option.some.inj (hot.symm.trans hoj)
              subst this
              exact hall e he hb)
            rw [getD_both hun] at h5
            cases h5
        have hl2 : ∀ j ∈ Region.ready .any l.toArray l2, ¬ (j ∈ hs) := by
          intro j hj hjh
          have h6 := List.all_eq_true.1 hnh j hjh
          obtain ⟨hjun, _⟩ := mem_ready.1 hj
          rw [getD_both hjun] at h6
          cases h6
        refine wp_region_any hm ?_
        have key := any_of_pure (md := .any) (Q' := Calm Q) (w := w.drew) (g := hs.length + 1 + (ms.length + ts.length)) rfl hQ hsel (fun a1 hq => by
          have hh := headS_list (md := .any) (x := x) (H := fun i => i ∈ hs) rfl hsel hwait hl2 hs l1 a1 (fun i hi => ⟨hi, hhx' i hi⟩) inv h2 hq
          refine any_of_headS (w0 := w) (g := ms.length + ts.length) hx' (by simpa using hgd) hsel hrun (fun j oj h3 h4 => (hj j oj h3 h4).1) (fun j oj h3 h4 => (hj j oj h3 h4).2) (fun e he hb => ?_) hwait (fun a2 w2 hw2 hL => ?_) (fun a2 w2 b hs2 hb hO hL => ?_) _ _ _ _ (Since.drew w) inv (by simpa using hx1) hh
          · have h3 := Array.all_eq_true'.1 hxa e he
            rw [hb] at h3
            simp at h3
          · have := any_of_pure (md := .any) (Q' := Calm Q) (w := w2) (g := 1 + ts.length) rfl hQ hsel (fun a3 hq3 => by
              rw [Nat.add_comm]
              have hr : x ∈ Region.ready .any l.toArray l3 := by rw [hr3]; exact List.mem_cons_self
              refine ⟨fun h0 => (by rw [h0] at hr; cases hr), fun j hj => ?_⟩
              obtain rfl : j = x := by rw [hr3] at hj; simpa using hj
              have hwt : Region.wanted ox (yielded l.toArray a3.tmps) = true := by
                have : ox.guard = none := by simpa using hgd
                simp [Region.wanted, this]
              unfold wpOp
              simp only [hx', hwt, if_true]
              refine .inl ?_
              unfold Oper.wp
              rw [hrun a3 w2]
              exact any_of_seqL rfl ts _ _ _ hseq3 (hq3 (w2.alloc O) w2.heap.size ((Stab.since w).keep _ _ hw2 (below1 w2 O)) hw2.size (heap_alloc_new w2 O))) ms _ a2 h3 hL
            rwa [show ms.length + (1 + ts.length) = 1 + (ms.length + ts.length) by omega] at this
          · exact any_of_pure (md := .any) (Q' := Calm Q) (w := w2) (g := ts.length) rfl hQ hsel (fun a3 hq3 => by
              obtain ⟨a0, h0, rfl⟩ := hq3
              exact any_of_seqL rfl ts _ _ _ hseq4 (h0 w2 b hs2 hb hO)) ms _ _ h4 (pure_put hsel _ _ hmj hL)) ps _ a h1 h
        rw [hlen] at key
        exact key
      · cases hB
end
end Go.Proofs.Ytobbjdindknkdaa
