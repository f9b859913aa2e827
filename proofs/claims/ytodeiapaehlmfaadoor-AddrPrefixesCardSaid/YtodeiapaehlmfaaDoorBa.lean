import Derived.Test.YtodeiapaehlmfaaDoorAp
import Derived.Test.YtodeiapaehlmfaaDoorK4
namespace Go.Proofs.YtodeiapaehlmfaaDoor
open Go Go.RowKit
attribute [local go_sem] rowAt_alloc_at rowAt_alloc_past rowAt_drew rowAt_drewN bv_size iv_size bv_one iv_one bv_set iv_set bv_get iv_get bv_elem iv_elem zlit16 zlit8 z16_length z8_length eq25 eq22 eq23
attribute [local irreducible] wpQuiet wpPure wpHold wpKeep
set_option linter.unusedSimpArgs false
set_option linter.unusedVariables false

/-! ### lists of prefixes -/
def pcells (L : List (List Int × Int)) : List Value := L.flatMap fun p => (pv p.1 p.2).toList
def good16 (L : List (List Int × Int)) : Prop := ∀ p ∈ L, p.1.length = 16 ∧ byt p.1
theorem pcells_nil : pcells [] = [] := rfl
theorem pcells_append (L M : List (List Int × Int)) : pcells (L ++ M) = pcells L ++ pcells M := by simp [pcells]
theorem pcells_one (p : List Int × Int) : pcells [p] = (pv p.1 p.2).toList := by simp [pcells]
theorem pcells_length : ∀ {L : List (List Int × Int)}, good16 L → (pcells L).length = L.length * 17
  | [], _ => rfl
  | p :: r, h => by
    have ih := pcells_length (L := r) (fun q hq => h q (List.mem_cons_of_mem _ hq))
    have hp := (h p List.mem_cons_self).1
    have e : pcells (p :: r) = (pv p.1 p.2).toList ++ pcells r := by simp [pcells]
    rw [e, List.length_append, ih, Array.length_toList, pv_size, hp, List.length_cons]
    omega
theorem pcells_at : ∀ {L : List (List Int × Int)}, good16 L → ∀ {k : Nat} {p : List Int × Int}, L[k]? = some p → ∀ j v, (pv p.1 p.2)[j]? = some v → (pcells L)[k * 17 + j]? = some v
  | [], _, k, p, h, _, _, _ => by simp at h
  | q :: r, hg, k, p, h, j, v, hv => by
    have hq := (hg q List.mem_cons_self).1
    have e : pcells (q :: r) = (pv q.1 q.2).toList ++ pcells r := by simp [pcells]
    have hl : (pv q.1 q.2).toList.length = 17 := by rw [Array.length_toList, pv_size, hq]
    rw [e]
    rcases k with _ | k
    · simp only [List.getElem?_cons_zero, Option.some.injEq] at h
      subst h
      have hj : j < 17 := by
        have := (Array.getElem?_eq_some_iff.1 hv).1
        rw [pv_size, hq] at this; omega
      rw [Nat.zero_mul, Nat.zero_add, List.getElem?_append_left (by omega), Array.getElem?_toList]
      exact hv
    · rw [List.getElem?_cons_succ] at h
      rw [show (k + 1) * 17 + j = 17 + (k * 17 + j) by omega, List.getElem?_append_right (by omega), hl, show 17 + (k * 17 + j) - 17 = k * 17 + j by omega]
      exact pcells_at (fun q hq => hg q (List.mem_cons_of_mem _ hq)) h j v hv

theorem wpHold_build40 {C : World → Prop} {L : Act → Prop} {ops : Array Oper} {a : Act} {o : Oper} {rest : List Oper} {x y : Operand} {c : List Int} {n : Int} (hw : Region.wanted o (yielded ops a.tmps) = true) (ho : o.op = .build 40 #[(0, x), (1, y)])
    (hx : a.eval x = .agg (bv c)) (hy : a.eval y = .int .i64 n) (hc : c.length = 16) (h : wpHold Tryd.prog ops C L rest (a.put o.dst (.agg (pv c n)))) : wpHold Tryd.prog ops C L (o :: rest) a := by
  refine wpHold_take hw (fun w _ => ?_) h
  unfold execOp
  have e : (#[(0, x), (1, y)] : Array (Nat × Operand)).map (fun (p : Nat × Operand) => (p.1, a.eval p.2)) = #[(0, .agg (bv c)), (1, .int .i64 n)] := by simp [hx, hy]
  simp only [ho]
  show ((do pure (.value (← Instr.build 40 ((#[(0, x), (1, y)] : Array (Nat × Operand)).map (fun (p : Nat × Operand) => (p.1, a.eval p.2))))) : Sem Next).run Tryd.prog w) = _
  rw [e]
  simp only [Sem.run_bind, run_build40 c hc n w, Result.andThen_ok, Sem.run_pure]
theorem run_slice58 (c : List Int) (hc : c.length = 16) (n : Int) (w : World) : (Instr.buildSlice 58 1 #[(0, .agg (pv c n))]).run Tryd.prog w = .ok (.slice (some ⟨w.heap.size, 0, none⟩) 1 1) (w.alloc (.cells (pv c n) 40)) := by
  obtain ⟨x0, x1, x2, x3, x4, x5, x6, x7, x8, x9, x10, x11, x12, x13, x14, x15, rfl⟩ := bv16 hc
  kernel_rfl
theorem wp_slice58 {o : Oper} {a : Act} {w : World} {K : Act → World → Prop} {Q : Exit → Act → World → Prop} {x : Operand} {c : List Int} {n : Int} (ho : o.op = .buildSlice 58 1 #[(0, x)]) (hx : a.eval x = .agg (pv c n)) (hc : c.length = 16)
    (h : K (a.put o.dst (.slice (some ⟨w.heap.size, 0, none⟩) 1 1)) (w.alloc (.cells (pv c n) 40))) : o.wp Tryd.prog a w K Q := by
  unfold Oper.wp execOp
  have e : (#[(0, x)] : Array (Nat × Operand)).map (fun (p : Nat × Operand) => (p.1, a.eval p.2)) = #[(0, .agg (pv c n))] := by simp [hx]
  simp only [ho]
  show o.upon _ _ _ _ ((do pure (.value (← Instr.buildSlice 58 1 ((#[(0, x)] : Array (Nat × Operand)).map (fun (p : Nat × Operand) => (p.1, a.eval p.2))))) : Sem Next).run Tryd.prog w)
  rw [e]
  simp only [Sem.run_bind, run_slice58 c hc n w, Result.andThen_ok, Sem.run_pure]
  exact h
theorem info40 : (Tryd.prog.info? 40).map (fun i => (i.zero, i.size, i.bytes)) = some (some (.agg (pv z16 0)), 17, 24) := by kernel_rfl

set_option maxHeartbeats 2000000 in
set_option maxRecDepth 100000 in
theorem prefixes_some (b o n cap : Nat) (L : List (List Int × Int)) (hL : L.length = n) (hg : good16 L) (w : World) (hr : Reads w w.heap.size 17 (some ⟨b, o, none⟩) n (pcells L)) (hn : n ≤ maxLen) :
    Calls Tryd.prog 26 #[.slice (some ⟨b, o, none⟩) n cap] w fun e w' => ∃ A' c', e = .returned (.slice A' (min n 20) c') ∧ w'.ownsRow w.heap.size 40 17 (.slice A' (min n 20) c') (min n 20) (pcells (L.take 20)) ∧ Below w.heap.size w w' := by
  obtain ⟨i0, hi⟩ := info_parts info40
  have HI := Lib.hid hi; clear hi
  have HR := Lib.hid hr; clear hr
  have HG := Lib.hid hg; clear hg
  unfold maxLen at hn
  go_enter Tryd.func26, Tryd.ntmps26
  go_wp2
  go_loopw [3, 4] (fun v t wr => ∃ (k : Nat), k ≤ n ∧ k ≤ 20 ∧ t = .int .i64 k ∧ (∃ A c, v = .slice A k c) ∧ Hid (wr.ownsRow w.heap.size 40 17 v k (pcells (L.take k))) ∧ Hid (Below w.heap.size w wr)) (fun _ t _ => 20 - (intOf t).toNat)
  case atStart => exact ⟨0, by omega, by omega, rfl, ⟨none, 0, rfl⟩, Lib.hid (World.ownsRow_nil _ _ _ _), Lib.hid (Below.refl _ _)⟩
  case round =>
    obtain ⟨k, hk, hk20, rfl, ⟨A, c, rfl⟩, HO, HB⟩ := hrel
    by_cases hlt : k < n
    · by_cases h20 : k < 20
      · obtain ⟨p, hp⟩ : ∃ p, L[k]? = some p := ⟨L[k], List.getElem?_eq_getElem (by omega)⟩
        have hp16 := (HG.out p (List.mem_of_getElem? hp)).1
        obtain ⟨P, m⟩ := p
        simp only at hp16
        obtain ⟨ad, had, hab, hcells⟩ := HR.out.2 (by omega)
        obtain rfl : ad = ⟨b, o, none⟩ := (Option.some.inj had).symm
        simp only at hab
        have hcell : ∀ j v, (pv P m)[j]? = some v → wr.cell? ⟨b, o + (k * 17 + j), none⟩ = some v := fun j v hv => by
          have h1 := hcells _ _ (pcells_at HG.out hp j v hv)
          rw [Lib.add_plain] at h1
          exact (HB.out.cell (p := ⟨b, o + (k * 17 + j), none⟩) hab).trans h1
        have q1 : rangeOf wr b (o + k * 17) (bv P) := fun j v hv => by
          have := hcell j v (by have := pv_addr P m j v hv; rwa [Nat.zero_add] at this)
          rwa [show o + (k * 17 + j) = o + k * 17 + j by omega] at this
        have q2 : wr.cell? ⟨b, o + k * 17 + 16, none⟩ = some (.int .i64 m) := by
          have := hcell 16 _ (pv_bits P m hp16)
          rwa [show o + (k * 17 + 16) = o + k * 17 + 16 by omega] at this
        have hab2 : b < wr.heap.size := by have := HB.out.size; omega
        have Q1 : Hid (∀ w', Since wr w' → rangeOf w' b (o + k * 17) (bv P)) := Lib.hid fun w' h => rangeOf_since q1 hab2 h
        have c2 : ∀ w', Since wr w' → w'.cell? ⟨b, o + k * 17 + 16, none⟩ = some (.int .i64 m) := fun w' h => (Since.cell h (p := ⟨b, o + k * 17 + 16, none⟩) hab2).trans q2
        have HP := Lib.hid hp
        clear hcell hcells had hp q1 q2
        have k0 : (0 : Int) ≤ k := by omega
        have k1 : (k : Int) < n := by omega
        go_wp2
        refine wp_region_hold (Since _) [0, 1, 2, 3, 4, 6, 7, 8, 9] [5, 10, 11] [12] [13, 14] (by kernel_rfl) (by kernel_rfl) (Since.drew _) ?_; simp only [pick, List.getElem?_cons_succ, List.getElem?_cons_zero]
        (refine wpPure_take (by rfl) (by (intro wq; go_simp; (try go_ints); exact rfl)) ?_; simp only [Act.put, List.setIfInBounds_toArray, List.set_cons_zero, List.set_cons_succ])
        (refine wpPure_take (by rfl) (by (intro wq; go_simp; (try go_ints); exact rfl)) ?_; simp only [Act.put, List.setIfInBounds_toArray, List.set_cons_zero, List.set_cons_succ])
        (refine wpPure_take (by rfl) (by (intro wq; go_simp; (try go_ints); exact rfl)) ?_; simp only [Act.put, List.setIfInBounds_toArray, List.set_cons_zero, List.set_cons_succ])
        (refine wpPure_take (by rfl) (by (intro wq; go_simp; (try go_ints); exact rfl)) ?_; simp only [Act.put, List.setIfInBounds_toArray, List.set_cons_zero, List.set_cons_succ])
        (refine wpPure_take (by rfl) (by (intro wq; go_simp; (try go_ints); exact rfl)) ?_; simp only [Act.put, List.setIfInBounds_toArray, List.set_cons_zero, List.set_cons_succ])
        (refine wpPure_take (by rfl) (by (intro wq; go_simp; (try go_ints); exact rfl)) ?_; simp only [Act.put, List.setIfInBounds_toArray, List.set_cons_zero, List.set_cons_succ])
        (refine wpPure_take (by rfl) (by (intro wq; go_simp; (try go_ints); exact rfl)) ?_; simp only [Act.put, List.setIfInBounds_toArray, List.set_cons_zero, List.set_cons_succ])
        (refine wpPure_take (by rfl) (by (intro wq; go_simp; (try go_ints); exact rfl)) ?_; simp only [Act.put, List.setIfInBounds_toArray, List.set_cons_zero, List.set_cons_succ])
        (refine wpPure_take (by rfl) (by (intro wq; go_simp; (try go_ints); exact rfl)) ?_; simp only [Act.put, List.setIfInBounds_toArray, List.set_cons_zero, List.set_cons_succ])
        refine wpPure_nil ?_
        (refine wpHold_range (cs := bv P) Tryd.underlying22 rfl isz22 (by rfl) rfl rfl Q1.out (by simp [go_sem, *]) ?_; simp only [Act.put, List.setIfInBounds_toArray, List.set_cons_zero, List.set_cons_succ])
        (refine wpHold_take (by rfl) (by (intro wq hwq; go_simp; (try go_ints); exact rfl)) ?_; simp only [Act.put, List.setIfInBounds_toArray, List.set_cons_zero, List.set_cons_succ])
        (refine wpHold_build40 (by rfl) rfl rfl rfl hp16 ?_; simp only [Act.put, List.setIfInBounds_toArray, List.set_cons_zero, List.set_cons_succ])
        refine wpHold_nil ?_
        (refine wpKeep_step (by rfl) (fun K' hK => ?_); refine wp_slice58 rfl rfl hp16 ?_; refine hK _ _ (Below.alloc (Since.drew _) (Nat.le_refl _) _) ?_; clear hK K'; simp only [Act.put, List.setIfInBounds_toArray, List.set_cons_zero, List.set_cons_succ])
        refine wpKeep_nil ?_
        go_wp2_with (first
          | (at_builtin; refine wpList_append_lies _ rfl (.tmp 15) (.tmp 27) 58 rfl w.heap.size 40 i0 _ 17 24 Tryd.underlying58 HI.out.1 HI.out.2.1 HI.out.2.2.1 HI.out.2.2.2 rfl (by decide) (.slice A k c) k (pcells (L.take k)) rfl (own_of_block HO.out (fun g hg => (Below.heap_alloc wr.drew (.cells (pv P m) 40) _ (own_lt HO.out hg).2))) ⟨wr.heap.size, 0, none⟩ 1 1 (pv P m).toList rfl (by rw [Array.length_toList, pv_size, hp16]) ?c1 ?c2 (by decide) ?c3 ?c4 ?c5 _ rfl ?_))
        case c1 =>
          intro j u hj
          rw [plain_add, Nat.zero_add]
          show (wr.drew.alloc _).cell? ⟨wr.drew.heap.size, j, none⟩ = _
          rw [World.cell?_alloc_new]
          simpa using hj
        case c2 => intro u hu; exact List.all_eq_true.1 (pv_one P m) u hu
        case c3 => unfold maxLen; omega
        case c4 => omega
        case c5 => have := HB.out.size; simp; omega
        · intro g c' w2 hown2 hgrow hat hlt2
          have hB2 : Below w.heap.size w w2 := by
            refine Below.grown ((HB.out.drew).alloc ?_ _) hgrow ?_ ?_
            · have := HB.out.size; simpa using this
            · have := HB.out.size; simp; omega
            · intro q hq
              exact (HO.out.lt q hq).1
          go_wp2
          refine Calm.normal ?_
          go_wp2
          go_roundw
          case rel =>
            refine ⟨k + 1, by omega, by omega, by go_num, ⟨_, _, rfl⟩, Lib.hid ?_, Lib.hid hB2⟩
            have e : L.take (k + 1) = L.take k ++ [(P, m)] := by
              rw [List.take_add_one, HP.out]; rfl
            rw [e, pcells_append, pcells_one]
            exact hown2
          case measure => simp [intOf]; omega
      · have hk20' : k = 20 := by omega
        subst hk20'
        have hn20 : min n 20 = 20 := by omega
        go_wp2
        go_ret
        refine ⟨A, c, ?_, ?_, HB.out⟩
        · rw [hn20]; rfl
        · rw [hn20]; exact HO.out
    · have hkn : k = n := by omega
      have hmin : min n 20 = k := by omega
      have ht : L.take 20 = L.take k := by rw [List.take_of_length_le (by omega), List.take_of_length_le (by omega)]
      have HT := Lib.hid ht
      clear ht
      go_wp2
      go_ret
      refine ⟨A, c, ?_, ?_, HB.out⟩
      · rw [hmin]; rfl
      · rw [hmin, HT.out]; exact HO.out
set_option maxHeartbeats 2000000 in
theorem prefixes_none (A : Option Addr) (cap : Nat) (w : World) :
    Calls Tryd.prog 26 #[.slice A 0 cap] w fun e w' => e = .returned (.slice none 0 0) ∧ w = w' := by
  go_enter Tryd.func26, Tryd.ntmps26
  go_wp2
  go_loop [3, 4] (fun v t => v = .slice none 0 0 ∧ t = .int .i64 0) (fun _ _ => 0)
  case atStart => exact ⟨rfl, rfl⟩
  case round =>
    obtain ⟨rfl, rfl⟩ := hrel
    go_wp2
    go_ret
    exact ⟨rfl, rfl⟩
end Go.Proofs.YtodeiapaehlmfaaDoor
