import Derived.Test.YtodeiapaehlmfaaDoorAl
namespace Go.Proofs.YtodeiapaehlmfaaDoor
open Go Go.RowKit
attribute [local go_sem] rowAt_alloc_at rowAt_alloc_past rowAt_drew rowAt_drewN bv_size iv_size bv_one iv_one bv_set iv_set bv_get iv_get bv_elem iv_elem zlit16 zlit8 z16_length z8_length eq25 eq22 eq23 pv_size pv_one
attribute [local irreducible] wpQuiet
set_option linter.unusedSimpArgs false

/-! ### the law AddrGroups -/
theorem ofTo_rof (g : List Int) : ∀ k, k ≤ 8 → ofTo g k = rofTo g k
  | 0, _ => (rofTo_zero g).symm
  | k + 1, h => by
    rw [← rofTo_succ g k (by omega), ← ofTo_rof g k (by omega)]
    rfl
theorem ofS_rof {g : List Int} (h : g.length = 8 ∧ g.all okG = true) : ofS g = (rofS g, 0) := by
  rw [ofS_good h, ofTo_rof g 8 (by omega)]
  rfl

def okTo (L : List Int) (k : Nat) : Bool := decide (L.length = 8) && (L.take k).all okG
theorem okTo_succ (L : List Int) (k : Nat) (h : k < L.length) : okTo L (k + 1) = (okTo L k && okG (nth L k)) := by
  have hn : nth L k = L[k] := by simp [nth, List.getD, h]
  unfold okTo
  rw [List.take_succ_eq_append_getElem h, List.all_append, hn, Bool.and_assoc]
  simp
def frTo (L : List Int) (k : Nat) : List Int := tab 8 fun j => if j < k then nth L j else 0
theorem frTo_zero (L : List Int) : frTo L 0 = z8 := nth_ext (tab_length _ _) rfl fun j hj => by rw [frTo, nth_tab _ hj, nth_z8]; rfl
theorem frTo_succ (L : List Int) (k : Nat) : (frTo L k).set k (nth L k) = frTo L (k + 1) :=
  tab_set (by simp) fun j _ hne => by
    by_cases h : j < k
    · rw [if_pos h, if_pos (by omega)]
    · rw [if_neg h, if_neg (by omega)]
theorem frTo_all {L : List Int} (h : L.length = 8) : frTo L 8 = L := nth_ext (tab_length _ _) h fun j hj => by rw [frTo, nth_tab _ hj, if_pos hj]
theorem okTo_ok {L : List Int} (h : okTo L 8 = true) : L.length = 8 ∧ L.all okG = true := by
  unfold okTo at h
  simp only [Bool.and_eq_true, decide_eq_true_eq] at h
  refine ⟨h.1, ?_⟩
  have := h.2
  rwa [List.take_of_length_le (by omega)] at this
theorem okTo_all {L : List Int} {k : Nat} (hk : k = L.length ∨ k = 8) (h : okTo L k = true) : L.length = 8 ∧ L.all okG = true ∧ k = 8 := by
  have h8 : L.length = 8 := by
    unfold okTo at h
    simp only [Bool.and_eq_true, decide_eq_true_eq] at h
    exact h.1
  have hk8 : k = 8 := by omega
  subst hk8
  exact ⟨h8, (okTo_ok h).2, rfl⟩
theorem okTo_not {L : List Int} {k : Nat} (hk : k = L.length ∨ k = 8) (h : okTo L k = false) : ¬ (L.length = 8 ∧ L.all okG = true) := by
  rintro ⟨h8, ha⟩
  have hk8 : k = 8 := by omega
  subst hk8
  unfold okTo at h
  rw [List.take_of_length_le (by omega), ha, decide_eq_true h8] at h
  cases h

theorem rofS_length (g : List Int) : (rofS g).length = 16 := tab_length _ _
theorem okG_bounds {L : List Int} (h : L.all okG = true) (j : Nat) : 0 ≤ nth L j ∧ nth L j ≤ 65535 := by
  unfold nth
  by_cases hj : j < L.length
  · have := List.all_eq_true.1 h L[j] (List.getElem_mem hj)
    simp only [okG, decide_eq_true_eq] at this
    simpa [List.getD, List.getElem?_eq_getElem hj] using this
  · simp [List.getD, List.getElem?_eq_none (show L.length ≤ j by omega)]

set_option maxHeartbeats 1000000 in
set_option maxRecDepth 100000 in
theorem law_groups_gen (A : Option Addr) (len n cap : Nat) (L : List Int) (hL : L.length = n) (hn : n ≤ 20) (w : World) (hg : Glob w)
    (hsl : ∀ W, (Instr.slice 29 (.slice A len cap) none (some (.int .i64 (min (len : Int) 20))) none).run Tryd.prog W = .ok (.slice A n cap) W)
    (hOf : Calls Tryd.prog 9 #[.slice A n cap] w fun e w' => e = .returned (.tuple #[.agg (bv (ofS L).1), .int .i64 (ofS L).2]) ∧ Below w.heap.size w w')
    (hc : ∀ k, k < n → ∃ b off, A = some ⟨b, off, none⟩ ∧ w.cell? ⟨b, off + k, none⟩ = some (.int .i64 (nth L k))) :
    Calls Tryd.prog 4 #[.slice A len cap] w fun e w' => e = .returned (.bool true) ∧ Below w.heap.size w w' := by
  have HOf := Lib.hid hOf
  have HK := Lib.hid (fun w hg => known_any w hg)
  have HG := Lib.hid hg
  have HC := Lib.hid hc
  have hpl := ofS_length L
  have HP : Hid ((¬ (L.length = 8 ∧ L.all okG = true) → (ofS L).1 = z16 ∧ (ofS L).2 = 1) ∧ ((L.length = 8 ∧ L.all okG = true) → (ofS L).1 = rofS L ∧ (ofS L).2 = 0)) := Lib.hid ⟨fun h => by rw [ofS_bad h]; exact ⟨rfl, rfl⟩, fun h => by rw [ofS_rof h]; exact ⟨rfl, rfl⟩⟩
  clear hg hOf hc
  generalize (ofS L).1 = P at *
  generalize (ofS L).2 = E at *
  have h8 : ((n : Int) == 8) = decide (L.length = 8) := by
    rw [hL]
    by_cases h : n = 8
    · subst h; rfl
    · rw [decide_eq_false h, beq_eq_false_iff_ne]; omega
  go_enter Tryd.func4, Tryd.ntmps4
  go_wp2_with (first
    | (go_at_call 9; refine HOf.out.mono ?_; rintro e w1 ⟨rfl, hb1⟩)
    | (apply wpList_rowstore (vs := bv P) isz25; exact rfl; exact rfl; exact rfl; exact rfl; (with_reducible exact row1 _ _ _); exact (by simp [go_sem, *]); exact (by simp [go_sem, *]); exact (by simp [go_sem, *]); try simp only [Act.put, List.setIfInBounds_toArray, List.set_cons_zero, List.set_cons_succ]; try simp (disch := simp [go_sem]) only [setRow_alloc_at, setRow_alloc_past, setRow_drew]))
  have r3 := row2a w1 (bv P) 25 (.cells (iv z8) 23)
  have r6 := row2b w1 (iv z8) 23 (.cells (bv P) 25)
  have B1 := Lib.hid (below_new (below_new hb1 (.cells (bv P) 25)) (.cells (iv z8) 23))
  have hs1 : w.heap.size ≤ w1.heap.size := hb1.size
  clear hb1
  have hs2 : ((w1.alloc (.cells (bv P) 25)).alloc (.cells (iv z8) 23)).heap.size = w1.heap.size + 2 := by simp
  generalize (w1.alloc (.cells (bv P) 25)).alloc (.cells (iv z8) 23) = W at *
  go_loopw [5, 7] (fun vo vi wr => ∃ (k : Nat) (o : Bool) (l' : List Int), k ≤ n ∧ k ≤ 8 ∧ vo = .bool o ∧ vi = .int .i64 k ∧ l'.length = 8 ∧ Hid (o = okTo L k ∧ l' = frTo L k) ∧
     Hid (Below w.heap.size w wr) ∧ rowAt wr w1.heap.size = some (bv P) ∧ rowAt wr (w1.heap.size + 1) = some (iv l')) (fun _ vi _ => 8 - (intOf vi).toNat)
  case atStart => exact ⟨0, _, z8, by omega, by omega, rfl, rfl, rfl, Lib.hid ⟨by simp [okTo, hL], (frTo_zero L).symm⟩, B1, r3, r6⟩
  case round =>
    obtain ⟨k, o, l', hk, hk8, rfl, rfl, hl', HE, HB, q3, q6⟩ := hrel
    by_cases hin : k < n ∧ k < 8
    · obtain ⟨hkn, hk8'⟩ := hin
      obtain ⟨b, off, rfl, hcw⟩ := HC.out k hkn
      have hck : wr.cell? ⟨b, off + k, none⟩ = some (.int .i64 (nth L k)) := (HB.out.cell (cell_lt hcw)).trans hcw
      have dc : wr.cell? ⟨w1.heap.size + 1, k, none⟩ = some (.int .i64 (nth l' k)) := by rw [cell_row q6, iv_get, if_pos (by omega)]
      have df : wr.frozen? ⟨w1.heap.size + 1, k, none⟩ = false := frozen_row q6 k
      have dn : ¬ (b = w1.heap.size + 1) := by
        have := cell_lt hcw
        simp only at this
        omega
      have hOK := okTo_succ L k (by omega)
      have hFR := frTo_succ L k
      have hkn' : (k : Int) < n := by omega
      have hk8i : (k : Int) < 8 := by omega
      have HN : Hid (∀ o', o' = (o && okG (nth L k)) → o' = okTo L (k + 1) ∧ l'.set k (nth L k) = frTo L (k + 1)) := Lib.hid fun o' h => by
        rw [h, hOK, HE.out.1, ← hFR, HE.out.2]
        exact ⟨rfl, rfl⟩
      clear hcw HE hOK hFR
      rcases o with _ | _
      · go_wp2
        go_roundw
        case rel =>
          refine ⟨k + 1, _, _, by omega, by omega, rfl, by go_num, ?_, Lib.hid (HN.out _ (by rfl)), Lib.hid (below_setCell HB.out (by omega) _ _), ?_, ?_⟩
          · simp [hl']
          · exact row_setCell_other q3 (by omega) _ _
          · rw [row_setCell_same q6]
            exact congrArg some (iv_set _ _ _)
        case measure => simp [intOf]; omega
      · by_cases h0 : 0 ≤ nth L k
        · by_cases h1 : nth L k ≤ 65535
          · go_wp2
            go_roundw
            case rel =>
              refine ⟨k + 1, _, _, by omega, by omega, rfl, by go_num, ?_, Lib.hid (HN.out _ (by simp [okG, h0, h1])), Lib.hid (below_setCell HB.out (by omega) _ _), ?_, ?_⟩
              · simp [hl']
              · exact row_setCell_other q3 (by omega) _ _
              · rw [row_setCell_same q6]
                exact congrArg some (iv_set _ _ _)
            case measure => simp [intOf]; omega
          · go_wp2
            go_roundw
            case rel =>
              refine ⟨k + 1, _, _, by omega, by omega, rfl, by go_num, ?_, Lib.hid (HN.out _ (by simp [okG, h1])), Lib.hid (below_setCell HB.out (by omega) _ _), ?_, ?_⟩
              · simp [hl']
              · exact row_setCell_other q3 (by omega) _ _
              · rw [row_setCell_same q6]
                exact congrArg some (iv_set _ _ _)
            case measure => simp [intOf]; omega
        · go_wp2
          go_roundw
          case rel =>
            refine ⟨k + 1, _, _, by omega, by omega, rfl, by go_num, ?_, Lib.hid (HN.out _ (by simp [okG, h0])), Lib.hid (below_setCell HB.out (by omega) _ _), ?_, ?_⟩
            · simp [hl']
            · exact row_setCell_other q3 (by omega) _ _
            · rw [row_setCell_same q6]
              exact congrArg some (iv_set _ _ _)
          case measure => simp [intOf]; omega
    · have hkk : k = L.length ∨ k = 8 := by omega
      by_cases hkn : k < n
      · have hk8i : ¬ ((k : Int) < 8) := by omega
        have hkni : (k : Int) < n := by omega
        rcases o with _ | _
        · have hbad := okTo_not hkk HE.out.1.symm
          obtain ⟨rfl, rfl⟩ := HP.out.1 hbad
          have e25 : ∀ W, (Op.equalIn 10000 25 (.agg (bv z16)) (.agg (bv z16))).run Tryd.prog W = .ok true W := fun W => by rw [eq25 W 9998 _ _ rfl rfl, decide_eq_true rfl]
          clear hbad HE HP HC
          go_wp2_with (first
            | (go_at_call 14; refine (HK.out _ (HG.out.since HB.out)).mono ?_; rintro e w2 ⟨rfl, hb2⟩; have q := row_call hb2 q3)
            | (apply wpList_rowload Tryd.underlying25 rfl isz25; exact rfl; exact rfl; exact rfl; (with_reducible exact q); exact (by simp [go_sem, *]); simp only [Act.put, List.setIfInBounds_toArray, List.set_cons_zero, List.set_cons_succ]))
          go_ret
          exact ⟨rfl, below_call HB.out hb2⟩
        · obtain ⟨hL8, hall, hk8''⟩ := okTo_all hkk HE.out.1.symm
          omega
      · have hkni : ¬ ((k : Int) < n) := by omega
        rcases o with _ | _
        · have hbad := okTo_not hkk HE.out.1.symm
          obtain ⟨rfl, rfl⟩ := HP.out.1 hbad
          have e25 : ∀ W, (Op.equalIn 10000 25 (.agg (bv z16)) (.agg (bv z16))).run Tryd.prog W = .ok true W := fun W => by rw [eq25 W 9998 _ _ rfl rfl, decide_eq_true rfl]
          clear hbad HE HP HC
          go_wp2_with (first
            | (go_at_call 14; refine (HK.out _ (HG.out.since HB.out)).mono ?_; rintro e w2 ⟨rfl, hb2⟩; have q := row_call hb2 q3)
            | (apply wpList_rowload Tryd.underlying25 rfl isz25; exact rfl; exact rfl; exact rfl; (with_reducible exact q); exact (by simp [go_sem, *]); simp only [Act.put, List.setIfInBounds_toArray, List.set_cons_zero, List.set_cons_succ]))
          go_ret
          exact ⟨rfl, below_call HB.out hb2⟩
        · obtain ⟨hL8, hall, hk8''⟩ := okTo_all hkk HE.out.1.symm
          obtain ⟨rfl, rfl⟩ := HP.out.2 ⟨hL8, hall⟩
          have hlL : l' = L := by rw [HE.out.2, hk8'', frTo_all hL8]
          subst hlL
          have hrl := rofS_length l'
          have HR := Lib.hid fun w => rof_any l' hL8 (okG_bounds hall) w
          generalize rofS l' = R at *
          have e25 : ∀ W, (Op.equalIn 10000 25 (.agg (bv R)) (.agg (bv R))).run Tryd.prog W = .ok true W := fun W => by rw [eq25 W 9998 _ _ hrl hrl, decide_eq_true rfl]
          clear HE HP HC hall
          go_wp2
          refine wp_region_calm (Since _) (by kernel_rfl) (by kernel_rfl) (Since.drew _) ?_
          (refine wpQuiet_step (fun K hK => ?_); rw [if_pos (by rfl)]; apply quiet_call; (intro wq; go_simp; exact ⟨rfl, rfl⟩); (intro wq hwq; exact Since.call hwq (HK.out _ (HG.out.since (hwq.out HB.out)))); refine hK _ ?_; clear hK K; simp only [Act.put, List.setIfInBounds_toArray, List.set_cons_zero, List.set_cons_succ])
          (refine wpQuiet_step (fun K hK => ?_); rw [if_pos (by rfl)]; apply quiet_val; (intro wq hwq; go_simp; (try go_ints); exact rfl); refine hK _ ?_; clear hK K; simp only [Act.put, List.setIfInBounds_toArray, List.set_cons_zero, List.set_cons_succ])
          (refine wpQuiet_step (fun K hK => ?_); rw [if_pos (by rfl)]; apply quiet_val; (intro wq hwq; go_simp; (try go_ints); exact rfl); refine hK _ ?_; clear hK K; simp only [Act.put, List.setIfInBounds_toArray, List.set_cons_zero, List.set_cons_succ])
          (refine wpQuiet_step (fun K hK => ?_); rw [if_pos (by rfl)]; apply quiet_val; (intro wq hwq; go_simp; (try go_ints); exact rfl); refine hK _ ?_; clear hK K; simp only [Act.put, List.setIfInBounds_toArray, List.set_cons_zero, List.set_cons_succ])
          (refine wpQuiet_step (fun K hK => ?_); rw [if_pos (by rfl)]; apply quiet_val; (intro wq hwq; go_simp; (try go_ints); exact rfl); refine hK _ ?_; clear hK K; simp only [Act.put, List.setIfInBounds_toArray, List.set_cons_zero, List.set_cons_succ])
          (refine wpQuiet_step (fun K hK => ?_); rw [if_pos (by rfl)]; apply quiet_val; (intro wq hwq; go_simp; (try go_ints); exact rfl); refine hK _ ?_; clear hK K; simp only [Act.put, List.setIfInBounds_toArray, List.set_cons_zero, List.set_cons_succ])
          (refine wpQuiet_step (fun K hK => ?_); rw [if_pos (by rfl)]; apply quiet_rowload (cs := bv R) Tryd.underlying25 rfl isz25; exact rfl; exact rfl; exact fun w h => laterRow h q3; exact (by simp [go_sem, *]); refine hK _ ?_; clear hK K; simp only [Act.put, List.setIfInBounds_toArray, List.set_cons_zero, List.set_cons_succ])
          (refine wpQuiet_step (fun K hK => ?_); rw [if_pos (by rfl)]; apply quiet_rowload (cs := iv l') Tryd.underlying23 rfl isz23; exact rfl; exact rfl; exact fun w h => laterRow h q6; exact (by simp [go_sem, *]); refine hK _ ?_; clear hK K; simp only [Act.put, List.setIfInBounds_toArray, List.set_cons_zero, List.set_cons_succ])
          (refine wpQuiet_step (fun K hK => ?_); rw [if_pos (by rfl)]; apply quiet_call; (intro wq; go_simp; exact ⟨rfl, rfl⟩); (intro wq hwq; exact Since.call hwq (HR.out _)); refine hK _ ?_; clear hK K; simp only [Act.put, List.setIfInBounds_toArray, List.set_cons_zero, List.set_cons_succ])
          (refine wpQuiet_step (fun K hK => ?_); rw [if_pos (by rfl)]; apply quiet_val; (intro wq hwq; go_simp; (try go_ints); exact rfl); refine hK _ ?_; clear hK K; simp only [Act.put, List.setIfInBounds_toArray, List.set_cons_zero, List.set_cons_succ])
          (refine wpQuiet_step (fun K hK => ?_); rw [if_pos (by rfl)]; apply quiet_val; (intro wq hwq; go_simp; (try go_ints); exact rfl); refine hK _ ?_; clear hK K; simp only [Act.put, List.setIfInBounds_toArray, List.set_cons_zero, List.set_cons_succ])
          (refine wpQuiet_step (fun K hK => ?_); rw [if_pos (by rfl)]; apply quiet_val; (intro wq hwq; go_simp; (try go_ints); exact rfl); refine hK _ ?_; clear hK K; simp only [Act.put, List.setIfInBounds_toArray, List.set_cons_zero, List.set_cons_succ])
          refine wpQuiet_nil ?_; intro wn hwn
          go_wp2
          go_ret
          exact ⟨rfl, hwn.out HB.out⟩

end Go.Proofs.YtodeiapaehlmfaaDoor
