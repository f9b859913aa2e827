import Derived.Test.YtodeiapaehlmfaaDoorA3
namespace Go.Proofs.YtodeiapaehlmfaaDoor
open Go Go.RowKit
attribute [local go_sem] rowAt_alloc_at rowAt_alloc_past rowAt_drew rowAt_drewN bv_size iv_size bv_one iv_one bv_set iv_set bv_get iv_get bv_elem iv_elem zlit16 zlit8 z16_length z8_length eq25 eq22 eq23 pv_size pv_one cutS_length
attribute [local irreducible] wpQuiet
set_option linter.unusedSimpArgs false

def ofTo (l : List Int) : Nat → List Int
  | 0 => z16
  | k + 1 => ((ofTo l k).set (2 * k) (nth l k / 256)).set (2 * k + 1) (nth l k % 256)
theorem ofTo_length (l : List Int) (k : Nat) : (ofTo l k).length = 16 := by
  induction k with
  | zero => rfl
  | succ k ih => simp [ofTo, ih]
/-- the address of groups, and the error's number -/
def okG (n : Int) : Bool := decide (0 ≤ n ∧ n ≤ 65535)
def ofS (l : List Int) : List Int × Int := if l.length = 8 ∧ l.all okG = true then (ofTo l 8, 0) else (z16, 1)
theorem ofS_bad {l : List Int} (h : ¬ (l.length = 8 ∧ l.all okG = true)) : ofS l = (z16, 1) := if_neg h
theorem ofS_good {l : List Int} (h : l.length = 8 ∧ l.all okG = true) : ofS l = (ofTo l 8, 0) := if_pos h
theorem ofS_length (l : List Int) : (ofS l).1.length = 16 := by
  unfold ofS; split
  · exact ofTo_length l 8
  · rfl

set_option maxHeartbeats 400000 in
theorem of_eight (b off cap : Nat) (l : List Int) (hl : l.length = 8) (w : World) (hb : b < w.heap.size) (hc : ∀ k, k < 8 → w.cell? ⟨b, off + k, none⟩ = some (.int .i64 (nth l k))) :
    Calls Tryd.prog 9 #[.slice (some ⟨b, off, none⟩) 8 cap] w fun e w' => e = .returned (.tuple #[.agg (bv (ofS l).1), .int .i64 (ofS l).2]) ∧ Below w.heap.size w w' := by
  go_enter Tryd.func9, Tryd.ntmps9
  go_wp2
  go_loopw [13] (fun t wr => ∃ (k : Nat) (l' : List Int), k ≤ 8 ∧ t = .int .i64 k ∧ l'.length = 16 ∧ Hid (l' = ofTo l k) ∧ Hid (∀ j, j < k → okG (nth l j) = true) ∧
     wr = (w.alloc (.cells (bv z16) 25)).alloc (.cells (bv l') 25)) (fun t _ => 8 - (intOf t).toNat)
  case atStart => exact ⟨0, z16, by omega, rfl, rfl, rfl, (fun j hj => absurd hj (by omega)), rfl⟩
  case round =>
    obtain ⟨k, l', hk, rfl, hl', HE, HO, rfl⟩ := hrel
    by_cases hlt : k < 8
    · have hck := hc k hlt
      clear hc
      by_cases h0 : 0 ≤ nth l k
      · by_cases h1 : nth l k ≤ 65535
        · go_wp2
          go_roundw
          case rel =>
            refine ⟨k + 1, _, by omega, by go_num, ?_, ?_, ?_, rfl⟩
            · simp [hl']
            · show _ = _
              rw [HE.out]; rfl
            · intro j hj
              by_cases hjk : j = k
              · subst hjk; simp [okG, h0, h1]
              · exact HO.out j (by omega)
          case measure => simp [intOf]; omega
        · go_wp2_with (first | (apply wpList_rowstore (cs := bv z16) (vs := bv z16) isz25; exact rfl; exact rfl; exact rfl; exact rfl; exact (by simp [go_sem]); exact (by simp [go_sem, *]); exact (by simp [go_sem]); exact (by simp [go_sem]); simp (disch := simp [go_sem]) only [setRow_alloc_at, setRow_alloc_past, setRow_drew]; try simp only [Act.put, List.setIfInBounds_toArray, List.set_cons_zero, List.set_cons_succ]))
          refine bodyPost_ret (results_row_tmp rfl Tryd.underlying25 rfl isz25 _ _ (w.heap.size) (bv z16) rfl (by simp [go_sem, *]) (by simp [go_sem, *])) rfl ?_
          have hbad : ¬ (l.length = 8 ∧ l.all okG = true) := by
            rintro ⟨_, ha⟩
            have := List.all_eq_true.1 ha (nth l k) (by simp [nth, hl, hlt])
            simp [okG] at this
            omega
          refine ⟨?_, below2 _ _ _⟩
          rw [ofS_bad hbad]; rfl
      · go_wp2_with (first | (apply wpList_rowstore (cs := bv z16) (vs := bv z16) isz25; exact rfl; exact rfl; exact rfl; exact rfl; exact (by simp [go_sem]); exact (by simp [go_sem, *]); exact (by simp [go_sem]); exact (by simp [go_sem]); simp (disch := simp [go_sem]) only [setRow_alloc_at, setRow_alloc_past, setRow_drew]; try simp only [Act.put, List.setIfInBounds_toArray, List.set_cons_zero, List.set_cons_succ]))
        refine bodyPost_ret (results_row_tmp rfl Tryd.underlying25 rfl isz25 _ _ (w.heap.size) (bv z16) rfl (by simp [go_sem, *]) (by simp [go_sem, *])) rfl ?_
        have hbad : ¬ (l.length = 8 ∧ l.all okG = true) := by
          rintro ⟨_, ha⟩
          have := List.all_eq_true.1 ha (nth l k) (by simp [nth, hl, hlt])
          simp [okG] at this
          omega
        refine ⟨?_, below2 _ _ _⟩
        rw [ofS_bad hbad]; rfl
    · have hk8 : k = 8 := by omega
      subst hk8
      go_wp2_with (first | (apply wpList_rowload (cs := bv l') Tryd.underlying25 rfl isz25; exact rfl; exact rfl; exact rfl; exact (by simp [go_sem]); exact (by simp [go_sem, *]); simp only [Act.put, List.setIfInBounds_toArray, List.set_cons_zero, List.set_cons_succ]) | (apply wpList_rowstore (cs := bv z16) isz25; exact rfl; exact rfl; exact rfl; exact rfl; exact (by simp [go_sem]); exact (by simp [go_sem, *]); exact (by simp [go_sem, *]); exact (by simp [go_sem, *]); simp (disch := simp [go_sem]) only [setRow_alloc_at, setRow_alloc_past, setRow_drew]; try simp only [Act.put, List.setIfInBounds_toArray, List.set_cons_zero, List.set_cons_succ]))
      refine bodyPost_ret (results_row_tmp rfl Tryd.underlying25 rfl isz25 _ _ (w.heap.size) (bv l') rfl (by simp [go_sem, *]) (by simp [go_sem, *])) rfl ?_
      have hgood : l.length = 8 ∧ l.all okG = true := by
        refine ⟨hl, List.all_eq_true.2 fun x hx => ?_⟩
        obtain ⟨j, hj, rfl⟩ := List.mem_iff_getElem.1 hx
        have := HO.out j (by omega)
        simpa [nth, hj] using this
      refine ⟨?_, below2 _ _ _⟩
      rw [HE.out, ofS_good hgood]; rfl

set_option maxHeartbeats 400000 in
theorem of_other (A : Option Addr) (n cap : Nat) (l : List Int) (hl : l.length = n) (hn : n ≠ 8) (w : World) :
    Calls Tryd.prog 9 #[.slice A n cap] w fun e w' => e = .returned (.tuple #[.agg (bv (ofS l).1), .int .i64 (ofS l).2]) ∧ Below w.heap.size w w' := by
  have hn8 : ((n : Int) == 8) = false := beq_eq_false_iff_ne.2 (by omega)
  have hn9 : ((n : Int) != 8) = true := by rw [bne, hn8]; rfl
  go_enter Tryd.func9, Tryd.ntmps9
  go_wp2_with (first | (apply wpList_rowload (cs := bv z16) Tryd.underlying25 rfl isz25; exact rfl; exact rfl; exact rfl; exact (by simp [go_sem]); exact (by simp [go_sem, *]); simp only [Act.put, List.setIfInBounds_toArray, List.set_cons_zero, List.set_cons_succ]) | (apply wpList_rowstore (cs := bv z16) isz25; exact rfl; exact rfl; exact rfl; exact rfl; exact (by simp [go_sem]); exact (by simp [go_sem, *]); exact (by simp [go_sem, *]); exact (by simp [go_sem, *]); simp (disch := simp [go_sem]) only [setRow_alloc_at, setRow_alloc_past, setRow_drew]; try simp only [Act.put, List.setIfInBounds_toArray, List.set_cons_zero, List.set_cons_succ]))
  refine bodyPost_ret (results_row_tmp rfl Tryd.underlying25 rfl isz25 _ _ (w.heap.size) (bv z16) rfl (by simp [go_sem, *]) (by simp [go_sem, *])) rfl ?_
  have hbad : ¬ (l.length = 8 ∧ l.all okG = true) := fun h => hn (hl.symm.trans h.1)
  refine ⟨?_, below2 _ _ _⟩
  rw [ofS_bad hbad]; rfl

theorem of_iv (L : List Int) (hL : L.length = 8) (w : World) (t : TypeId) :
    Calls Tryd.prog 9 #[.slice (some ⟨w.heap.size, 0, none⟩) 8 8] (w.alloc (.cells (iv L) t)) fun e w' =>
      e = .returned (.tuple #[.agg (bv (ofS L).1), .int .i64 (ofS L).2]) ∧ Below (w.alloc (.cells (iv L) t)).heap.size (w.alloc (.cells (iv L) t)) w' := by
  refine of_eight w.heap.size 0 8 L hL _ (by simp) ?_
  intro k hk
  rw [cell_row (row1 w (iv L) t), Nat.zero_add, iv_get, if_pos (by omega)]
theorem of_iv' (L : List Int) (hL : L.length = 8) (w : World) (t : TypeId) (n : Nat) (hn : n = w.heap.size) :
    Calls Tryd.prog 9 #[.slice (some ⟨n, 0, none⟩) 8 8] (w.alloc (.cells (iv L) t)) fun e w' =>
      e = .returned (.tuple #[.agg (bv (ofS L).1), .int .i64 (ofS L).2]) ∧ Below (w.alloc (.cells (iv L) t)).heap.size (w.alloc (.cells (iv L) t)) w' := by
  subst hn; exact of_iv L hL w t
def linkG (n : Int) : List Int := [65152, 0, 0, 0, 0, 0, 1, n + 1]
theorem linkG_of (n : Int) : (((((((z8.set 0 65152).set 1 0).set 2 0).set 3 0).set 4 0).set 5 0).set 6 1).set 7 (n + 1) = linkG n := rfl
theorem linkG_length (n : Int) : (linkG n).length = 8 := rfl
attribute [local go_sem] linkG_of

def linkS (n : Int) : List Int × Int := if 0 ≤ n ∧ n < 64 then ofS (linkG n) else (z16, 1)
theorem linkS_yes {n : Int} (h : 0 ≤ n ∧ n < 64) : linkS n = ofS (linkG n) := if_pos h
theorem linkS_no {n : Int} (h : ¬ (0 ≤ n ∧ n < 64)) : linkS n = (z16, 1) := if_neg h
theorem linkS_length (n : Int) : (linkS n).1.length = 16 := by
  unfold linkS; split
  · exact ofS_length _
  · rfl

attribute [local irreducible] linkG
set_option maxHeartbeats 400000 in
theorem link_any (n : Int) (w : World) : Calls Tryd.prog 19 #[.int .i64 n] w fun e w' => e = .returned (.tuple #[.agg (bv (linkS n).1), .int .i64 (linkS n).2]) ∧ Below w.heap.size w w' := by
  by_cases h : 0 ≤ n ∧ n < 64
  · obtain ⟨h0, h1⟩ := h
    go_enter Tryd.func19, Tryd.ntmps19
    have hr0 := row1 w (bv z16) 25
    have hlen := ofS_length (linkG n)
    go_wp2_with (first | (go_at_call 37; (refine (node_yes n ⟨h0, h1⟩ _).mono ?_); rintro e1 w1 ⟨rfl, hb1⟩; have hr1 := row_call hb1 hr0) | (go_at_call 9; refine (of_iv _ (linkG_length n) _ _).mono ?_; rintro e2 w2 ⟨rfl, hb2⟩; have hr2 := row_call hb2 (row_alloc hr1 _)) | (apply wpList_rowstore (vs := bv (ofS (linkG n)).1) isz25; exact rfl; exact rfl; exact rfl; exact rfl; (with_reducible exact hr2); exact (by simp [go_sem, *]); exact (by simp [go_sem, *]); exact (by simp [go_sem, *]); try simp only [Act.put, List.setIfInBounds_toArray, List.set_cons_zero, List.set_cons_succ]))
    refine bodyPost_ret (results_row_tmp rfl Tryd.underlying25 rfl isz25 _ _ (w.heap.size) (bv (ofS (linkG n)).1) rfl (rowAt_setRow_same hr2 _) (by simp [go_sem, *])) rfl ?_
    exact ⟨by rw [linkS_yes ⟨h0, h1⟩]; rfl, below_set (below_call (below_new (below_call (below1 _ _) hb1) _) hb2) (Nat.le_refl _) _⟩
  · go_enter Tryd.func19, Tryd.ntmps19
    have hr0 := row1 w (bv z16) 25
    go_wp2_with (first | (go_at_call 37; (refine (node_no n h _).mono ?_); rintro e1 w1 ⟨rfl, hb1⟩; have hr1 := row_call hb1 hr0) | (apply wpList_rowstore (vs := bv z16) isz25; exact rfl; exact rfl; exact rfl; exact rfl; (with_reducible exact hr1); exact (by simp [go_sem, *]); exact (by simp [go_sem, *]); exact (by simp [go_sem, *]); try simp only [Act.put, List.setIfInBounds_toArray, List.set_cons_zero, List.set_cons_succ]))
    refine bodyPost_ret (results_row_tmp rfl Tryd.underlying25 rfl isz25 _ _ (w.heap.size) (bv z16) rfl (rowAt_setRow_same hr1 _) (by simp [go_sem, *])) rfl ?_
    exact ⟨by rw [linkS_no h]; rfl, below_set (below_call (below1 _ _) hb1) (Nat.le_refl _) _⟩
end Go.Proofs.YtodeiapaehlmfaaDoor
