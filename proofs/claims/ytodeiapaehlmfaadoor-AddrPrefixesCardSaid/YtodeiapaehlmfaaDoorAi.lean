import Derived.Test.YtodeiapaehlmfaaDoorAh
namespace Go.Proofs.YtodeiapaehlmfaaDoor
open Go Go.RowKit
attribute [local go_sem] rowAt_alloc_at rowAt_alloc_past rowAt_drew rowAt_drewN bv_size iv_size bv_one iv_one bv_set iv_set bv_get iv_get bv_elem iv_elem zlit16 zlit8 z16_length z8_length
attribute [local irreducible] wpQuiet
set_option linter.unusedSimpArgs false

/-! ### addr.Text -/
theorem zerosAt_le (l : List Int) (hl : l.length = 8) (i : Nat) : zerosAt l i ≤ 8 - i := by
  unfold zerosAt
  have := (List.takeWhile_sublist (fun x : Int => x == 0) (l := l.drop i)).length_le
  simp [hl] at this
  exact this
theorem look_le (l : List Int) (hl : l.length = 8) : ∀ (f i a s : Nat), a + s ≤ 8 → (look l f i a s).1 + (look l f i a s).2 ≤ 8
  | 0, i, a, s, h => h
  | f + 1, i, a, s, h => by
    rw [look_succ]
    split
    · refine look_le l hl f _ _ _ ?_
      have := zerosAt_le l hl i
      split <;> omega
    · exact h
theorem runS_le (l : List Int) (hl : l.length = 8) : (runS l).1 + (runS l).2 ≤ 8 := by
  unfold runS
  split
  · simp
  · exact look_le l hl 9 0 0 0 (by omega)
def natG (l : List Int) : List Nat := (groupsS l).map Int.toNat
theorem natG_length (l : List Int) : (natG l).length = 8 := by simp [natG, groupsS_length]
theorem natG_get {l : List Int} (hB : byt l) {j x : Nat} (h : (natG l)[j]? = some x) : nth (groupsS l) j = x ∧ x < 65536 := by
  have := groups_bound hB j
  unfold natG at h
  rw [List.getElem?_map] at h
  cases hg : (groupsS l)[j]? with
  | none => rw [hg] at h; cases h
  | some y =>
    rw [hg] at h
    simp at h
    have hn : nth (groupsS l) j = y := by simp [nth, List.getD, hg]
    rw [hn] at this ⊢
    omega
def textS (l : List Int) : List UInt8 :=
  if (runS (groupsS l)).2 = 0 then joinS (natG l)
  else joinS ((natG l).take (runS (groupsS l)).1) ++ [58, 58] ++ joinS ((natG l).drop ((runS (groupsS l)).1 + (runS (groupsS l)).2))

theorem joinS_len (l : List Nat) (hl : l.length ≤ 8) : (joinS l).length ≤ 40 := by
  unfold joinS
  rcases l with _ | ⟨x, r⟩
  · simp [Lib.join_nil]
  · rw [List.map_cons, Lib.join_length]
    have := joinS_bound (x :: r)
    simp at hl this ⊢
    omega
/-- joined at a part of a row of eight numbers -/
theorem joined_part {G : List Int} {N : List Nat} (hN : ∀ (j x : Nat), N[j]? = some x → nth G j = (x : Int) ∧ x < 65536) (hG : G.length = 8) (hNl : N.length = 8) (b o n cap : Nat) (k : Nat) (M : List Nat) (hM : ∀ (j x : Nat), M[j]? = some x → N[k + j]? = some x) (hMn : M.length = n) (hn : n ≤ 8) (hcap : n ≤ cap) (hk : n = 0 ∨ o = k)
    (w : World) (hg : Glob w) (hr : rowAt w b = some (iv G)) : Calls Tryd.prog 32 #[.slice (some ⟨b, o, none⟩) n cap] w fun e w' => e = .returned (.string ⟨(joinS M).toArray⟩) ∧ Below w.heap.size w w' := by
  subst hMn
  refine joined_any b o cap M hn (fun x hx => ?_) hcap w hg (fun j x hj => ?_)
  · obtain ⟨j, hj⟩ := List.mem_iff_getElem?.1 hx
    exact (hN _ _ (hM j x hj)).2
  · have hj8 : j < M.length := (List.getElem?_eq_some_iff.1 hj).1
    have hko : o = k := by
      rcases hk with hk | hk
      · omega
      · exact hk
    subst hko
    have h1 := hM j x hj
    have hlt : o + j < G.length := by
      rcases Nat.lt_or_ge (o + j) G.length with h | h
      · exact h
      · rw [List.getElem?_eq_none (by omega)] at h1; cases h1
    rw [cell_row hr, iv_get, if_pos hlt, (hN _ _ h1).1]

set_option maxHeartbeats 1000000 in
set_option maxRecDepth 100000 in
theorem text_any (l : List Int) (hl : l.length = 16) (hB : byt l) (w : World) (hg : Glob w) : Calls Tryd.prog 11 #[.agg (bv l)] w fun e w' => e = .returned (.string ⟨(textS l).toArray⟩) ∧ Below w.heap.size w w' := by
  have hG := groupsS_length l
  have hNl := natG_length l
  have hN := @natG_get l hB
  have HT : Hid (textS l = if (runS (groupsS l)).2 = 0 then joinS (natG l) else joinS ((natG l).take (runS (groupsS l)).1) ++ [58, 58] ++ joinS ((natG l).drop ((runS (groupsS l)).1 + (runS (groupsS l)).2))) := Lib.hid rfl
  have HGr := Lib.hid fun w => groups_any l hl hB w
  have HRun := Lib.hid fun w => run_any (groupsS l) hG w
  have hle := runS_le _ hG
  have r0 := row1 w (bv l) 25
  have HG := Lib.hid hg
  generalize textS l = T at *
  generalize natG l = N at *
  generalize groupsS l = G at *
  generalize (runS G).1 = a at *
  generalize (runS G).2 = s at *
  clear hg hB
  by_cases h0 : s = 0
  · subst h0
    rw [if_pos rfl] at HT
    have HJ := Lib.hid fun b => joined_part (fun j x h => hN h) hG hNl b 0 8 8 0 N (fun j x h => by rwa [Nat.zero_add]) hNl (by omega) (by omega) (Or.inr rfl)
    clear hN
    go_enter Tryd.func11, Tryd.ntmps11
    go_wp2_with (first
      | (apply wpList_rowload Tryd.underlying25 rfl isz25; exact rfl; exact rfl; exact rfl; (with_reducible exact r0); exact (by simp [go_sem, *]); simp only [Act.put, List.setIfInBounds_toArray, List.set_cons_zero, List.set_cons_succ])
      | (go_at_call 8; refine (HGr.out _).mono ?_; rintro e w1 ⟨rfl, hb1⟩; have hb := below_call (below1 _ _) hb1)
      | (apply wpList_rowstore (vs := iv G) isz23; exact rfl; exact rfl; exact rfl; exact rfl; (with_reducible exact row1 _ _ _); exact (by simp [go_sem, *]); exact (by simp [go_sem, *]); exact (by simp [go_sem, *]); try simp only [Act.put, List.setIfInBounds_toArray, List.set_cons_zero, List.set_cons_succ]; try simp (disch := simp [go_sem]) only [setRow_alloc_at, setRow_alloc_past, setRow_drew])
      | (apply wpList_rowload Tryd.underlying23 rfl isz23; exact rfl; exact rfl; exact rfl; (with_reducible exact row1 _ _ _); exact (by simp [go_sem, *]); simp only [Act.put, List.setIfInBounds_toArray, List.set_cons_zero, List.set_cons_succ])
      | (go_at_call 31; refine (HRun.out _).mono ?_; rintro e w2 ⟨rfl, hb2⟩; have hb22 := below_call (below_new hb _) hb2; have q1 := row_call hb2 (row1 w1 (iv G) 23))
      | (go_at_call 32; refine (HJ.out _ _ (HG.out.since hb22) q1).mono ?_; rintro e w3 ⟨rfl, hb3⟩))
    go_ret
    exact ⟨by rw [HT.out]; rfl, below_call hb22 hb3⟩
  · rw [if_neg h0] at HT
    have HJ1 := Lib.hid fun b => joined_part (fun j x h => hN h) hG hNl b 0 a 8 0 (N.take a) (fun j x h => by
      rw [Nat.zero_add]
      rw [List.getElem?_take] at h
      split at h
      · exact h
      · cases h) (by simp [hNl]; omega) (by omega) (by omega) (Or.inr rfl)
    have HJ2 := Lib.hid fun b => joined_part (fun j x h => hN h) hG hNl b (if 8 = a + s then 0 else a + s) (8 - (a + s)) (8 - (a + s)) (a + s) (N.drop (a + s)) (fun j x h => by rwa [List.getElem?_drop] at h) (by simp [hNl]) (by omega) (Nat.le_refl _) (by
        by_cases h8 : 8 = a + s
        · exact Or.inl (by omega)
        · exact Or.inr (if_neg h8))
    have hx := joinS_len (N.take a) (by simp; omega)
    have hy := joinS_len (N.drop (a + s)) (by simp; omega)
    generalize joinS (N.take a) = X at *
    generalize joinS (N.drop (a + s)) = Y at *
    have ad1 : ∀ W, (Op.stringOp .add ⟨X.toArray⟩ ⟨#[58, 58]⟩).run Tryd.prog W = .ok (.string ⟨(X ++ [58, 58]).toArray⟩) W := fun W => run_string_add_lists W X [58, 58] (by omega) (by simp)
    have ad2 : ∀ W, (Op.stringOp .add ⟨(X ++ [58, 58]).toArray⟩ ⟨Y.toArray⟩).run Tryd.prog W = .ok (.string ⟨(X ++ [58, 58] ++ Y).toArray⟩) W := fun W => run_string_add_lists W (X ++ [58, 58]) Y (by simp; omega) (by omega)
    have hal : Tryd.prog.arrayLen 23 = 8 := by kernel_rfl
    have hsl1 : ∀ b W, (Instr.sliceAt 23 (.pointer (some ⟨b, 0, none⟩)) none (some (.int .i64 a)) none).run Tryd.prog W = .ok (.slice (some ⟨b, 0, none⟩) a 8) W := fun b W => by
      rw [run_sliceAt_array_h W 23 ⟨b, 0, none⟩ (by exact Tryd.underlying23) .i64 a (by omega) (by rw [hal]; omega)]
      go_simp
    have hsl2 : ∀ b W, (Instr.sliceAt 23 (.pointer (some ⟨b, 0, none⟩)) (some (.int .i64 ((a : Int) + s))) none none).run Tryd.prog W = .ok (.slice (some ⟨b, if 8 = a + s then 0 else a + s, none⟩) (8 - (a + s)) (8 - (a + s))) W := fun b W => by
      rw [run_sliceAt_array_l W 23 ⟨b, 0, none⟩ (by exact Tryd.underlying23) .i64 ((a : Int) + s) (by omega) (by rw [hal]; omega)]
      go_simp
      have e : ((a : Int) + (s : Int)).toNat = a + s := by omega
      rw [e]
      by_cases h : 8 = a + s <;> simp [h]
    have hl8 : (a : Int) + s ≤ 8 := by omega
    have hs0 : ((s : Int) == 0) = false := beq_eq_false_iff_ne.2 (by omega)
    clear hN hal hNl
    go_enter Tryd.func11, Tryd.ntmps11
    go_wp2_with (first
      | (apply wpList_rowload Tryd.underlying25 rfl isz25; exact rfl; exact rfl; exact rfl; (with_reducible exact r0); exact (by simp [go_sem, *]); simp only [Act.put, List.setIfInBounds_toArray, List.set_cons_zero, List.set_cons_succ])
      | (go_at_call 8; refine (HGr.out _).mono ?_; rintro e w1 ⟨rfl, hb1⟩; have hb := below_call (below1 _ _) hb1)
      | (apply wpList_rowstore (vs := iv G) isz23; exact rfl; exact rfl; exact rfl; exact rfl; (with_reducible exact row1 _ _ _); exact (by simp [go_sem, *]); exact (by simp [go_sem, *]); exact (by simp [go_sem, *]); try simp only [Act.put, List.setIfInBounds_toArray, List.set_cons_zero, List.set_cons_succ]; try simp (disch := simp [go_sem]) only [setRow_alloc_at, setRow_alloc_past, setRow_drew])
      | (apply wpList_rowload Tryd.underlying23 rfl isz23; exact rfl; exact rfl; exact rfl; (with_reducible exact row1 _ _ _); exact (by simp [go_sem, *]); simp only [Act.put, List.setIfInBounds_toArray, List.set_cons_zero, List.set_cons_succ])
      | (go_at_call 31; refine (HRun.out _).mono ?_; rintro e w2 ⟨rfl, hb2⟩; have hb22 := below_call (below_new hb _) hb2; have q1 := row_call hb2 (row1 w1 (iv G) 23)))
    have HG2 := Lib.hid (HG.out.since hb22)
    refine wp_region_calm (Since _) (by kernel_rfl) (by kernel_rfl) (Since.drew _) ?_
    (refine wpQuiet_step (fun K hK => ?_); rw [if_pos (by rfl)]; apply quiet_val; (intro wq hwq; go_simp; (try go_ints); exact rfl); refine hK _ ?_; clear hK K; simp only [Act.put, List.setIfInBounds_toArray, List.set_cons_zero, List.set_cons_succ])
    (refine wpQuiet_step (fun K hK => ?_); rw [if_pos (by rfl)]; apply quiet_val; (intro wq hwq; go_simp; (try go_ints); exact rfl); refine hK _ ?_; clear hK K; simp only [Act.put, List.setIfInBounds_toArray, List.set_cons_zero, List.set_cons_succ])
    (refine wpQuiet_step (fun K hK => ?_); rw [if_pos (by rfl)]; apply quiet_call; (intro wq; go_simp; exact ⟨rfl, rfl⟩); (intro wq hwq; exact Since.call hwq (HJ1.out _ _ (HG2.out.since hwq) (laterRow hwq q1))); refine hK _ ?_; clear hK K; simp only [Act.put, List.setIfInBounds_toArray, List.set_cons_zero, List.set_cons_succ])
    (refine wpQuiet_step (fun K hK => ?_); rw [if_pos (by rfl)]; apply quiet_val; (intro wq hwq; go_simp; (try go_ints); exact rfl); refine hK _ ?_; clear hK K; simp only [Act.put, List.setIfInBounds_toArray, List.set_cons_zero, List.set_cons_succ])
    (refine wpQuiet_step (fun K hK => ?_); rw [if_pos (by rfl)]; apply quiet_val; (intro wq hwq; go_simp; (try go_ints); exact rfl); refine hK _ ?_; clear hK K; simp only [Act.put, List.setIfInBounds_toArray, List.set_cons_zero, List.set_cons_succ])
    (refine wpQuiet_step (fun K hK => ?_); rw [if_pos (by rfl)]; apply quiet_val; (intro wq hwq; go_simp; (try go_ints); exact rfl); refine hK _ ?_; clear hK K; simp only [Act.put, List.setIfInBounds_toArray, List.set_cons_zero, List.set_cons_succ])
    (refine wpQuiet_step (fun K hK => ?_); rw [if_pos (by rfl)]; apply quiet_val; (intro wq hwq; go_simp; (try go_ints); exact rfl); refine hK _ ?_; clear hK K; simp only [Act.put, List.setIfInBounds_toArray, List.set_cons_zero, List.set_cons_succ])
    (refine wpQuiet_step (fun K hK => ?_); rw [if_pos (by rfl)]; apply quiet_val; (intro wq hwq; go_simp; (try go_ints); exact rfl); refine hK _ ?_; clear hK K; simp only [Act.put, List.setIfInBounds_toArray, List.set_cons_zero, List.set_cons_succ])
    (refine wpQuiet_step (fun K hK => ?_); rw [if_pos (by rfl)]; apply quiet_call; (intro wq; go_simp; exact ⟨rfl, rfl⟩); (intro wq hwq; exact Since.call hwq (HJ2.out _ _ (HG2.out.since hwq) (laterRow hwq q1))); refine hK _ ?_; clear hK K; simp only [Act.put, List.setIfInBounds_toArray, List.set_cons_zero, List.set_cons_succ])
    (refine wpQuiet_step (fun K hK => ?_); rw [if_pos (by rfl)]; apply quiet_val; (intro wq hwq; go_simp; (try go_ints); exact rfl); refine hK _ ?_; clear hK K; simp only [Act.put, List.setIfInBounds_toArray, List.set_cons_zero, List.set_cons_succ])
    (refine wpQuiet_step (fun K hK => ?_); rw [if_pos (by rfl)]; apply quiet_val; (intro wq hwq; go_simp; (try go_ints); exact rfl); refine hK _ ?_; clear hK K; simp only [Act.put, List.setIfInBounds_toArray, List.set_cons_zero, List.set_cons_succ])
    refine wpQuiet_nil ?_; intro wn hwn
    go_wp2
    all_goals go_ret
    all_goals exact ⟨by rw [HT.out, List.append_assoc]; rfl, hwn.out hb22⟩

end Go.Proofs.YtodeiapaehlmfaaDoor
