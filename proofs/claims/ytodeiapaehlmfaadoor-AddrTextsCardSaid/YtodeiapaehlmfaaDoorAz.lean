import Derived.Test.YtodeiapaehlmfaaDoorAy
namespace Go.Proofs.YtodeiapaehlmfaaDoor
open Go Go.RowKit
attribute [local go_sem] rowAt_alloc_at rowAt_alloc_past rowAt_drew rowAt_drewN bv_size iv_size bv_one iv_one bv_set iv_set bv_get iv_get bv_elem iv_elem zlit16 zlit8 z16_length z8_length eq25 eq22 eq23
attribute [local irreducible] wpQuiet
set_option linter.unusedSimpArgs false
set_option linter.unusedVariables false

/-! ### the law AddrTexts -/
theorem textS_le {l : List Int} : (textS l).length ≤ 82 := by
  have hN := natG_length l
  have h1 := joinS_len (natG l) (by omega)
  have h2 := joinS_len ((natG l).take (runS (groupsS l)).1) (by simp; omega)
  have h3 := joinS_len ((natG l).drop ((runS (groupsS l)).1 + (runS (groupsS l)).2)) (by simp; omega)
  unfold textS
  split
  · omega
  · simp; omega
theorem parseS_cases (t : ByteArray) : parseS t = (z16, 3) ∨ ∃ P, parseS t = (P, 0) ∧ P.length = 16 ∧ byt P ∧ bytesOf (textS P) = t := by
  cases h : parseG t with
  | none => exact Or.inl (parseS_none h)
  | some g =>
    by_cases h2 : (ofS g).2 = 0 ∧ bytesOf (textS (ofS g).1) = t
    · exact Or.inr ⟨(ofS g).1, parseS_ok h h2, ofS_length _, byt_ofS _, h2.2⟩
    · exact Or.inl (parseS_bad h h2)

set_option maxHeartbeats 2000000 in
set_option maxRecDepth 100000 in
theorem texts_ok (a : List Int) (ha : a.length = 16) (hB : byt a) (s t : ByteArray) (hs : s.size ≤ maxLen) (ht : s.extract 0 (min (s.size : Int) 60).toNat = t) (P : List Int) (hP : P.length = 16) (hPb : byt P) (hp : parseS t = (P, 0)) (hPt : bytesOf (textS P) = t) (w : World) (hg : Glob w) :
    Calls Tryd.prog 3 #[.agg (bv a), .string s] w fun e w' => e = .returned (.bool true) ∧ Below w.heap.size w w' := by
  have r0 := row1 w (bv a) 22
  have hlim : t.size ≤ 65536 := by rw [← ht, ByteArray.size_extract]; omega
  have HGr := Lib.hid fun w => groups_any a ha hB w
  have HRg := Lib.hid fun w => rgroups_any a ha hB w
  rw [rgS_eq hB] at HRg
  have hG := groupsS_length a
  have HO : Hid (∀ (w : World) (t : TypeId) (n : Nat) (hn : n = w.heap.size), Calls Tryd.prog 9 #[.slice (some ⟨n, 0, none⟩) 8 8] (w.alloc (.cells (iv (groupsS a)) t)) fun e w' => e = .returned (.tuple #[.agg (bv a), .int .i64 0]) ∧ Below (w.alloc (.cells (iv (groupsS a)) t)).heap.size (w.alloc (.cells (iv (groupsS a)) t)) w') := Lib.hid fun w t n hn => by
    have := of_iv' (groupsS a) hG w t n hn
    rwa [ofS_groups ha hB] at this
  have HT := Lib.hid fun w hg => text_any a ha hB w hg
  have HR := Lib.hid fun w => rtext_any a ha hB w
  rw [rtext_eq hB] at HR
  have HPa : Hid (∀ w, Glob w → Calls Tryd.prog 10 #[.string ⟨(textS a).toArray⟩] w fun e w' => e = .returned (.tuple #[.agg (bv a), .int .i64 0]) ∧ Below w.heap.size w w') := Lib.hid fun w hg => by
    have := parse_any (bytesOf (textS a)) (by show (textS a).toArray.size ≤ _; simp; exact Nat.le_trans textS_le (by decide)) w hg
    rw [parse_text ha hB] at this
    exact this
  have HPt : Hid (∀ w, Glob w → Calls Tryd.prog 10 #[.string t] w fun e w' => e = .returned (.tuple #[.agg (bv P), .int .i64 0]) ∧ Below w.heap.size w w') := Lib.hid fun w hg => by
    have := parse_any t hlim w hg
    rw [hp] at this
    exact this
  have HRp : Hid (∀ w, Calls Tryd.prog 13 #[.agg (bv P)] w fun e w' => e = .returned (.string t) ∧ Below w.heap.size w w') := Lib.hid fun w => by
    have := rtext_any P hP hPb w
    rw [rtext_eq hPb] at this
    rw [← hPt]
    exact this
  clear hPb hPt
  have HK := Lib.hid (fun w hg => known_any w hg)
  have HG := Lib.hid hg
  clear hB hp hlim hg
  generalize textS a = T at *
  generalize groupsS a = G at *
  unfold maxLen at hs
  go_enter Tryd.func3, Tryd.ntmps3
  go_wp2_with (first
    | (apply wpList_rowload Tryd.underlying22 rfl isz22; exact rfl; exact rfl; exact rfl; (with_reducible exact r0); exact (by simp [go_sem, *]); simp only [Act.put, List.setIfInBounds_toArray, List.set_cons_zero, List.set_cons_succ])
    | (go_at_call 8; refine (HGr.out _).mono ?_; rintro e w1 ⟨rfl, hb1⟩; have p0 := row_call hb1 r0; have B1 := Lib.hid (below_call (below1 w (.cells (bv a) 22)) hb1))
    | (apply wpList_rowstore (vs := iv G) isz23; exact rfl; exact rfl; exact rfl; exact rfl; (with_reducible exact row1 w1 _ _); exact (by simp [go_sem, *]); exact (by simp [go_sem, *]); exact (by simp [go_sem, *]); try simp only [Act.put, List.setIfInBounds_toArray, List.set_cons_zero, List.set_cons_succ]; try simp (disch := simp [go_sem]) only [setRow_alloc_at, setRow_alloc_past, setRow_drew])
    | (go_at_call 9; refine (HO.out _ _ _ (by simp)).mono ?_; rintro e w2 ⟨rfl, hb2⟩; have q0 := row_call hb2 (row_alloc p0 (.cells (iv G) 23)); have q1 := row_call hb2 (row1 w1 (iv G) 23); have B2 := Lib.hid (below_call (below_new B1.out (.cells (iv G) 23)) hb2); have G2 := Lib.hid (HG.out.since (below_new B2.out (.cells (bv a) 25))))
    | (apply wpList_rowstore (vs := bv a) isz25; exact rfl; exact rfl; exact rfl; exact rfl; (with_reducible exact row1 w2 _ _); exact (by simp [go_sem, *]); exact (by simp [go_sem, *]); exact (by simp [go_sem, *]); try simp only [Act.put, List.setIfInBounds_toArray, List.set_cons_zero, List.set_cons_succ]; try simp (disch := simp [go_sem]) only [setRow_alloc_at, setRow_alloc_past, setRow_drew])
    | (apply wpList_rowload Tryd.underlying22 rfl isz22; exact rfl; exact rfl; exact rfl; (with_reducible exact row_alloc q0 _); exact (by simp [go_sem, *]); simp only [Act.put, List.setIfInBounds_toArray, List.set_cons_zero, List.set_cons_succ])
    | (go_at_call 11; refine (HT.out _ G2.out).mono ?_; rintro e w3 ⟨rfl, hb3⟩; have s0 := row_call hb3 (row_alloc q0 (.cells (bv a) 25)); have s1 := row_call hb3 (row_alloc q1 (.cells (bv a) 25)); have s2 := row_call hb3 (row1 w2 (bv a) 25); have B3 := Lib.hid (below_call (below_new B2.out (.cells (bv a) 25)) hb3); have G3 := Lib.hid (HG.out.since B3.out))
    | (go_at_call 10; with_reducible refine (HPa.out _ G3.out).mono ?_; rintro e w4 ⟨rfl, hb4⟩; have t0 := row_alloc (row_call hb4 s0) (.cells (bv a) 25); have t1 := row_alloc (row_call hb4 s1) (.cells (bv a) 25); have t2 := row_alloc (row_call hb4 s2) (.cells (bv a) 25); have t3 := row1 w4 (bv a) 25; have B4 := Lib.hid (below_new (below_call B3.out hb4) (.cells (bv a) 25)); have G4 := Lib.hid (HG.out.since B4.out))
    | (apply wpList_rowstore (vs := bv a) isz25; exact rfl; exact rfl; exact rfl; exact rfl; (with_reducible exact row1 w4 _ _); exact (by simp [go_sem, *]); exact (by simp [go_sem, *]); exact (by simp [go_sem, *]); try simp only [Act.put, List.setIfInBounds_toArray, List.set_cons_zero, List.set_cons_succ]; try simp (disch := simp [go_sem]) only [setRow_alloc_at, setRow_alloc_past, setRow_drew])
    | (go_at_call 10; with_reducible refine (HPt.out _ G4.out).mono ?_; rintro e w5 ⟨rfl, hb5⟩; have x0 := row_alloc (row_call hb5 t0) (.cells (bv P) 25); have x1 := row_alloc (row_call hb5 t1) (.cells (bv P) 25); have x2 := row_alloc (row_call hb5 t2) (.cells (bv P) 25); have x3 := row_alloc (row_call hb5 t3) (.cells (bv P) 25); have x4 := row1 w5 (bv P) 25; have B5 := Lib.hid (below_new (below_call B4.out hb5) (.cells (bv P) 25)); have G5 := Lib.hid (HG.out.since B5.out))
    | (apply wpList_rowstore (vs := bv P) isz25; exact rfl; exact rfl; exact rfl; exact rfl; (with_reducible exact row1 w5 _ _); exact (by simp [go_sem, *]); exact (by simp [go_sem, *]); exact (by simp [go_sem, *]); try simp only [Act.put, List.setIfInBounds_toArray, List.set_cons_zero, List.set_cons_succ]; try simp (disch := simp [go_sem]) only [setRow_alloc_at, setRow_alloc_past, setRow_drew]))
  have HT5 : Hid (∀ w', Since (w5.alloc (.cells (bv P) 25)) w' → Calls Tryd.prog 11 #[.agg (bv a)] w' fun e w'' => e = .returned (.string ⟨T.toArray⟩) ∧ Below w'.heap.size w' w'') := Lib.hid fun w' h => HT.out w' (G5.out.since h)
  refine wp_region_calm (Since _) (by kernel_rfl) (by kernel_rfl) (Since.drew _) ?_
  (refine wpQuiet_step (fun K hK => ?_); rw [if_pos (by rfl)]; apply quiet_rowload (cs := iv G) Tryd.underlying23 rfl isz23; exact rfl; exact rfl; exact fun w h => laterRow h x1; exact (by simp [go_sem, *]); refine hK _ ?_; clear hK K; simp only [Act.put, List.setIfInBounds_toArray, List.set_cons_zero, List.set_cons_succ])
  (refine wpQuiet_step (fun K hK => ?_); rw [if_pos (by rfl)]; apply quiet_rowload (cs := bv a) Tryd.underlying22 rfl isz22; exact rfl; exact rfl; exact fun w h => laterRow h x0; exact (by simp [go_sem, *]); refine hK _ ?_; clear hK K; simp only [Act.put, List.setIfInBounds_toArray, List.set_cons_zero, List.set_cons_succ])
  (refine wpQuiet_step (fun K hK => ?_); rw [if_pos (by rfl)]; apply quiet_call; (intro wq; go_simp; exact ⟨rfl, rfl⟩); (intro wq hwq; exact Since.call hwq (HRg.out _)); refine hK _ ?_; clear hK K; simp only [Act.put, List.setIfInBounds_toArray, List.set_cons_zero, List.set_cons_succ])
  (refine wpQuiet_step (fun K hK => ?_); rw [if_pos (by rfl)]; apply quiet_val; (intro wq hwq; go_simp; (try go_ints); exact rfl); refine hK _ ?_; clear hK K; simp only [Act.put, List.setIfInBounds_toArray, List.set_cons_zero, List.set_cons_succ])
  (refine wpQuiet_step (fun K hK => ?_); rw [if_pos (by rfl)]; apply quiet_val; (intro wq hwq; go_simp; (try go_ints); exact rfl); refine hK _ ?_; clear hK K; simp only [Act.put, List.setIfInBounds_toArray, List.set_cons_zero, List.set_cons_succ])
  (refine wpQuiet_step (fun K hK => ?_); rw [if_pos (by rfl)]; apply quiet_val; (intro wq hwq; go_simp; (try go_ints); exact rfl); refine hK _ ?_; clear hK K; simp only [Act.put, List.setIfInBounds_toArray, List.set_cons_zero, List.set_cons_succ])
  (refine wpQuiet_step (fun K hK => ?_); rw [if_pos (by rfl)]; apply quiet_val; (intro wq hwq; go_simp; (try go_ints); exact rfl); refine hK _ ?_; clear hK K; simp only [Act.put, List.setIfInBounds_toArray, List.set_cons_zero, List.set_cons_succ])
  (refine wpQuiet_step (fun K hK => ?_); rw [if_pos (by rfl)]; apply quiet_val; (intro wq hwq; go_simp; (try go_ints); exact rfl); refine hK _ ?_; clear hK K; simp only [Act.put, List.setIfInBounds_toArray, List.set_cons_zero, List.set_cons_succ])
  (refine wpQuiet_step (fun K hK => ?_); rw [if_pos (by rfl)]; apply quiet_val; (intro wq hwq; go_simp; (try go_ints); exact rfl); refine hK _ ?_; clear hK K; simp only [Act.put, List.setIfInBounds_toArray, List.set_cons_zero, List.set_cons_succ])
  (refine wpQuiet_step (fun K hK => ?_); rw [if_pos (by rfl)]; apply quiet_rowload (cs := bv a) Tryd.underlying25 rfl isz25; exact rfl; exact rfl; exact fun w h => laterRow h x2; exact (by simp [go_sem, *]); refine hK _ ?_; clear hK K; simp only [Act.put, List.setIfInBounds_toArray, List.set_cons_zero, List.set_cons_succ])
  (refine wpQuiet_step (fun K hK => ?_); rw [if_pos (by rfl)]; apply quiet_rowload (cs := bv a) Tryd.underlying22 rfl isz22; exact rfl; exact rfl; exact fun w h => laterRow h x0; exact (by simp [go_sem, *]); refine hK _ ?_; clear hK K; simp only [Act.put, List.setIfInBounds_toArray, List.set_cons_zero, List.set_cons_succ])
  (refine wpQuiet_step (fun K hK => ?_); rw [if_pos (by rfl)]; apply quiet_val; (intro wq hwq; go_simp; (try go_ints); exact rfl); refine hK _ ?_; clear hK K; simp only [Act.put, List.setIfInBounds_toArray, List.set_cons_zero, List.set_cons_succ])
  (refine wpQuiet_step (fun K hK => ?_); rw [if_pos (by rfl)]; apply quiet_val; (intro wq hwq; go_simp; (try go_ints); exact rfl); refine hK _ ?_; clear hK K; simp only [Act.put, List.setIfInBounds_toArray, List.set_cons_zero, List.set_cons_succ])
  (refine wpQuiet_step (fun K hK => ?_); rw [if_pos (by rfl)]; apply quiet_val; (intro wq hwq; go_simp; (try go_ints); exact rfl); refine hK _ ?_; clear hK K; simp only [Act.put, List.setIfInBounds_toArray, List.set_cons_zero, List.set_cons_succ])
  (refine wpQuiet_step (fun K hK => ?_); rw [if_pos (by rfl)]; apply quiet_rowload (cs := bv a) Tryd.underlying22 rfl isz22; exact rfl; exact rfl; exact fun w h => laterRow h x0; exact (by simp [go_sem, *]); refine hK _ ?_; clear hK K; simp only [Act.put, List.setIfInBounds_toArray, List.set_cons_zero, List.set_cons_succ])
  (refine wpQuiet_step (fun K hK => ?_); rw [if_pos (by rfl)]; apply quiet_call; (intro wq; go_simp; exact ⟨rfl, rfl⟩); (intro wq hwq; exact Since.call hwq (HT5.out _ hwq)); refine hK _ ?_; clear hK K; simp only [Act.put, List.setIfInBounds_toArray, List.set_cons_zero, List.set_cons_succ])
  (refine wpQuiet_step (fun K hK => ?_); rw [if_pos (by rfl)]; apply quiet_rowload (cs := bv a) Tryd.underlying22 rfl isz22; exact rfl; exact rfl; exact fun w h => laterRow h x0; exact (by simp [go_sem, *]); refine hK _ ?_; clear hK K; simp only [Act.put, List.setIfInBounds_toArray, List.set_cons_zero, List.set_cons_succ])
  (refine wpQuiet_step (fun K hK => ?_); rw [if_pos (by rfl)]; apply quiet_call; (intro wq; go_simp; exact ⟨rfl, rfl⟩); (intro wq hwq; exact Since.call hwq (HR.out _)); refine hK _ ?_; clear hK K; simp only [Act.put, List.setIfInBounds_toArray, List.set_cons_zero, List.set_cons_succ])
  (refine wpQuiet_step (fun K hK => ?_); rw [if_pos (by rfl)]; apply quiet_val; (intro wq hwq; go_simp; (try go_ints); exact rfl); refine hK _ ?_; clear hK K; simp only [Act.put, List.setIfInBounds_toArray, List.set_cons_zero, List.set_cons_succ])
  (refine wpQuiet_step (fun K hK => ?_); rw [if_pos (by rfl)]; apply quiet_val; (intro wq hwq; go_simp; (try go_ints); exact rfl); refine hK _ ?_; clear hK K; simp only [Act.put, List.setIfInBounds_toArray, List.set_cons_zero, List.set_cons_succ])
  (refine wpQuiet_step (fun K hK => ?_); rw [if_pos (by rfl)]; apply quiet_val; (intro wq hwq; go_simp; (try go_ints); exact rfl); refine hK _ ?_; clear hK K; simp only [Act.put, List.setIfInBounds_toArray, List.set_cons_zero, List.set_cons_succ])
  (refine wpQuiet_step (fun K hK => ?_); rw [if_pos (by rfl)]; apply quiet_val; (intro wq hwq; go_simp; (try go_ints); exact rfl); refine hK _ ?_; clear hK K; simp only [Act.put, List.setIfInBounds_toArray, List.set_cons_zero, List.set_cons_succ])
  (refine wpQuiet_step (fun K hK => ?_); rw [if_pos (by rfl)]; apply quiet_val; (intro wq hwq; go_simp; (try go_ints); exact rfl); refine hK _ ?_; clear hK K; simp only [Act.put, List.setIfInBounds_toArray, List.set_cons_zero, List.set_cons_succ])
  (refine wpQuiet_step (fun K hK => ?_); rw [if_pos (by rfl)]; apply quiet_val; (intro wq hwq; go_simp; (try go_ints); exact rfl); refine hK _ ?_; clear hK K; simp only [Act.put, List.setIfInBounds_toArray, List.set_cons_zero, List.set_cons_succ])
  (refine wpQuiet_step (fun K hK => ?_); rw [if_pos (by rfl)]; apply quiet_val; (intro wq hwq; go_simp; (try go_ints); exact rfl); refine hK _ ?_; clear hK K; simp only [Act.put, List.setIfInBounds_toArray, List.set_cons_zero, List.set_cons_succ])
  (refine wpQuiet_step (fun K hK => ?_); rw [if_pos (by rfl)]; apply quiet_rowload (cs := bv a) Tryd.underlying25 rfl isz25; exact rfl; exact rfl; exact fun w h => laterRow h x3; exact (by simp [go_sem, *]); refine hK _ ?_; clear hK K; simp only [Act.put, List.setIfInBounds_toArray, List.set_cons_zero, List.set_cons_succ])
  (refine wpQuiet_step (fun K hK => ?_); rw [if_pos (by rfl)]; apply quiet_rowload (cs := bv a) Tryd.underlying22 rfl isz22; exact rfl; exact rfl; exact fun w h => laterRow h x0; exact (by simp [go_sem, *]); refine hK _ ?_; clear hK K; simp only [Act.put, List.setIfInBounds_toArray, List.set_cons_zero, List.set_cons_succ])
  (refine wpQuiet_step (fun K hK => ?_); rw [if_pos (by rfl)]; apply quiet_val; (intro wq hwq; go_simp; (try go_ints); exact rfl); refine hK _ ?_; clear hK K; simp only [Act.put, List.setIfInBounds_toArray, List.set_cons_zero, List.set_cons_succ])
  (refine wpQuiet_step (fun K hK => ?_); rw [if_pos (by rfl)]; apply quiet_val; (intro wq hwq; go_simp; (try go_ints); exact rfl); refine hK _ ?_; clear hK K; simp only [Act.put, List.setIfInBounds_toArray, List.set_cons_zero, List.set_cons_succ])
  refine wpQuiet_nil ?_; intro wn hwn
  have B6 := Lib.hid (hwn.out B5.out)
  have y0 := laterRow hwn x0
  have y4 := laterRow hwn x4
  have G6 := Lib.hid (HG.out.since B6.out)
  clear hwn HT5
  go_wp2_with (first
    | (go_at_call 14; refine (HK.out _ G6.out).mono ?_; rintro e w7 ⟨rfl, hb7⟩; have z4 := row_call hb7 y4; have B7 := Lib.hid (below_call B6.out hb7))
    | (apply wpList_rowload Tryd.underlying25 rfl isz25; exact rfl; exact rfl; exact rfl; (with_reducible exact z4); exact (by simp [go_sem, *]); simp only [Act.put, List.setIfInBounds_toArray, List.set_cons_zero, List.set_cons_succ])
    | (go_at_call 13; refine (HRp.out _).mono ?_; rintro e w8 ⟨rfl, hb8⟩; have B8 := Lib.hid (below_call B7.out hb8)))
  go_ret
  exact ⟨rfl, B8.out⟩

set_option maxHeartbeats 2000000 in
set_option maxRecDepth 100000 in
theorem texts_no (a : List Int) (ha : a.length = 16) (hB : byt a) (s t : ByteArray) (hs : s.size ≤ maxLen) (ht : s.extract 0 (min (s.size : Int) 60).toNat = t) (hp : parseS t = (z16, 3)) (hne : t ≠ bytesOf (textS a)) (w : World) (hg : Glob w) :
    Calls Tryd.prog 3 #[.agg (bv a), .string s] w fun e w' => e = .returned (.bool true) ∧ Below w.heap.size w w' := by
  have r0 := row1 w (bv a) 22
  have hlim : t.size ≤ 65536 := by rw [← ht, ByteArray.size_extract]; omega
  have HGr := Lib.hid fun w => groups_any a ha hB w
  have HRg := Lib.hid fun w => rgroups_any a ha hB w
  rw [rgS_eq hB] at HRg
  have hG := groupsS_length a
  have HO : Hid (∀ (w : World) (t : TypeId) (n : Nat) (hn : n = w.heap.size), Calls Tryd.prog 9 #[.slice (some ⟨n, 0, none⟩) 8 8] (w.alloc (.cells (iv (groupsS a)) t)) fun e w' => e = .returned (.tuple #[.agg (bv a), .int .i64 0]) ∧ Below (w.alloc (.cells (iv (groupsS a)) t)).heap.size (w.alloc (.cells (iv (groupsS a)) t)) w') := Lib.hid fun w t n hn => by
    have := of_iv' (groupsS a) hG w t n hn
    rwa [ofS_groups ha hB] at this
  have HT := Lib.hid fun w hg => text_any a ha hB w hg
  have HR := Lib.hid fun w => rtext_any a ha hB w
  rw [rtext_eq hB] at HR
  have HPa : Hid (∀ w, Glob w → Calls Tryd.prog 10 #[.string ⟨(textS a).toArray⟩] w fun e w' => e = .returned (.tuple #[.agg (bv a), .int .i64 0]) ∧ Below w.heap.size w w') := Lib.hid fun w hg => by
    have := parse_any (bytesOf (textS a)) (by show (textS a).toArray.size ≤ _; simp; exact Nat.le_trans textS_le (by decide)) w hg
    rw [parse_text ha hB] at this
    exact this
  have HPt : Hid (∀ w, Glob w → Calls Tryd.prog 10 #[.string t] w fun e w' => e = .returned (.tuple #[.agg (bv z16), .int .i64 3]) ∧ Below w.heap.size w w') := Lib.hid fun w hg => by
    have := parse_any t hlim w hg
    rw [hp] at this
    exact this
  have hbt : Hid ((t.toList == textS a) = false) := Lib.hid (beq_eq_false_iff_ne.2 (fun h => hne (bytes_ext h.symm).symm))
  have ez : ∀ W, (Op.equalIn 10000 25 (.agg (bv z16)) (.agg (bv z16))).run Tryd.prog W = .ok true W := fun W => by rw [eq25 W 9998 _ _ rfl rfl, decide_eq_true rfl]
  clear hne
  have HK := Lib.hid (fun w hg => known_any w hg)
  have HG := Lib.hid hg
  clear hB hp hlim hg
  generalize textS a = T at *
  generalize groupsS a = G at *
  unfold maxLen at hs
  go_enter Tryd.func3, Tryd.ntmps3
  go_wp2_with (first
    | (apply wpList_rowload Tryd.underlying22 rfl isz22; exact rfl; exact rfl; exact rfl; (with_reducible exact r0); exact (by simp [go_sem, *]); simp only [Act.put, List.setIfInBounds_toArray, List.set_cons_zero, List.set_cons_succ])
    | (go_at_call 8; refine (HGr.out _).mono ?_; rintro e w1 ⟨rfl, hb1⟩; have p0 := row_call hb1 r0; have B1 := Lib.hid (below_call (below1 w (.cells (bv a) 22)) hb1))
    | (apply wpList_rowstore (vs := iv G) isz23; exact rfl; exact rfl; exact rfl; exact rfl; (with_reducible exact row1 w1 _ _); exact (by simp [go_sem, *]); exact (by simp [go_sem, *]); exact (by simp [go_sem, *]); try simp only [Act.put, List.setIfInBounds_toArray, List.set_cons_zero, List.set_cons_succ]; try simp (disch := simp [go_sem]) only [setRow_alloc_at, setRow_alloc_past, setRow_drew])
    | (go_at_call 9; refine (HO.out _ _ _ (by simp)).mono ?_; rintro e w2 ⟨rfl, hb2⟩; have q0 := row_call hb2 (row_alloc p0 (.cells (iv G) 23)); have q1 := row_call hb2 (row1 w1 (iv G) 23); have B2 := Lib.hid (below_call (below_new B1.out (.cells (iv G) 23)) hb2); have G2 := Lib.hid (HG.out.since (below_new B2.out (.cells (bv a) 25))))
    | (apply wpList_rowstore (vs := bv a) isz25; exact rfl; exact rfl; exact rfl; exact rfl; (with_reducible exact row1 w2 _ _); exact (by simp [go_sem, *]); exact (by simp [go_sem, *]); exact (by simp [go_sem, *]); try simp only [Act.put, List.setIfInBounds_toArray, List.set_cons_zero, List.set_cons_succ]; try simp (disch := simp [go_sem]) only [setRow_alloc_at, setRow_alloc_past, setRow_drew])
    | (apply wpList_rowload Tryd.underlying22 rfl isz22; exact rfl; exact rfl; exact rfl; (with_reducible exact row_alloc q0 _); exact (by simp [go_sem, *]); simp only [Act.put, List.setIfInBounds_toArray, List.set_cons_zero, List.set_cons_succ])
    | (go_at_call 11; refine (HT.out _ G2.out).mono ?_; rintro e w3 ⟨rfl, hb3⟩; have s0 := row_call hb3 (row_alloc q0 (.cells (bv a) 25)); have s1 := row_call hb3 (row_alloc q1 (.cells (bv a) 25)); have s2 := row_call hb3 (row1 w2 (bv a) 25); have B3 := Lib.hid (below_call (below_new B2.out (.cells (bv a) 25)) hb3); have G3 := Lib.hid (HG.out.since B3.out))
    | (go_at_call 10; with_reducible refine (HPa.out _ G3.out).mono ?_; rintro e w4 ⟨rfl, hb4⟩; have t0 := row_alloc (row_call hb4 s0) (.cells (bv a) 25); have t1 := row_alloc (row_call hb4 s1) (.cells (bv a) 25); have t2 := row_alloc (row_call hb4 s2) (.cells (bv a) 25); have t3 := row1 w4 (bv a) 25; have B4 := Lib.hid (below_new (below_call B3.out hb4) (.cells (bv a) 25)); have G4 := Lib.hid (HG.out.since B4.out))
    | (apply wpList_rowstore (vs := bv a) isz25; exact rfl; exact rfl; exact rfl; exact rfl; (with_reducible exact row1 w4 _ _); exact (by simp [go_sem, *]); exact (by simp [go_sem, *]); exact (by simp [go_sem, *]); try simp only [Act.put, List.setIfInBounds_toArray, List.set_cons_zero, List.set_cons_succ]; try simp (disch := simp [go_sem]) only [setRow_alloc_at, setRow_alloc_past, setRow_drew])
    | (go_at_call 10; with_reducible refine (HPt.out _ G4.out).mono ?_; rintro e w5 ⟨rfl, hb5⟩; have x0 := row_alloc (row_call hb5 t0) (.cells (bv z16) 25); have x1 := row_alloc (row_call hb5 t1) (.cells (bv z16) 25); have x2 := row_alloc (row_call hb5 t2) (.cells (bv z16) 25); have x3 := row_alloc (row_call hb5 t3) (.cells (bv z16) 25); have x4 := row1 w5 (bv z16) 25; have B5 := Lib.hid (below_new (below_call B4.out hb5) (.cells (bv z16) 25)); have G5 := Lib.hid (HG.out.since B5.out))
    | (apply wpList_rowstore (vs := bv z16) isz25; exact rfl; exact rfl; exact rfl; exact rfl; (with_reducible exact row1 w5 _ _); exact (by simp [go_sem, *]); exact (by simp [go_sem, *]); exact (by simp [go_sem, *]); try simp only [Act.put, List.setIfInBounds_toArray, List.set_cons_zero, List.set_cons_succ]; try simp (disch := simp [go_sem]) only [setRow_alloc_at, setRow_alloc_past, setRow_drew]))
  have HT5 : Hid (∀ w', Since (w5.alloc (.cells (bv z16) 25)) w' → Calls Tryd.prog 11 #[.agg (bv a)] w' fun e w'' => e = .returned (.string ⟨T.toArray⟩) ∧ Below w'.heap.size w' w'') := Lib.hid fun w' h => HT.out w' (G5.out.since h)
  refine wp_region_calm (Since _) (by kernel_rfl) (by kernel_rfl) (Since.drew _) ?_
  (refine wpQuiet_step (fun K hK => ?_); rw [if_pos (by rfl)]; apply quiet_rowload (cs := iv G) Tryd.underlying23 rfl isz23; exact rfl; exact rfl; exact fun w h => laterRow h x1; exact (by simp [go_sem, *]); refine hK _ ?_; clear hK K; simp only [Act.put, List.setIfInBounds_toArray, List.set_cons_zero, List.set_cons_succ])
  (refine wpQuiet_step (fun K hK => ?_); rw [if_pos (by rfl)]; apply quiet_rowload (cs := bv a) Tryd.underlying22 rfl isz22; exact rfl; exact rfl; exact fun w h => laterRow h x0; exact (by simp [go_sem, *]); refine hK _ ?_; clear hK K; simp only [Act.put, List.setIfInBounds_toArray, List.set_cons_zero, List.set_cons_succ])
  (refine wpQuiet_step (fun K hK => ?_); rw [if_pos (by rfl)]; apply quiet_call; (intro wq; go_simp; exact ⟨rfl, rfl⟩); (intro wq hwq; exact Since.call hwq (HRg.out _)); refine hK _ ?_; clear hK K; simp only [Act.put, List.setIfInBounds_toArray, List.set_cons_zero, List.set_cons_succ])
  (refine wpQuiet_step (fun K hK => ?_); rw [if_pos (by rfl)]; apply quiet_val; (intro wq hwq; go_simp; (try go_ints); exact rfl); refine hK _ ?_; clear hK K; simp only [Act.put, List.setIfInBounds_toArray, List.set_cons_zero, List.set_cons_succ])
  (refine wpQuiet_step (fun K hK => ?_); rw [if_pos (by rfl)]; apply quiet_val; (intro wq hwq; go_simp; (try go_ints); exact rfl); refine hK _ ?_; clear hK K; simp only [Act.put, List.setIfInBounds_toArray, List.set_cons_zero, List.set_cons_succ])
  (refine wpQuiet_step (fun K hK => ?_); rw [if_pos (by rfl)]; apply quiet_val; (intro wq hwq; go_simp; (try go_ints); exact rfl); refine hK _ ?_; clear hK K; simp only [Act.put, List.setIfInBounds_toArray, List.set_cons_zero, List.set_cons_succ])
  (refine wpQuiet_step (fun K hK => ?_); rw [if_pos (by rfl)]; apply quiet_val; (intro wq hwq; go_simp; (try go_ints); exact rfl); refine hK _ ?_; clear hK K; simp only [Act.put, List.setIfInBounds_toArray, List.set_cons_zero, List.set_cons_succ])
  (refine wpQuiet_step (fun K hK => ?_); rw [if_pos (by rfl)]; apply quiet_val; (intro wq hwq; go_simp; (try go_ints); exact rfl); refine hK _ ?_; clear hK K; simp only [Act.put, List.setIfInBounds_toArray, List.set_cons_zero, List.set_cons_succ])
  (refine wpQuiet_step (fun K hK => ?_); rw [if_pos (by rfl)]; apply quiet_val; (intro wq hwq; go_simp; (try go_ints); exact rfl); refine hK _ ?_; clear hK K; simp only [Act.put, List.setIfInBounds_toArray, List.set_cons_zero, List.set_cons_succ])
  (refine wpQuiet_step (fun K hK => ?_); rw [if_pos (by rfl)]; apply quiet_rowload (cs := bv a) Tryd.underlying25 rfl isz25; exact rfl; exact rfl; exact fun w h => laterRow h x2; exact (by simp [go_sem, *]); refine hK _ ?_; clear hK K; simp only [Act.put, List.setIfInBounds_toArray, List.set_cons_zero, List.set_cons_succ])
  (refine wpQuiet_step (fun K hK => ?_); rw [if_pos (by rfl)]; apply quiet_rowload (cs := bv a) Tryd.underlying22 rfl isz22; exact rfl; exact rfl; exact fun w h => laterRow h x0; exact (by simp [go_sem, *]); refine hK _ ?_; clear hK K; simp only [Act.put, List.setIfInBounds_toArray, List.set_cons_zero, List.set_cons_succ])
  (refine wpQuiet_step (fun K hK => ?_); rw [if_pos (by rfl)]; apply quiet_val; (intro wq hwq; go_simp; (try go_ints); exact rfl); refine hK _ ?_; clear hK K; simp only [Act.put, List.setIfInBounds_toArray, List.set_cons_zero, List.set_cons_succ])
  (refine wpQuiet_step (fun K hK => ?_); rw [if_pos (by rfl)]; apply quiet_val; (intro wq hwq; go_simp; (try go_ints); exact rfl); refine hK _ ?_; clear hK K; simp only [Act.put, List.setIfInBounds_toArray, List.set_cons_zero, List.set_cons_succ])
  (refine wpQuiet_step (fun K hK => ?_); rw [if_pos (by rfl)]; apply quiet_val; (intro wq hwq; go_simp; (try go_ints); exact rfl); refine hK _ ?_; clear hK K; simp only [Act.put, List.setIfInBounds_toArray, List.set_cons_zero, List.set_cons_succ])
  (refine wpQuiet_step (fun K hK => ?_); rw [if_pos (by rfl)]; apply quiet_rowload (cs := bv a) Tryd.underlying22 rfl isz22; exact rfl; exact rfl; exact fun w h => laterRow h x0; exact (by simp [go_sem, *]); refine hK _ ?_; clear hK K; simp only [Act.put, List.setIfInBounds_toArray, List.set_cons_zero, List.set_cons_succ])
  (refine wpQuiet_step (fun K hK => ?_); rw [if_pos (by rfl)]; apply quiet_call; (intro wq; go_simp; exact ⟨rfl, rfl⟩); (intro wq hwq; exact Since.call hwq (HT5.out _ hwq)); refine hK _ ?_; clear hK K; simp only [Act.put, List.setIfInBounds_toArray, List.set_cons_zero, List.set_cons_succ])
  (refine wpQuiet_step (fun K hK => ?_); rw [if_pos (by rfl)]; apply quiet_rowload (cs := bv a) Tryd.underlying22 rfl isz22; exact rfl; exact rfl; exact fun w h => laterRow h x0; exact (by simp [go_sem, *]); refine hK _ ?_; clear hK K; simp only [Act.put, List.setIfInBounds_toArray, List.set_cons_zero, List.set_cons_succ])
  (refine wpQuiet_step (fun K hK => ?_); rw [if_pos (by rfl)]; apply quiet_call; (intro wq; go_simp; exact ⟨rfl, rfl⟩); (intro wq hwq; exact Since.call hwq (HR.out _)); refine hK _ ?_; clear hK K; simp only [Act.put, List.setIfInBounds_toArray, List.set_cons_zero, List.set_cons_succ])
  (refine wpQuiet_step (fun K hK => ?_); rw [if_pos (by rfl)]; apply quiet_val; (intro wq hwq; go_simp; (try go_ints); exact rfl); refine hK _ ?_; clear hK K; simp only [Act.put, List.setIfInBounds_toArray, List.set_cons_zero, List.set_cons_succ])
  (refine wpQuiet_step (fun K hK => ?_); rw [if_pos (by rfl)]; apply quiet_val; (intro wq hwq; go_simp; (try go_ints); exact rfl); refine hK _ ?_; clear hK K; simp only [Act.put, List.setIfInBounds_toArray, List.set_cons_zero, List.set_cons_succ])
  (refine wpQuiet_step (fun K hK => ?_); rw [if_pos (by rfl)]; apply quiet_val; (intro wq hwq; go_simp; (try go_ints); exact rfl); refine hK _ ?_; clear hK K; simp only [Act.put, List.setIfInBounds_toArray, List.set_cons_zero, List.set_cons_succ])
  (refine wpQuiet_step (fun K hK => ?_); rw [if_pos (by rfl)]; apply quiet_val; (intro wq hwq; go_simp; (try go_ints); exact rfl); refine hK _ ?_; clear hK K; simp only [Act.put, List.setIfInBounds_toArray, List.set_cons_zero, List.set_cons_succ])
  (refine wpQuiet_step (fun K hK => ?_); rw [if_pos (by rfl)]; apply quiet_val; (intro wq hwq; go_simp; (try go_ints); exact rfl); refine hK _ ?_; clear hK K; simp only [Act.put, List.setIfInBounds_toArray, List.set_cons_zero, List.set_cons_succ])
  (refine wpQuiet_step (fun K hK => ?_); rw [if_pos (by rfl)]; apply quiet_val; (intro wq hwq; go_simp; (try go_ints); exact rfl); refine hK _ ?_; clear hK K; simp only [Act.put, List.setIfInBounds_toArray, List.set_cons_zero, List.set_cons_succ])
  (refine wpQuiet_step (fun K hK => ?_); rw [if_pos (by rfl)]; apply quiet_val; (intro wq hwq; go_simp; (try go_ints); exact rfl); refine hK _ ?_; clear hK K; simp only [Act.put, List.setIfInBounds_toArray, List.set_cons_zero, List.set_cons_succ])
  (refine wpQuiet_step (fun K hK => ?_); rw [if_pos (by rfl)]; apply quiet_rowload (cs := bv a) Tryd.underlying25 rfl isz25; exact rfl; exact rfl; exact fun w h => laterRow h x3; exact (by simp [go_sem, *]); refine hK _ ?_; clear hK K; simp only [Act.put, List.setIfInBounds_toArray, List.set_cons_zero, List.set_cons_succ])
  (refine wpQuiet_step (fun K hK => ?_); rw [if_pos (by rfl)]; apply quiet_rowload (cs := bv a) Tryd.underlying22 rfl isz22; exact rfl; exact rfl; exact fun w h => laterRow h x0; exact (by simp [go_sem, *]); refine hK _ ?_; clear hK K; simp only [Act.put, List.setIfInBounds_toArray, List.set_cons_zero, List.set_cons_succ])
  (refine wpQuiet_step (fun K hK => ?_); rw [if_pos (by rfl)]; apply quiet_val; (intro wq hwq; go_simp; (try go_ints); exact rfl); refine hK _ ?_; clear hK K; simp only [Act.put, List.setIfInBounds_toArray, List.set_cons_zero, List.set_cons_succ])
  (refine wpQuiet_step (fun K hK => ?_); rw [if_pos (by rfl)]; apply quiet_val; (intro wq hwq; go_simp; (try go_ints); exact rfl); refine hK _ ?_; clear hK K; simp only [Act.put, List.setIfInBounds_toArray, List.set_cons_zero, List.set_cons_succ])
  refine wpQuiet_nil ?_; intro wn hwn
  have B6 := Lib.hid (hwn.out B5.out)
  have y0 := laterRow hwn x0
  have y4 := laterRow hwn x4
  have G6 := Lib.hid (HG.out.since B6.out)
  clear hwn HT5
  go_wp2_with (first
    | (go_at_call 14; refine (HK.out _ G6.out).mono ?_; rintro e w7 ⟨rfl, hb7⟩; have z0 := row_call hb7 y0; have z4 := row_call hb7 y4; have B7 := Lib.hid (below_call B6.out hb7))
    | (apply wpList_rowload Tryd.underlying25 rfl isz25; exact rfl; exact rfl; exact rfl; (with_reducible exact z4); exact (by simp [go_sem, *]); simp only [Act.put, List.setIfInBounds_toArray, List.set_cons_zero, List.set_cons_succ])
    | (apply wpList_rowload Tryd.underlying22 rfl isz22; exact rfl; exact rfl; exact rfl; (with_reducible exact z0); exact (by simp [go_sem, *]); simp only [Act.put, List.setIfInBounds_toArray, List.set_cons_zero, List.set_cons_succ])
    | (go_at_call 13; refine (HR.out _).mono ?_; rintro e w8 ⟨rfl, hb8⟩; have B8 := Lib.hid (below_call B7.out hb8)))
  go_ret
  exact ⟨by show Ending.returned (.bool (!(t.toList == T))) = _; rw [hbt.out]; rfl, B8.out⟩

theorem law_texts (a : List Int) (ha : a.length = 16) (hB : byt a) (s : ByteArray) (hs : s.size ≤ maxLen) (w : World) (hg : Glob w) :
    Calls Tryd.prog 3 #[.agg (bv a), .string s] w fun e w' => e = .returned (.bool true) ∧ Below w.heap.size w w' := by
  rcases parseS_cases (s.extract 0 (min (s.size : Int) 60).toNat) with h | ⟨P, h, hP, hPb, hPt⟩
  · refine texts_no a ha hB s _ hs rfl h (fun he => ?_) w hg
    rw [he, parse_text ha hB] at h
    have h3 := congrArg Prod.snd h
    exact absurd (show (0 : Int) = 3 from h3) (by decide)
  · exact texts_ok a ha hB s _ hs rfl P hP hPb h hPt w hg

end Go.Proofs.YtodeiapaehlmfaaDoor
