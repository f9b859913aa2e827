import Derived.Test.YtodeiapaehlmfaaDoorAj
namespace Go.Proofs.YtodeiapaehlmfaaDoor
open Go Go.RowKit
attribute [local go_sem] rowAt_alloc_at rowAt_alloc_past rowAt_drew rowAt_drewN bv_size iv_size bv_one iv_one bv_set iv_set bv_get iv_get bv_elem iv_elem zlit16 zlit8 z16_length z8_length
attribute [local irreducible] wpQuiet
set_option linter.unusedSimpArgs false


theorem ints_one {m : List Int} : ∀ u ∈ m.map (Value.int .i64), u.oneCell' = true := fun u hu => by
  obtain ⟨x, _, rfl⟩ := List.mem_map.1 hu
  rfl
theorem zeros_form {w : World} {base n k : Nat} {v : Value} {l : List Int} (h : w.ownsRow base 3 1 v (n + k) (l.map (Value.int .i64) ++ List.replicate k (Value.int .i64 0))) : w.ownsRow base 3 1 v (n + k) ((l ++ List.replicate k 0).map (Value.int .i64)) := by
  simpa using h
theorem ints_form {w : World} {base n : Nat} {v : Value} {l m : List Int} (h : w.ownsRow base 3 1 v n (l.map (Value.int .i64) ++ m.map (Value.int .i64))) : w.ownsRow base 3 1 v n ((l ++ m).map (Value.int .i64)) := by
  simpa using h
theorem bytes_ext {T : List UInt8} {t : ByteArray} (h : T = t.toList) : bytesOf T = t := by
  rw [h, ByteArray.toList_eq]
  rfl
theorem own_apart {w w' : World} {b size n n' : Nat} {e : TypeId} {v v' : Value} {xs xs' : List Value} (h : w.ownsRow b e size v n xs) (h' : w'.ownsRow w.heap.size e size v' n' xs') : v'.ownBlock = none ∨ v'.ownBlock ≠ v.ownBlock := by
  cases hv : v'.ownBlock with
  | none => exact Or.inl rfl
  | some k =>
    right
    intro e
    have h1 := (h'.lt k hv).1
    have h2 := (h.lt k e.symm).2
    omega

set_option maxHeartbeats 2000000 in
set_option maxRecDepth 100000 in
theorem parse_f_bad (t : ByteArray) (hlim : t.size ≤ 65536) (l m : List Int) (hF : parseF t = some l) (hB : parseB t = some m) (hI : parseI t = false) (h8 : l.length + m.length ≤ 8) (P : List Int) (hP : P.length = 16) (hPb : byt P) (hOf : ofS (l ++ m) = (P, 1)) (w : World) (hg : Glob w) : Calls Tryd.prog 10 #[.string t] w fun e w' => e = .returned (.tuple #[.agg (bv z16), .int .i64 3]) ∧ Below w.heap.size w w' := by
  obtain ⟨i0, hi⟩ := info_parts info3
  have HI := Lib.hid hi; clear hi
  have hcl := cut_le t.data.toList dcolon
  have hsz : t.data.toList.length = t.size := Lib.size_eq t
  have hb0 := below1 w (.cells (bv z16) 25)
  obtain ⟨mx, hm⟩ := (hg.since hb0).top
  have HC := Lib.hid (Tryd.strings_Cut t ⟨#[58, 58]⟩ mx (w.alloc (.cells (bv z16) 25)) (by omega) hm)
  have hlF : (bytesOf (Lib.cut t.data.toList dcolon).1).size ≤ 65536 := by show (Lib.cut t.data.toList dcolon).1.toArray.size ≤ _; simp; omega
  have hlB : (bytesOf (Lib.cut t.data.toList dcolon).2.1).size ≤ 65536 := by show (Lib.cut t.data.toList dcolon).2.1.toArray.size ≤ _; simp; omega
  have HG0 := Lib.hid (hg.since hb0)
  clear hg hm hsz hcl hlim
  have eI : (Lib.cut t.data.toList dcolon).2.2 = parseI t := rfl
  have eD : (ByteArray.mk #[58, 58]).data.toList = dcolon := rfl
  rw [eD, eI] at HC
  have HF := Lib.hid (list_yes hF hlF)
  have HB := Lib.hid (list_yes hB hlB)
  have hk8 : (8 : Int) - l.length - m.length = ((8 - l.length - m.length : Nat) : Int) := by omega
  have h8i : (l.length : Int) + m.length ≤ 8 := by omega
  have HOf : Hid (∀ (b : Nat) (w : World) (v : Value), w.ownsRow b 3 1 v (l.length + m.length) ((l ++ m).map (Value.int .i64)) → Calls Tryd.prog 9 #[v] w fun e w' => e = .returned (.tuple #[.agg (bv P), .int .i64 1]) ∧ Below w.heap.size w w') := Lib.hid fun b w v h => by
    have := of_own (by simp only [List.length_append, List.length_replicate]) h
    rwa [hOf] at this
  clear hF hB hlF hlB eI eD hOf
  rw [hI] at HC
  clear hI
  unfold bytesOf at HF HB
  generalize (Lib.cut t.data.toList dcolon).1 = F at *
  generalize (Lib.cut t.data.toList dcolon).2.1 = B at *
  go_enter Tryd.func10, Tryd.ntmps10
  go_wp2_with (first
    | (go_at_call 29; refine HC.out.mono ?_; rintro e w1 ⟨rfl, n, hw1⟩; have HG1 : Hid (Glob w1) := Lib.hid (by rw [hw1]; exact HG0.out.since (below_drewN (Below.refl _ _) n)); have q0 : rowAt w1 w.heap.size = some (bv z16) := (by simp [hw1, go_sem]); have hb1 : Below w.heap.size w w1 := (by rw [hw1]; exact below_drewN hb0 n); have hn1 : w1.heap.size = w.heap.size + 1 := (by simp [hw1]); clear hw1; have hlt1 : w.heap.size < w1.heap.size := (by omega))
    | (go_at_call 30; with_reducible refine (HF.out _ HG1.out).mono ?_; rintro e w2 ⟨A1, c1, rfl, hown1, hb2⟩; have HG2 := Lib.hid (HG1.out.since hb2); have HO1 := Lib.hid hown1; clear hown1)
    | (go_at_call 30; with_reducible refine (HB.out _ HG2.out).mono ?_; rintro e w3 ⟨A2, c2, rfl, hown2, hb3⟩; have HO2 := Lib.hid hown2; have B3 := Lib.hid (below_call hb2 hb3); have HO13 := Lib.hid (own_below HO1.out hb3); have hs23 := hb3.size; clear hown2; have hs12 := hb2.size; clear hb2 hb3; have HR3 := Lib.hid (Reads.of_own HO2.out))
    | (at_builtin; refine wpList_append_any _ rfl (.tmp 54) (.tmp 55) 29 rfl w1.heap.size 3 i0 (.int .i64 0) 1 8 Tryd.underlying29 HI.out.1 HI.out.2.1 HI.out.2.2.1 HI.out.2.2.2 rfl (by decide) (.slice A1 l.length c1) (l.length) ((l).map (Value.int .i64)) rfl HO13.out w3.heap.size A2 m.length c2 (m.map (Value.int .i64)) rfl HR3.out ints_one (by unfold maxLen; omega) (by omega) (by omega) ?_; intro v5 w5 hown5 hgr5 hat5; have B5 := Lib.hid (B3.out.grown hgr5 (by omega) (fun k hk => (HO13.out.lt k hk).1)); have HO5 := Lib.hid (ints_form hown5); clear hown5 hgr5 hat5)
    | (go_at_call 9; refine (HOf.out _ _ _ HO5.out).mono ?_; rintro e w6 ⟨rfl, hb6⟩; have B6 := Lib.hid (B5.out.trans (hb6.mono B5.out.size)); have q6 := rowBelow B6.out hlt1 q0; have Bw7 := Lib.hid (below_new (below_call hb1 B6.out) (.cells (bv P) 25)); have HG7 := Lib.hid ((HG1.out.since B6.out).new (.cells (bv P) 25)); have q7 := row_alloc q6 (.cells (bv P) 25); have t7 := row1 w6 (bv P) 25)
    | (apply wpList_rowstore (vs := bv P) isz25; exact rfl; exact rfl; exact rfl; exact rfl; (with_reducible exact row1 _ _ _); exact (by simp [go_sem, *]); exact (by simp [go_sem, *]); exact (by simp [go_sem, *]); try simp only [Act.put, List.setIfInBounds_toArray, List.set_cons_zero, List.set_cons_succ]; try simp (disch := simp [go_sem]) only [setRow_alloc_at, setRow_alloc_past, setRow_drew])
    | (apply wpList_rowstore (vs := bv z16) isz25; exact rfl; exact rfl; exact rfl; exact rfl; (with_reducible exact q7); exact (by simp [go_sem, *]); exact (by simp [go_sem, *]); exact (by simp [go_sem, *]); try simp only [Act.put, List.setIfInBounds_toArray, List.set_cons_zero, List.set_cons_succ]))
  refine bodyPost_ret (results_row_tmp rfl Tryd.underlying25 rfl isz25 _ _ (w.heap.size) (bv z16) rfl (rowAt_setRow_same q7 _) (by simp [go_sem, *])) rfl ?_
  exact ⟨rfl, below_set Bw7.out (Nat.le_refl _) _⟩

set_option maxHeartbeats 2000000 in
set_option maxRecDepth 100000 in
theorem parse_f_ne (t : ByteArray) (hlim : t.size ≤ 65536) (l m : List Int) (hF : parseF t = some l) (hB : parseB t = some m) (hI : parseI t = false) (h8 : l.length + m.length ≤ 8) (P : List Int) (hP : P.length = 16) (hPb : byt P) (hOf : ofS (l ++ m) = (P, 0)) (hne : ¬ bytesOf (textS P) = t) (w : World) (hg : Glob w) : Calls Tryd.prog 10 #[.string t] w fun e w' => e = .returned (.tuple #[.agg (bv z16), .int .i64 3]) ∧ Below w.heap.size w w' := by
  obtain ⟨i0, hi⟩ := info_parts info3
  have HI := Lib.hid hi; clear hi
  have hcl := cut_le t.data.toList dcolon
  have hsz : t.data.toList.length = t.size := Lib.size_eq t
  have hb0 := below1 w (.cells (bv z16) 25)
  obtain ⟨mx, hm⟩ := (hg.since hb0).top
  have HC := Lib.hid (Tryd.strings_Cut t ⟨#[58, 58]⟩ mx (w.alloc (.cells (bv z16) 25)) (by omega) hm)
  have hlF : (bytesOf (Lib.cut t.data.toList dcolon).1).size ≤ 65536 := by show (Lib.cut t.data.toList dcolon).1.toArray.size ≤ _; simp; omega
  have hlB : (bytesOf (Lib.cut t.data.toList dcolon).2.1).size ≤ 65536 := by show (Lib.cut t.data.toList dcolon).2.1.toArray.size ≤ _; simp; omega
  have HG0 := Lib.hid (hg.since hb0)
  clear hg hm hsz hcl hlim
  have eI : (Lib.cut t.data.toList dcolon).2.2 = parseI t := rfl
  have eD : (ByteArray.mk #[58, 58]).data.toList = dcolon := rfl
  rw [eD, eI] at HC
  have HF := Lib.hid (list_yes hF hlF)
  have HB := Lib.hid (list_yes hB hlB)
  have hk8 : (8 : Int) - l.length - m.length = ((8 - l.length - m.length : Nat) : Int) := by omega
  have h8i : (l.length : Int) + m.length ≤ 8 := by omega
  have HOf : Hid (∀ (b : Nat) (w : World) (v : Value), w.ownsRow b 3 1 v (l.length + m.length) ((l ++ m).map (Value.int .i64)) → Calls Tryd.prog 9 #[v] w fun e w' => e = .returned (.tuple #[.agg (bv P), .int .i64 0]) ∧ Below w.heap.size w w') := Lib.hid fun b w v h => by
    have := of_own (by simp only [List.length_append, List.length_replicate]) h
    rwa [hOf] at this
  have HT := Lib.hid (text_any P hP hPb)
  have hcmp : (textS P == t.toList) = false := beq_eq_false_iff_ne.2 fun h => hne (bytes_ext h)
  clear hne
  generalize textS P = T at *
  clear hF hB hlF hlB eI eD hOf
  rw [hI] at HC
  clear hI
  unfold bytesOf at HF HB
  generalize (Lib.cut t.data.toList dcolon).1 = F at *
  generalize (Lib.cut t.data.toList dcolon).2.1 = B at *
  go_enter Tryd.func10, Tryd.ntmps10
  go_wp2_with (first
    | (go_at_call 29; refine HC.out.mono ?_; rintro e w1 ⟨rfl, n, hw1⟩; have HG1 : Hid (Glob w1) := Lib.hid (by rw [hw1]; exact HG0.out.since (below_drewN (Below.refl _ _) n)); have q0 : rowAt w1 w.heap.size = some (bv z16) := (by simp [hw1, go_sem]); have hb1 : Below w.heap.size w w1 := (by rw [hw1]; exact below_drewN hb0 n); have hn1 : w1.heap.size = w.heap.size + 1 := (by simp [hw1]); clear hw1; have hlt1 : w.heap.size < w1.heap.size := (by omega))
    | (go_at_call 30; with_reducible refine (HF.out _ HG1.out).mono ?_; rintro e w2 ⟨A1, c1, rfl, hown1, hb2⟩; have HG2 := Lib.hid (HG1.out.since hb2); have HO1 := Lib.hid hown1; clear hown1)
    | (go_at_call 30; with_reducible refine (HB.out _ HG2.out).mono ?_; rintro e w3 ⟨A2, c2, rfl, hown2, hb3⟩; have HO2 := Lib.hid hown2; have B3 := Lib.hid (below_call hb2 hb3); have HO13 := Lib.hid (own_below HO1.out hb3); have hs23 := hb3.size; clear hown2; have hs12 := hb2.size; clear hb2 hb3; have HR3 := Lib.hid (Reads.of_own HO2.out))
    | (at_builtin; refine wpList_append_any _ rfl (.tmp 54) (.tmp 55) 29 rfl w1.heap.size 3 i0 (.int .i64 0) 1 8 Tryd.underlying29 HI.out.1 HI.out.2.1 HI.out.2.2.1 HI.out.2.2.2 rfl (by decide) (.slice A1 l.length c1) (l.length) ((l).map (Value.int .i64)) rfl HO13.out w3.heap.size A2 m.length c2 (m.map (Value.int .i64)) rfl HR3.out ints_one (by unfold maxLen; omega) (by omega) (by omega) ?_; intro v5 w5 hown5 hgr5 hat5; have B5 := Lib.hid (B3.out.grown hgr5 (by omega) (fun k hk => (HO13.out.lt k hk).1)); have HO5 := Lib.hid (ints_form hown5); clear hown5 hgr5 hat5)
    | (go_at_call 9; refine (HOf.out _ _ _ HO5.out).mono ?_; rintro e w6 ⟨rfl, hb6⟩; have B6 := Lib.hid (B5.out.trans (hb6.mono B5.out.size)); have q6 := rowBelow B6.out hlt1 q0; have Bw7 := Lib.hid (below_new (below_call hb1 B6.out) (.cells (bv P) 25)); have HG7 := Lib.hid ((HG1.out.since B6.out).new (.cells (bv P) 25)); have q7 := row_alloc q6 (.cells (bv P) 25); have t7 := row1 w6 (bv P) 25)
    | (apply wpList_rowstore (vs := bv P) isz25; exact rfl; exact rfl; exact rfl; exact rfl; (with_reducible exact row1 _ _ _); exact (by simp [go_sem, *]); exact (by simp [go_sem, *]); exact (by simp [go_sem, *]); try simp only [Act.put, List.setIfInBounds_toArray, List.set_cons_zero, List.set_cons_succ]; try simp (disch := simp [go_sem]) only [setRow_alloc_at, setRow_alloc_past, setRow_drew])
    | (apply wpList_rowload Tryd.underlying25 rfl isz25; exact rfl; exact rfl; exact rfl; (with_reducible exact t7); exact (by simp [go_sem, *]); simp only [Act.put, List.setIfInBounds_toArray, List.set_cons_zero, List.set_cons_succ])
    | (go_at_call 11; refine (HT.out _ HG7.out).mono ?_; rintro e w8 ⟨rfl, hb8⟩; have q8 := row_call hb8 q7; have t8 := row_call hb8 t7; have Bw8 := Lib.hid (below_call Bw7.out hb8))
    | (apply wpList_rowstore (vs := bv z16) isz25; exact rfl; exact rfl; exact rfl; exact rfl; (with_reducible exact q8); exact (by simp [go_sem, *]); exact (by simp [go_sem, *]); exact (by simp [go_sem, *]); try simp only [Act.put, List.setIfInBounds_toArray, List.set_cons_zero, List.set_cons_succ]))
  refine bodyPost_ret (results_row_tmp rfl Tryd.underlying25 rfl isz25 _ _ (w.heap.size) (bv z16) rfl (rowAt_setRow_same q8 _) (by simp [go_sem, *])) rfl ?_
  exact ⟨rfl, below_set Bw8.out (Nat.le_refl _) _⟩

set_option maxHeartbeats 2000000 in
set_option maxRecDepth 100000 in
theorem parse_f_ok (t : ByteArray) (hlim : t.size ≤ 65536) (l m : List Int) (hF : parseF t = some l) (hB : parseB t = some m) (hI : parseI t = false) (h8 : l.length + m.length ≤ 8) (P : List Int) (hP : P.length = 16) (hPb : byt P) (hOf : ofS (l ++ m) = (P, 0)) (heq : bytesOf (textS P) = t) (w : World) (hg : Glob w) : Calls Tryd.prog 10 #[.string t] w fun e w' => e = .returned (.tuple #[.agg (bv P), .int .i64 0]) ∧ Below w.heap.size w w' := by
  obtain ⟨i0, hi⟩ := info_parts info3
  have HI := Lib.hid hi; clear hi
  have hcl := cut_le t.data.toList dcolon
  have hsz : t.data.toList.length = t.size := Lib.size_eq t
  have hb0 := below1 w (.cells (bv z16) 25)
  obtain ⟨mx, hm⟩ := (hg.since hb0).top
  have HC := Lib.hid (Tryd.strings_Cut t ⟨#[58, 58]⟩ mx (w.alloc (.cells (bv z16) 25)) (by omega) hm)
  have hlF : (bytesOf (Lib.cut t.data.toList dcolon).1).size ≤ 65536 := by show (Lib.cut t.data.toList dcolon).1.toArray.size ≤ _; simp; omega
  have hlB : (bytesOf (Lib.cut t.data.toList dcolon).2.1).size ≤ 65536 := by show (Lib.cut t.data.toList dcolon).2.1.toArray.size ≤ _; simp; omega
  have HG0 := Lib.hid (hg.since hb0)
  clear hg hm hsz hcl hlim
  have eI : (Lib.cut t.data.toList dcolon).2.2 = parseI t := rfl
  have eD : (ByteArray.mk #[58, 58]).data.toList = dcolon := rfl
  rw [eD, eI] at HC
  have HF := Lib.hid (list_yes hF hlF)
  have HB := Lib.hid (list_yes hB hlB)
  have hk8 : (8 : Int) - l.length - m.length = ((8 - l.length - m.length : Nat) : Int) := by omega
  have h8i : (l.length : Int) + m.length ≤ 8 := by omega
  have HOf : Hid (∀ (b : Nat) (w : World) (v : Value), w.ownsRow b 3 1 v (l.length + m.length) ((l ++ m).map (Value.int .i64)) → Calls Tryd.prog 9 #[v] w fun e w' => e = .returned (.tuple #[.agg (bv P), .int .i64 0]) ∧ Below w.heap.size w w') := Lib.hid fun b w v h => by
    have := of_own (by simp only [List.length_append, List.length_replicate]) h
    rwa [hOf] at this
  have HT := Lib.hid (text_any P hP hPb)
  have hcmp : (ByteArray.mk (textS P).toArray) = t := heq
  clear heq
  generalize textS P = T at *
  clear hF hB hlF hlB eI eD hOf
  rw [hI] at HC
  clear hI
  unfold bytesOf at HF HB
  generalize (Lib.cut t.data.toList dcolon).1 = F at *
  generalize (Lib.cut t.data.toList dcolon).2.1 = B at *
  go_enter Tryd.func10, Tryd.ntmps10
  go_wp2_with (first
    | (go_at_call 29; refine HC.out.mono ?_; rintro e w1 ⟨rfl, n, hw1⟩; have HG1 : Hid (Glob w1) := Lib.hid (by rw [hw1]; exact HG0.out.since (below_drewN (Below.refl _ _) n)); have q0 : rowAt w1 w.heap.size = some (bv z16) := (by simp [hw1, go_sem]); have hb1 : Below w.heap.size w w1 := (by rw [hw1]; exact below_drewN hb0 n); have hn1 : w1.heap.size = w.heap.size + 1 := (by simp [hw1]); clear hw1; have hlt1 : w.heap.size < w1.heap.size := (by omega))
    | (go_at_call 30; with_reducible refine (HF.out _ HG1.out).mono ?_; rintro e w2 ⟨A1, c1, rfl, hown1, hb2⟩; have HG2 := Lib.hid (HG1.out.since hb2); have HO1 := Lib.hid hown1; clear hown1)
    | (go_at_call 30; with_reducible refine (HB.out _ HG2.out).mono ?_; rintro e w3 ⟨A2, c2, rfl, hown2, hb3⟩; have HO2 := Lib.hid hown2; have B3 := Lib.hid (below_call hb2 hb3); have HO13 := Lib.hid (own_below HO1.out hb3); have hs23 := hb3.size; clear hown2; have hs12 := hb2.size; clear hb2 hb3; have HR3 := Lib.hid (Reads.of_own HO2.out))
    | (at_builtin; refine wpList_append_any _ rfl (.tmp 54) (.tmp 55) 29 rfl w1.heap.size 3 i0 (.int .i64 0) 1 8 Tryd.underlying29 HI.out.1 HI.out.2.1 HI.out.2.2.1 HI.out.2.2.2 rfl (by decide) (.slice A1 l.length c1) (l.length) ((l).map (Value.int .i64)) rfl HO13.out w3.heap.size A2 m.length c2 (m.map (Value.int .i64)) rfl HR3.out ints_one (by unfold maxLen; omega) (by omega) (by omega) ?_; intro v5 w5 hown5 hgr5 hat5; have B5 := Lib.hid (B3.out.grown hgr5 (by omega) (fun k hk => (HO13.out.lt k hk).1)); have HO5 := Lib.hid (ints_form hown5); clear hown5 hgr5 hat5)
    | (go_at_call 9; refine (HOf.out _ _ _ HO5.out).mono ?_; rintro e w6 ⟨rfl, hb6⟩; have B6 := Lib.hid (B5.out.trans (hb6.mono B5.out.size)); have q6 := rowBelow B6.out hlt1 q0; have Bw7 := Lib.hid (below_new (below_call hb1 B6.out) (.cells (bv P) 25)); have HG7 := Lib.hid ((HG1.out.since B6.out).new (.cells (bv P) 25)); have q7 := row_alloc q6 (.cells (bv P) 25); have t7 := row1 w6 (bv P) 25)
    | (apply wpList_rowstore (vs := bv P) isz25; exact rfl; exact rfl; exact rfl; exact rfl; (with_reducible exact row1 _ _ _); exact (by simp [go_sem, *]); exact (by simp [go_sem, *]); exact (by simp [go_sem, *]); try simp only [Act.put, List.setIfInBounds_toArray, List.set_cons_zero, List.set_cons_succ]; try simp (disch := simp [go_sem]) only [setRow_alloc_at, setRow_alloc_past, setRow_drew])
    | (apply wpList_rowload Tryd.underlying25 rfl isz25; exact rfl; exact rfl; exact rfl; (with_reducible exact t7); exact (by simp [go_sem, *]); simp only [Act.put, List.setIfInBounds_toArray, List.set_cons_zero, List.set_cons_succ])
    | (go_at_call 11; refine (HT.out _ HG7.out).mono ?_; rintro e w8 ⟨rfl, hb8⟩; have q8 := row_call hb8 q7; have t8 := row_call hb8 t7; have Bw8 := Lib.hid (below_call Bw7.out hb8))
    | (apply wpList_rowload Tryd.underlying25 rfl isz25; exact rfl; exact rfl; exact rfl; (with_reducible exact t8); exact (by simp [go_sem, *]); simp only [Act.put, List.setIfInBounds_toArray, List.set_cons_zero, List.set_cons_succ])
    | (apply wpList_rowstore (vs := bv P) isz25; exact rfl; exact rfl; exact rfl; exact rfl; (with_reducible exact q8); exact (by simp [go_sem, *]); exact (by simp [go_sem, *]); exact (by simp [go_sem, *]); try simp only [Act.put, List.setIfInBounds_toArray, List.set_cons_zero, List.set_cons_succ]))
  refine bodyPost_ret (results_row_tmp rfl Tryd.underlying25 rfl isz25 _ _ (w.heap.size) (bv P) rfl (rowAt_setRow_same q8 _) (by simp [go_sem, *])) rfl ?_
  exact ⟨rfl, below_set Bw8.out (Nat.le_refl _) _⟩

set_option maxHeartbeats 2000000 in
set_option maxRecDepth 100000 in
theorem parse_t_bad (t : ByteArray) (hlim : t.size ≤ 65536) (l m : List Int) (hF : parseF t = some l) (hB : parseB t = some m) (hI : parseI t = true) (h8 : l.length + m.length ≤ 8) (P : List Int) (hP : P.length = 16) (hPb : byt P) (hOf : ofS (l ++ List.replicate (8 - l.length - m.length) 0 ++ m) = (P, 1)) (w : World) (hg : Glob w) : Calls Tryd.prog 10 #[.string t] w fun e w' => e = .returned (.tuple #[.agg (bv z16), .int .i64 3]) ∧ Below w.heap.size w w' := by
  obtain ⟨i0, hi⟩ := info_parts info3
  have HI := Lib.hid hi; clear hi
  have hcl := cut_le t.data.toList dcolon
  have hsz : t.data.toList.length = t.size := Lib.size_eq t
  have hb0 := below1 w (.cells (bv z16) 25)
  obtain ⟨mx, hm⟩ := (hg.since hb0).top
  have HC := Lib.hid (Tryd.strings_Cut t ⟨#[58, 58]⟩ mx (w.alloc (.cells (bv z16) 25)) (by omega) hm)
  have hlF : (bytesOf (Lib.cut t.data.toList dcolon).1).size ≤ 65536 := by show (Lib.cut t.data.toList dcolon).1.toArray.size ≤ _; simp; omega
  have hlB : (bytesOf (Lib.cut t.data.toList dcolon).2.1).size ≤ 65536 := by show (Lib.cut t.data.toList dcolon).2.1.toArray.size ≤ _; simp; omega
  have HG0 := Lib.hid (hg.since hb0)
  clear hg hm hsz hcl hlim
  have eI : (Lib.cut t.data.toList dcolon).2.2 = parseI t := rfl
  have eD : (ByteArray.mk #[58, 58]).data.toList = dcolon := rfl
  rw [eD, eI] at HC
  have HF := Lib.hid (list_yes hF hlF)
  have HB := Lib.hid (list_yes hB hlB)
  have hk8 : (8 : Int) - l.length - m.length = ((8 - l.length - m.length : Nat) : Int) := by omega
  have h8i : (l.length : Int) + m.length ≤ 8 := by omega
  have HOf : Hid (∀ (b : Nat) (w : World) (v : Value), w.ownsRow b 3 1 v (l.length + (8 - l.length - m.length) + m.length) ((l ++ List.replicate (8 - l.length - m.length) 0 ++ m).map (Value.int .i64)) → Calls Tryd.prog 9 #[v] w fun e w' => e = .returned (.tuple #[.agg (bv P), .int .i64 1]) ∧ Below w.heap.size w w') := Lib.hid fun b w v h => by
    have := of_own (by simp only [List.length_append, List.length_replicate]) h
    rwa [hOf] at this
  clear hF hB hlF hlB eI eD hOf
  rw [hI] at HC
  clear hI
  unfold bytesOf at HF HB
  generalize (Lib.cut t.data.toList dcolon).1 = F at *
  generalize (Lib.cut t.data.toList dcolon).2.1 = B at *
  go_enter Tryd.func10, Tryd.ntmps10
  go_wp2_with (first
    | (go_at_call 29; refine HC.out.mono ?_; rintro e w1 ⟨rfl, n, hw1⟩; have HG1 : Hid (Glob w1) := Lib.hid (by rw [hw1]; exact HG0.out.since (below_drewN (Below.refl _ _) n)); have q0 : rowAt w1 w.heap.size = some (bv z16) := (by simp [hw1, go_sem]); have hb1 : Below w.heap.size w w1 := (by rw [hw1]; exact below_drewN hb0 n); have hn1 : w1.heap.size = w.heap.size + 1 := (by simp [hw1]); clear hw1; have hlt1 : w.heap.size < w1.heap.size := (by omega))
    | (go_at_call 30; with_reducible refine (HF.out _ HG1.out).mono ?_; rintro e w2 ⟨A1, c1, rfl, hown1, hb2⟩; have HG2 := Lib.hid (HG1.out.since hb2); have HO1 := Lib.hid hown1; clear hown1)
    | (go_at_call 30; with_reducible refine (HB.out _ HG2.out).mono ?_; rintro e w3 ⟨A2, c2, rfl, hown2, hb3⟩; have HO2 := Lib.hid hown2; have B3 := Lib.hid (below_call hb2 hb3); have HO13 := Lib.hid (own_below HO1.out hb3); have hs23 := hb3.size; clear hown2; have hs12 := hb2.size; clear hb2 hb3)
    | (at_builtin; obtain ⟨v4, w4, hr4, hown4, hgr4, hat4⟩ := run_append_own_zeros (P := Tryd.prog) w3 w1.heap.size 29 3 29 3 i0 (.int .i64 0) 8 .i64 .i64 Tryd.underlying29 Tryd.underlying3 HI.out.1 HI.out.2.1 HI.out.2.2.1 HI.out.2.2.2 rfl rfl (.slice A1 l.length c1) l.length (l.map (Value.int .i64)) HO13.out (8 - l.length - m.length) (by unfold maxLen; omega) (by omega) (by omega); refine Lib.wpList_append_run _ rfl (.tmp 45) (.tmp 51) 29 3 rfl (.slice A1 l.length c1) (.int .i64 ((8 - l.length - m.length : Nat) : Int)) rfl (by rw [← hk8]; rfl) v4 w4 hr4 ?_; have B4 := Lib.hid (B3.out.grown hgr4 (by omega) (fun k hk => (HO13.out.lt k hk).1)); have HO4 := Lib.hid (zeros_form hown4); have HR4 := Lib.hid (Reads.of_own (HO2.out.kept hgr4 (own_apart HO1.out HO2.out))); have hs34 := hgr4.size; clear hr4 hown4 hgr4 hat4)
    | (at_builtin; refine wpList_append_any _ rfl (.tmp 54) (.tmp 55) 29 rfl w1.heap.size 3 i0 (.int .i64 0) 1 8 Tryd.underlying29 HI.out.1 HI.out.2.1 HI.out.2.2.1 HI.out.2.2.2 rfl (by decide) (v4) (l.length + (8 - l.length - m.length)) ((l ++ List.replicate (8 - l.length - m.length) 0).map (Value.int .i64)) rfl HO4.out w4.heap.size A2 m.length c2 (m.map (Value.int .i64)) rfl HR4.out ints_one (by unfold maxLen; omega) (by omega) (by omega) ?_; intro v5 w5 hown5 hgr5 hat5; have B5 := Lib.hid (B4.out.grown hgr5 (by omega) (fun k hk => (HO4.out.lt k hk).1)); have HO5 := Lib.hid (ints_form hown5); clear hown5 hgr5 hat5)
    | (go_at_call 9; refine (HOf.out _ _ _ HO5.out).mono ?_; rintro e w6 ⟨rfl, hb6⟩; have B6 := Lib.hid (B5.out.trans (hb6.mono B5.out.size)); have q6 := rowBelow B6.out hlt1 q0; have Bw7 := Lib.hid (below_new (below_call hb1 B6.out) (.cells (bv P) 25)); have HG7 := Lib.hid ((HG1.out.since B6.out).new (.cells (bv P) 25)); have q7 := row_alloc q6 (.cells (bv P) 25); have t7 := row1 w6 (bv P) 25)
    | (apply wpList_rowstore (vs := bv P) isz25; exact rfl; exact rfl; exact rfl; exact rfl; (with_reducible exact row1 _ _ _); exact (by simp [go_sem, *]); exact (by simp [go_sem, *]); exact (by simp [go_sem, *]); try simp only [Act.put, List.setIfInBounds_toArray, List.set_cons_zero, List.set_cons_succ]; try simp (disch := simp [go_sem]) only [setRow_alloc_at, setRow_alloc_past, setRow_drew])
    | (apply wpList_rowstore (vs := bv z16) isz25; exact rfl; exact rfl; exact rfl; exact rfl; (with_reducible exact q7); exact (by simp [go_sem, *]); exact (by simp [go_sem, *]); exact (by simp [go_sem, *]); try simp only [Act.put, List.setIfInBounds_toArray, List.set_cons_zero, List.set_cons_succ]))
  refine bodyPost_ret (results_row_tmp rfl Tryd.underlying25 rfl isz25 _ _ (w.heap.size) (bv z16) rfl (rowAt_setRow_same q7 _) (by simp [go_sem, *])) rfl ?_
  exact ⟨rfl, below_set Bw7.out (Nat.le_refl _) _⟩

set_option maxHeartbeats 2000000 in
set_option maxRecDepth 100000 in
theorem parse_t_ne (t : ByteArray) (hlim : t.size ≤ 65536) (l m : List Int) (hF : parseF t = some l) (hB : parseB t = some m) (hI : parseI t = true) (h8 : l.length + m.length ≤ 8) (P : List Int) (hP : P.length = 16) (hPb : byt P) (hOf : ofS (l ++ List.replicate (8 - l.length - m.length) 0 ++ m) = (P, 0)) (hne : ¬ bytesOf (textS P) = t) (w : World) (hg : Glob w) : Calls Tryd.prog 10 #[.string t] w fun e w' => e = .returned (.tuple #[.agg (bv z16), .int .i64 3]) ∧ Below w.heap.size w w' := by
  obtain ⟨i0, hi⟩ := info_parts info3
  have HI := Lib.hid hi; clear hi
  have hcl := cut_le t.data.toList dcolon
  have hsz : t.data.toList.length = t.size := Lib.size_eq t
  have hb0 := below1 w (.cells (bv z16) 25)
  obtain ⟨mx, hm⟩ := (hg.since hb0).top
  have HC := Lib.hid (Tryd.strings_Cut t ⟨#[58, 58]⟩ mx (w.alloc (.cells (bv z16) 25)) (by omega) hm)
  have hlF : (bytesOf (Lib.cut t.data.toList dcolon).1).size ≤ 65536 := by show (Lib.cut t.data.toList dcolon).1.toArray.size ≤ _; simp; omega
  have hlB : (bytesOf (Lib.cut t.data.toList dcolon).2.1).size ≤ 65536 := by show (Lib.cut t.data.toList dcolon).2.1.toArray.size ≤ _; simp; omega
  have HG0 := Lib.hid (hg.since hb0)
  clear hg hm hsz hcl hlim
  have eI : (Lib.cut t.data.toList dcolon).2.2 = parseI t := rfl
  have eD : (ByteArray.mk #[58, 58]).data.toList = dcolon := rfl
  rw [eD, eI] at HC
  have HF := Lib.hid (list_yes hF hlF)
  have HB := Lib.hid (list_yes hB hlB)
  have hk8 : (8 : Int) - l.length - m.length = ((8 - l.length - m.length : Nat) : Int) := by omega
  have h8i : (l.length : Int) + m.length ≤ 8 := by omega
  have HOf : Hid (∀ (b : Nat) (w : World) (v : Value), w.ownsRow b 3 1 v (l.length + (8 - l.length - m.length) + m.length) ((l ++ List.replicate (8 - l.length - m.length) 0 ++ m).map (Value.int .i64)) → Calls Tryd.prog 9 #[v] w fun e w' => e = .returned (.tuple #[.agg (bv P), .int .i64 0]) ∧ Below w.heap.size w w') := Lib.hid fun b w v h => by
    have := of_own (by simp only [List.length_append, List.length_replicate]) h
    rwa [hOf] at this
  have HT := Lib.hid (text_any P hP hPb)
  have hcmp : (textS P == t.toList) = false := beq_eq_false_iff_ne.2 fun h => hne (bytes_ext h)
  clear hne
  generalize textS P = T at *
  clear hF hB hlF hlB eI eD hOf
  rw [hI] at HC
  clear hI
  unfold bytesOf at HF HB
  generalize (Lib.cut t.data.toList dcolon).1 = F at *
  generalize (Lib.cut t.data.toList dcolon).2.1 = B at *
  go_enter Tryd.func10, Tryd.ntmps10
  go_wp2_with (first
    | (go_at_call 29; refine HC.out.mono ?_; rintro e w1 ⟨rfl, n, hw1⟩; have HG1 : Hid (Glob w1) := Lib.hid (by rw [hw1]; exact HG0.out.since (below_drewN (Below.refl _ _) n)); have q0 : rowAt w1 w.heap.size = some (bv z16) := (by simp [hw1, go_sem]); have hb1 : Below w.heap.size w w1 := (by rw [hw1]; exact below_drewN hb0 n); have hn1 : w1.heap.size = w.heap.size + 1 := (by simp [hw1]); clear hw1; have hlt1 : w.heap.size < w1.heap.size := (by omega))
    | (go_at_call 30; with_reducible refine (HF.out _ HG1.out).mono ?_; rintro e w2 ⟨A1, c1, rfl, hown1, hb2⟩; have HG2 := Lib.hid (HG1.out.since hb2); have HO1 := Lib.hid hown1; clear hown1)
    | (go_at_call 30; with_reducible refine (HB.out _ HG2.out).mono ?_; rintro e w3 ⟨A2, c2, rfl, hown2, hb3⟩; have HO2 := Lib.hid hown2; have B3 := Lib.hid (below_call hb2 hb3); have HO13 := Lib.hid (own_below HO1.out hb3); have hs23 := hb3.size; clear hown2; have hs12 := hb2.size; clear hb2 hb3)
    | (at_builtin; obtain ⟨v4, w4, hr4, hown4, hgr4, hat4⟩ := run_append_own_zeros (P := Tryd.prog) w3 w1.heap.size 29 3 29 3 i0 (.int .i64 0) 8 .i64 .i64 Tryd.underlying29 Tryd.underlying3 HI.out.1 HI.out.2.1 HI.out.2.2.1 HI.out.2.2.2 rfl rfl (.slice A1 l.length c1) l.length (l.map (Value.int .i64)) HO13.out (8 - l.length - m.length) (by unfold maxLen; omega) (by omega) (by omega); refine Lib.wpList_append_run _ rfl (.tmp 45) (.tmp 51) 29 3 rfl (.slice A1 l.length c1) (.int .i64 ((8 - l.length - m.length : Nat) : Int)) rfl (by rw [← hk8]; rfl) v4 w4 hr4 ?_; have B4 := Lib.hid (B3.out.grown hgr4 (by omega) (fun k hk => (HO13.out.lt k hk).1)); have HO4 := Lib.hid (zeros_form hown4); have HR4 := Lib.hid (Reads.of_own (HO2.out.kept hgr4 (own_apart HO1.out HO2.out))); have hs34 := hgr4.size; clear hr4 hown4 hgr4 hat4)
    | (at_builtin; refine wpList_append_any _ rfl (.tmp 54) (.tmp 55) 29 rfl w1.heap.size 3 i0 (.int .i64 0) 1 8 Tryd.underlying29 HI.out.1 HI.out.2.1 HI.out.2.2.1 HI.out.2.2.2 rfl (by decide) (v4) (l.length + (8 - l.length - m.length)) ((l ++ List.replicate (8 - l.length - m.length) 0).map (Value.int .i64)) rfl HO4.out w4.heap.size A2 m.length c2 (m.map (Value.int .i64)) rfl HR4.out ints_one (by unfold maxLen; omega) (by omega) (by omega) ?_; intro v5 w5 hown5 hgr5 hat5; have B5 := Lib.hid (B4.out.grown hgr5 (by omega) (fun k hk => (HO4.out.lt k hk).1)); have HO5 := Lib.hid (ints_form hown5); clear hown5 hgr5 hat5)
    | (go_at_call 9; refine (HOf.out _ _ _ HO5.out).mono ?_; rintro e w6 ⟨rfl, hb6⟩; have B6 := Lib.hid (B5.out.trans (hb6.mono B5.out.size)); have q6 := rowBelow B6.out hlt1 q0; have Bw7 := Lib.hid (below_new (below_call hb1 B6.out) (.cells (bv P) 25)); have HG7 := Lib.hid ((HG1.out.since B6.out).new (.cells (bv P) 25)); have q7 := row_alloc q6 (.cells (bv P) 25); have t7 := row1 w6 (bv P) 25)
    | (apply wpList_rowstore (vs := bv P) isz25; exact rfl; exact rfl; exact rfl; exact rfl; (with_reducible exact row1 _ _ _); exact (by simp [go_sem, *]); exact (by simp [go_sem, *]); exact (by simp [go_sem, *]); try simp only [Act.put, List.setIfInBounds_toArray, List.set_cons_zero, List.set_cons_succ]; try simp (disch := simp [go_sem]) only [setRow_alloc_at, setRow_alloc_past, setRow_drew])
    | (apply wpList_rowload Tryd.underlying25 rfl isz25; exact rfl; exact rfl; exact rfl; (with_reducible exact t7); exact (by simp [go_sem, *]); simp only [Act.put, List.setIfInBounds_toArray, List.set_cons_zero, List.set_cons_succ])
    | (go_at_call 11; refine (HT.out _ HG7.out).mono ?_; rintro e w8 ⟨rfl, hb8⟩; have q8 := row_call hb8 q7; have t8 := row_call hb8 t7; have Bw8 := Lib.hid (below_call Bw7.out hb8))
    | (apply wpList_rowstore (vs := bv z16) isz25; exact rfl; exact rfl; exact rfl; exact rfl; (with_reducible exact q8); exact (by simp [go_sem, *]); exact (by simp [go_sem, *]); exact (by simp [go_sem, *]); try simp only [Act.put, List.setIfInBounds_toArray, List.set_cons_zero, List.set_cons_succ]))
  refine bodyPost_ret (results_row_tmp rfl Tryd.underlying25 rfl isz25 _ _ (w.heap.size) (bv z16) rfl (rowAt_setRow_same q8 _) (by simp [go_sem, *])) rfl ?_
  exact ⟨rfl, below_set Bw8.out (Nat.le_refl _) _⟩

set_option maxHeartbeats 2000000 in
set_option maxRecDepth 100000 in
theorem parse_t_ok (t : ByteArray) (hlim : t.size ≤ 65536) (l m : List Int) (hF : parseF t = some l) (hB : parseB t = some m) (hI : parseI t = true) (h8 : l.length + m.length ≤ 8) (P : List Int) (hP : P.length = 16) (hPb : byt P) (hOf : ofS (l ++ List.replicate (8 - l.length - m.length) 0 ++ m) = (P, 0)) (heq : bytesOf (textS P) = t) (w : World) (hg : Glob w) : Calls Tryd.prog 10 #[.string t] w fun e w' => e = .returned (.tuple #[.agg (bv P), .int .i64 0]) ∧ Below w.heap.size w w' := by
  obtain ⟨i0, hi⟩ := info_parts info3
  have HI := Lib.hid hi; clear hi
  have hcl := cut_le t.data.toList dcolon
  have hsz : t.data.toList.length = t.size := Lib.size_eq t
  have hb0 := below1 w (.cells (bv z16) 25)
  obtain ⟨mx, hm⟩ := (hg.since hb0).top
  have HC := Lib.hid (Tryd.strings_Cut t ⟨#[58, 58]⟩ mx (w.alloc (.cells (bv z16) 25)) (by omega) hm)
  have hlF : (bytesOf (Lib.cut t.data.toList dcolon).1).size ≤ 65536 := by show (Lib.cut t.data.toList dcolon).1.toArray.size ≤ _; simp; omega
  have hlB : (bytesOf (Lib.cut t.data.toList dcolon).2.1).size ≤ 65536 := by show (Lib.cut t.data.toList dcolon).2.1.toArray.size ≤ _; simp; omega
  have HG0 := Lib.hid (hg.since hb0)
  clear hg hm hsz hcl hlim
  have eI : (Lib.cut t.data.toList dcolon).2.2 = parseI t := rfl
  have eD : (ByteArray.mk #[58, 58]).data.toList = dcolon := rfl
  rw [eD, eI] at HC
  have HF := Lib.hid (list_yes hF hlF)
  have HB := Lib.hid (list_yes hB hlB)
  have hk8 : (8 : Int) - l.length - m.length = ((8 - l.length - m.length : Nat) : Int) := by omega
  have h8i : (l.length : Int) + m.length ≤ 8 := by omega
  have HOf : Hid (∀ (b : Nat) (w : World) (v : Value), w.ownsRow b 3 1 v (l.length + (8 - l.length - m.length) + m.length) ((l ++ List.replicate (8 - l.length - m.length) 0 ++ m).map (Value.int .i64)) → Calls Tryd.prog 9 #[v] w fun e w' => e = .returned (.tuple #[.agg (bv P), .int .i64 0]) ∧ Below w.heap.size w w') := Lib.hid fun b w v h => by
    have := of_own (by simp only [List.length_append, List.length_replicate]) h
    rwa [hOf] at this
  have HT := Lib.hid (text_any P hP hPb)
  have hcmp : (ByteArray.mk (textS P).toArray) = t := heq
  clear heq
  generalize textS P = T at *
  clear hF hB hlF hlB eI eD hOf
  rw [hI] at HC
  clear hI
  unfold bytesOf at HF HB
  generalize (Lib.cut t.data.toList dcolon).1 = F at *
  generalize (Lib.cut t.data.toList dcolon).2.1 = B at *
  go_enter Tryd.func10, Tryd.ntmps10
  go_wp2_with (first
    | (go_at_call 29; refine HC.out.mono ?_; rintro e w1 ⟨rfl, n, hw1⟩; have HG1 : Hid (Glob w1) := Lib.hid (by rw [hw1]; exact HG0.out.since (below_drewN (Below.refl _ _) n)); have q0 : rowAt w1 w.heap.size = some (bv z16) := (by simp [hw1, go_sem]); have hb1 : Below w.heap.size w w1 := (by rw [hw1]; exact below_drewN hb0 n); have hn1 : w1.heap.size = w.heap.size + 1 := (by simp [hw1]); clear hw1; have hlt1 : w.heap.size < w1.heap.size := (by omega))
    | (go_at_call 30; with_reducible refine (HF.out _ HG1.out).mono ?_; rintro e w2 ⟨A1, c1, rfl, hown1, hb2⟩; have HG2 := Lib.hid (HG1.out.since hb2); have HO1 := Lib.hid hown1; clear hown1)
    | (go_at_call 30; with_reducible refine (HB.out _ HG2.out).mono ?_; rintro e w3 ⟨A2, c2, rfl, hown2, hb3⟩; have HO2 := Lib.hid hown2; have B3 := Lib.hid (below_call hb2 hb3); have HO13 := Lib.hid (own_below HO1.out hb3); have hs23 := hb3.size; clear hown2; have hs12 := hb2.size; clear hb2 hb3)
    | (at_builtin; obtain ⟨v4, w4, hr4, hown4, hgr4, hat4⟩ := run_append_own_zeros (P := Tryd.prog) w3 w1.heap.size 29 3 29 3 i0 (.int .i64 0) 8 .i64 .i64 Tryd.underlying29 Tryd.underlying3 HI.out.1 HI.out.2.1 HI.out.2.2.1 HI.out.2.2.2 rfl rfl (.slice A1 l.length c1) l.length (l.map (Value.int .i64)) HO13.out (8 - l.length - m.length) (by unfold maxLen; omega) (by omega) (by omega); refine Lib.wpList_append_run _ rfl (.tmp 45) (.tmp 51) 29 3 rfl (.slice A1 l.length c1) (.int .i64 ((8 - l.length - m.length : Nat) : Int)) rfl (by rw [← hk8]; rfl) v4 w4 hr4 ?_; have B4 := Lib.hid (B3.out.grown hgr4 (by omega) (fun k hk => (HO13.out.lt k hk).1)); have HO4 := Lib.hid (zeros_form hown4); have HR4 := Lib.hid (Reads.of_own (HO2.out.kept hgr4 (own_apart HO1.out HO2.out))); have hs34 := hgr4.size; clear hr4 hown4 hgr4 hat4)
    | (at_builtin; refine wpList_append_any _ rfl (.tmp 54) (.tmp 55) 29 rfl w1.heap.size 3 i0 (.int .i64 0) 1 8 Tryd.underlying29 HI.out.1 HI.out.2.1 HI.out.2.2.1 HI.out.2.2.2 rfl (by decide) (v4) (l.length + (8 - l.length - m.length)) ((l ++ List.replicate (8 - l.length - m.length) 0).map (Value.int .i64)) rfl HO4.out w4.heap.size A2 m.length c2 (m.map (Value.int .i64)) rfl HR4.out ints_one (by unfold maxLen; omega) (by omega) (by omega) ?_; intro v5 w5 hown5 hgr5 hat5; have B5 := Lib.hid (B4.out.grown hgr5 (by omega) (fun k hk => (HO4.out.lt k hk).1)); have HO5 := Lib.hid (ints_form hown5); clear hown5 hgr5 hat5)
    | (go_at_call 9; refine (HOf.out _ _ _ HO5.out).mono ?_; rintro e w6 ⟨rfl, hb6⟩; have B6 := Lib.hid (B5.out.trans (hb6.mono B5.out.size)); have q6 := rowBelow B6.out hlt1 q0; have Bw7 := Lib.hid (below_new (below_call hb1 B6.out) (.cells (bv P) 25)); have HG7 := Lib.hid ((HG1.out.since B6.out).new (.cells (bv P) 25)); have q7 := row_alloc q6 (.cells (bv P) 25); have t7 := row1 w6 (bv P) 25)
    | (apply wpList_rowstore (vs := bv P) isz25; exact rfl; exact rfl; exact rfl; exact rfl; (with_reducible exact row1 _ _ _); exact (by simp [go_sem, *]); exact (by simp [go_sem, *]); exact (by simp [go_sem, *]); try simp only [Act.put, List.setIfInBounds_toArray, List.set_cons_zero, List.set_cons_succ]; try simp (disch := simp [go_sem]) only [setRow_alloc_at, setRow_alloc_past, setRow_drew])
    | (apply wpList_rowload Tryd.underlying25 rfl isz25; exact rfl; exact rfl; exact rfl; (with_reducible exact t7); exact (by simp [go_sem, *]); simp only [Act.put, List.setIfInBounds_toArray, List.set_cons_zero, List.set_cons_succ])
    | (go_at_call 11; refine (HT.out _ HG7.out).mono ?_; rintro e w8 ⟨rfl, hb8⟩; have q8 := row_call hb8 q7; have t8 := row_call hb8 t7; have Bw8 := Lib.hid (below_call Bw7.out hb8))
    | (apply wpList_rowload Tryd.underlying25 rfl isz25; exact rfl; exact rfl; exact rfl; (with_reducible exact t8); exact (by simp [go_sem, *]); simp only [Act.put, List.setIfInBounds_toArray, List.set_cons_zero, List.set_cons_succ])
    | (apply wpList_rowstore (vs := bv P) isz25; exact rfl; exact rfl; exact rfl; exact rfl; (with_reducible exact q8); exact (by simp [go_sem, *]); exact (by simp [go_sem, *]); exact (by simp [go_sem, *]); try simp only [Act.put, List.setIfInBounds_toArray, List.set_cons_zero, List.set_cons_succ]))
  refine bodyPost_ret (results_row_tmp rfl Tryd.underlying25 rfl isz25 _ _ (w.heap.size) (bv P) rfl (rowAt_setRow_same q8 _) (by simp [go_sem, *])) rfl ?_
  exact ⟨rfl, below_set Bw8.out (Nat.le_refl _) _⟩

end Go.Proofs.YtodeiapaehlmfaaDoor
