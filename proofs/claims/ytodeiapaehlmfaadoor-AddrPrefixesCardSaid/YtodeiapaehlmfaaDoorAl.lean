import Derived.Test.YtodeiapaehlmfaaDoorAk
namespace Go.Proofs.YtodeiapaehlmfaaDoor
open Go Go.RowKit
attribute [local go_sem] rowAt_alloc_at rowAt_alloc_past rowAt_drew rowAt_drewN bv_size iv_size bv_one iv_one bv_set iv_set bv_get iv_get bv_elem iv_elem zlit16 zlit8 z16_length z8_length
attribute [local irreducible] wpQuiet
set_option linter.unusedSimpArgs false

theorem ofS_two (g : List Int) : (ofS g).2 = 0 ∨ (ofS g).2 = 1 := by
  unfold ofS; split
  · exact Or.inl rfl
  · exact Or.inr rfl
theorem parse_any (t : ByteArray) (hlim : t.size ≤ 65536) (w : World) (hg : Glob w) : Calls Tryd.prog 10 #[.string t] w fun e w' => e = .returned (.tuple #[.agg (bv (parseS t).1), .int .i64 (parseS t).2]) ∧ Below w.heap.size w w' := by
  rcases hP : parseG t with _ | g
  · exact parse_no t hlim hP w hg
  · have hP' := hP
    unfold parseG at hP
    rcases hF : parseF t with _ | l
    · rw [hF] at hP; cases hP
    rcases hB : parseB t with _ | m
    · rw [hF, hB] at hP; cases hP
    rw [hF, hB] at hP
    simp only at hP
    by_cases h8 : l.length + m.length > 8
    · rw [if_pos h8] at hP; cases hP
    rw [if_neg h8] at hP
    have hp1 := ofS_length g
    have hp2 := byt_ofS g
    rcases hI : parseI t with _ | _
    · rw [hI] at hP
      simp at hP
      subst hP
      rcases ofS_two (l ++ m) with h0 | h1
      · have hOf : ofS (l ++ m) = ((ofS (l ++ m)).1, 0) := Prod.ext rfl h0
        by_cases ht : bytesOf (textS (ofS (l ++ m)).1) = t
        · rw [parseS_ok hP' ⟨h0, ht⟩]
          exact parse_f_ok t hlim l m hF hB hI (by omega) _ hp1 hp2 hOf ht w hg
        · rw [parseS_bad hP' (fun h => ht h.2)]
          exact parse_f_ne t hlim l m hF hB hI (by omega) _ hp1 hp2 hOf ht w hg
      · have hOf : ofS (l ++ m) = ((ofS (l ++ m)).1, 1) := Prod.ext rfl h1
        rw [parseS_bad hP' (fun h => by rw [h1] at h; exact absurd h.1 (by decide))]
        exact parse_f_bad t hlim l m hF hB hI (by omega) _ hp1 hp2 hOf w hg
    · rw [hI] at hP
      simp only [if_true, Option.some.injEq] at hP
      subst hP
      rcases ofS_two (l ++ List.replicate (8 - l.length - m.length) 0 ++ m) with h0 | h1
      · have hOf : ofS (l ++ List.replicate (8 - l.length - m.length) 0 ++ m) = ((ofS (l ++ List.replicate (8 - l.length - m.length) 0 ++ m)).1, 0) := Prod.ext rfl h0
        by_cases ht : bytesOf (textS (ofS (l ++ List.replicate (8 - l.length - m.length) 0 ++ m)).1) = t
        · rw [parseS_ok hP' ⟨h0, ht⟩]
          exact parse_t_ok t hlim l m hF hB hI (by omega) _ hp1 hp2 hOf ht w hg
        · rw [parseS_bad hP' (fun h => ht h.2)]
          exact parse_t_ne t hlim l m hF hB hI (by omega) _ hp1 hp2 hOf ht w hg
      · have hOf : ofS (l ++ List.replicate (8 - l.length - m.length) 0 ++ m) = ((ofS (l ++ List.replicate (8 - l.length - m.length) 0 ++ m)).1, 1) := Prod.ext rfl h1
        rw [parseS_bad hP' (fun h => by rw [h1] at h; exact absurd h.1 (by decide))]
        exact parse_t_bad t hlim l m hF hB hI (by omega) _ hp1 hp2 hOf w hg

/-! ### known -/
def fe80 : List Int := [254, 128, 0, 0, 0, 0, 0, 0, 0, 0, 0, 0, 0, 1, 0, 3]
theorem known_parse : parseS ⟨#[102, 101, 56, 48, 58, 58, 49, 58, 51]⟩ = (fe80, 0) := by decide +kernel
theorem known_node : nodeS fe80 = (2, 0) := by decide +kernel
def g123 : List Int := [1, 0, 0, 2, 0, 0, 0, 3]
def a123 : List Int := [0, 1, 0, 0, 0, 0, 0, 2, 0, 0, 0, 0, 0, 0, 0, 3]
theorem known_of : ofS g123 = (a123, 0) := by decide +kernel
theorem known_text : textS a123 = [49, 58, 48, 58, 48, 58, 50, 58, 58, 51] := by decide +kernel
theorem known_zero : textS z16 = [58, 58] := by decide +kernel
theorem known_all : textS allL = [102, 102, 48, 50, 58, 58, 49, 97] := by decide +kernel


theorem byt_fe80 : byt fe80 := byt_of (by decide)
theorem byt_a123 : byt a123 := byt_of (by decide)
theorem g123_of : ((((((((z8.set 0 1).set 1 0).set 2 0).set 3 2).set 4 0).set 5 0).set 6 0).set 7 3) = g123 := rfl
attribute [local go_sem] g123_of
theorem allL_len : allL.length = 16 := ofS_length _
theorem byt_allL : byt allL := byt_ofS _
attribute [local irreducible] fe80 a123 g123 allL

set_option maxHeartbeats 1000000 in
set_option maxRecDepth 100000 in
theorem known_any (w : World) (hg : Glob w) : Calls Tryd.prog 14 #[] w fun e w' => e = .returned (.bool true) ∧ Below w.heap.size w w' := by
  have HP : Hid (∀ w, Glob w → Calls Tryd.prog 10 #[.string ⟨#[102, 101, 56, 48, 58, 58, 49, 58, 51]⟩] w fun e w' => e = .returned (.tuple #[.agg (bv fe80), .int .i64 0]) ∧ Below w.heap.size w w') := Lib.hid fun w hg => by
    have := parse_any ⟨#[102, 101, 56, 48, 58, 58, 49, 58, 51]⟩ (by decide) w hg
    rwa [known_parse] at this
  have HN : Hid (∀ w, Calls Tryd.prog 21 #[.agg (bv fe80)] w fun e w' => e = .returned (.tuple #[.int .i64 2, .int .i64 0]) ∧ Below w.heap.size w w') := Lib.hid fun w => by
    have := Node_any fe80 (by decide +kernel) byt_fe80 w
    rwa [known_node] at this
  have HO : Hid (∀ (w : World) (t : TypeId) (n : Nat) (hn : n = w.heap.size), Calls Tryd.prog 9 #[.slice (some ⟨n, 0, none⟩) 8 8] (w.alloc (.cells (iv g123) t)) fun e w' => e = .returned (.tuple #[.agg (bv a123), .int .i64 0]) ∧ Below (w.alloc (.cells (iv g123) t)).heap.size (w.alloc (.cells (iv g123) t)) w') := Lib.hid fun w t n hn => by
    have := of_iv' g123 (by decide +kernel) w t n hn
    rwa [known_of] at this
  have HT1 : Hid (∀ w, Glob w → Calls Tryd.prog 11 #[.agg (bv a123)] w fun e w' => e = .returned (.string ⟨#[49, 58, 48, 58, 48, 58, 50, 58, 58, 51]⟩) ∧ Below w.heap.size w w') := Lib.hid fun w hg => by
    have := text_any a123 (by decide +kernel) byt_a123 w hg
    rwa [known_text] at this
  have HT2 : Hid (∀ w, Glob w → Calls Tryd.prog 11 #[.agg (bv z16)] w fun e w' => e = .returned (.string ⟨#[58, 58]⟩) ∧ Below w.heap.size w w') := Lib.hid fun w hg => by
    have := text_any z16 rfl byt_z16 w hg
    rwa [known_zero] at this
  have HT3 : Hid (∀ w, Glob w → Calls Tryd.prog 11 #[.agg (bv allL)] w fun e w' => e = .returned (.string ⟨#[102, 102, 48, 50, 58, 58, 49, 97]⟩) ∧ Below w.heap.size w w') := Lib.hid fun w hg => by
    have := text_any allL allL_len byt_allL w hg
    rwa [known_all] at this
  have lf : fe80.length = 16 := by decide +kernel
  have la : a123.length = 16 := by decide +kernel
  have HG := Lib.hid hg
  clear hg
  go_enter Tryd.func14, Tryd.ntmps14
  go_wp2_with (first
    | (go_at_call 10; refine (HP.out _ HG.out).mono ?_; rintro e w1 ⟨rfl, hb1⟩)
    | (apply wpList_rowstore (vs := bv fe80) isz25; exact rfl; exact rfl; exact rfl; exact rfl; (with_reducible exact row1 _ _ _); exact (by simp [go_sem, *]); exact (by simp [go_sem, *]); exact (by simp [go_sem, *]); try simp only [Act.put, List.setIfInBounds_toArray, List.set_cons_zero, List.set_cons_succ]; try simp (disch := simp [go_sem]) only [setRow_alloc_at, setRow_alloc_past, setRow_drew])
    | (apply wpList_rowload Tryd.underlying25 rfl isz25; exact rfl; exact rfl; exact rfl; (with_reducible exact row1 _ _ _); exact (by simp [go_sem, *]); simp only [Act.put, List.setIfInBounds_toArray, List.set_cons_zero, List.set_cons_succ])
    | (go_at_call 21; refine (HN.out _).mono ?_; rintro e w2 ⟨rfl, hb2⟩; have B2 := Lib.hid (below_call (below_new hb1 (.cells (bv fe80) 25)) hb2))
    | (go_at_call 9; refine (HO.out _ _ _ (by simp)).mono ?_; rintro e w3 ⟨rfl, hb3⟩; have B3 := Lib.hid (below_call (below_new B2.out (.cells (iv g123) 3)) hb3); have B4 := Lib.hid (below_new B3.out (.cells (bv a123) 25)); have t4 := row1 w3 (bv a123) 25)
    | (apply wpList_rowstore (vs := bv a123) isz25; exact rfl; exact rfl; exact rfl; exact rfl; (with_reducible exact row1 _ _ _); exact (by simp [go_sem, *]); exact (by simp [go_sem, *]); exact (by simp [go_sem, *]); try simp only [Act.put, List.setIfInBounds_toArray, List.set_cons_zero, List.set_cons_succ]; try simp (disch := simp [go_sem]) only [setRow_alloc_at, setRow_alloc_past, setRow_drew])
    | (apply wpList_rowload Tryd.underlying25 rfl isz25; exact rfl; exact rfl; exact rfl; (with_reducible exact t4); exact (by simp [go_sem, *]); simp only [Act.put, List.setIfInBounds_toArray, List.set_cons_zero, List.set_cons_succ])
    | (go_at_call 11; with_reducible refine (HT1.out _ (HG.out.since B4.out)).mono ?_; rintro e w5 ⟨rfl, hb5⟩; have B5 := Lib.hid (below_call B4.out hb5))
    | (go_at_call 11; with_reducible refine (HT2.out _ (HG.out.since B5.out)).mono ?_; rintro e w6 ⟨rfl, hb6⟩; have B6 := Lib.hid (below_call B5.out hb6))
    | (go_at_call 34; refine (all_any _).mono ?_; rintro e w7 ⟨rfl, hb7⟩; have B7 := Lib.hid (below_call B6.out hb7))
    | (go_at_call 11; with_reducible refine (HT3.out _ (HG.out.since B7.out)).mono ?_; rintro e w8 ⟨rfl, hb8⟩; have B8 := Lib.hid (below_call B7.out hb8)))
  go_ret
  exact ⟨rfl, B8.out⟩

end Go.Proofs.YtodeiapaehlmfaaDoor
