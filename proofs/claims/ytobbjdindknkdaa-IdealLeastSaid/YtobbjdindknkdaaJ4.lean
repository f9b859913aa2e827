/- Policies, and the check of one. -/
import Derived.Test.YtobbjdindknkdaaJ3
namespace Go.Proofs.Ytobbjdindknkdaa
open Go Go.RowKit
attribute [local irreducible] wpQuiet wpPure wpHold wpKeep wpQuietS
set_option linter.unusedSimpArgs false
set_option linter.unusedVariables false

/-! ### policies -/
structure Pol where
  c : Int
  l : Int
  i : Int
  f : Int
  s : Int
  ma : Int
  mb : Int
  mc : Int
  md : Int
def Pol.cells (p : Pol) : Array Value := #[.int .i64 p.c, .int .i64 p.l, .int .i64 p.i, .int .i64 p.f, .int .i64 p.s, .int .i64 p.ma, .int .i64 p.mb, .int .i64 p.mc, .int .i64 p.md]
def funS (p : Pol) : Int := if p.c = 0 then errOf (goodZ p.f p.s) else if p.c = 1 then errOf (goodH p.ma p.mb p.mc p.md) else 6
def polE (p : Pol) : Int := if funS p = 0 ∧ (leastB p.l && validI p.i) = false then 1 else funS p
def checkS (p : Pol) : Int := if polE p ≠ 0 then polE p else if p.c ≠ 0 then 6 else 0
theorem funS_z {p : Pol} (h : p.c = 0) : funS p = errOf (goodZ p.f p.s) := if_pos h
theorem funS_h {p : Pol} (h : p.c = 1) : funS p = errOf (goodH p.ma p.mb p.mc p.md) := by unfold funS; rw [if_neg (by omega), if_pos h]
theorem funS_no {p : Pol} (h : ¬ p.c = 0) (h2 : ¬ p.c = 1) : funS p = 6 := by unfold funS; rw [if_neg h, if_neg h2]
theorem funS_range (p : Pol) : 0 ≤ funS p ∧ funS p ≤ 6 := by
  unfold funS errOf
  repeat' split
  all_goals omega

set_option maxHeartbeats 400000 in
theorem fun_any (p : Pol) (w : World) : Calls Try.prog 46 #[.agg p.cells] w fun e w' => e = .returned (.int .i64 (funS p)) ∧ Below w.heap.size w w' := by
  by_cases h0 : p.c = 0
  · have HE := Lib.hid (funS_z h0)
    have HZ := Lib.hid fun w => zcheck_any p.f p.s w
    obtain ⟨c, l, i, f, s, ma, mb, mc, md⟩ := p
    simp only [Pol.cells] at *
    subst h0
    generalize errOf (goodZ f s) = E at *
    go_enter Try.func46, Try.ntmps46
    go_wp2_with (go_at_call 53; refine (HZ.out _).mono ?_; rintro e w1 ⟨rfl, hb1⟩)
    go_ret
    exact ⟨by rw [HE.out]; rfl, below_call (below1 _ _) hb1⟩
  · by_cases h1 : p.c = 1
    · have HE := Lib.hid (funS_h h1)
      have HZ := Lib.hid fun w => hcheck_any p.ma p.mb p.mc p.md w
      obtain ⟨c, l, i, f, s, ma, mb, mc, md⟩ := p
      simp only [Pol.cells] at *
      subst h1
      clear h0
      generalize errOf (goodH ma mb mc md) = E at *
      go_enter Try.func46, Try.ntmps46
      go_wp2_with (go_at_call 54; refine (HZ.out _).mono ?_; rintro e w1 ⟨rfl, hb1⟩)
      go_ret
      exact ⟨by rw [HE.out]; rfl, below_call (below1 _ _) hb1⟩
    · have HE := Lib.hid (funS_no h0 h1)
      obtain ⟨c, l, i, f, s, ma, mb, mc, md⟩ := p
      simp only [Pol.cells] at *
      go_enter Try.func46, Try.ntmps46
      go_wp2
      go_ret
      exact ⟨by rw [HE.out]; rfl, below1 _ _⟩

set_option maxHeartbeats 800000 in
theorem pcheck_any (p : Pol) (w : World) : Calls Try.prog 39 #[.agg p.cells] w fun e w' => e = .returned (.int .i64 (polE p)) ∧ Below w.heap.size w w' := by
  have r0 := row1 w p.cells 40
  have HF := Lib.hid fun w => fun_any p w
  have HP : Hid (polE p = if funS p = 0 ∧ (leastB p.l && validI p.i) = false then 1 else funS p) := Lib.hid rfl
  have HV := Lib.hid fun w t n hn => valid_two p.l p.i t w n hn
  generalize funS p = E at *
  generalize polE p = R at *
  have hsz : p.cells.size = 9 := rfl
  obtain ⟨c, l, i, f, s, ma, mb, mc, md⟩ := p
  by_cases hE : E = 0
  · subst hE
    by_cases hl : l < 1
    · have HP2 : Hid (R = 1) := Lib.hid (HP.out.trans (if_pos ⟨rfl, by simp [leastB]; omega⟩))
      clear HP
      simp only [Pol.cells] at *
      go_enter Try.func39, Try.ntmps39
      go_wp2_with (go_at_call 46; refine (HF.out _).mono ?_; rintro e w1 ⟨rfl, hb1⟩; have q1 := row_call hb1 r0; have p1 := (cell_row q1 1).trans rfl; simp only [List.getElem?_toArray, List.getElem?_cons_zero, List.getElem?_cons_succ] at p1)
      go_ret
      exact ⟨by rw [HP2.out]; rfl, below_call (below1 _ _) hb1⟩
    · have hle : leastB l = validI l := by unfold validI leastB; rw [Bool.eq_iff_iff]; simp; omega
      cases hv : (validI l && validI i) with
      | false =>
        have HP2 : Hid (R = 1) := Lib.hid (HP.out.trans (if_pos ⟨rfl, by simp only [hle, hv]⟩))
        have HV2 : Hid (∀ (w : World) (t : TypeId) (n : Nat), n = w.heap.size → Calls Try.prog 47 #[.slice (some ⟨n, 0, none⟩) 2 2] (w.alloc (.cells #[.int .i64 l, .int .i64 i] t)) fun e w' => e = .returned (.bool false) ∧ w.alloc (.cells #[.int .i64 l, .int .i64 i] t) = w') := Lib.hid fun w t n hn => by have := HV.out w t n hn; simp only [hv] at this; exact this
        clear HP HV hv hle
        simp only [Pol.cells] at *
        go_enter Try.func39, Try.ntmps39
        go_wp2_with (first
          | (go_at_call 46; refine (HF.out _).mono ?_; rintro e w1 ⟨rfl, hb1⟩; have q1 := row_call hb1 r0; have p1 := (cell_row q1 1).trans rfl; have p2 := (cell_row q1 2).trans rfl; simp only [List.getElem?_toArray, List.getElem?_cons_zero, List.getElem?_cons_succ] at p1 p2)
          | (go_at_call 47; refine (HV2.out _ _ _ (by simp)).mono ?_; rintro e w3 ⟨rfl, rfl⟩))
        go_ret
        exact ⟨by rw [HP2.out]; rfl, below_new (below_call (below1 _ _) hb1) _⟩
      | true =>
        have HP2 : Hid (R = 0) := Lib.hid (HP.out.trans (if_neg (fun h => by have := h.2; simp only [hle, hv] at this; exact absurd this (by simp))))
        have HV2 : Hid (∀ (w : World) (t : TypeId) (n : Nat), n = w.heap.size → Calls Try.prog 47 #[.slice (some ⟨n, 0, none⟩) 2 2] (w.alloc (.cells #[.int .i64 l, .int .i64 i] t)) fun e w' => e = .returned (.bool true) ∧ w.alloc (.cells #[.int .i64 l, .int .i64 i] t) = w') := Lib.hid fun w t n hn => by have := HV.out w t n hn; simp only [hv] at this; exact this
        clear HP HV hv hle
        simp only [Pol.cells] at *
        go_enter Try.func39, Try.ntmps39
        go_wp2_with (first
          | (go_at_call 46; refine (HF.out _).mono ?_; rintro e w1 ⟨rfl, hb1⟩; have q1 := row_call hb1 r0; have p1 := (cell_row q1 1).trans rfl; have p2 := (cell_row q1 2).trans rfl; simp only [List.getElem?_toArray, List.getElem?_cons_zero, List.getElem?_cons_succ] at p1 p2)
          | (go_at_call 47; refine (HV2.out _ _ _ (by simp)).mono ?_; rintro e w3 ⟨rfl, rfl⟩))
        go_ret
        exact ⟨by rw [HP2.out]; rfl, below_new (below_call (below1 _ _) hb1) _⟩
  · have HP2 : Hid (R = E) := Lib.hid (HP.out.trans (if_neg (fun h => hE h.1)))
    clear HP
    simp only [Pol.cells] at *
    go_enter Try.func39, Try.ntmps39
    go_wp2_with (go_at_call 46; refine (HF.out _).mono ?_; rintro e w1 ⟨rfl, hb1⟩)
    go_ret
    exact ⟨by rw [HP2.out]; rfl, below_call (below1 _ _) hb1⟩

end Go.Proofs.Ytobbjdindknkdaa
