import Derived.Test.YtodeiapaehlmfaaDoorBa
import Derived.Test.YtodeiapaehlmfaaDoorK5
import Derived.Test.YtodeiapaehlmfaaDoorAs
namespace Go.Proofs.YtodeiapaehlmfaaDoor
open Go Go.RowKit
attribute [local go_sem] rowAt_alloc_at rowAt_alloc_past rowAt_drew rowAt_drewN bv_size iv_size bv_one iv_one bv_set iv_set bv_get iv_get bv_elem iv_elem zlit16 zlit8 z16_length z8_length eq25 eq22 eq23 pv_size pv_one cutS_length zplit
attribute [local irreducible] wpQuiet wpPure wpHold wpKeep wpQuietS
set_option linter.unusedSimpArgs false
set_option linter.unusedVariables false

/-! ### addr.Longest -/
def longStep (a : List Int) (s : Int × Int) (i : Nat) (p : List Int × Int) : Int × Int := if hasB p.1 p.2 a = true ∧ s.1 < p.2 then (p.2, i) else s
def longTo (a : List Int) (L : List (List Int × Int)) : Nat → Int × Int
  | 0 => (-1, 0)
  | k + 1 => longStep a (longTo a L k) k (L.getD k ([], 0))
theorem longTo_succ {a : List Int} {L : List (List Int × Int)} {k : Nat} {p : List Int × Int} (h : L[k]? = some p) : longTo a L (k + 1) = longStep a (longTo a L k) k p := by
  rw [longTo]; simp [List.getD, h]
theorem long_yes {a : List Int} {s : Int × Int} {i : Nat} {p : List Int × Int} (h : hasB p.1 p.2 a = true) (h2 : s.1 < p.2) : longStep a s i p = (p.2, (i : Int)) := if_pos ⟨h, h2⟩
theorem long_no {a : List Int} {s : Int × Int} {i : Nat} {p : List Int × Int} (h : ¬ (hasB p.1 p.2 a = true ∧ s.1 < p.2)) : longStep a s i p = s := if_neg h
theorem hasB_range {l a : List Int} {n : Int} (h : hasB l n a = true) : 0 ≤ n ∧ n ≤ 128 := by
  unfold hasB rightB at h
  simp only [Bool.and_eq_true, decide_eq_true_eq] at h
  exact h.1.1
theorem longTo_range {a : List Int} (L : List (List Int × Int)) : ∀ k, (-1 ≤ (longTo a L k).1 ∧ (longTo a L k).1 ≤ 128) ∧ 0 ≤ (longTo a L k).2 ∧ (longTo a L k).2 ≤ k
  | 0 => by show (-1 ≤ (-1 : Int) ∧ (-1 : Int) ≤ 128) ∧ 0 ≤ (0 : Int) ∧ (0 : Int) ≤ ((0 : Nat) : Int); omega
  | k + 1 => by
    have ih := longTo_range (a := a) L k
    rw [longTo, longStep]
    split
    · rename_i h
      have := hasB_range h.1
      simp only
      omega
    · omega
/-- what Longest gives -/
def longS (a : List Int) (L : List (List Int × Int)) : Int × Int := if (longTo a L L.length).1 < 0 then (0, 8) else ((longTo a L L.length).2, 0)

theorem has_no {l a : List Int} (hl : l.length = 16) (ha : a.length = 16) {n : Int} (h : hasB l n a = false) (w : World) : Calls Tryd.prog 18 #[.agg (pv l n), .agg (bv a)] w fun e w' => e = .returned (.bool false) ∧ Below w.heap.size w w' := by
  have := has_any l hl n a ha w
  rwa [h] at this
theorem has_yes' {l a : List Int} (hl : l.length = 16) (ha : a.length = 16) {n : Int} (h : hasB l n a = true) (w : World) : Calls Tryd.prog 18 #[.agg (pv l n), .agg (bv a)] w fun e w' => e = .returned (.bool true) ∧ Below w.heap.size w w' := by
  have := has_any l hl n a ha w
  rwa [h] at this

/-- the cells of element k -/
theorem range_at {w : World} {b o n : Nat} {L : List (List Int × Int)} (hg : good16 L) {B : Nat} (hr : Reads w B 17 (some ⟨b, o, none⟩) n (pcells L)) {k : Nat} {p : List Int × Int} (hk : L[k]? = some p) (hkn : k < n) : b < B ∧ rangeOf w b (o + k * 17) (pv p.1 p.2) := by
  obtain ⟨ad, had, hab, hcells⟩ := hr.2 (by omega)
  obtain rfl : ad = ⟨b, o, none⟩ := (Option.some.inj had).symm
  refine ⟨hab, fun j v hv => ?_⟩
  have h1 := hcells _ _ (pcells_at hg hk j v hv)
  rw [Lib.add_plain] at h1
  rwa [show o + (k * 17 + j) = o + k * 17 + j by omega] at h1

set_option maxHeartbeats 2000000 in
set_option maxRecDepth 100000 in
theorem longest_some (a : List Int) (ha : a.length = 16) (b o n cap : Nat) (L : List (List Int × Int)) (hL : L.length = n) (hg : good16 L) (w : World) (hr : Reads w w.heap.size 17 (some ⟨b, o, none⟩) n (pcells L)) (hn : n ≤ 1000) :
    Calls Tryd.prog 28 #[.agg (bv a), .slice (some ⟨b, o, none⟩) n cap] w fun e w' => e = .returned (.tuple #[.int .i64 (longS a L).1, .int .i64 (longS a L).2]) ∧ Below w.heap.size w w' := by
  have HR := Lib.hid hr; clear hr
  have HG := Lib.hid hg; clear hg
  have hB0 := below1 w (.cells (bv a) 25)
  have hr0 := row1 w (bv a) 25
  have HB0 := Lib.hid hB0
  go_enter Tryd.func28, Tryd.ntmps28
  go_wp2
  go_loopw [6, 7, 12] (fun x y t wr => ∃ (k : Nat), k ≤ n ∧ t = .int .i64 k ∧ x = .int .i64 (longTo a L k).1 ∧ y = .int .i64 (longTo a L k).2 ∧ Hid (Below w.heap.size w wr) ∧ rowAt wr w.heap.size = some (bv a)) (fun _ _ t _ => n - (intOf t).toNat)
  case atStart => exact ⟨0, by omega, rfl, rfl, rfl, HB0, hr0⟩
  case round =>
    obtain ⟨k, hk, rfl, rfl, rfl, HB, r0⟩ := hrel
    clear hr0 hB0
    have hrange := longTo_range (a := a) L k
    by_cases hlt : k < n
    · obtain ⟨p, hp⟩ : ∃ p, L[k]? = some p := ⟨L[k], List.getElem?_eq_getElem (by omega)⟩
      have hp16 := (HG.out p (List.mem_of_getElem? hp)).1
      obtain ⟨hbw, hrg⟩ := range_at HG.out HR.out hp hlt
      have HRg := Lib.hid (rangeOf_since hrg hbw HB.out)
      have HS := Lib.hid (longTo_succ (a := a) hp)
      obtain ⟨P, m⟩ := p
      simp only at hp16 HRg HS
      have k0 : (0 : Int) ≤ k := by omega
      have k1 : (k : Int) < n := by omega
      clear hp hrg
      generalize (longTo a L k) = s at *
      obtain ⟨s1, s2⟩ := s
      simp only at hrange ⊢
      obtain ⟨h1, h2⟩ := hrange
      cases hh : hasB P m a with
      | false =>
        have HH := Lib.hid fun w => has_no hp16 ha hh w
        have HE := Lib.hid (HS.out.trans (long_no (fun h => by rw [hh] at h; exact absurd h.1 (by simp))))
        clear hh HS
        go_wp2_with (first
          | (refine wpList_range (cs := pv P m) Tryd.underlying40 rfl isz40 (by rfl) rfl rfl HRg.out (by simp [go_sem, *]) ?_; simp only [Act.put, List.setIfInBounds_toArray, List.set_cons_zero, List.set_cons_succ])
          | (apply wpList_rowstore (vs := pv P m) isz40; exact rfl; exact rfl; exact rfl; exact rfl; (with_reducible exact row1 wr _ _); exact (by simp [go_sem, *]); exact (by simp [go_sem, *]); exact (by simp [go_sem, *]); try simp only [Act.put, List.setIfInBounds_toArray, List.set_cons_zero, List.set_cons_succ]; try simp (disch := simp [go_sem]) only [setRow_alloc_at, setRow_alloc_past, setRow_drew])
          | (apply wpList_rowload Tryd.underlying40 rfl isz40; exact rfl; exact rfl; exact rfl; (with_reducible exact row1 wr _ _); exact (by simp [go_sem, *]); simp only [Act.put, List.setIfInBounds_toArray, List.set_cons_zero, List.set_cons_succ])
          | (apply wpList_rowload Tryd.underlying25 rfl isz25; exact rfl; exact rfl; exact rfl; (with_reducible exact row_alloc r0 _); exact (by simp [go_sem, *]); simp only [Act.put, List.setIfInBounds_toArray, List.set_cons_zero, List.set_cons_succ])
          | (go_at_call 18; refine (HH.out _).mono ?_; rintro e w1 ⟨rfl, hb1⟩))
        refine ⟨⟨k + 1, by omega, by go_num, by rw [HE.out], by rw [HE.out], Lib.hid (below_call (below_new HB.out (.cells (pv P m) 40)) hb1), row_call hb1 (row_alloc r0 _)⟩, by simp [intOf]; omega⟩
      | true =>
        have HH := Lib.hid fun w => has_yes' hp16 ha hh w
        have hm := hasB_range hh
        by_cases hgt : s1 < m
        · have HE := Lib.hid (HS.out.trans (long_yes hh hgt))
          clear hh HS
          go_wp2_with (first
            | (refine wpList_range (cs := pv P m) Tryd.underlying40 rfl isz40 (by rfl) rfl rfl HRg.out (by simp [go_sem, *]) ?_; simp only [Act.put, List.setIfInBounds_toArray, List.set_cons_zero, List.set_cons_succ])
            | (apply wpList_rowstore (vs := pv P m) isz40; exact rfl; exact rfl; exact rfl; exact rfl; (with_reducible exact row1 wr _ _); exact (by simp [go_sem, *]); exact (by simp [go_sem, *]); exact (by simp [go_sem, *]); try simp only [Act.put, List.setIfInBounds_toArray, List.set_cons_zero, List.set_cons_succ]; try simp (disch := simp [go_sem]) only [setRow_alloc_at, setRow_alloc_past, setRow_drew])
            | (apply wpList_rowload Tryd.underlying40 rfl isz40; exact rfl; exact rfl; exact rfl; (with_reducible exact row1 wr _ _); exact (by simp [go_sem, *]); simp only [Act.put, List.setIfInBounds_toArray, List.set_cons_zero, List.set_cons_succ])
            | (apply wpList_rowload Tryd.underlying25 rfl isz25; exact rfl; exact rfl; exact rfl; (with_reducible exact row_alloc r0 _); exact (by simp [go_sem, *]); simp only [Act.put, List.setIfInBounds_toArray, List.set_cons_zero, List.set_cons_succ])
            | (go_at_call 18; refine (HH.out _).mono ?_; rintro e w1 ⟨rfl, hb1⟩; have q0 := row_call hb1 (row_alloc r0 (.cells (pv P m) 40)); have q1 := row_call hb1 (row1 wr (pv P m) 40); have c16 := (cell_row q1 16).trans (pv_bits P m hp16); have HB1 := Lib.hid (below_call (below_new HB.out (.cells (pv P m) 40)) hb1)))
          refine ⟨⟨k + 1, by omega, by go_num, by rw [HE.out], by rw [HE.out], HB1, q0⟩, by simp [intOf]; omega⟩
        · have HE := Lib.hid (HS.out.trans (long_no (fun h => hgt h.2)))
          clear hh HS
          go_wp2_with (first
            | (refine wpList_range (cs := pv P m) Tryd.underlying40 rfl isz40 (by rfl) rfl rfl HRg.out (by simp [go_sem, *]) ?_; simp only [Act.put, List.setIfInBounds_toArray, List.set_cons_zero, List.set_cons_succ])
            | (apply wpList_rowstore (vs := pv P m) isz40; exact rfl; exact rfl; exact rfl; exact rfl; (with_reducible exact row1 wr _ _); exact (by simp [go_sem, *]); exact (by simp [go_sem, *]); exact (by simp [go_sem, *]); try simp only [Act.put, List.setIfInBounds_toArray, List.set_cons_zero, List.set_cons_succ]; try simp (disch := simp [go_sem]) only [setRow_alloc_at, setRow_alloc_past, setRow_drew])
            | (apply wpList_rowload Tryd.underlying40 rfl isz40; exact rfl; exact rfl; exact rfl; (with_reducible exact row1 wr _ _); exact (by simp [go_sem, *]); simp only [Act.put, List.setIfInBounds_toArray, List.set_cons_zero, List.set_cons_succ])
            | (apply wpList_rowload Tryd.underlying25 rfl isz25; exact rfl; exact rfl; exact rfl; (with_reducible exact row_alloc r0 _); exact (by simp [go_sem, *]); simp only [Act.put, List.setIfInBounds_toArray, List.set_cons_zero, List.set_cons_succ])
            | (go_at_call 18; refine (HH.out _).mono ?_; rintro e w1 ⟨rfl, hb1⟩; have q0 := row_call hb1 (row_alloc r0 (.cells (pv P m) 40)); have q1 := row_call hb1 (row1 wr (pv P m) 40); have c16 := (cell_row q1 16).trans (pv_bits P m hp16); have HB1 := Lib.hid (below_call (below_new HB.out (.cells (pv P m) 40)) hb1)))
          refine ⟨⟨k + 1, by omega, by go_num, by rw [HE.out], by rw [HE.out], HB1, q0⟩, by simp [intOf]; omega⟩
    · have hkn : k = L.length := by omega
      have HE : Hid (longS a L = if (longTo a L k).1 < 0 then (0, 8) else ((longTo a L k).2, 0)) := Lib.hid (by rw [hkn]; rfl)
      generalize (longTo a L k) = s at *
      obtain ⟨s1, s2⟩ := s
      simp only at hrange HE ⊢
      by_cases hneg : s1 < 0
      · have HE2 := Lib.hid (HE.out.trans (if_pos hneg))
        clear HE
        go_wp2
        go_ret2
        exact ⟨by rw [HE2.out]; rfl, HB.out⟩
      · have HE2 := Lib.hid (HE.out.trans (if_neg hneg))
        clear HE
        go_wp2
        go_ret2
        exact ⟨by rw [HE2.out]; rfl, HB.out⟩
theorem longest_none (a : List Int) (A : Option Addr) (cap : Nat) (w : World) :
    Calls Tryd.prog 28 #[.agg (bv a), .slice A 0 cap] w fun e w' => e = .returned (.tuple #[.int .i64 0, .int .i64 8]) ∧ Below w.heap.size w w' := by
  have HB0 := Lib.hid (below1 w (.cells (bv a) 25))
  go_enter Tryd.func28, Tryd.ntmps28
  go_wp2
  go_loop [6, 7, 12] (fun x y t => t = .int .i64 0 ∧ x = .int .i64 (-1) ∧ y = .int .i64 0) (fun _ _ _ => 0)
  case atStart => exact ⟨rfl, rfl, rfl⟩
  case round =>
    obtain ⟨rfl, rfl, rfl⟩ := hrel
    go_wp2
    go_ret2
    exact ⟨rfl, HB0.out⟩
end Go.Proofs.YtodeiapaehlmfaaDoor
