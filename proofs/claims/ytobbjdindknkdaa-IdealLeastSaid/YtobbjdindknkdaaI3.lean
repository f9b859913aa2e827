/- The best of a job's places below; a job sinks. -/
import Derived.Test.YtobbjdindknkdaaI2

namespace Go.Proofs.Ytobbjdindknkdaa
open Go Go.RowKit
attribute [local irreducible] wpQuiet
set_option linter.unusedSimpArgs false
set_option linter.unusedVariables false

/-! ### sink -/
def bestK (js : List Job) (i : Nat) : Nat → Nat
  | 0 => i
  | j + 1 => if 2 * i + 1 + j < js.length ∧ lessAt js (2 * i + 1 + j) (bestK js i j) = true then 2 * i + 1 + j else bestK js i j
def bestJ (js : List Job) (i : Nat) : Nat := bestK js i 2
theorem bestK_lt {js : List Job} {i : Nat} (h : i < js.length) : ∀ j, bestK js i j < js.length
  | 0 => h
  | j + 1 => by
    rw [bestK]
    split
    · rename_i h1; exact h1.1
    · exact bestK_lt h j
theorem bestK_ge {js : List Job} {i : Nat} : ∀ j, bestK js i j = i ∨ i < bestK js i j
  | 0 => Or.inl rfl
  | j + 1 => by
    rw [bestK]
    split
    · right; omega
    · exact bestK_ge j
theorem bestK_end {js : List Job} {i j : Nat} (h : js.length ≤ 2 * i + 1 + j) : ∀ m, bestK js i (j + m) = bestK js i j
  | 0 => rfl
  | m + 1 => by
    rw [← Nat.add_assoc, bestK, if_neg (by omega), bestK_end h m]
theorem bestK_yes {js : List Job} {i j : Nat} (h : 2 * i + 1 + j < js.length) (h2 : lessAt js (2 * i + 1 + j) (bestK js i j) = true) : bestK js i (j + 1) = 2 * i + 1 + j := by rw [bestK, if_pos ⟨h, h2⟩]
theorem bestK_no {js : List Job} {i j : Nat} (h2 : lessAt js (2 * i + 1 + j) (bestK js i j) = false) : bestK js i (j + 1) = bestK js i j := by rw [bestK, if_neg (fun h => by rw [h2] at h; exact absurd h.2 (by simp))]
theorem HeapAt.shape {w : World} {B hb : Nat} {js : List Job} {cnt : Int} {v : Value} (h : HeapAt w B hb js cnt v) : ∃ A cap, v = .slice A js.length cap ∧ js.length ≤ cap := by
  rcases h.row.2 with ⟨h1, h2⟩ | ⟨g, cap, cur, hv, _, _, hnc, _⟩
  · exact ⟨none, 0, by rw [h1, h2], by omega⟩
  · exact ⟨_, cap, hv, hnc⟩

set_option maxHeartbeats 1000000 in
theorem best_any {w : World} {B hb bx : Nat} {js : List Job} {cnt : Int} {v : Value} (h : HeapAt w B hb js cnt v) (hbx : rowAt w bx = some #[.pointer (some ⟨hb, 0, none⟩)]) {i : Nat} (hi : i < js.length ∨ i = 0) (hlen : js.length ≤ 1000000) :
    Calls Try.prog 43 #[.int .i64 i, .pointer (some ⟨bx, 0, none⟩)] w fun e w' => e = .returned (.int .i64 (bestJ js i : Nat)) ∧ Below w.heap.size w w' := by
  obtain ⟨A, cap, rfl, hcap⟩ := h.shape
  have HH := Lib.hid h
  have HX := Lib.hid hbx
  have hi2 : i ≤ 1000000 := by omega
  have HI := Lib.hid hi
  clear h hbx hi
  go_enter Try.func43, Try.ntmps43
  go_wp2
  go_loopw [4, 5] (fun a k wr => ∃ (j : Nat), j ≤ 2 ∧ k = .int .i64 (2 * (i : Int) + 1 + j) ∧ a = .int .i64 (bestK js i j : Nat) ∧ Hid (Below w.heap.size w wr)) (fun _ k _ => (2 * i + 3 - (intOf k).toNat))
  case atStart => exact ⟨0, by omega, by simp, rfl, Lib.hid (Below.refl _ _)⟩
  case round =>
    obtain ⟨j, hj, rfl, rfl, HB⟩ := hrel
    have hhw := HH.out.below HB.out
    have c0 : wr.cell? ⟨hb, 0, none⟩ = some (.slice A js.length cap) := (cell_row hhw.head 0).trans rfl
    have c1 : wr.cell? ⟨bx, 0, none⟩ = some (.pointer (some ⟨hb, 0, none⟩)) := (cell_row (row_call HB.out HX.out) 0).trans rfl
    have HW := Lib.hid hhw
    clear hhw
    by_cases h2 : j < 2
    · by_cases hl : 2 * i + 1 + j < js.length
      · have hin : i < js.length := by omega
        obtain ⟨a, ha⟩ := lt_get hl
        obtain ⟨b, hb'⟩ := lt_get (bestK_lt hin j)
        have hle := lessAt_eq ha hb'
        have HL := Lib.hid (less_any HW.out ha hb')
        have hc : ((2 * i + 1 + j : Nat) : Int) = 2 * (i : Int) + 1 + j := by omega
        rw [hc] at HL
        have hl' : 2 * (i : Int) + 1 + j < js.length := by omega
        cases hls : lessJ a b with
        | false =>
          rw [hls] at hle HL
          have HE := Lib.hid (bestK_no (js := js) (i := i) (j := j) hle)
          clear hle hls ha hb' hc
          generalize bestK js i j = q at *
          go_wp2_with (go_at_call 44; refine (HL.out).mono ?_; rintro e w1 ⟨rfl, hb1⟩)
          refine ⟨⟨j + 1, by omega, by go_num, by rw [HE.out], Lib.hid (below_call HB.out hb1)⟩, by simp [intOf]; omega⟩
        | true =>
          rw [hls] at hle HL
          have HE := Lib.hid (bestK_yes (js := js) (i := i) (j := j) hl hle)
          clear hle hls ha hb' hc
          generalize bestK js i j = q at *
          go_wp2_with (go_at_call 44; refine (HL.out).mono ?_; rintro e w1 ⟨rfl, hb1⟩)
          refine ⟨⟨j + 1, by omega, by go_num, by rw [HE.out]; go_num, Lib.hid (below_call HB.out hb1)⟩, by simp [intOf]; omega⟩
      · have hl' : ¬ (2 * (i : Int) + 1 + j < js.length) := by omega
        have HE : Hid (bestJ js i = bestK js i j) := Lib.hid (by
          have := bestK_end (js := js) (i := i) (j := j) (by omega) (2 - j)
          rw [show j + (2 - j) = 2 by omega] at this
          exact this)
        generalize bestK js i j = q at *
        go_wp2
        go_ret
        exact ⟨by rw [HE.out]; rfl, HB.out⟩
    · have hj2 : j = 2 := by omega
      subst hj2
      have HE : Hid (bestJ js i = bestK js i 2) := Lib.hid rfl
      generalize bestK js i 2 = q at *
      go_wp2
      go_ret
      exact ⟨by rw [HE.out]; rfl, HB.out⟩

def sinkJ : Nat → List Job → Nat → List Job
  | 0, js, _ => js
  | f + 1, js, i => if bestJ js i ≠ i then sinkJ f (swapJ js i (bestJ js i)) (bestJ js i) else js
theorem sinkJ_stop {f : Nat} {js : List Job} {i : Nat} (h : bestJ js i = i) : sinkJ f js i = js := by
  cases f with
  | zero => rfl
  | succ f => rw [sinkJ, if_neg (fun h2 => h2 h)]
theorem sinkJ_go {f : Nat} {js : List Job} {i : Nat} (h : bestJ js i ≠ i) (hf : 0 < f) : sinkJ f js i = sinkJ (f - 1) (swapJ js i (bestJ js i)) (bestJ js i) := by
  obtain ⟨f, rfl⟩ : ∃ m, f = m + 1 := ⟨f - 1, by omega⟩
  rw [sinkJ, if_pos h]; rfl
theorem sinkJ_length : ∀ (f : Nat) (js : List Job) (i : Nat), (sinkJ f js i).length = js.length
  | 0, _, _ => rfl
  | f + 1, js, i => by
    rw [sinkJ]
    split
    · rw [sinkJ_length f, swapJ_length]
    · rfl
theorem bestJ_none {js : List Job} {i : Nat} (h : js.length ≤ i) : bestJ js i = i := by
  have := bestK_end (js := js) (i := i) (j := 0) (by omega) 2
  exact this

set_option maxHeartbeats 1000000 in
theorem sink_any {w : World} {B hb : Nat} {js : List Job} {cnt : Int} {v : Value} (h : HeapAt w B hb js cnt v) (hlen : js.length ≤ 1000000) :
    Calls Try.prog 35 #[.pointer (some ⟨hb, 0, none⟩), .int .i64 0] w fun e w' => e = .returned (.tuple #[]) ∧ HeapAt w' B hb (sinkJ js.length js 0) cnt v ∧ Foot (fun q => v.ownBlock = some q) w w' := by
  have hbl := row_lt h.head
  have hb0 : Below w.heap.size w (w.alloc (.cells #[.pointer (some ⟨hb, 0, none⟩)] 64)) := below1 w _
  have hx0 : rowAt (w.alloc (.cells #[.pointer (some ⟨hb, 0, none⟩)] 64)) w.heap.size = some #[.pointer (some ⟨hb, 0, none⟩)] := row1 w _ _
  have hh0 := h.below hb0
  have hvl : ∀ q, v.ownBlock = some q → q < w.heap.size := fun q hq => (own_lt h.row hq).2
  have HV := Lib.hid hvl
  have HBest := Lib.hid (best_any hh0 hx0 (i := 0) (Or.inr rfl) hlen)
  have H0 := Lib.hid hh0
  have HX0 := Lib.hid hx0
  have HB0 := Lib.hid hb0
  clear h hb0 hx0 hh0 hvl hbl
  go_enter Try.func35, Try.ntmps35
  go_wp2_with (go_at_call 43; refine (HBest.out).mono ?_; rintro e w1 ⟨rfl, hb1⟩)
  have hbb : w.heap.size < (w.alloc (.cells #[.pointer (some ⟨hb, 0, none⟩)] 64)).heap.size := by simp
  go_loopw [1, 5] (fun t k wr => ∃ (q f : Nat) (ks : List Job), t = .int .i64 q ∧ k = .int .i64 (bestJ ks q : Nat) ∧ (q < ks.length ∨ q = 0) ∧ ks.length ≤ f + q ∧ ks.length = js.length ∧ Hid (sinkJ f ks q = sinkJ js.length js 0) ∧ Hid (HeapAt wr B hb ks cnt v) ∧ Hid (Foot (fun q => v.ownBlock = some q) w wr) ∧ Hid (rowAt wr w.heap.size = some #[.pointer (some ⟨hb, 0, none⟩)])) (fun t _ _ => js.length - (intOf t).toNat)
  case atStart => exact ⟨0, js.length, js, rfl, rfl, Or.inr rfl, by omega, rfl, Lib.hid rfl, Lib.hid (H0.out.below hb1), Lib.hid ((Foot.of_below HB0.out).trans (Foot.of_below hb1)), Lib.hid (row_call hb1 HX0.out)⟩
  case round =>
    obtain ⟨q, f, ks, rfl, rfl, hq, hqf, hkl, HE, HW, HF, HX⟩ := hrel
    have c1 : wr.cell? ⟨w.heap.size, 0, none⟩ = some (.pointer (some ⟨hb, 0, none⟩)) := (cell_row HX.out 0).trans rfl
    by_cases hk : bestJ ks q = q
    · have HE2 : Hid (ks = sinkJ js.length js 0) := Lib.hid (by rw [← HE.out, sinkJ_stop hk])
      clear HE
      rw [hk]
      clear hk
      go_wp2
      go_end0
      exact ⟨rfl, by rw [← HE2.out]; exact HW.out, HF.out⟩
    · have hqn : q < ks.length := by
        rcases Nat.lt_or_ge q ks.length with h | h
        · exact h
        · exact absurd (bestJ_none h) hk
      have hklt := bestK_lt hqn 2
      have hkge : q < bestK ks q 2 := by
        rcases bestK_ge (js := ks) (i := q) 2 with h | h
        · exact absurd h hk
        · exact h
      change bestJ ks q < ks.length at hklt
      change q < bestJ ks q at hkge
      obtain ⟨a, ha⟩ := lt_get hqn
      obtain ⟨b, hb'⟩ := lt_get hklt
      have HE2 : Hid (sinkJ (f - 1) (swapJ ks q (bestJ ks q)) (bestJ ks q) = sinkJ js.length js 0) := Lib.hid (by rw [← HE.out, sinkJ_go hk (by omega)])
      clear HE
      generalize hz : bestJ ks q = z at *
      have hsw := Lib.hid (swapJ_eq ha hb')
      have hne : ¬ ((z : Int) = q) := by omega
      have HA := Lib.hid ha
      have HB' := Lib.hid hb'
      clear ha hb' hk hz
      go_wp2_with (first
        | (go_at_call 34; refine (swap_any HW.out HA.out HB'.out).mono ?_; rintro e w2 ⟨rfl, hh2, hf2⟩; have hx2 : rowAt w2 w.heap.size = some #[.pointer (some ⟨hb, 0, none⟩)] := (Foot.row hf2 HX.out (fun e => by have := HV.out _ e; omega)); rw [← hsw.out] at hh2; have hl2 : (swapJ ks q z).length ≤ 1000000 := (by rw [swapJ_length]; omega); have HBest2 := Lib.hid (best_any hh2 hx2 (i := z) (Or.inl (by rw [swapJ_length]; exact hklt)) hl2))
        | (go_at_call 43; refine (HBest2.out).mono ?_; rintro e w3 ⟨rfl, hb3⟩))
      refine ⟨⟨z, f - 1, swapJ ks q z, rfl, rfl, by rw [swapJ_length]; exact Or.inl hklt, by rw [swapJ_length]; omega, by rw [swapJ_length]; exact hkl, HE2, Lib.hid (hh2.below hb3), Lib.hid ((HF.out.trans hf2).trans (Foot.of_below hb3)), Lib.hid (row_call hb3 hx2)⟩, by simp [intOf]; omega⟩

end Go.Proofs.Ytobbjdindknkdaa
