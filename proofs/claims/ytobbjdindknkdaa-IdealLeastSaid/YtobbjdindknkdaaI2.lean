/- Two places of the heap swapped; a job rises. -/
import Derived.Test.YtobbjdindknkdaaI1
import Derived.Test.YtobbjdindknkdaaK3

namespace Go.Proofs.Ytobbjdindknkdaa
open Go Go.RowKit
attribute [local irreducible] wpQuiet
set_option linter.unusedSimpArgs false
set_option linter.unusedVariables false

set_option maxHeartbeats 400000 in
theorem swap_any {w : World} {B hb : Nat} {js : List Job} {cnt : Int} {v : Value} (h : HeapAt w B hb js cnt v) {i k : Nat} {a b : Job} (hi : js[i]? = some a) (hk : js[k]? = some b) :
    Calls Try.prog 34 #[.pointer (some ⟨hb, 0, none⟩), .int .i64 i, .int .i64 k] w fun e w' => e = .returned (.tuple #[]) ∧ HeapAt w' B hb ((js.set i b).set k a) cnt v ∧ Foot (fun q => v.ownBlock = some q) w w' := by
  have hin : i < js.length := (List.getElem?_eq_some_iff.1 hi).1
  have hkn : k < js.length := (List.getElem?_eq_some_iff.1 hk).1
  obtain ⟨g, cap, rfl, hnc⟩ := h.form (by omega)
  have c0 : ∀ w', Since w w' → w'.cell? ⟨hb, 0, none⟩ = some (.slice (some ⟨g, 0, none⟩) js.length cap) := fun w' hs => later hs h.head rfl
  have HO : Hid (∀ w', Since w w' → w'.ownsRow B 85 3 (.slice (some ⟨g, 0, none⟩) js.length cap) js.length (jcells js)) := Lib.hid fun w' hs => (h.below hs).row
  have HA := Lib.hid (jcells_at hi)
  have HB := Lib.hid (jcells_at hk)
  have i0 : (0 : Int) ≤ (i : Int) := by omega
  have i1 : (i : Int) < (js.length : Nat) := by omega
  have k0 : (0 : Int) ≤ (k : Int) := by omega
  have k1 : (k : Int) < (js.length : Nat) := by omega
  have hab : g ≠ hb := fun e => h.apart (by rw [e]; rfl)
  have HH := Lib.hid h
  clear h hi hk
  go_enter Try.func34, Try.ntmps34
  go_wp2
  refine wp_region_pick (Since _) [0, 1, 2, 4, 5, 6, 7, 9, 10, 11, 12, 14, 17, 18, 19, 21] [3, 8, 13, 15, 16, 20, 22, 23, 24] [25, 26, 27] (by kernel_rfl) (by kernel_rfl) (Since.drew _) ?_; simp only [pick, List.getElem?_cons_succ, List.getElem?_cons_zero]
  (refine wpPure_take (by rfl) (by (intro wq; go_simp; (try go_ints); exact rfl)) ?_; simp only [Act.put, List.setIfInBounds_toArray, List.set_cons_zero, List.set_cons_succ])
  (refine wpPure_take (by rfl) (by (intro wq; go_simp; (try go_ints); exact rfl)) ?_; simp only [Act.put, List.setIfInBounds_toArray, List.set_cons_zero, List.set_cons_succ])
  (refine wpPure_take (by rfl) (by (intro wq; go_simp; (try go_ints); exact rfl)) ?_; simp only [Act.put, List.setIfInBounds_toArray, List.set_cons_zero, List.set_cons_succ])
  (refine wpPure_take (by rfl) (by (intro wq; go_simp; (try go_ints); exact rfl)) ?_; simp only [Act.put, List.setIfInBounds_toArray, List.set_cons_zero, List.set_cons_succ])
  (refine wpPure_take (by rfl) (by (intro wq; go_simp; (try go_ints); exact rfl)) ?_; simp only [Act.put, List.setIfInBounds_toArray, List.set_cons_zero, List.set_cons_succ])
  (refine wpPure_take (by rfl) (by (intro wq; go_simp; (try go_ints); exact rfl)) ?_; simp only [Act.put, List.setIfInBounds_toArray, List.set_cons_zero, List.set_cons_succ])
  (refine wpPure_take (by rfl) (by (intro wq; go_simp; (try go_ints); exact rfl)) ?_; simp only [Act.put, List.setIfInBounds_toArray, List.set_cons_zero, List.set_cons_succ])
  (refine wpPure_take (by rfl) (by (intro wq; go_simp; (try go_ints); exact rfl)) ?_; simp only [Act.put, List.setIfInBounds_toArray, List.set_cons_zero, List.set_cons_succ])
  (refine wpPure_take (by rfl) (by (intro wq; go_simp; (try go_ints); exact rfl)) ?_; simp only [Act.put, List.setIfInBounds_toArray, List.set_cons_zero, List.set_cons_succ])
  (refine wpPure_take (by rfl) (by (intro wq; go_simp; (try go_ints); exact rfl)) ?_; simp only [Act.put, List.setIfInBounds_toArray, List.set_cons_zero, List.set_cons_succ])
  (refine wpPure_take (by rfl) (by (intro wq; go_simp; (try go_ints); exact rfl)) ?_; simp only [Act.put, List.setIfInBounds_toArray, List.set_cons_zero, List.set_cons_succ])
  (refine wpPure_take (by rfl) (by (intro wq; go_simp; (try go_ints); exact rfl)) ?_; simp only [Act.put, List.setIfInBounds_toArray, List.set_cons_zero, List.set_cons_succ])
  (refine wpPure_take (by rfl) (by (intro wq; go_simp; (try go_ints); exact rfl)) ?_; simp only [Act.put, List.setIfInBounds_toArray, List.set_cons_zero, List.set_cons_succ])
  (refine wpPure_take (by rfl) (by (intro wq; go_simp; (try go_ints); exact rfl)) ?_; simp only [Act.put, List.setIfInBounds_toArray, List.set_cons_zero, List.set_cons_succ])
  (refine wpPure_take (by rfl) (by (intro wq; go_simp; (try go_ints); exact rfl)) ?_; simp only [Act.put, List.setIfInBounds_toArray, List.set_cons_zero, List.set_cons_succ])
  (refine wpPure_take (by rfl) (by (intro wq; go_simp; (try go_ints); exact rfl)) ?_; simp only [Act.put, List.setIfInBounds_toArray, List.set_cons_zero, List.set_cons_succ])
  refine wpPure_nil ?_
  (refine wpQuiet_step (fun K hK => ?_); rw [if_pos (by rfl)]; apply quiet_val; (intro wq hwq; go_simp; (try go_ints); exact rfl); refine hK _ ?_; clear hK K; simp only [Act.put, List.setIfInBounds_toArray, List.set_cons_zero, List.set_cons_succ])
  (refine wpQuiet_step (fun K hK => ?_); rw [if_pos (by rfl)]; apply quiet_val; (intro wq hwq; go_simp; (try go_ints); exact rfl); refine hK _ ?_; clear hK K; simp only [Act.put, List.setIfInBounds_toArray, List.set_cons_zero, List.set_cons_succ])
  (refine wpQuiet_step (fun K hK => ?_); rw [if_pos (by rfl)]; apply quiet_val; (intro wq hwq; go_simp; (try go_ints); exact rfl); refine hK _ ?_; clear hK K; simp only [Act.put, List.setIfInBounds_toArray, List.set_cons_zero, List.set_cons_succ])
  (refine wpQuiet_step (fun K hK => ?_); rw [if_pos (by rfl)]; apply quiet_val; (intro wq hwq; go_simp; (try go_ints); exact rfl); refine hK _ ?_; clear hK K; simp only [Act.put, List.setIfInBounds_toArray, List.set_cons_zero, List.set_cons_succ])
  (refine wpQuiet_step (fun K hK => ?_); rw [if_pos (by rfl)]; apply quiet_ownload (vs := jagg b) Try.underlying85 rfl isz85; exact rfl; exact rfl; exact HO.out; exact hkn; exact rfl; exact HB.out; refine hK _ ?_; clear hK K; simp only [Act.put, List.setIfInBounds_toArray, List.set_cons_zero, List.set_cons_succ])
  (refine wpQuiet_step (fun K hK => ?_); rw [if_pos (by rfl)]; apply quiet_val; (intro wq hwq; go_simp; (try go_ints); exact rfl); refine hK _ ?_; clear hK K; simp only [Act.put, List.setIfInBounds_toArray, List.set_cons_zero, List.set_cons_succ])
  (refine wpQuiet_step (fun K hK => ?_); rw [if_pos (by rfl)]; apply quiet_val; (intro wq hwq; go_simp; (try go_ints); exact rfl); refine hK _ ?_; clear hK K; simp only [Act.put, List.setIfInBounds_toArray, List.set_cons_zero, List.set_cons_succ])
  (refine wpQuiet_step (fun K hK => ?_); rw [if_pos (by rfl)]; apply quiet_ownload (vs := jagg a) Try.underlying85 rfl isz85; exact rfl; exact rfl; exact HO.out; exact hin; exact rfl; exact HA.out; refine hK _ ?_; clear hK K; simp only [Act.put, List.setIfInBounds_toArray, List.set_cons_zero, List.set_cons_succ])
  (refine wpQuiet_step (fun K hK => ?_); rw [if_pos (by rfl)]; apply quiet_val; (intro wq hwq; go_simp; (try go_ints); exact rfl); refine hK _ ?_; clear hK K; simp only [Act.put, List.setIfInBounds_toArray, List.set_cons_zero, List.set_cons_succ])
  refine wpQuiet_nil ?_; intro wn hwn
  have HW := Lib.hid hwn
  clear hwn c0
  go_wp2_with (first
    | (apply wpList_ownstore (vs := jagg b) isz85; exact rfl; exact rfl; exact rfl; exact rfl; exact HO.out _ HW.out; exact hin; exact rfl; exact rfl; intro w1 ho1 hf1 hs1; simp only [Act.put, List.setIfInBounds_toArray, List.set_cons_zero, List.set_cons_succ])
    | (apply wpList_ownstore (vs := jagg a) isz85; exact rfl; exact rfl; exact rfl; exact rfl; exact ho1; exact hkn; exact rfl; exact rfl; intro w2 ho2 hf2 hs2; simp only [Act.put, List.setIfInBounds_toArray, List.set_cons_zero, List.set_cons_succ]))
  refine Calm.normal ?_
  go_wp2
  have h0 := HH.out
  have hl : ((js.set i b).set k a).length = js.length := by simp
  have F1 : Foot (fun q => (Value.slice (some ⟨g, 0, none⟩) js.length cap).ownBlock = some q) wn w2 := (hf1 (fun q => (Value.slice (some ⟨g, 0, none⟩) js.length cap).ownBlock = some q) rfl).trans (hf2 (fun q => (Value.slice (some ⟨g, 0, none⟩) js.length cap).ownBlock = some q) rfl)
  have F : Foot (fun q => (Value.slice (some ⟨g, 0, none⟩) js.length cap).ownBlock = some q) w w2 := (Foot.of_below HW.out).then F1 fun _ _ h => h
  have hrow : w2.ownsRow B 85 3 (.slice (some ⟨g, 0, none⟩) js.length cap) ((js.set i b).set k a).length (jcells ((js.set i b).set k a)) := by
    rw [hl, ← jcells_put (by simpa using hkn), ← jcells_put hin]
    exact ho2
  go_end0
  exact ⟨rfl, ⟨F.row h0.head (fun e => h0.apart e), hrow, h0.apart, h0.base⟩, F⟩

/-! ### rise -/
theorem lt_get {js : List Job} {i : Nat} (h : i < js.length) : ∃ a, js[i]? = some a := ⟨js[i], List.getElem?_eq_getElem h⟩
def swapJ (js : List Job) (i k : Nat) : List Job :=
  match js[i]?, js[k]? with
  | some a, some b => (js.set i b).set k a
  | _, _ => js
theorem swapJ_eq {js : List Job} {i k : Nat} {a b : Job} (hi : js[i]? = some a) (hk : js[k]? = some b) : swapJ js i k = (js.set i b).set k a := by
  unfold swapJ; rw [hi, hk]
theorem swapJ_length (js : List Job) (i k : Nat) : (swapJ js i k).length = js.length := by
  unfold swapJ; split <;> simp
def lessAt (js : List Job) (i k : Nat) : Bool :=
  match js[i]?, js[k]? with
  | some a, some b => lessJ a b
  | _, _ => false
theorem lessAt_eq {js : List Job} {i k : Nat} {a b : Job} (hi : js[i]? = some a) (hk : js[k]? = some b) : lessAt js i k = lessJ a b := by
  unfold lessAt; rw [hi, hk]
def riseJ : Nat → List Job → Nat → List Job
  | 0, js, _ => js
  | f + 1, js, i => if 0 < i ∧ lessAt js i ((i - 1) / 2) = true then riseJ f (swapJ js i ((i - 1) / 2)) ((i - 1) / 2) else js
theorem riseJ_stop {f : Nat} {js : List Job} {i : Nat} (h : ¬ (0 < i ∧ lessAt js i ((i - 1) / 2) = true)) : riseJ f js i = js := by
  cases f with
  | zero => rfl
  | succ f => rw [riseJ, if_neg h]
theorem riseJ_go {f : Nat} {js : List Job} {i : Nat} (h : 0 < i ∧ lessAt js i ((i - 1) / 2) = true) (hf : i ≤ f) : riseJ f js i = riseJ (f - 1) (swapJ js i ((i - 1) / 2)) ((i - 1) / 2) := by
  obtain ⟨f, rfl⟩ : ∃ m, f = m + 1 := ⟨f - 1, by omega⟩
  rw [riseJ, if_pos h]; rfl
theorem riseJ_length : ∀ (f : Nat) (js : List Job) (i : Nat), (riseJ f js i).length = js.length
  | 0, _, _ => rfl
  | f + 1, js, i => by
    rw [riseJ]
    split
    · rw [riseJ_length f, swapJ_length]
    · rfl

set_option maxHeartbeats 1000000 in
theorem rise_any {w : World} {B hb : Nat} {js : List Job} {cnt : Int} {v : Value} (h : HeapAt w B hb js cnt v) {i : Nat} (hi : i < js.length) (hlen : js.length ≤ 1000000) :
    Calls Try.prog 36 #[.pointer (some ⟨hb, 0, none⟩), .int .i64 i] w fun e w' => e = .returned (.tuple #[]) ∧ HeapAt w' B hb (riseJ i js i) cnt v ∧ Foot (fun q => v.ownBlock = some q) w w' := by
  have HH := Lib.hid h
  clear h
  go_enter Try.func36, Try.ntmps36
  go_wp2
  go_loopw [1] (fun t wr => ∃ (q f : Nat) (ks : List Job), t = .int .i64 q ∧ q < ks.length ∧ q ≤ f ∧ ks.length = js.length ∧ Hid (riseJ f ks q = riseJ i js i) ∧ Hid (HeapAt wr B hb ks cnt v) ∧ Hid (Foot (fun q => v.ownBlock = some q) w wr)) (fun t _ => (intOf t).toNat)
  case atStart => exact ⟨i, i, js, rfl, hi, Nat.le_refl _, rfl, Lib.hid rfl, HH, Lib.hid (Foot.refl _ _)⟩
  case round =>
    obtain ⟨q, f, ks, rfl, hq, hqf, hkl, HE, HW, HF⟩ := hrel
    by_cases h0 : 0 < q
    · obtain ⟨a, ha⟩ := lt_get hq
      obtain ⟨b, hb'⟩ := lt_get (show (q - 1) / 2 < ks.length by omega)
      have hle := lessAt_eq ha hb'
      have HL := Lib.hid (less_any HW.out ha hb')
      have hd : ((q : Int) - 1) / 2 = (((q - 1) / 2 : Nat) : Int) := by omega
      cases hls : lessJ a b with
      | false =>
        rw [hls] at hle HL
        have HE2 : Hid (ks = riseJ i js i) := Lib.hid (by rw [← HE.out, riseJ_stop (fun h => by rw [hle] at h; exact absurd h.2 (by simp))])
        clear HE hle hls ha hb'
        go_wp2_with (go_at_call 44; refine (HL.out).mono ?_; rintro e w1 ⟨rfl, hb1⟩)
        go_end0
        exact ⟨rfl, by rw [← HE2.out]; exact HW.out.below hb1, HF.out.trans (Foot.of_below hb1)⟩
      | true =>
        rw [hls] at hle HL
        have HE2 : Hid (riseJ (f - 1) (swapJ ks q ((q - 1) / 2)) ((q - 1) / 2) = riseJ i js i) := Lib.hid (by rw [← HE.out, riseJ_go ⟨h0, hle⟩ hqf])
        have HA := Lib.hid ha
        have HB' := Lib.hid hb'
        clear HE hle hls ha hb'
        go_wp2_with (first
          | (go_at_call 44; refine (HL.out).mono ?_; rintro e w1 ⟨rfl, hb1⟩)
          | (go_at_call 34; refine (swap_any (HW.out.below hb1) HA.out HB'.out).mono ?_; rintro e w2 ⟨rfl, hh2, hf2⟩))
        have hsw := swapJ_eq HA.out HB'.out
        refine ⟨⟨(q - 1) / 2, f - 1, swapJ ks q ((q - 1) / 2), by go_num, by rw [swapJ_length]; omega, by omega, by rw [swapJ_length]; exact hkl, HE2, Lib.hid (by rw [hsw]; exact hh2), Lib.hid ((HF.out.trans (Foot.of_below hb1)).trans hf2)⟩, by simp [intOf]; omega⟩
    · have HE2 : Hid (ks = riseJ i js i) := Lib.hid (by rw [← HE.out, riseJ_stop (fun h => h0 h.1)])
      clear HE
      have hz : q = 0 := by omega
      subst hz
      go_wp2
      go_end0
      exact ⟨rfl, by rw [← HE2.out]; exact HW.out, HF.out⟩

end Go.Proofs.Ytobbjdindknkdaa
