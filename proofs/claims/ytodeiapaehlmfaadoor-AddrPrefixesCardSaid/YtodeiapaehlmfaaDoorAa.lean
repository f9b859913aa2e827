import Derived.Test.YtodeiapaehlmfaaDoorA9
namespace Go.Proofs.YtodeiapaehlmfaaDoor
open Go Go.RowKit
attribute [local go_sem] rowAt_alloc_at rowAt_alloc_past rowAt_drew rowAt_drewN bv_size iv_size bv_one iv_one bv_set iv_set bv_get iv_get bv_elem iv_elem zlit16 zlit8 z16_length z8_length eq25 eq22 eq23 pv_size pv_one cutS_length zplit
attribute [local irreducible] wpQuiet
set_option linter.unusedSimpArgs false

def frontTo (a : List Int) : Nat → Bool
  | 0 => false
  | k + 1 => if k < 8 then frontTo a k || (nth a k != 0) else frontTo a k
def sameTo (a L : List Int) : Nat → Bool
  | 0 => true
  | k + 1 => if k < 8 then sameTo a L k else sameTo a L k && (nth a k == nth L k)
def fitsB (a : List Int) (n : Nat) : Bool := sameTo a (rlinkS n) 16 && frontTo a 16
def rnodeFrom (a : List Int) : Nat → Nat → Int
  | 0, _ => -1
  | f + 1, n => if fitsB a n = true then n else rnodeFrom a f (n + 1)
def rnodeS (a : List Int) : Int := rnodeFrom a 64 0
theorem rlinkS_length (n : Int) : (rlinkS n).length = 16 := by simp [rlinkS, z16_length]

set_option maxRecDepth 100000 in
set_option maxHeartbeats 1000000 in
theorem rnode_any (a : List Int) (ha : a.length = 16) (w : World) : Calls Tryd.prog 22 #[.agg (bv a)] w fun e w' => e = .returned (.int .i64 (rnodeS a)) ∧ Below w.heap.size w w' := by
  have hr : Hid (rnodeS a = rnodeFrom a 64 0) := Lib.hid rfl
  generalize rnodeS a = r at *
  go_enter Tryd.func22, Tryd.ntmps22
  go_wp2
  go_loopw [3] (fun t wr => ∃ n : Nat, n ≤ 64 ∧ t = .int .i64 n ∧ Below w.heap.size w wr ∧ rowAt wr w.heap.size = some (bv a) ∧ Hid (r = rnodeFrom a (64 - n) n)) (fun t _ => 64 - (intOf t).toNat)
  case atStart => exact ⟨0, by omega, rfl, below1 _ _, row1 _ _ _, hr⟩
  case round =>
    obtain ⟨n, hn, rfl, hb, r0, HR⟩ := hrel
    by_cases hlt : n < 64
    · have hL := rlinkS_length n
      have HK := Lib.hid (rlink_any n (by omega) (by omega))
      generalize hX : rlinkS n = X at HK hL
      have HX := Lib.hid hX; clear hX
      go_wp2_with (first | (go_at_call 24; refine (HK.out _).mono ?_; rintro e1 w1 ⟨rfl, hb1⟩; have q0 := row_call hb1 r0; have B1 := below_call hb hb1) | (apply wpList_rowstore (vs := bv X) isz22; exact rfl; exact rfl; exact rfl; exact rfl; (with_reducible exact row1 _ _ _); exact (by simp [go_sem, *]); exact (by simp [go_sem, *]); exact (by simp [go_sem, *]); try simp only [Act.put, List.setIfInBounds_toArray, List.set_cons_zero, List.set_cons_succ]))
      obtain ⟨wo, hwo⟩ : ∃ wo : World, wo = (w1.alloc (.cells (bv z16) 22)).setRow w1.heap.size (bv X) := ⟨_, rfl⟩
      have s0 : rowAt wo w.heap.size = some (bv a) := by rw [hwo]; exact row_set (row_alloc q0 _) (Nat.ne_of_lt (row_lt q0)) _
      have s1 : rowAt wo w1.heap.size = some (bv X) := by rw [hwo]; exact rowAt_setRow_same (row1 _ _ _) _
      have B2 : Below w.heap.size w wo := by rw [hwo]; exact below_set (below_new B1 _) B1.size _
      rw [← hwo]
      clear hwo q0 r0 hb hb1
      go_loopw [5, 6, 7] (fun s f i wi => ∃ k : Nat, k ≤ 16 ∧ i = .int .i64 k ∧ s = .bool (sameTo a X k) ∧ f = .bool (frontTo a k) ∧ Below w.heap.size w wi ∧ rowAt wi w.heap.size = some (bv a) ∧ rowAt wi w1.heap.size = some (bv X)) (fun _ _ i _ => 16 - (intOf i).toNat)
      case atStart => exact ⟨0, by omega, rfl, rfl, rfl, B2, s0, s1⟩
      case round =>
        rename World => wi
        obtain ⟨k, hk, rfl, rfl, rfl, Bi, i0, i1⟩ := hrel
        clear s0 s1 B2
        by_cases hk16 : k < 16
        · have ca : ∀ w', Since wi w' → w'.cell? ⟨w.heap.size, k, none⟩ = some (.int .u8 (nth a k)) := fun w' h => later h i0 (by rw [bv_get, if_pos (by omega)])
          have cx : ∀ w', Since wi w' → w'.cell? ⟨w1.heap.size, k, none⟩ = some (.int .u8 (nth X k)) := fun w' h => later h i1 (by rw [bv_get, if_pos (by omega)])
          have ca0 := ca wi (Since.refl _)
          have hki : (k : Int) < 16 := by omega
          by_cases hk8 : k < 8
          · have e1 : sameTo a X (k + 1) = sameTo a X k := by simp [sameTo, hk8]
            have e2 : frontTo a (k + 1) = (frontTo a k || (nth a k != 0)) := by simp [frontTo, hk8]
            have E1 := Lib.hid e1; have E2 := Lib.hid e2; clear e1 e2
            generalize sameTo a X k = s at E1
            generalize hf : frontTo a k = f at E2
            clear hf
            cases f <;> go_wp2
            all_goals
              go_roundw
              case rel => exact ⟨k + 1, by omega, by go_num, by rw [E1.out], by rw [E2.out]; first | rfl | simp, Bi, i0, i1⟩
              case measure => simp [intOf]; omega
          · have e1 : sameTo a X (k + 1) = (sameTo a X k && (nth a k == nth X k)) := by simp [sameTo, hk8]
            have e2 : frontTo a (k + 1) = frontTo a k := by simp [frontTo, hk8]
            have E1 := Lib.hid e1; have E2 := Lib.hid e2; clear e1 e2
            generalize hs : sameTo a X k = s at E1
            generalize frontTo a k = f at E2
            clear hs
            cases s
            · go_wp2
              refine wp_region_calm (Since _) (by kernel_rfl) (by kernel_rfl) (Since.drew _) ?_
              (refine wpQuiet_step (fun K hK => ?_); rw [if_pos (by rfl)]; apply quiet_val; (intro wq hwq; go_simp; (try go_ints); exact rfl); refine hK _ ?_; clear hK K; simp only [Act.put, List.setIfInBounds_toArray, List.set_cons_zero, List.set_cons_succ])
              (refine wpQuiet_step (fun K hK => ?_); rw [if_pos (by rfl)]; apply quiet_val; (intro wq hwq; go_simp; (try go_ints); exact rfl); refine hK _ ?_; clear hK K; simp only [Act.put, List.setIfInBounds_toArray, List.set_cons_zero, List.set_cons_succ])
              (refine wpQuiet_skip (by rfl) ?_; simp only [Act.put, List.setIfInBounds_toArray, List.set_cons_zero, List.set_cons_succ])
              (refine wpQuiet_skip (by rfl) ?_; simp only [Act.put, List.setIfInBounds_toArray, List.set_cons_zero, List.set_cons_succ])
              (refine wpQuiet_skip (by rfl) ?_; simp only [Act.put, List.setIfInBounds_toArray, List.set_cons_zero, List.set_cons_succ])
              (refine wpQuiet_skip (by rfl) ?_; simp only [Act.put, List.setIfInBounds_toArray, List.set_cons_zero, List.set_cons_succ])
              (refine wpQuiet_skip (by rfl) ?_; simp only [Act.put, List.setIfInBounds_toArray, List.set_cons_zero, List.set_cons_succ])
              (refine wpQuiet_skip (by rfl) ?_; simp only [Act.put, List.setIfInBounds_toArray, List.set_cons_zero, List.set_cons_succ])
              (refine wpQuiet_skip (by rfl) ?_; simp only [Act.put, List.setIfInBounds_toArray, List.set_cons_zero, List.set_cons_succ])
              (refine wpQuiet_step (fun K hK => ?_); rw [if_pos (by rfl)]; apply quiet_val; (intro wq hwq; go_simp; (try go_ints); exact rfl); refine hK _ ?_; clear hK K; simp only [Act.put, List.setIfInBounds_toArray, List.set_cons_zero, List.set_cons_succ])
              (refine wpQuiet_step (fun K hK => ?_); rw [if_pos (by rfl)]; apply quiet_val; (intro wq hwq; go_simp; (try go_ints); exact rfl); refine hK _ ?_; clear hK K; simp only [Act.put, List.setIfInBounds_toArray, List.set_cons_zero, List.set_cons_succ])
              refine wpQuiet_nil ?_; intro wn hwn
              go_wp2
              go_roundw
              case rel => exact ⟨k + 1, by omega, by go_num, by rw [E1.out]; first | rfl | simp, by rw [E2.out], hwn.out Bi, laterRow hwn i0, laterRow hwn i1⟩
              case measure => simp [intOf]; omega
            · go_wp2
              refine wp_region_calm (Since _) (by kernel_rfl) (by kernel_rfl) (Since.drew _) ?_
              (refine wpQuiet_step (fun K hK => ?_); rw [if_pos (by rfl)]; apply quiet_val; (intro wq hwq; go_simp; (try go_ints); exact rfl); refine hK _ ?_; clear hK K; simp only [Act.put, List.setIfInBounds_toArray, List.set_cons_zero, List.set_cons_succ])
              (refine wpQuiet_step (fun K hK => ?_); rw [if_pos (by rfl)]; apply quiet_val; (intro wq hwq; go_simp; (try go_ints); exact rfl); refine hK _ ?_; clear hK K; simp only [Act.put, List.setIfInBounds_toArray, List.set_cons_zero, List.set_cons_succ])
              (refine wpQuiet_step (fun K hK => ?_); rw [if_pos (by rfl)]; apply quiet_val; (intro wq hwq; go_simp; (try go_ints); exact rfl); refine hK _ ?_; clear hK K; simp only [Act.put, List.setIfInBounds_toArray, List.set_cons_zero, List.set_cons_succ])
              (refine wpQuiet_step (fun K hK => ?_); rw [if_pos (by rfl)]; apply quiet_val; (intro wq hwq; go_simp; (try go_ints); exact rfl); refine hK _ ?_; clear hK K; simp only [Act.put, List.setIfInBounds_toArray, List.set_cons_zero, List.set_cons_succ])
              (refine wpQuiet_step (fun K hK => ?_); rw [if_pos (by rfl)]; apply quiet_val; (intro wq hwq; go_simp; (try go_ints); exact rfl); refine hK _ ?_; clear hK K; simp only [Act.put, List.setIfInBounds_toArray, List.set_cons_zero, List.set_cons_succ])
              (refine wpQuiet_step (fun K hK => ?_); rw [if_pos (by rfl)]; apply quiet_val; (intro wq hwq; go_simp; (try go_ints); exact rfl); refine hK _ ?_; clear hK K; simp only [Act.put, List.setIfInBounds_toArray, List.set_cons_zero, List.set_cons_succ])
              (refine wpQuiet_step (fun K hK => ?_); rw [if_pos (by rfl)]; apply quiet_val; (intro wq hwq; go_simp; (try go_ints); exact rfl); refine hK _ ?_; clear hK K; simp only [Act.put, List.setIfInBounds_toArray, List.set_cons_zero, List.set_cons_succ])
              (refine wpQuiet_step (fun K hK => ?_); rw [if_pos (by rfl)]; apply quiet_val; (intro wq hwq; go_simp; (try go_ints); exact rfl); refine hK _ ?_; clear hK K; simp only [Act.put, List.setIfInBounds_toArray, List.set_cons_zero, List.set_cons_succ])
              (refine wpQuiet_step (fun K hK => ?_); rw [if_pos (by rfl)]; apply quiet_val; (intro wq hwq; go_simp; (try go_ints); exact rfl); refine hK _ ?_; clear hK K; simp only [Act.put, List.setIfInBounds_toArray, List.set_cons_zero, List.set_cons_succ])
              (refine wpQuiet_step (fun K hK => ?_); rw [if_pos (by rfl)]; apply quiet_val; (intro wq hwq; go_simp; (try go_ints); exact rfl); refine hK _ ?_; clear hK K; simp only [Act.put, List.setIfInBounds_toArray, List.set_cons_zero, List.set_cons_succ])
              (refine wpQuiet_step (fun K hK => ?_); rw [if_pos (by rfl)]; apply quiet_val; (intro wq hwq; go_simp; (try go_ints); exact rfl); refine hK _ ?_; clear hK K; simp only [Act.put, List.setIfInBounds_toArray, List.set_cons_zero, List.set_cons_succ])
              refine wpQuiet_nil ?_; intro wn hwn
              go_wp2
              go_roundw
              case rel => exact ⟨k + 1, by omega, by go_num, by rw [E1.out]; first | rfl | simp, by rw [E2.out], hwn.out Bi, laterRow hwn i0, laterRow hwn i1⟩
              case measure => simp [intOf]; omega
        · have h16 : k = 16 := by omega
          subst h16
          have HF : Hid (fitsB a n = (sameTo a X 16 && frontTo a 16)) := Lib.hid (by rw [← HX.out]; rfl)
          generalize sameTo a X 16 = s at HF
          generalize frontTo a 16 = f at HF
          have hN : Hid (rnodeFrom a (64 - n) n = if fitsB a n = true then (n : Int) else rnodeFrom a (64 - (n + 1)) (n + 1)) := Lib.hid (by
            obtain ⟨m, hm⟩ : ∃ m, 64 - n = m + 1 := ⟨64 - n - 1, by omega⟩
            rw [hm, show 64 - (n + 1) = m by omega]; rfl)
          cases s <;> cases f <;> go_wp2
          all_goals first
            | (go_roundw
               case rel => exact ⟨n + 1, by omega, by go_num, Bi, i0, Lib.hid (by rw [HR.out, hN.out, HF.out]; rfl)⟩
               case measure => simp [intOf]; omega)
            | (go_ret
               exact ⟨by rw [HR.out, hN.out, HF.out]; rfl, Bi⟩)
    · go_wp2
      go_ret
      have h64 : n = 64 := by omega
      subst h64
      exact ⟨by rw [HR.out]; rfl, hb⟩
end Go.Proofs.YtodeiapaehlmfaaDoor
