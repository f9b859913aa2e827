import Derived.Test.YtodeiapaehlmfaaDoorAi
namespace Go.Proofs.YtodeiapaehlmfaaDoor
open Go Go.RowKit
set_option linter.unusedSimpArgs false

/-! ### the document's hex -/
theorem hexS_small {n : Nat} (h : n < 16) : hexS n = [hexB n] := by
  unfold hexS hexLen
  rw [if_pos h]
  simp [hexU, Nat.mod_eq_of_lt h]
theorem hexU_more (n : Nat) : ∀ k, hexU n (k + 1) = hexU (n / 16) k ++ [hexB (n % 16)]
  | 0 => by simp [hexU]
  | k + 1 => by
    rw [hexU, hexU_more n k, hexU]
    rw [Nat.pow_succ, Nat.mul_comm, ← Nat.div_div_eq_div_mul]
    rfl
theorem hexS_big {n : Nat} (h : ¬ n < 16) (h2 : n < 65536) : hexS n = hexS (n / 16) ++ [hexB (n % 16)] := by
  have e : hexLen n = hexLen (n / 16) + 1 := by
    unfold hexLen
    repeat' split
    all_goals omega
  unfold hexS
  rw [e, hexU_more]

theorem hex_digit (m : Nat) (hm : m < 16) : (ByteArray.mk #[48, 49, 50, 51, 52, 53, 54, 55, 56, 57, 97, 98, 99, 100, 101, 102]).extract m (m + 1) = ⟨#[hexB m]⟩ := by
  rcases m with _ | _ | _ | _ | _ | _ | _ | _ | _ | _ | _ | _ | _ | _ | _ | _ | m
  all_goals first | rfl | omega

set_option maxHeartbeats 1000000 in
set_option maxRecDepth 100000 in
theorem hex_any : ∀ (d n : Nat), n < 16 ^ d → n < 65536 → ∀ (w : World), Calls Tryd.prog 33 #[.int .i64 n] w fun e w' => e = .returned (.string ⟨(hexS n).toArray⟩) ∧ Below w.heap.size w w'
  | 0, n, h, _, w => by
    have h0 : n = 0 := by simpa using h
    subst h0
    have hd := hex_digit 0 (by decide)
    have e0 : hexS 0 = [hexB 0] := hexS_small (by decide)
    rw [e0]
    go_enter Tryd.func33, Tryd.ntmps33
    go_wp2
    go_ret
    exact ⟨rfl, Below.refl _ _⟩
  | d + 1, n, h, hn, w => by
    have hd := hex_digit (n % 16) (Nat.mod_lt _ (by decide))
    have hm : ((n : Int).tmod 16) = ((n % 16 : Nat) : Int) := by
      rw [Int.tmod_eq_emod_of_nonneg (by omega)]; omega
    by_cases h16 : n < 16
    · have e0 := hexS_small h16
      have e1 : n % 16 = n := Nat.mod_eq_of_lt h16
      rw [e1] at hm hd
      rw [e0]
      go_enter Tryd.func33, Tryd.ntmps33
      go_wp2
      go_ret
      exact ⟨rfl, Below.refl _ _⟩
    · have hq : ((n : Int).tdiv 16) = ((n / 16 : Nat) : Int) := by
        rw [Int.tdiv_eq_ediv_of_nonneg (by omega)]; omega
      have IH := Lib.hid fun w => hex_any d (n / 16) (by rw [Nat.pow_succ] at h; omega) (by omega) w
      have e0 := Lib.hid (hexS_big h16 hn)
      have hlen := hexS_length (n / 16)
      have ad : ∀ W, (Op.stringOp .add ⟨(hexS (n / 16)).toArray⟩ ⟨#[hexB (n % 16)]⟩).run Tryd.prog W = .ok (.string ⟨(hexS (n / 16) ++ [hexB (n % 16)]).toArray⟩) W := fun W => run_string_add_lists W (hexS (n / 16)) [hexB (n % 16)] (by omega) (by simp)
      generalize hexS (n / 16) = X at *
      go_enter Tryd.func33, Tryd.ntmps33
      go_wp2_with (go_at_call 33; refine (IH.out _).mono ?_; rintro e w1 ⟨rfl, hb1⟩)
      go_ret
      exact ⟨by rw [e0.out]; rfl, hb1⟩

end Go.Proofs.YtodeiapaehlmfaaDoor
