import Derived.Test.YtodeiapaehlmfaaDoorAe
import Derived.Laws.Bits64b
namespace Go.Proofs.YtodeiapaehlmfaaDoor
open Go Go.RowKit
attribute [local go_sem] rowAt_alloc_at rowAt_alloc_past rowAt_drew rowAt_drewN bv_size iv_size bv_one iv_one bv_set iv_set bv_get iv_get bv_elem iv_elem
set_option linter.unusedSimpArgs false

/-! ### strconv.FormatInt at base 16 -/
theorem tz64 (w : World) (h : w.cell? ⟨7, 15, none⟩ = some (.int .u8 4)) : Calls Tryd.prog 89 #[.int .u64 16] w fun e w' => e = .returned (.int .i64 4) ∧ w' = w := by
  have e1 : bits .and .u64 16 (IntKind.u64.wrap (-16)) = 16 := by decide +kernel
  have e2 : IntKind.u64.wrap (16 * 285870213051353865) = 4573923408821661840 := by rw [IntKind.wrap_u64]; decide
  have e3 : IntKind.u64.wrap (-16) = 18446744073709551600 := by rw [IntKind.wrap_u64]; decide
  rw [e3] at e1
  go_enter Tryd.func89, Tryd.ntmps89
  go_wp2
  go_ret
  exact ⟨rfl, rfl⟩

theorem pow2 (w : World) : Calls Tryd.prog 80 #[.int .i64 16] w fun e w' => e = .returned (.bool true) ∧ w' = w := by
  have e1 : bits .and .i64 16 15 = 0 := by decide +kernel
  go_enter Tryd.func80, Tryd.ntmps80
  go_wp2
  go_ret
  exact ⟨rfl, rfl⟩

theorem tz (w : World) (h : w.cell? ⟨7, 15, none⟩ = some (.int .u8 4)) : Calls Tryd.prog 81 #[.int .u64 16] w fun e w' => e = .returned (.int .i64 4) ∧ w' = w := by
  go_enter Tryd.func81, Tryd.ntmps81
  go_wp2_with (first | (go_at_call 89; refine (tz64 _ h).mono ?_; rintro e w' ⟨rfl, rfl⟩))
  go_ret
  exact ⟨rfl, rfl⟩

def hexI (n : Nat) : Int := if n < 10 then 48 + n else 87 + n
def hexB (m : Nat) : UInt8 := UInt8.ofNat (if m < 10 then 48 + m else 87 + m)
def hexU (n : Nat) : Nat → List UInt8
  | 0 => []
  | k + 1 => hexB (n / 16 ^ k % 16) :: hexU n k
def hexLen (n : Nat) : Nat := if n < 16 then 1 else if n < 256 then 2 else if n < 4096 then 3 else 4
def hexS (n : Nat) : List UInt8 := hexU n (hexLen n)
theorem hexB_toNat (m : Nat) (h : m < 16) : ((hexB m).toNat : Int) = hexI m := by
  rcases m with _ | _ | _ | _ | _ | _ | _ | _ | _ | _ | _ | _ | _ | _ | _ | _ | m
  all_goals first | rfl | omega
theorem hexU_length (n k : Nat) : (hexU n k).length = k := by induction k <;> simp [hexU, *]
theorem hexLen_eq {n k : Nat} (hn : n < 65536) (h : n / 16 ^ k < 16) (h2 : k = 0 ∨ 16 ≤ n / 16 ^ (k - 1)) (hk : k ≤ 3) : hexLen n = k + 1 := by
  unfold hexLen
  rcases k with _ | _ | _ | _ | k
  all_goals simp at h h2
  · rw [if_pos h]
  · rw [if_neg (by omega), if_pos (by omega)]
  · rw [if_neg (by omega), if_neg (by omega), if_pos (by omega)]
  · rw [if_neg (by omega), if_neg (by omega), if_neg (by omega)]
  · omega
def hexTail (n : Nat) : Nat → List Int
  | 0 => []
  | k + 1 => hexI (n / 16 ^ k % 16) :: hexTail n k

def digits36 : ByteArray := ⟨#[48, 49, 50, 51, 52, 53, 54, 55, 56, 57, 97, 98, 99, 100, 101, 102, 103, 104, 105, 106, 107, 108, 109, 110, 111, 112, 113, 114, 115, 116, 117, 118, 119, 120, 121, 122]⟩
theorem dig36 (m : Nat) (hm : m < 16) (h : m < digits36.size) : (((digits36[m]'h).toNat : Nat) : Int) = hexI m := by
  rcases m with _ | _ | _ | _ | _ | _ | _ | _ | _ | _ | _ | _ | _ | _ | _ | _ | m
  all_goals first | rfl | omega
theorem hexTail_U (n k : Nat) : hexTail n k = (hexU n k).map (fun b => ((b.toNat : Nat) : Int)) := by
  induction k with
  | zero => rfl
  | succ k ih =>
    show hexI (n / 16 ^ k % 16) :: hexTail n k = _
    rw [ih, hexU, List.map_cons, hexB_toNat _ (Nat.mod_lt _ (by decide))]
theorem set_drop (l : List Int) (i : Nat) (x : Int) (h : i < l.length) : (l.set i x).drop i = x :: l.drop (i + 1) := by
  rw [List.drop_eq_getElem_cons (by simpa using h)]
  simp [List.drop_set_of_lt]

theorem and15 (u : Nat) (hu : u < 65536) : bits .and .u64 (u : Int) 15 = ((u % 16 : Nat) : Int) := by
  have := bits_and_u64_nat u 15 (by omega) (by decide)
  rw [show (15 : Int) = ((15 : Nat) : Int) from rfl, this, show (15 : Nat) = 2 ^ 4 - 1 by decide, Nat.and_two_pow_sub_one_eq_mod]

set_option maxHeartbeats 2000000 in
set_option maxRecDepth 100000 in
theorem formatBits16 (n : Nat) (hn : n < 65536) (w : World) (hg : w.cell? ⟨7, 15, none⟩ = some (.int .u8 4)) :
    Calls Tryd.prog 63 #[.slice none 0 0, .int .u64 n, .int .i64 16, .bool false, .bool false] w fun e w' => e = .returned (.tuple #[.slice none 0 0, .string ⟨(hexS n).toArray⟩]) ∧ Below w.heap.size w w' := by
  have hlt := cell_lt hg
  have hg1 : (w.alloc (.cells (bv (List.replicate 65 0)) 122)).cell? ⟨7, 15, none⟩ = some (.int .u8 4) := ((Below.refl w.heap.size w).alloc (Nat.le_refl _) _).cell hlt |>.trans hg
  have z65 : #[Value.int .u8 0, .int .u8 0, .int .u8 0, .int .u8 0, .int .u8 0, .int .u8 0, .int .u8 0, .int .u8 0, .int .u8 0, .int .u8 0, .int .u8 0, .int .u8 0, .int .u8 0, .int .u8 0, .int .u8 0, .int .u8 0, .int .u8 0, .int .u8 0, .int .u8 0, .int .u8 0, .int .u8 0, .int .u8 0, .int .u8 0, .int .u8 0, .int .u8 0, .int .u8 0, .int .u8 0, .int .u8 0, .int .u8 0, .int .u8 0, .int .u8 0, .int .u8 0, .int .u8 0, .int .u8 0, .int .u8 0, .int .u8 0, .int .u8 0, .int .u8 0, .int .u8 0, .int .u8 0, .int .u8 0, .int .u8 0, .int .u8 0, .int .u8 0, .int .u8 0, .int .u8 0, .int .u8 0, .int .u8 0, .int .u8 0, .int .u8 0, .int .u8 0, .int .u8 0, .int .u8 0, .int .u8 0, .int .u8 0, .int .u8 0, .int .u8 0, .int .u8 0, .int .u8 0, .int .u8 0, .int .u8 0, .int .u8 0, .int .u8 0, .int .u8 0, .int .u8 0] = bv (List.replicate 65 0) := rfl
  go_enter Tryd.func63, Tryd.ntmps63
  go_wp2_with (first
    | (go_at_call 80; refine (pow2 _).mono ?_; rintro e w' ⟨rfl, rfl⟩)
    | (go_at_call 81; refine (tz _ hg1).mono ?_; rintro e w' ⟨rfl, rfl⟩))
  have hg1' := Lib.hid hg1; clear hg1 hg z65 hlt
  go_loopw [1, 13] (fun u i wr => ∃ (k u0 : Nat) (l' : List Int), k ≤ 3 ∧ u = .int .u64 u0 ∧ i = .int .i64 (65 - (k : Int)) ∧ l'.length = 65 ∧ u0 < 65536 ∧ (k = 3 → u0 < 16) ∧
      wr = w.alloc (.cells (bv l') 122) ∧ Hid (u0 = n / 16 ^ k ∧ (k = 0 ∨ 16 ≤ n / 16 ^ (k - 1)) ∧ l'.drop (65 - k) = hexTail n k)) (fun _ i _ => (intOf i).toNat)
  case atStart => exact ⟨0, n, List.replicate 65 0, by omega, rfl, rfl, rfl, hn, by omega, rfl, Lib.hid ⟨by simp, Or.inl rfl, rfl⟩⟩
  case round =>
    obtain ⟨k, u0, l', hk, rfl, rfl, hl', hu0, hk3, rfl, HE⟩ := hrel
    have hand := and15 u0 hu0
    by_cases hge : 16 ≤ u0
    · have hk2 : k ≤ 2 := by omega
      go_wp2
      refine ⟨⟨k + 1, u0 / 16, l'.set (65 - k - 1) (hexI (u0 % 16)), by omega, by go_num, by congr 1; push_cast; omega, by simp [hl'], by omega, ?_, ?_, ?_⟩, by simp [intOf]; omega⟩
      · intro h
        have hk2 : k = 2 := by omega
        have := HE.out.1
        subst hk2
        rw [this, Nat.div_div_eq_div_mul]
        omega
      · congr 3
        exact congrArg _ (dig36 (u0 % 16) (by omega) (show _ < 36 by omega))
      · obtain ⟨h1, h2, h3⟩ := HE.out
        refine Lib.hid ⟨by rw [h1, Nat.div_div_eq_div_mul, Nat.pow_succ], Or.inr (by simpa [← h1] using hge), ?_⟩
        rw [show 65 - (k + 1) = 65 - k - 1 by omega, set_drop _ _ _ (by omega), show 65 - k - 1 + 1 = 65 - k by omega, h3, h1]
        rfl
    · have hu16 : u0 < 16 := by omega
      have hdig : ∀ h, ((((ByteArray.mk #[48, 49, 50, 51, 52, 53, 54, 55, 56, 57, 97, 98, 99, 100, 101, 102, 103, 104, 105, 106, 107, 108, 109, 110, 111, 112, 113, 114, 115, 116, 117, 118, 119, 120, 121, 122])[u0]'h).toNat : Nat) : Int) = hexI u0 := fun h => dig36 u0 hu16 h
      have hal : Tryd.prog.arrayLen 122 = 65 := by kernel_rfl
      have hsl : ∀ W, (Instr.sliceAt 122 (.pointer (some ⟨w.heap.size, 0, none⟩)) (some (.int .i64 (65 - (k : Int) - 1))) none none).run Tryd.prog W = .ok (.slice (some ⟨w.heap.size, 64 - k, none⟩) (k + 1) (k + 1)) W := fun W => by
        rw [run_sliceAt_array_l W 122 ⟨w.heap.size, 0, none⟩ (by exact Tryd.underlying122) .i64 (65 - (k : Int) - 1) (by omega) (by rw [hal]; omega)]
        go_simp
        rw [if_neg (by omega), show 65 - k - 1 = 64 - k by omega]
        exact ⟨rfl, by omega⟩
      obtain ⟨h1, h2, h3⟩ := HE.out
      have hlen : hexLen n = k + 1 := hexLen_eq hn (h1 ▸ hu16) h2 hk
      have hrow : (l'.set (64 - k) (hexI u0)).drop (64 - k) = (hexU n (k + 1)).map (fun b => ((b.toNat : Nat) : Int)) := by
        rw [set_drop _ _ _ (by omega), show 64 - k + 1 = 65 - k by omega, h3, ← hexTail_U, hexTail, ← h1, Nat.mod_eq_of_lt hu16]
      have hS : hexS n = hexU n (k + 1) := by rw [hexS, hlen]
      have hSl : (hexS n).length = k + 1 := by rw [hS, hexU_length]
      have hcv : (convert 75 9 (.slice (some ⟨w.heap.size, 64 - k, none⟩) (k + 1) (k + 1))).run Tryd.prog (w.alloc (.cells (bv (l'.set (65 - k - 1) (hexI u0))) 122)) = .ok (.string ⟨(hexS n).toArray⟩) (w.alloc (.cells (bv (l'.set (65 - k - 1) (hexI u0))) 122)) := by
        have h := run_convert_bytes_back (P := Tryd.prog) (w.alloc (.cells (bv (l'.set (65 - k - 1) (hexI u0))) 122)) 75 9 5 ⟨w.heap.size, 64 - k, none⟩ (k + 1) (hexS n) (by kernel_rfl) (by kernel_rfl) (by kernel_rfl) (fun j hj => by
          rw [Lib.add_plain, World.cell?_alloc_new, bv_get, if_pos (by simp [hl']; omega)]
          have hx : (l'.set (64 - k) (hexI u0))[64 - k + j]? = some (((hexS n)[j].toNat : Nat) : Int) := by
            rw [← List.getElem?_drop, hrow, ← hS]
            simp [hj]
          rw [show 65 - k - 1 = 64 - k by omega]
          simp [nth, List.getD, hx])
        rwa [hSl] at h
      clear hge HE h1 h2 h3 hlen hrow hS hSl hal hk3
      go_wp2
      go_ret2
      exact ⟨rfl, (Below.refl _ _).alloc (Nat.le_refl _) _⟩

set_option maxHeartbeats 1000000 in
theorem FormatInt16i (n : Nat) (hn : n < 65536) (w : World) (hg : w.cell? ⟨7, 15, none⟩ = some (.int .u8 4)) :
    Calls Tryd.prog 47 #[.int .i64 n, .int .i64 16] w fun e w' => e = .returned (.string ⟨(hexS n).toArray⟩) ∧ Below w.heap.size w w' := by
  have H := Lib.hid (formatBits16 n hn w hg)
  go_enter Tryd.func47, Tryd.ntmps47
  go_wp2_with (first | (go_at_call 63; refine H.out.mono ?_; rintro e w' ⟨rfl, hb⟩))
  go_ret
  exact ⟨rfl, hb⟩
theorem FormatInt16 (n : Nat) (hn : n < 65536) (w : World) (hg : w.cell? ⟨7, 15, none⟩ = some (.int .u8 4)) :
    Calls Tryd.prog 42 #[.int .i64 n, .int .i64 16] w fun e w' => e = .returned (.string ⟨(hexS n).toArray⟩) ∧ Below w.heap.size w w' := by
  have H := Lib.hid (FormatInt16i n hn w hg)
  go_enter Tryd.func42, Tryd.ntmps42
  go_wp2_with (first | (go_at_call 47; refine H.out.mono ?_; rintro e w' ⟨rfl, hb⟩))
  go_ret
  exact ⟨rfl, hb⟩

end Go.Proofs.YtodeiapaehlmfaaDoor
