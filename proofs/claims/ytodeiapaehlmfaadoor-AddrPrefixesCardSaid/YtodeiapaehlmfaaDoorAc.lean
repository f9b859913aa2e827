import Derived.Test.YtodeiapaehlmfaaDoorShelf
import Derived.Lib.Strings
import Derived.Lib.Walk
import Derived.Lib.ConvBytes
import Derived.Lib.ParseIntBMem
import Derived.Lib.Hide
import Derived.Laws.Strings3
import Derived.Laws.Closers25
import Derived.Laws.Closers25b
import Derived.WalkKit
import Derived.BigCall
import Derived.BigGuard

namespace Go.Proofs.YtodeiapaehlmfaaDoor
open Go Go.RowKit
set_option linter.unusedSimpArgs false

/-! ### ParseUint at base 16, 16 bits, at most four bytes -/
def lowI (c : UInt8) : Int := bits .or .u8 (c.toNat : Int) 32

/-- the number that hex digits spell behind 'acc' -/
def hexAcc : Nat → List UInt8 → Option Nat
  | acc, [] => some acc
  | acc, c :: r =>
    if 48 ≤ c.toNat ∧ c.toNat ≤ 57 then hexAcc (acc * 16 + (c.toNat - 48)) r
    else if 97 ≤ lowI c ∧ lowI c ≤ 102 then hexAcc (acc * 16 + ((lowI c).toNat - 87)) r
    else none

/-- what the inner ParseUint gives -/
def hexTuple : Option Nat → Value
  | some n => .tuple #[.int .u64 n, .nilIface]
  | none => .tuple #[.int .u64 0, .iface 114 (.int .i64 2)]

theorem hexAcc_digit {acc : Nat} {c : UInt8} {r : List UInt8} (h : 48 ≤ c.toNat ∧ c.toNat ≤ 57) : hexAcc acc (c :: r) = hexAcc (acc * 16 + (c.toNat - 48)) r := by rw [hexAcc, if_pos h]
theorem hexAcc_letter {acc : Nat} {c : UInt8} {r : List UInt8} (h : ¬ (48 ≤ c.toNat ∧ c.toNat ≤ 57)) (h2 : 97 ≤ lowI c ∧ lowI c ≤ 102) : hexAcc acc (c :: r) = hexAcc (acc * 16 + ((lowI c).toNat - 87)) r := by rw [hexAcc, if_neg h, if_pos h2]
theorem hexAcc_none {acc : Nat} {c : UInt8} {r : List UInt8} (h : ¬ (48 ≤ c.toNat ∧ c.toNat ≤ 57)) (h2 : ¬ (97 ≤ lowI c ∧ lowI c ≤ 102)) : hexAcc acc (c :: r) = none := by rw [hexAcc, if_neg h, if_neg h2]

set_option maxHeartbeats 4000000 in
set_option maxRecDepth 100000 in
theorem ParseUint16 (t : ByteArray) (hne : t.size ≠ 0) (hmax : t.size ≤ 4) (w : World) :
    Calls Tryd.prog 58 #[.string t, .int .i64 16, .int .i64 16] w fun e w' => e = .returned (hexTuple (hexAcc 0 t.data.toList)) ∧ w' = Lib.bytesWorld w 5 t := by
  have hemp : t.toList.isEmpty = false := by
    rw [← decide_eq_emptyBytes]
    exact decide_eq_false (fun h => hne (by rw [h]; rfl))
  have hcv := Lib.run_convert_string_bytes (P := Tryd.prog) w 9 75 5 t (u := .string) (by kernel_rfl) (by kernel_rfl) (by kernel_rfl)
  have hB : ∀ j, j < t.size → (Lib.bytesWorld w 5 t).cell? ⟨w.heap.size, j, none⟩ = some (.int .u8 (t.data.toList.getD j 0).toNat) := fun j hj => Lib.bytesWorld_cell w 5 t j hj
  obtain ⟨W1, hW1⟩ : ∃ W1, W1 = Lib.bytesWorld w 5 t := ⟨_, rfl⟩
  rw [← hW1] at hcv hB ⊢
  clear hW1
  obtain ⟨bs, hL⟩ : ∃ bs, bs = t.data.toList := ⟨_, rfl⟩
  have hLn : bs.length = t.size := by rw [hL, Lib.size_eq]
  rw [← hL] at hB ⊢
  clear hL
  have hmv : IntKind.u64.wrap (IntKind.u64.wrap 65536 - 1) = 65535 := by
    rw [IntKind.wrap_u64, IntKind.wrap_u64]
    decide
  go_enter Tryd.func58, Tryd.ntmps58
  go_wp2
  go_loop [12, 13, 101] (fun vu vn vi => ∃ (k acc : Nat) (a : Int), vu = .bool false ∧ vn = .int .u64 a ∧ vi = .int .i64 k ∧ k ≤ t.size ∧ Hid (a = (acc : Int) ∧ acc < 16 ^ k ∧ hexAcc 0 bs = hexAcc acc (bs.drop k)))
    (fun _ _ vi => t.size - (intOf vi).toNat)
  case atStart => exact ⟨0, 0, 0, rfl, rfl, rfl, by omega, rfl, by decide, rfl⟩
  case round =>
    obtain ⟨k, acc, a, rfl, rfl, rfl, hk, hh⟩ := hrel
    obtain ⟨ha, hacc, hdec⟩ := hh.out
    clear hh
    by_cases hkn : k < t.size
    · have hacc4 : acc < 4096 := Nat.lt_of_lt_of_le hacc (Nat.pow_le_pow_right (by decide) (by omega : k ≤ 3))
      have a0 : 0 ≤ a := by omega
      have a1 : a < 4096 := by omega
      have hc := hB k hkn
      have hdrop : bs.drop k = bs[k]'(by omega) :: bs.drop (k + 1) := List.drop_eq_getElem_cons (by omega)
      have hget : bs.getD k 0 = bs[k]'(by omega) := by simp [List.getD, List.getElem?_eq_getElem (show k < bs.length by omega)]
      rw [hdrop] at hdec
      rw [hget] at hc
      generalize bs[k]'(by omega) = c at hc hdec
      have hc256 : c.toNat < 256 := c.toNat_lt
      clear hB hdrop hget
      by_cases hdig : 48 ≤ c.toNat ∧ c.toNat ≤ 57
      · have hF := hexAcc_digit (acc := acc) (r := bs.drop (k + 1)) hdig
        have HN : Hid (a * 16 + ((c.toNat : Int) - 48) = ((acc * 16 + (c.toNat - 48) : Nat) : Int) ∧ acc * 16 + (c.toNat - 48) < 16 ^ (k + 1) ∧ hexAcc 0 bs = hexAcc (acc * 16 + (c.toNat - 48)) (bs.drop (k + 1))) := Lib.hid ⟨by omega, by rw [Nat.pow_succ]; omega, hdec.trans hF⟩
        obtain ⟨hd0, hd1⟩ := hdig
        clear hacc hF hdec ha hacc4
        go_wp2
        refine ⟨⟨k + 1, acc * 16 + (c.toNat - 48), a * 16 + ((c.toNat : Int) - 48), rfl, (by first | rfl | (congr 1; omega)), (by first | rfl | (congr 1; omega)), by omega, HN⟩, by simp [intOf]; omega⟩
      · by_cases hlet : 97 ≤ lowI c ∧ lowI c ≤ 102
        · have hF := hexAcc_letter (acc := acc) (r := bs.drop (k + 1)) hdig hlet
          have HN : Hid (a * 16 + (lowI c - 87) = ((acc * 16 + ((lowI c).toNat - 87) : Nat) : Int) ∧ acc * 16 + ((lowI c).toNat - 87) < 16 ^ (k + 1) ∧ hexAcc 0 bs = hexAcc (acc * 16 + ((lowI c).toNat - 87)) (bs.drop (k + 1))) := Lib.hid ⟨by omega, by rw [Nat.pow_succ]; omega, hdec.trans hF⟩
          have h95 : c.toNat ≠ 95 := by
            intro h
            have : lowI c = 127 := by unfold lowI; rw [h]; decide
            omega
          have hlow : ∀ w, Calls Tryd.prog 71 #[.int .u8 (c.toNat : Int)] w fun e w' => e = .returned (.int .u8 (lowI c)) ∧ w' = w := fun w => Tryd.internal_strconv_lower _ w
          clear hacc hF hdec ha hacc4
          generalize lowI c = lo at *
          obtain ⟨hl0, hl1⟩ := hlet
          have HL := Lib.hid hlow; clear hlow
          go_wp2_with (go_at_call 71; refine (HL.out _).mono ?_; rintro e w' ⟨rfl, rfl⟩)
          all_goals refine ⟨⟨k + 1, acc * 16 + (lo.toNat - 87), a * 16 + (lo - 87), rfl, (by first | rfl | (congr 1; omega)), (by first | rfl | (congr 1; omega)), by omega, HN⟩, by simp [intOf]; omega⟩
        · have hF := hexAcc_none (acc := acc) (r := bs.drop (k + 1)) hdig hlet
          rw [hF] at hdec
          have hlow : ∀ w, Calls Tryd.prog 71 #[.int .u8 (c.toNat : Int)] w fun e w' => e = .returned (.int .u8 (lowI c)) ∧ w' = w := fun w => Tryd.internal_strconv_lower _ w
          have hv0 : 0 ≤ lowI c := bits_lo_u8 .or (c.toNat : Int) 32
          have hv1 : lowI c ≤ 255 := bits_hi_u8 .or (c.toNat : Int) 32
          by_cases h95 : c.toNat = 95
          · have h127 : lowI c = 127 := by unfold lowI; rw [h95]; decide
            rw [h127] at hlow
            rw [h95] at hlow hc
            clear hacc hF ha hacc4 hlet hv0 hv1 h127 h95 hdig
            have HL := Lib.hid hlow; clear hlow
            go_wp2_with (go_at_call 71; refine (HL.out _).mono ?_; rintro e w' ⟨rfl, rfl⟩)
            all_goals go_ret2
            all_goals first | exact ⟨rfl, rfl⟩ | exact ⟨by rw [hdec]; rfl, rfl⟩
          · clear hacc hF ha hacc4
            generalize lowI c = lo at *
            have HL := Lib.hid hlow; clear hlow
            go_wp2_with (go_at_call 71; refine (HL.out _).mono ?_; rintro e w' ⟨rfl, rfl⟩)
            all_goals go_ret2
            all_goals first | exact ⟨rfl, rfl⟩ | exact ⟨by rw [hdec]; rfl, rfl⟩
    · have hkk : k = t.size := by omega
      subst hkk
      have hF : hexAcc acc (bs.drop t.size) = some acc := by rw [List.drop_eq_nil_of_le (by omega)]; rfl
      rw [hF] at hdec
      have hacc4 : acc < 65536 := Nat.lt_of_lt_of_le hacc ((Nat.pow_le_pow_right (by decide) (by omega : t.size ≤ 4) : 16 ^ t.size ≤ 16 ^ 4))
      subst ha
      clear hacc hF
      go_wp2
      go_ret2
      first | exact ⟨rfl, rfl⟩ | exact ⟨by rw [hdec]; rfl, rfl⟩

end Go.Proofs.YtodeiapaehlmfaaDoor
