import Derived.Test.YtodeiapaehlmfaaDoorAw
namespace Go.Proofs.YtodeiapaehlmfaaDoor
open Go Go.RowKit
attribute [local go_sem] rowAt_alloc_at rowAt_alloc_past rowAt_drew rowAt_drewN bv_size iv_size bv_one iv_one bv_set iv_set bv_get iv_get bv_elem iv_elem zlit16 zlit8 z16_length z8_length
attribute [local irreducible] wpQuiet
set_option linter.unusedSimpArgs false

/-! ### the document's text -/
def rstep (at_ n i : Nat) (x : Nat) (out : List UInt8) : List UInt8 :=
  if 1 < n ∧ at_ ≤ i ∧ i < at_ + n then (if i = at_ then out ++ [58, 58] else out)
  else (if 0 < out.length ∧ out.getLastD 58 ≠ 58 then out ++ [58] else out) ++ hexS x
def rtextTo (p : Nat × Nat) (N : List Nat) : Nat → List UInt8
  | 0 => []
  | i + 1 => rstep p.1 p.2 i (N.getD i 0) (rtextTo p N i)
def rtextS (l : List Int) : List UInt8 := rtextTo (rlook (groupsS l) 8) (natG l) 8

theorem rlook_succ (l : List Int) (i : Nat) : rlook l (i + 1) = if zerosAt l i > (rlook l i).2 then (i, zerosAt l i) else rlook l i := rfl
theorem rlook_zero (l : List Int) : rlook l 0 = (0, 1) := rfl
theorem rlook_le {l : List Int} (hl : l.length = 8) : ∀ i, i ≤ 8 → (rlook l i).1 + (rlook l i).2 ≤ 8 ∧ (rlook l i).1 ≤ 8
  | 0, _ => by rw [rlook_zero]; exact ⟨by decide, by decide⟩
  | i + 1, h => by
    have ih := rlook_le hl i (by omega)
    have hz := zerosAt_le l hl i
    rw [rlook_succ]
    split
    · simp only; omega
    · exact ih
attribute [local irreducible] zerosAt rlook
set_option maxHeartbeats 1000000 in
set_option maxRecDepth 100000 in
theorem rtext_any (l : List Int) (hl : l.length = 16) (hB : byt l) (w : World) : Calls Tryd.prog 13 #[.agg (bv l)] w fun e w' => e = .returned (.string ⟨(rtextS l).toArray⟩) ∧ Below w.heap.size w w' := by
  have hG := groupsS_length l
  have hNl := natG_length l
  have hN := @natG_get l hB
  have HGr := Lib.hid fun w => rgroups_any l hl hB w
  rw [rgS_eq hB] at HGr
  have HT : Hid (rtextS l = rtextTo (rlook (groupsS l) 8) (natG l) 8) := Lib.hid rfl
  have r0 := row1 w (bv l) 22
  generalize rtextS l = T at *
  generalize natG l = N at *
  generalize groupsS l = G at *
  clear hB
  go_enter Tryd.func13, Tryd.ntmps13
  go_wp2_with (first
    | (apply wpList_rowload Tryd.underlying22 rfl isz22; exact rfl; exact rfl; exact rfl; (with_reducible exact r0); exact (by simp [go_sem, *]); simp only [Act.put, List.setIfInBounds_toArray, List.set_cons_zero, List.set_cons_succ])
    | (go_at_call 12; refine (HGr.out _).mono ?_; rintro e w1 ⟨rfl, hb1⟩; have hb := below_call (below1 _ _) hb1)
    | (apply wpList_rowstore (vs := iv G) isz23; exact rfl; exact rfl; exact rfl; exact rfl; (with_reducible exact row1 _ _ _); exact (by simp [go_sem, *]); exact (by simp [go_sem, *]); exact (by simp [go_sem, *]); try simp only [Act.put, List.setIfInBounds_toArray, List.set_cons_zero, List.set_cons_succ]; try simp (disch := simp [go_sem]) only [setRow_alloc_at, setRow_alloc_past, setRow_drew]))
  have B1 := Lib.hid (below_new hb (.cells (iv G) 23))
  have q1 := row1 w1 (iv G) 23
  clear hb hb1
  generalize w1.alloc (.cells (iv G) 23) = W at *
  go_loop [4, 5, 6] (fun va vn vi => ∃ (i : Nat), va = .int .i64 ((rlook G i).1 : Nat) ∧ vn = .int .i64 ((rlook G i).2 : Nat) ∧ vi = .int .i64 i ∧ i ≤ 8) (fun _ _ vi => 8 - (intOf vi).toNat)
  case atStart => exact ⟨0, by rw [rlook_zero]; rfl, by rw [rlook_zero]; rfl, rfl, by omega⟩
  case round =>
    obtain ⟨i, rfl, rfl, rfl, hi⟩ := hrel
    have hle := rlook_le hG i hi
    by_cases hlt : i < 8
    · have hS := Lib.hid (rlook_succ G i)
      have hS2 : Hid (rlook G (i + 1) = if zerosAt G i > (rlook G i).2 then (i, zerosAt G i) else ((rlook G i).1, (rlook G i).2)) := hS
      clear hS
      have hS := hS2
      clear hS2
      generalize (rlook G i).1 = A at *
      generalize (rlook G i).2 = S at *
      go_wp2
      go_loop [7] (fun vk => ∃ j : Nat, vk = .int .i64 j ∧ i + j ≤ 8 ∧ Hid (∀ q, q < j → nth G (i + q) = 0)) (fun vk => 9 - (intOf vk).toNat)
      case atStart => exact ⟨0, rfl, by omega, Lib.hid (fun q h => absurd h (by omega))⟩
      case round =>
        obtain ⟨j, rfl, hj, HZ⟩ := hrel
        have i0 : (0 : Int) ≤ (i : Int) + j := by omega
        by_cases h8 : i + j = 8
        · have hz := zerosAt_eq j i G hG HZ.out hj (Or.inl h8)
          have hi8 : ¬ ((i : Int) + j < 8) := by omega
          rw [hz] at hS
          clear HZ
          by_cases hgt : j > S
          · have hS' := Lib.hid (hS.out.trans (if_pos hgt))
            clear hS
            go_wp2
            refine ⟨⟨i + 1, by rw [hS'.out], by rw [hS'.out], by go_num, by omega⟩, by simp [intOf]; omega⟩
          · have hS' := Lib.hid (hS.out.trans (if_neg hgt))
            clear hS
            go_wp2
            refine ⟨⟨i + 1, by rw [hS'.out], by rw [hS'.out], by go_num, by omega⟩, by simp [intOf]; omega⟩
        · have hck : W.cell? ⟨w1.heap.size, i + j, none⟩ = some (.int .i64 (nth G (i + j))) := by rw [cell_row q1, iv_get, if_pos (by omega)]
          have hi8 : (i : Int) + j < 8 := by omega
          by_cases hz0 : nth G (i + j) = 0
          · have HZ2 := Lib.hid (show ∀ q, q < j + 1 → nth G (i + q) = 0 from fun q hq => by
              rcases Nat.lt_or_ge q j with h | h
              · exact HZ.out q h
              · rw [show q = j by omega]; exact hz0)
            clear HZ
            go_wp2
            refine ⟨⟨j + 1, by go_num, by omega, HZ2⟩, by simp [intOf]; omega⟩
          · have hz := zerosAt_eq j i G hG HZ.out hj (Or.inr hz0)
            rw [hz] at hS
            clear HZ
            by_cases hgt : j > S
            · have hS' := Lib.hid (hS.out.trans (if_pos hgt))
              clear hS
              go_wp2
              refine ⟨⟨i + 1, by rw [hS'.out], by rw [hS'.out], by go_num, by omega⟩, by simp [intOf]; omega⟩
            · have hS' := Lib.hid (hS.out.trans (if_neg hgt))
              clear hS
              go_wp2
              refine ⟨⟨i + 1, by rw [hS'.out], by rw [hS'.out], by go_num, by omega⟩, by simp [intOf]; omega⟩
    · have hi8 : i = 8 := by omega
      subst hi8
      clear hle
      have hHex := Lib.hid fun (n : Nat) (h : n < 65536) w => hex_any 4 n (by omega) h w
      have hle := rlook_le hG 8 (by omega)
      generalize rlook G 8 = p at *
      obtain ⟨A, S⟩ := p
      simp only at hle ⊢
      go_wp2
      go_loopw [8, 9] (fun vo vi wr => ∃ (i : Nat) (out : List UInt8), vo = .string ⟨out.toArray⟩ ∧ vi = .int .i64 i ∧ i ≤ 8 ∧ out.length ≤ 5 * i + 2 * 8 ∧ Hid (out = rtextTo (A, S) N i) ∧ Hid (Below w.heap.size w wr) ∧ rowAt wr w1.heap.size = some (iv G)) (fun _ vi _ => 8 - (intOf vi).toNat)
      case atStart => exact ⟨0, [], rfl, rfl, by omega, by simp, Lib.hid rfl, B1, q1⟩
      case round =>
        obtain ⟨i, out, rfl, rfl, hi, hol, HE, HB, y⟩ := hrel
        by_cases hlt : i < 8
        · obtain ⟨x, hx⟩ : ∃ x, N[i]? = some x := ⟨N[i], List.getElem?_eq_getElem (by omega)⟩
          obtain ⟨hx1, hx2⟩ := hN hx
          have hck : wr.cell? ⟨w1.heap.size, i, none⟩ = some (.int .i64 (x : Nat)) := by rw [cell_row y, iv_get, if_pos (by omega), hx1]
          have HS : Hid (rtextTo (A, S) N (i + 1) = rstep A S i x out) := Lib.hid (by
            rw [rtextTo, ← HE.out]
            simp [List.getD, hx])
          clear HE hx hx1
          have hxl := hexS_length x
          have HX := Lib.hid (hHex.out x hx2)
          by_cases hskip : 1 < S ∧ A ≤ i ∧ i < A + S
          · obtain ⟨k1, k2, k3⟩ := hskip
            have HS1 := Lib.hid (HS.out.trans (if_pos ⟨k1, k2, k3⟩))
            by_cases hA : i = A
            · subst hA
              have HS2 := Lib.hid (HS1.out.trans (if_pos rfl))
              clear HS HS1 HX
              have ad : ∀ V, (Op.stringOp .add ⟨out.toArray⟩ ⟨#[58, 58]⟩).run Tryd.prog V = .ok (.string ⟨(out ++ [58, 58]).toArray⟩) V := fun V => run_string_add_lists V out [58, 58] (by omega) (by simp)
              go_wp2
              go_roundw
              case rel => exact ⟨i + 1, _, rfl, by go_num, by omega, by simp; omega, Lib.hid HS2.out.symm, HB, y⟩
              case measure => simp [intOf]; omega
            · have HS2 := Lib.hid (HS1.out.trans (if_neg hA))
              clear HS HS1 HX
              go_wp2
              go_roundw
              case rel => exact ⟨i + 1, _, rfl, by go_num, by omega, by omega, Lib.hid HS2.out.symm, HB, y⟩
              case measure => simp [intOf]; omega
          · have HS1 := Lib.hid (HS.out.trans (if_neg hskip))
            clear HS
            have h3 : ¬ (1 < S) ∨ (1 < S ∧ ¬ (A ≤ i)) ∨ (1 < S ∧ A ≤ i ∧ ¬ (i < A + S)) := by omega
            rcases Nat.eq_zero_or_pos out.length with h0 | hpos
            · have ho := List.length_eq_zero_iff.1 h0
              subst ho
              have HS2 := Lib.hid (HS1.out.trans (by rw [if_neg (by simp)]; rfl) : rtextTo (A, S) N (i + 1) = hexS x)
              clear HS1
              generalize hexS x = X at *
              rcases h3 with k1 | ⟨k1, k2⟩ | ⟨k1, k2, k3⟩
              all_goals
                go_wp2_with (go_at_call 33; refine (HX.out _).mono ?_; rintro e w5 ⟨rfl, hb5⟩)
                go_roundw
                case rel => exact ⟨i + 1, _, rfl, by go_num, by omega, by simp; omega, Lib.hid (by rw [HS2.out]; rfl), Lib.hid (below_call HB.out hb5), row_call hb5 y⟩
                case measure => simp [intOf]; omega
            · have hwo : wrap64 ((out.length : Int) - 1) = ((out.length - 1 : Nat) : Int) := by
                unfold wrap64
                omega
              have hgl : ∀ h, ((((ByteArray.mk out.toArray)[out.length - 1]'h).toNat : Nat) : Int) = (((out.getLastD 58).toNat : Nat) : Int) := fun h => by
                have : (ByteArray.mk out.toArray)[out.length - 1]'h = out.getLastD 58 := by
                  show out.toArray[out.length - 1]'(by simp; omega) = _
                  rw [List.getLastD_eq_getLast?, List.getLast?_eq_getElem?, List.getElem?_eq_getElem (by omega)]
                  simp
                rw [this]
              have hposi : (0 : Int) < out.length := by omega
              obtain ⟨c, hcd⟩ : ∃ c, out.getLastD 58 = c := ⟨_, rfl⟩
              rw [hcd] at hgl
              by_cases hc : c = 58
              · have hcb : (((c.toNat : Nat) : Int) != 58) = false := by rw [hc]; rfl
                have hc58 : out.getLastD 58 = 58 := hcd.trans hc
                clear hcd hc
                have HS2 : Hid (rtextTo (A, S) N (i + 1) = (out) ++ hexS x) := Lib.hid (HS1.out.trans (by rw [if_neg (fun h => h.2 hc58)]))
                have ad2 : ∀ V, (Op.stringOp .add ⟨(out).toArray⟩ ⟨(hexS x).toArray⟩).run Tryd.prog V = .ok (.string ⟨((out) ++ hexS x).toArray⟩) V := fun V => run_string_add_lists V (out) (hexS x) (by (try simp); omega) (by omega)
                clear HS1 hc58
                generalize hexS x = X at *
                rcases h3 with k1 | ⟨k1, k2⟩ | ⟨k1, k2, k3⟩
                all_goals
                  go_wp2_with (go_at_call 33; refine (HX.out _).mono ?_; rintro e w5 ⟨rfl, hb5⟩)
                  all_goals first
                    | (exfalso; omega)
                    | (refine ⟨⟨i + 1, (out) ++ X, (by first | rfl | (simp only [ByteArray.mk_append_mk, List.append_assoc]; done) | (simp [ByteArray.mk_append_mk]; done)), by go_num, by omega, by (try simp); omega, Lib.hid HS2.out.symm, Lib.hid (below_call HB.out hb5), row_call hb5 y⟩, by simp [intOf]; omega⟩)
                    | (exfalso; simp_all; done)
              · have hcb : (((c.toNat : Nat) : Int) != 58) = true := by
                  rw [bne_iff_ne]
                  exact fun h => hc (UInt8.toNat_inj.1 (by show c.toNat = 58; omega))
                have hc58 : ¬ (out.getLastD 58 = 58) := fun h => hc (hcd.symm.trans h)
                clear hcd hc
                have HS2 : Hid (rtextTo (A, S) N (i + 1) = (out ++ [58]) ++ hexS x) := Lib.hid (HS1.out.trans (by rw [if_pos ⟨hpos, hc58⟩]))
                have ad1 : ∀ V, (Op.stringOp .add ⟨out.toArray⟩ ⟨#[58]⟩).run Tryd.prog V = .ok (.string ⟨(out ++ [58]).toArray⟩) V := fun V => run_string_add_lists V out [58] (by omega) (by simp)
                have ad2 : ∀ V, (Op.stringOp .add ⟨(out ++ [58]).toArray⟩ ⟨(hexS x).toArray⟩).run Tryd.prog V = .ok (.string ⟨((out ++ [58]) ++ hexS x).toArray⟩) V := fun V => run_string_add_lists V (out ++ [58]) (hexS x) (by (try simp); omega) (by omega)
                clear HS1 hc58
                generalize hexS x = X at *
                rcases h3 with k1 | ⟨k1, k2⟩ | ⟨k1, k2, k3⟩
                all_goals
                  go_wp2_with (go_at_call 33; refine (HX.out _).mono ?_; rintro e w5 ⟨rfl, hb5⟩)
                  all_goals first
                    | (exfalso; omega)
                    | (refine ⟨⟨i + 1, (out ++ [58]) ++ X, (by first | rfl | (simp only [ByteArray.mk_append_mk, List.append_assoc]; done) | (simp [ByteArray.mk_append_mk]; done)), by go_num, by omega, by (try simp); omega, Lib.hid HS2.out.symm, Lib.hid (below_call HB.out hb5), row_call hb5 y⟩, by simp [intOf]; omega⟩)
                    | (exfalso; simp_all; done)
        · have h8 : i = 8 := by omega
          subst h8
          go_wp2
          go_ret
          exact ⟨by rw [HT.out, ← HE.out]; rfl, HB.out⟩

end Go.Proofs.YtodeiapaehlmfaaDoor
