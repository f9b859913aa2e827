import Derived.Test.YtodeiapaehlmfaaDoorAc
import Derived.Test.YtodeiapaehlmfaaDoorAa
import Derived.Lib.SmallJoins
namespace Go.Proofs.YtodeiapaehlmfaaDoor
open Go Go.RowKit
attribute [local irreducible] wpQuiet
set_option linter.unusedSimpArgs false

/-! ### what the package's variables hold -/
structure Glob (w : World) : Prop where
  top : ∃ m, w.cell? ⟨0, 0, none⟩ = some (.int .i64 m)
  err : ∃ ev, w.cell? ⟨2, 0, none⟩ = some ev ∧ (ev = .nilIface ∨ ∃ te pe, ev = .iface te pe)
  tab : w.cell? ⟨7, 15, none⟩ = some (.int .u8 4)
theorem cell_lt {w : World} {p : Addr} {v : Value} (h : w.cell? p = some v) : p.block < w.heap.size := by
  by_cases hp : p.block < w.heap.size
  · exact hp
  · have hn : w.heap[p.block]? = none := Array.getElem?_eq_none (by omega)
    simp [World.cell?, hn] at h
theorem Glob.since {w w' : World} (h : Glob w) (hb : Below w.heap.size w w') : Glob w' := by
  obtain ⟨⟨m, hm⟩, ⟨ev, he, ho⟩, ht⟩ := h
  exact ⟨⟨m, (hb.cell (cell_lt hm)).trans hm⟩, ⟨ev, (hb.cell (cell_lt he)).trans he, ho⟩, (hb.cell (cell_lt ht)).trans ht⟩
theorem Glob.new {w : World} (h : Glob w) (o : Obj) : Glob (w.alloc o) := h.since ((Below.refl _ _).alloc (Nat.le_refl _) o)
theorem Glob.drew {w : World} (h : Glob w) : Glob w.drew := h.since ((Below.refl _ _).drew)

/-! ### strconv.ParseUint at base 16, 16 bits -/
set_option maxHeartbeats 1000000 in
theorem PU_ok (t : ByteArray) (hne : t.size ≠ 0) (hmax : t.size ≤ 4) (n : Nat) (hn : hexAcc 0 t.data.toList = some n) (w : World) :
    Calls Tryd.prog 46 #[.string t, .int .i64 16, .int .i64 16] w fun e w' => e = .returned (.tuple #[.int .u64 n, .nilIface]) ∧ Below w.heap.size w w' := by
  have HP : Hid (∀ w, Calls Tryd.prog 58 #[.string t, .int .i64 16, .int .i64 16] w fun e w' => e = .returned (.tuple #[.int .u64 n, .nilIface]) ∧ w' = Lib.bytesWorld w 5 t) := Lib.hid fun w => by
    have := ParseUint16 t hne hmax w
    rwa [hn] at this
  clear hn
  go_enter Tryd.func46, Tryd.ntmps46
  go_wp2_with (first | (go_at_call 58; refine (HP.out _).mono ?_; rintro e w' ⟨rfl, rfl⟩))
  go_ret2
  exact ⟨rfl, Joins.below_bytesWorld _ _ _ _ (Nat.le_refl _)⟩

set_option maxHeartbeats 1000000 in
theorem PU_no (t : ByteArray) (hne : t.size ≠ 0) (hmax : t.size ≤ 4) (hn : hexAcc 0 t.data.toList = none) (w : World) (hg : Glob w) :
    Calls Tryd.prog 46 #[.string t, .int .i64 16, .int .i64 16] w fun e w' => ∃ N, e = .returned (.tuple #[.int .u64 0, .iface 117 (.pointer (some ⟨N, 0, none⟩))]) ∧ Below w.heap.size w w' := by
  have HP : Hid (∀ w, Calls Tryd.prog 58 #[.string t, .int .i64 16, .int .i64 16] w fun e w' => e = .returned (.tuple #[.int .u64 0, .iface 114 (.int .i64 2)]) ∧ w' = Lib.bytesWorld w 5 t) := Lib.hid fun w => by
    have := ParseUint16 t hne hmax w
    rwa [hn] at this
  have hb : Below w.heap.size w (Lib.bytesWorld w 5 t) := Joins.below_bytesWorld _ _ _ _ (Nat.le_refl _)
  obtain ⟨ev, he, ho⟩ := (hg.since hb).err
  have HT := Lib.hid (Tryd.strconv_toError_syntax ⟨#[80, 97, 114, 115, 101, 85, 105, 110, 116]⟩ t 16 16 ev _ (by omega) he ho)
  have HB := Lib.hid hb
  have HP' := Lib.hid (HP.out w)
  clear hn hg he ho hb HP
  generalize Lib.bytesWorld w 5 t = W at *
  go_enter Tryd.func46, Tryd.ntmps46
  go_wp2_with (first | (go_at_call 58; refine HP'.out.mono ?_; rintro e w' ⟨rfl, rfl⟩) | (go_at_call 59; refine HT.out.mono ?_; rintro e w' ⟨N, rfl, hN, hc, hb2⟩))
  go_ret2
  exact ⟨N, rfl, below_call HB.out hb2⟩

/-! ### addr.group -/
def groupS (l : List UInt8) : Option Nat := if l = [] ∨ 4 < l.length then none else hexAcc 0 l
def groupV : Option Nat → Value
  | some n => .tuple #[.int .i64 n, .bool true]
  | none => .tuple #[.int .i64 0, .bool false]
theorem hexAcc_bound : ∀ (l : List UInt8) (acc n : Nat), hexAcc acc l = some n → n < (acc + 1) * 16 ^ l.length
  | [], acc, n, h => by simp [hexAcc] at h; subst h; simp
  | c :: r, acc, n, h => by
    rw [hexAcc] at h
    split at h
    · rename_i hd
      have := hexAcc_bound r _ n h
      have h2 : (acc * 16 + (c.toNat - 48) + 1) * 16 ^ r.length ≤ (acc * 16 + 16) * 16 ^ r.length := Nat.mul_le_mul_right _ (by omega)
      simp only [List.length_cons, Nat.pow_succ]
      have h3 : (acc + 1) * (16 ^ r.length * 16) = (acc * 16 + 16) * 16 ^ r.length := by rw [Nat.mul_comm (16 ^ r.length) 16, ← Nat.mul_assoc, show (acc + 1) * 16 = acc * 16 + 16 by omega]
      omega
    · split at h
      · rename_i hd
        have := hexAcc_bound r _ n h
        have h2 : (acc * 16 + ((lowI c).toNat - 87) + 1) * 16 ^ r.length ≤ (acc * 16 + 16) * 16 ^ r.length := Nat.mul_le_mul_right _ (by omega)
        simp only [List.length_cons, Nat.pow_succ]
        have h3 : (acc + 1) * (16 ^ r.length * 16) = (acc * 16 + 16) * 16 ^ r.length := by rw [Nat.mul_comm (16 ^ r.length) 16, ← Nat.mul_assoc, show (acc + 1) * 16 = acc * 16 + 16 by omega]
        omega
      · cases h
theorem groupS_lt {l : List UInt8} {n : Nat} (h : groupS l = some n) : n < 65536 := by
  unfold groupS at h
  split at h
  · cases h
  · rename_i hl
    have := hexAcc_bound l 0 n h
    have h4 : 16 ^ l.length ≤ 16 ^ 4 := Nat.pow_le_pow_right (by decide) (by omega)
    omega

set_option maxHeartbeats 1000000 in
theorem group_any (t : ByteArray) (w : World) (hg : Glob w) :
    Calls Tryd.prog 41 #[.string t] w fun e w' => e = .returned (groupV (groupS t.data.toList)) ∧ Below w.heap.size w w' := by
  have hsz : t.data.toList.length = t.size := Lib.size_eq t
  by_cases hne : t.size = 0
  · have ht : t = ⟨#[]⟩ := by
      have : t.data.toList = [] := List.length_eq_zero_iff.1 (hsz.trans hne)
      rcases t with ⟨⟨l⟩⟩
      simp at this
      subst this
      rfl
    subst ht
    have HS := Lib.hid (show groupV (groupS (ByteArray.mk #[]).data.toList) = .tuple #[.int .i64 0, .bool false] from rfl)
    rw [HS.out]
    go_enter Tryd.func41, Tryd.ntmps41
    go_wp2
    go_ret2
    exact ⟨rfl, Below.refl _ _⟩
  · have hemp : t.toList.isEmpty = false := by
      rw [← decide_eq_emptyBytes]
      exact decide_eq_false (fun h => hne (by rw [h]; rfl))
    by_cases h4 : t.size ≤ 4
    · have hS : groupS t.data.toList = hexAcc 0 t.data.toList := by
        unfold groupS
        rw [if_neg]
        rintro (h | h)
        · rw [h] at hsz; simp at hsz; omega
        · omega
      rw [hS]
      have hb := fun n (h : hexAcc 0 t.data.toList = some n) => groupS_lt (hS.trans h)
      rcases hh : hexAcc 0 t.data.toList with _ | n
      · have HP := Lib.hid fun w hg => PU_no t hne h4 hh w hg
        have HG := Lib.hid hg
        clear hb hS hh hg
        go_enter Tryd.func41, Tryd.ntmps41
        go_wp2_with (go_at_call 46; refine (HP.out _ HG.out).mono ?_; rintro e w' ⟨N, rfl, hb⟩)
        refine wp_region_calm (Since _) (by kernel_rfl) (by kernel_rfl) (Since.drew _) ?_
        (refine wpQuiet_step (fun K hK => ?_); rw [if_pos (by rfl)]; apply quiet_val; (intro wq hwq; go_simp; (try go_ints); exact rfl); refine hK _ ?_; clear hK K; simp only [Act.put, List.setIfInBounds_toArray, List.set_cons_zero, List.set_cons_succ])
        (refine wpQuiet_step (fun K hK => ?_); rw [if_pos (by rfl)]; apply quiet_val; (intro wq hwq; go_simp; (try go_ints); exact rfl); refine hK _ ?_; clear hK K; simp only [Act.put, List.setIfInBounds_toArray, List.set_cons_zero, List.set_cons_succ])
        (refine wpQuiet_step (fun K hK => ?_); rw [if_pos (by rfl)]; apply quiet_val; (intro wq hwq; go_simp; (try go_ints); exact rfl); refine hK _ ?_; clear hK K; simp only [Act.put, List.setIfInBounds_toArray, List.set_cons_zero, List.set_cons_succ])
        (refine wpQuiet_step (fun K hK => ?_); rw [if_pos (by rfl)]; apply quiet_val; (intro wq hwq; go_simp; (try go_ints); exact rfl); refine hK _ ?_; clear hK K; simp only [Act.put, List.setIfInBounds_toArray, List.set_cons_zero, List.set_cons_succ])
        (refine wpQuiet_step (fun K hK => ?_); rw [if_pos (by rfl)]; apply quiet_val; (intro wq hwq; go_simp; (try go_ints); exact rfl); refine hK _ ?_; clear hK K; simp only [Act.put, List.setIfInBounds_toArray, List.set_cons_zero, List.set_cons_succ])
        (refine wpQuiet_step (fun K hK => ?_); rw [if_pos (by rfl)]; apply quiet_val; (intro wq hwq; go_simp; (try go_ints); exact rfl); refine hK _ ?_; clear hK K; simp only [Act.put, List.setIfInBounds_toArray, List.set_cons_zero, List.set_cons_succ])
        refine wpQuiet_nil ?_; intro wn hwn
        go_wp2
        go_ret2
        exact ⟨rfl, hwn.out hb⟩
      · have hn := hb n hh
        have HP := Lib.hid fun w => PU_ok t hne h4 n hh w
        clear hb hS hh hg
        go_enter Tryd.func41, Tryd.ntmps41
        go_wp2_with (go_at_call 46; refine (HP.out _).mono ?_; rintro e w' ⟨rfl, hb⟩)
        refine wp_region_calm (Since _) (by kernel_rfl) (by kernel_rfl) (Since.drew _) ?_
        (refine wpQuiet_step (fun K hK => ?_); rw [if_pos (by rfl)]; apply quiet_val; (intro wq hwq; go_simp; (try go_ints); exact rfl); refine hK _ ?_; clear hK K; simp only [Act.put, List.setIfInBounds_toArray, List.set_cons_zero, List.set_cons_succ])
        (refine wpQuiet_step (fun K hK => ?_); rw [if_pos (by rfl)]; apply quiet_val; (intro wq hwq; go_simp; (try go_ints); exact rfl); refine hK _ ?_; clear hK K; simp only [Act.put, List.setIfInBounds_toArray, List.set_cons_zero, List.set_cons_succ])
        (refine wpQuiet_step (fun K hK => ?_); rw [if_pos (by rfl)]; apply quiet_val; (intro wq hwq; go_simp; (try go_ints); exact rfl); refine hK _ ?_; clear hK K; simp only [Act.put, List.setIfInBounds_toArray, List.set_cons_zero, List.set_cons_succ])
        (refine wpQuiet_step (fun K hK => ?_); rw [if_pos (by rfl)]; apply quiet_val; (intro wq hwq; go_simp; (try go_ints); exact rfl); refine hK _ ?_; clear hK K; simp only [Act.put, List.setIfInBounds_toArray, List.set_cons_zero, List.set_cons_succ])
        (refine wpQuiet_step (fun K hK => ?_); rw [if_pos (by rfl)]; apply quiet_val; (intro wq hwq; go_simp; (try go_ints); exact rfl); refine hK _ ?_; clear hK K; simp only [Act.put, List.setIfInBounds_toArray, List.set_cons_zero, List.set_cons_succ])
        (refine wpQuiet_step (fun K hK => ?_); rw [if_pos (by rfl)]; apply quiet_val; (intro wq hwq; go_simp; (try go_ints); exact rfl); refine hK _ ?_; clear hK K; simp only [Act.put, List.setIfInBounds_toArray, List.set_cons_zero, List.set_cons_succ])
        refine wpQuiet_nil ?_; intro wn hwn
        go_wp2
        go_ret2
        exact ⟨rfl, hwn.out hb⟩
    · have HS := Lib.hid (show groupV (groupS t.data.toList) = .tuple #[.int .i64 0, .bool false] by
        unfold groupS
        rw [if_pos (Or.inr (by omega))]; rfl)
      rw [HS.out]
      have h5 : 4 < t.size := by omega
      clear HS h4 hsz hg
      go_enter Tryd.func41, Tryd.ntmps41
      go_wp2
      go_ret2
      exact ⟨rfl, Below.refl _ _⟩

end Go.Proofs.YtodeiapaehlmfaaDoor
