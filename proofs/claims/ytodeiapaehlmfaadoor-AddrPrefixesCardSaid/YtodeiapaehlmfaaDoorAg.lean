import Derived.Test.YtodeiapaehlmfaaDoorAf
namespace Go.Proofs.YtodeiapaehlmfaaDoor
open Go Go.RowKit
attribute [local go_sem] rowAt_alloc_at rowAt_alloc_past rowAt_drew rowAt_drewN bv_size iv_size bv_one iv_one bv_set iv_set bv_get iv_get bv_elem iv_elem
attribute [local irreducible] wpQuiet
set_option linter.unusedSimpArgs false

/-! ### addr.joined -/
theorem info9 : (Tryd.prog.info? 9).map (fun i => (i.zero, i.size, i.bytes)) = some (some (.string ⟨#[]⟩), 1, 16) := by kernel_rfl
def hexB8 (n : Nat) : ByteArray := ⟨(hexS n).toArray⟩
def joinS (l : List Nat) : List UInt8 := Lib.join (l.map hexS) [58]
theorem hexS_length (n : Nat) : (hexS n).length ≤ 4 := by
  unfold hexS; rw [hexU_length]; unfold hexLen; split <;> (try split) <;> (try split) <;> omega

theorem joinS_bound (l : List Nat) : Lib.lens (l.map hexS) ≤ 4 * l.length := by
  induction l with
  | nil => simp [Lib.lens]
  | cons x r ih =>
    have := hexS_length x
    simp [Lib.lens] at ih ⊢
    omega

set_option maxHeartbeats 2000000 in
set_option maxRecDepth 100000 in
theorem joined_any (b o cap : Nat) (l : List Nat) (hl : l.length ≤ 8) (hb : ∀ x ∈ l, x < 65536) (hcap : l.length ≤ cap) (w : World) (hg : Glob w) (hc : ∀ j x, l[j]? = some x → w.cell? ⟨b, o + j, none⟩ = some (.int .i64 (x : Nat))) :
    Calls Tryd.prog 32 #[.slice (some ⟨b, o, none⟩) l.length cap] w fun e w' => e = .returned (.string ⟨(joinS l).toArray⟩) ∧ Below w.heap.size w w' := by
  obtain ⟨i0, hi⟩ := info_parts info9
  have HI := Lib.hid hi
  have HG := Lib.hid hg
  have HC := Lib.hid hc
  have HB := Lib.hid hb
  clear hi hg hc hb
  go_enter Tryd.func32, Tryd.ntmps32
  go_wp2
  go_loopw [3, 8] (fun v t wr => ∃ (k : Nat), k ≤ l.length ∧ t = .int .i64 k ∧ (∃ A c, v = .slice A k c) ∧ Hid (wr.ownsRow w.heap.size 9 1 v k (((l.take k).map hexB8).map Value.string)) ∧ Hid (Below w.heap.size w wr)) (fun _ t _ => l.length - (intOf t).toNat)
  case atStart => exact ⟨0, by omega, rfl, ⟨none, 0, rfl⟩, Lib.hid (World.ownsRow_nil _ _ _ _), Lib.hid (Below.refl _ _)⟩
  case round =>
    obtain ⟨k, hk, rfl, ⟨A, c, rfl⟩, HO, HB1⟩ := hrel
    by_cases hlt : k < l.length
    · obtain ⟨x, hx⟩ : ∃ x, l[k]? = some x := ⟨l[k], List.getElem?_eq_getElem hlt⟩
      have hbk := cell_lt (HC.out k x hx)
      have hck : wr.cell? ⟨b, o + k, none⟩ = some (.int .i64 (x : Nat)) := (HB1.out.cell hbk).trans (HC.out k x hx)
      have hx16 := HB.out x (List.mem_of_getElem? hx)
      have HF := Lib.hid (FormatInt16 x hx16 wr (HG.out.since HB1.out).tab)
      have HX := Lib.hid hx
      clear hx hbk
      go_wp2_with (first
        | (go_at_call 42; refine HF.out.mono ?_; rintro e w' ⟨rfl, hb⟩)
        | (at_builtin; refine wpList_append_lies _ rfl (.tmp 12) (.tmp 15) 79 rfl w.heap.size 9 i0 (.string ⟨#[]⟩) 1 16 Tryd.underlying79 HI.out.1 HI.out.2.1 HI.out.2.2.1 HI.out.2.2.2 rfl (by decide) (.slice A k c) k (((l.take k).map hexB8).map Value.string) rfl ((own_below HO.out hb).alloc _) ⟨w'.heap.size, 0, none⟩ 1 1 [.string ⟨(hexS x).toArray⟩] rfl rfl ?c1 ?c2 (by decide) ?c3 ?c4 ?c5 _ rfl ?_))
      case c1 =>
        intro j u hj
        match j, hj with
        | 0, hj => simp at hj; subst hj; simp [Addr.add]
      case c2 => intro u hu; simp at hu; subst hu; rfl
      case c3 => unfold maxLen; omega
      case c4 => omega
      case c5 => have := HB1.out.size; have := hb.size; simp; omega
      · intro g c w2 hown2 hgrow hat hlt2
        have hB2 : Below w.heap.size w w2 := by
          refine Below.grown ((below_call HB1.out hb).alloc ?_ _) hgrow ?_ ?_
          · have := HB1.out.size; have := hb.size; omega
          · have := HB1.out.size; have := hb.size; simp; omega
          · intro q hq
            exact (HO.out.lt q hq).1
        go_wp2
        go_roundw
        case rel =>
          refine ⟨k + 1, by omega, by go_num, ⟨_, _, rfl⟩, Lib.hid ?_, Lib.hid hB2⟩
          have e : l.take (k + 1) = l.take k ++ [x] := by
            rw [List.take_add_one, HX.out]; rfl
          rw [e]
          simpa [hexB8] using hown2
        case measure => simp [intOf]; omega
    · have hkk : k = l.length := by omega
      subst hkk
      rw [List.take_length] at HO
      rcases Nat.eq_zero_or_pos l.length with h0 | h0
      · have hn := List.length_eq_zero_iff.1 h0
        subst hn
        have HJ := Lib.hid (Tryd.strings_Join_none A c ⟨#[58]⟩ wr)
        clear HO HC HB HI
        go_wp2_with (go_at_call 43; refine HJ.out.mono ?_; rintro e w' ⟨rfl, rfl⟩)
        go_ret
        exact ⟨rfl, HB1.out⟩
      · obtain ⟨g, cp, hv, hbg, hgs⟩ := HO.out.form h0
        injection hv with hv1 hv2 hv3
        subst hv1
        subst hv3
        have hcells := HO.out.cells (g := g) rfl
        have hmap : (l.map hexB8).map (fun x => x.data.toList) = l.map hexS := by
          rw [List.map_map]; exact List.map_congr_left fun x _ => rfl
        have hJ := Tryd.strings_Join g 0 c (l.map hexB8) ⟨#[58]⟩ wr (fun j x hx => by
          rw [Nat.zero_add]
          have := hcells j (.string x) (by rw [List.getElem?_map, hx]; rfl)
          rwa [Lib.add_plain, Nat.zero_add] at this) hgs (by simp; omega) (by
            rcases HO.out.2 with ⟨h, _⟩ | ⟨g', cap', cur, hv, _, _, hnc, _⟩
            · cases h
            · injection hv with _ _ hv3
              subst hv3
              simpa using hnc) (by
            rw [hmap]
            rcases l with _ | ⟨x, r⟩
            · simp at h0
            · rw [List.map_cons, Lib.join_length]
              have := joinS_bound (x :: r)
              simp at hl
              simp at this ⊢
              omega)
        rw [hmap, List.length_map] at hJ
        have HJ := Lib.hid hJ
        clear HO HC HB HI hcells hmap hJ
        go_wp2_with (go_at_call 43; refine HJ.out.mono ?_; rintro e w' ⟨rfl, hb⟩)
        go_ret
        exact ⟨rfl, below_call HB1.out hb⟩

end Go.Proofs.YtodeiapaehlmfaaDoor
