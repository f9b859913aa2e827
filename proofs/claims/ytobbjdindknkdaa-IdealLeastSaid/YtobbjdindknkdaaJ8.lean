/- A node's neighbours. -/
import Derived.Test.YtobbjdindknkdaaJ7
namespace Go.Proofs.Ytobbjdindknkdaa
open Go Go.RowKit
attribute [local irreducible] wpQuiet wpPure wpHold wpKeep wpQuietS
set_option linter.unusedSimpArgs false
set_option linter.unusedVariables false

theorem info_parts {P : Program} {t : TypeId} {z : Value} {s b : Nat} (h : (P.info? t).map (fun i => (i.zero, i.size, i.bytes)) = some (some z, s, b)) : ∃ i, P.info? t = some i ∧ i.zero = some z ∧ i.size = s ∧ i.bytes = b := by
  cases hi : P.info? t with
  | none => rw [hi] at h; cases h
  | some i =>
    rw [hi] at h
    simp only [Option.map_some, Option.some.injEq, Prod.mk.injEq] at h
    exact ⟨i, rfl, h.1, h.2.1, h.2.2⟩
theorem info3 : (Try.prog.info? 3).map (fun i => (i.zero, i.size, i.bytes)) = some (some (.int .i64 0), 1, 8) := by kernel_rfl
theorem own_alloc {w : World} {base n size : Nat} {e : TypeId} {v : Value} {xs : List Value} (h : w.ownsRow base e size v n xs) (o : Obj) : (w.alloc o).ownsRow base e size v n xs := own_below' (B := 0) h ((Below.refl _ _).alloc (Nat.le_refl _) o)
/-- whom a node hears -/
def nbTo (n : Int) (E : List Link) (i : Int) : Nat → List Int
  | 0 => []
  | k + 1 => nbTo n E i k ++ (if (costS n E i k).2 = 0 then [(k : Int)] else [])
def nbS (n : Int) (E : List Link) (i : Int) : List Int := nbTo n E i n.toNat
theorem nbTo_length (n : Int) (E : List Link) (i : Int) : ∀ k, (nbTo n E i k).length ≤ k
  | 0 => by simp [nbTo]
  | k + 1 => by have := nbTo_length n E i k; rw [nbTo]; split <;> simp <;> omega
set_option maxHeartbeats 1000000 in
theorem neighbors_any {w : World} {lb r : Nat} {n : Int} {E : List Link} (h : LinksAt w lb r n E) (hn : 0 ≤ n ∧ n ≤ 64) (i : Int) : Calls Try.prog 25 #[.pointer (some ⟨lb, 0, none⟩), .int .i64 i] w fun e w' =>
    ∃ A cap, e = .returned (.slice A (nbS n E i).length cap) ∧ w'.ownsRow w.heap.size 3 1 (.slice A (nbS n E i).length cap) (nbS n E i).length ((nbS n E i).map (Value.int .i64)) ∧ Below w.heap.size w w' := by
  obtain ⟨i0, hi, hz0, hz1, hz2⟩ := info_parts info3
  have HI := Lib.hid (And.intro hi (And.intro hz0 (And.intro hz1 hz2)))
  have HN := Lib.hid (nodes_any h)
  have HH := Lib.hid h
  obtain ⟨hn0, hn1⟩ := hn
  clear hi hz0 hz1 hz2 h
  go_enter Try.func25, Try.ntmps25
  go_wp2
  go_step3
  go_wp2
  go_step3
  go_wp2_with (go_at_call 24; with_reducible refine HN.out.mono ?_; rintro e w1 ⟨rfl, rfl⟩)
  go_loopw [5, 11] (fun v t wr => ∃ (k : Nat) (xs : List Int), (k : Int) ≤ n ∧ t = .int .i64 k ∧ (∃ A cap, v = .slice A xs.length cap) ∧ wr.ownsRow w.heap.size 3 1 v xs.length (xs.map (Value.int .i64)) ∧
       Hid (xs = nbTo n E i k) ∧ Hid (Below w.heap.size w wr)) (fun _ t _ => n.toNat - (intOf t).toNat)
  case atStart => exact ⟨0, [], by omega, rfl, ⟨none, 0, rfl⟩, World.ownsRow_nil _ _ _ _, Lib.hid rfl, Lib.hid (Below.refl _ _)⟩
  case round =>
    obtain ⟨k, xs, hk, rfl, ⟨A, cap, rfl⟩, hown, HE, HB⟩ := hrel
    by_cases hlt : (k : Int) < n
    · have HC := Lib.hid (Cost_any (HH.out.below HB.out) i k)
      have hl : xs.length ≤ k := by rw [HE.out]; exact nbTo_length n E i k
      by_cases hc : (costS n E i k).2 = 0
      · have HE2 : Hid (xs ++ [(k : Int)] = nbTo n E i (k + 1)) := Lib.hid (by rw [nbTo, if_pos hc, HE.out])
        rw [hc] at HC
        have HO := Lib.hid hown
        clear HE hown hc
        generalize (costS n E i k).1 = cc at *
        go_wp2_with (first
          | (go_at_call 40; with_reducible refine HC.out.mono ?_; rintro e w' ⟨rfl, hb⟩)
          | (at_builtin; refine wpList_append_lies _ rfl (.tmp 23) (.tmp 25) 33 rfl w.heap.size 3 i0 (.int .i64 0) 1 8 Try.underlying33 HI.out.1 HI.out.2.1 HI.out.2.2.1 HI.out.2.2.2 rfl (by decide) (.slice A xs.length cap) xs.length (xs.map (Value.int .i64)) rfl (own_alloc (own_below' (B := 0) HO.out hb) _) ⟨w'.heap.size, 0, none⟩ 1 1 [.int .i64 k] rfl rfl ?c1 ?c2 (by decide) ?c3 ?c4 ?c5 _ rfl ?_))
        case c1 =>
          intro j u hj
          match j, hj with
          | 0, hj => simp at hj; subst hj; simp [Addr.add]
        case c2 => intro u hu; simp at hu; subst hu; rfl
        case c3 => unfold maxLen; omega
        case c4 => omega
        case c5 => have := HB.out.size; have := hb.size; simp; omega
        · intro g c w2 hown2 hgrow hat hlt2
          have hB2 : Below w.heap.size w w2 := by
            refine Below.grown ((below_call HB.out hb).alloc ?_ _) hgrow ?_ ?_
            · have := HB.out.size; have := hb.size; omega
            · have := HB.out.size; have := hb.size; simp; omega
            · intro q hq
              exact (HO.out.lt q hq).1
          go_wp2
          go_roundw
          case rel =>
            refine ⟨k + 1, xs ++ [(k : Int)], by omega, by go_num, ⟨_, _, by simp; exact ⟨rfl, rfl⟩⟩, ?_, HE2, Lib.hid hB2⟩
            simpa using hown2
          case measure => simp [intOf]; omega
      · have HE2 : Hid (xs = nbTo n E i (k + 1)) := Lib.hid (by rw [nbTo, if_neg hc, HE.out, List.append_nil])
        have HO := Lib.hid hown
        have hc' : (costS n E i k).2 ≠ 0 := hc
        clear HE hown hc
        generalize costS n E i k = cc at *
        go_wp2_with (go_at_call 40; with_reducible refine HC.out.mono ?_; rintro e w' ⟨rfl, hb⟩)
        go_roundw
        case rel => exact ⟨k + 1, xs, by omega, by go_num, ⟨_, _, rfl⟩, own_below' (B := 0) HO.out hb, HE2, Lib.hid (below_call HB.out hb)⟩
        case measure => simp [intOf]; omega
    · have hkk : k = n.toNat := by omega
      have HE2 : Hid (nbS n E i = xs) := Lib.hid (by rw [nbS, ← hkk, HE.out])
      have HO := Lib.hid hown
      clear HE hown
      go_wp2
      go_ret
      rw [HE2.out]
      exact ⟨A, cap, rfl, HO.out, HB.out⟩

end Go.Proofs.Ytobbjdindknkdaa
