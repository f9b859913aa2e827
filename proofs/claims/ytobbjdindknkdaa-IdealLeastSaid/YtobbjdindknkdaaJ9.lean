/- The rank by a neighbour. -/
import Derived.Test.YtobbjdindknkdaaJ8
namespace Go.Proofs.Ytobbjdindknkdaa
open Go Go.RowKit
attribute [local irreducible] wpQuiet wpPure wpHold wpKeep wpQuietS
set_option linter.unusedSimpArgs false
set_option linter.unusedVariables false

/-- costs as Set lets them in -/
def GoodE (E : List Link) : Prop := ∀ x ∈ E, 128 ≤ x.2.2 ∧ x.2.2 ≤ 65534
theorem idxE_mem (x y : Int) (E : List Link) (q : Nat × Int) (h : idxE x y E 0 = some q) : (x, y, q.2) ∈ E := by
  obtain ⟨j, c⟩ := q
  exact List.mem_of_getElem? (idxE_spec x y E 0 j c h).2
theorem costS_range {n : Int} {E : List Link} (hE : GoodE E) (a b : Int) (h : (costS n E a b).2 = 0) : 128 ≤ (costS n E a b).1 ∧ (costS n E a b).1 ≤ 65534 := by
  unfold costS costOf at *
  split at h
  · rename_i hb
    rw [if_pos hb]
    cases hx : idxE (min a b) (max a b) E 0 with
    | none => rw [hx] at h; simp at h
    | some q => exact hE _ (idxE_mem _ _ E q hx)
  · cases h
def byS (n : Int) (E : List Link) (p : Pol) (i r k : Int) : Int := if (costS n E i k).2 = 0 then rankS p.f p.s r (costS n E i k).1 p.l else 65535
structure GoodP (p : Pol) : Prop where
  f : 1 ≤ p.f ∧ p.f ≤ 4
  s : 0 ≤ p.s ∧ p.s ≤ 5
  l : 1 ≤ p.l ∧ p.l ≤ 65535
set_option maxHeartbeats 800000 in
theorem by_any {w : World} {lb r : Nat} {n : Int} {E : List Link} (h : LinksAt w lb r n E) (hE : GoodE E) (p : Pol) (hp : GoodP p) (i d k : Int) (hi : 0 ≤ i ∧ i < 64) (hd : 0 ≤ d ∧ d ≤ 65535) :
    Calls Try.prog 26 #[.pointer (some ⟨lb, 0, none⟩), .agg p.cells, .int .i64 i, .int .i64 d, .int .i64 k] w fun e w' => e = .returned (.int .i64 (byS n E p i d k)) ∧ Below w.heap.size w w' := by
  have r0 := row1 w p.cells 40
  have HC := Lib.hid (Cost_any (h.below (below1 w (.cells p.cells 40))) i k)
  obtain ⟨hf, hs, hl⟩ := hp
  have hlt : w.heap.size < (w.alloc (.cells p.cells 40)).heap.size := by simp
  by_cases hc : (costS n E i k).2 = 0
  · obtain ⟨hc0, hc1⟩ := costS_range hE i k hc
    have HE : Hid (byS n E p i d k = rankS p.f p.s d (costS n E i k).1 p.l) := Lib.hid (if_pos hc)
    rw [hc] at HC
    generalize (costS n E i k).1 = cc at *
    have HR := Lib.hid fun w => rank_ok p.f p.s i d cc p.l hf hs hi hd ⟨hc0, hc1⟩ hl w
    clear h hE hf hs hl hi hd hc hc0 hc1
    obtain ⟨c, l, ii, f, s, ma, mb, mc, md⟩ := p
    simp only [Pol.cells] at *
    go_enter Try.func26, Try.ntmps26
    go_wp2_with (first
      | (go_at_call 40; refine HC.out.mono ?_; rintro e w1 ⟨rfl, hb1⟩; have q1 := row_call hb1 r0; have p1 := (cell_row q1 1).trans rfl; have p3 := (cell_row q1 3).trans rfl; have p4 := (cell_row q1 4).trans rfl; simp only [List.getElem?_toArray, List.getElem?_cons_zero, List.getElem?_cons_succ] at p1 p3 p4)
      | (go_at_call 41; refine (HR.out _).mono ?_; rintro e w2 ⟨rfl, hb2⟩))
    go_ret
    exact ⟨by rw [HE.out]; rfl, below_call (below_call (below1 _ _) hb1) hb2⟩
  · have HE : Hid (byS n E p i d k = 65535) := Lib.hid (if_neg hc)
    generalize costS n E i k = cc at *
    clear h hE hf hs hl hi hd
    obtain ⟨c, l, ii, f, s, ma, mb, mc, md⟩ := p
    simp only [Pol.cells] at *
    go_enter Try.func26, Try.ntmps26
    go_wp2_with (go_at_call 40; refine HC.out.mono ?_; rintro e w1 ⟨rfl, hb1⟩)
    go_ret
    exact ⟨by rw [HE.out]; rfl, below_call (below1 _ _) hb1⟩

end Go.Proofs.Ytobbjdindknkdaa
