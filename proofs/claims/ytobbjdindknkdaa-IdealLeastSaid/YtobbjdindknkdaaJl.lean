/- The chapter's example. -/
import Derived.Test.YtobbjdindknkdaaJk
namespace Go.Proofs.Ytobbjdindknkdaa
open Go Go.RowKit
attribute [local irreducible] wpQuiet wpPure wpHold wpKeep wpQuietS
set_option linter.unusedSimpArgs false
set_option linter.unusedVariables false

def p0 : Pol := ⟨0, 256, 1792, 1, 0, 512, 32768, 192, 3⟩
def L0 : List Tri := [(0, 1, 128), (1, 2, 128)]
theorem madeN_two : madeN 2 = 3 := by decide +kernel
theorem known_ranks : ranksS 3 (madeE 3 [] (L0.take 30)) p0 = [256, 512, 768] := by decide +kernel
theorem known_tree : treeS 3 (madeE 3 [] (L0.take 30)) p0 = [-1, 0, 1] := by decide +kernel
theorem p0_good : GoodP p0 := ⟨by decide, by decide, by decide⟩
theorem p0_check : checkS p0 = 0 := by decide +kernel
theorem tri0 (w : World) : TriAt (w.alloc (.cells #[.int .i64 0, .int .i64 1, .int .i64 128, .int .i64 1, .int .i64 2, .int .i64 128] 70)) (some ⟨w.heap.size, 0, none⟩) L0 := by
  have r := row1 w #[.int .i64 0, .int .i64 1, .int .i64 128, .int .i64 1, .int .i64 2, .int .i64 128] 70
  intro i t ht
  match i, ht with
  | 0, ht =>
    obtain rfl : (0, 1, 128) = t := by simpa [L0] using ht
    exact ⟨_, 0, rfl, by simp, cell_row r 0, cell_row r 1, cell_row r 2⟩
  | 1, ht =>
    obtain rfl : (1, 2, 128) = t := by simpa [L0] using ht
    exact ⟨_, 0, rfl, by simp, cell_row r 3, cell_row r 4, cell_row r 5⟩
  | i + 2, ht => simp [L0] at ht
theorem same3 {w : World} {A B : Option Addr} {ca cb : Nat} {xs ys : List Int} (hx : IntsAt w A xs) (hy : IntsAt w B ys) (hxl : xs.length = 3) (hyl : ys.length = 3) (he : xs = ys) :
    Calls Try.prog 13 #[.slice A 3 ca, .slice B 3 cb] w fun e w' => e = .returned (.bool true) ∧ Below w.heap.size w w' := by
  have := same_any (ca := ca) (cb := cb) hx hy (by omega)
  rwa [hxl, hyl, decide_eq_true he] at this
set_option maxHeartbeats 2000000 in
theorem known_any (w : World) : Calls Try.prog 11 #[] w fun e w' => e = .returned (.bool true) ∧ Below w.heap.size w w' := by
  have HM := Lib.hid fun (w : World) (A : Option Addr) (cap : Nat) (h : TriAt w A L0) => made_any 2 (cap := cap) h (by decide)
  rw [madeN_two, show ((3 : Nat) : Int) = 3 from rfl] at HM
  have HD := Lib.hid fun w => default_zero w
  have HR := Lib.hid fun (w : World) (lb r : Nat) (E : List Link) (h : LinksAt w lb r 3 E) (hE : GoodE E) => ranks_any h hE (by decide) p0 p0_good p0_check
  have HT := Lib.hid fun (w : World) (lb r : Nat) (E : List Link) (h : LinksAt w lb r 3 E) (hE : GoodE E) => tree_any h hE (by decide) p0 p0_good p0_check
  have hp0 : p0.cells = #[.int .i64 0, .int .i64 256, .int .i64 1792, .int .i64 1, .int .i64 0, .int .i64 512, .int .i64 32768, .int .i64 192, .int .i64 3] := rfl
  simp only [hp0] at HR HT
  simp only [Pol.cells] at HD
  clear hp0
  go_enter Try.func11, Try.ntmps11
  go_wp2_with (first
    | (go_at_call 6; refine (HM.out _ (some ⟨w.heap.size, 0, none⟩) 2 (tri0 w)).mono ?_; rintro e w1 ⟨lb, r, db, c, rfl, hl, -, hm, hb, -, -⟩; have HL1 := Lib.hid hl; have HM1 := Lib.hid hm; have B1 := Lib.hid (below_call (below1 _ _) hb); clear hl hm hb)
    | (go_at_call 32; refine (HD.out _).mono ?_; rintro e w2 ⟨rfl, hb2⟩)
    | (go_at_call 7; refine (HR.out _ lb r _ ((HL1.out.below hb2).below (below1 w2 (.cells #[.int .i64 0, .int .i64 256, .int .i64 1792, .int .i64 1, .int .i64 0, .int .i64 512, .int .i64 32768, .int .i64 192, .int .i64 3] 40))) HM1.out.g).mono ?_; rintro e w3 ⟨gb, rfl, hrow, -, hb3, -⟩; have r3 := row_call hb3 (row1 w2 #[.int .i64 0, .int .i64 256, .int .i64 1792, .int .i64 1, .int .i64 0, .int .i64 512, .int .i64 32768, .int .i64 192, .int .i64 3] 40); have zc0 := (cell_row r3 0).trans rfl; have zc1 := (cell_row r3 1).trans rfl; have zc2 := (cell_row r3 2).trans rfl; have zc3 := (cell_row r3 3).trans rfl; have zc4 := (cell_row r3 4).trans rfl; have zc5 := (cell_row r3 5).trans rfl; have zc6 := (cell_row r3 6).trans rfl; have zc7 := (cell_row r3 7).trans rfl; have zc8 := (cell_row r3 8).trans rfl; simp only [List.getElem?_toArray, List.getElem?_cons_zero, List.getElem?_cons_succ] at zc0 zc1 zc2 zc3 zc4 zc5 zc6 zc7 zc8; have HL3 := Lib.hid (((HL1.out.below hb2).below (below1 w2 (.cells #[.int .i64 0, .int .i64 256, .int .i64 1792, .int .i64 1, .int .i64 0, .int .i64 512, .int .i64 32768, .int .i64 192, .int .i64 3] 40))).below hb3); have HI3 := Lib.hid (intsAt_row hrow); have B3 := Lib.hid (below_call (below_call (below_call B1.out hb2) (below1 w2 (.cells #[.int .i64 0, .int .i64 256, .int .i64 1792, .int .i64 1, .int .i64 0, .int .i64 512, .int .i64 32768, .int .i64 192, .int .i64 3] 40))) hb3); clear r3 hrow hb3)
    | (go_at_call 9; refine (HT.out _ lb r _ HL3.out HM1.out.g).mono ?_; rintro e w4 ⟨A4, cap4, rfl, hown4, hb4⟩; have HI4 := Lib.hid (HI3.out.below hb4); have HJ4 := Lib.hid (intsAt_own hown4); have B4 := Lib.hid (below_call B3.out hb4); have HS1 := Lib.hid (same3 (ca := 3) (cb := 3) (HI4.out.below (below1 w4 (.cells #[.int .i64 256, .int .i64 512, .int .i64 768] 3))) (intsAt_row (xs := [256, 512, 768]) (row1 w4 #[.int .i64 256, .int .i64 512, .int .i64 768] 3)) (by rw [known_ranks]; rfl) rfl known_ranks); clear hown4 hb4)
    | (go_at_call 13; (with_reducible refine HS1.out.mono ?_); rintro e w5 ⟨rfl, hb5⟩; have HJ5 := Lib.hid ((HJ4.out.below (below1 w4 (.cells #[.int .i64 256, .int .i64 512, .int .i64 768] 3))).below hb5); have B5 := Lib.hid (below_call (below_call B4.out (below1 _ _)) hb5); have HS2 := Lib.hid (same3 (ca := cap4) (cb := 3) (HJ5.out.below (below1 w5 (.cells #[.int .i64 (-1), .int .i64 0, .int .i64 1] 3))) (intsAt_row (xs := [-1, 0, 1]) (row1 w5 #[.int .i64 (-1), .int .i64 0, .int .i64 1] 3)) (by rw [known_tree]; rfl) rfl known_tree); clear hb5)
    | (go_at_call 13; (with_reducible refine HS2.out.mono ?_); rintro e w6 ⟨rfl, hb6⟩))
  go_ret
  exact ⟨rfl, below_call (below_call B5.out (below1 _ _)) hb6⟩

end Go.Proofs.Ytobbjdindknkdaa
