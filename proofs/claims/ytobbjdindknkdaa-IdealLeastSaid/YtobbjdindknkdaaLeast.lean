/- The statement IdealLeast is proved: for every number, every list of triples and every policy the law returns true and its arguments read afterwards as before. -/
import Derived.Test.YtobbjdindknkdaaJo
import Derived.Test.YtobbjdindknkdaaRows
import Derived.ProofKit
import Derived.OpenShut
import Derived.LaidMore
import Derived.LaidLaws
import Derived.Lay
import Derived.Deep.Slices
import Derived.Carry
import Derived.Handed
import Derived.JoinedOf
namespace Go.Proofs.Ytobbjdindknkdaa
open Go Go.ChangeShapes Go.WideShapes Go.ChangeAt Go.RowKit
set_option linter.unusedSimpArgs false
set_option linter.unusedVariables false

theorem laidOutI : laidOutB Try.prog = true := by kernel_rfl
section
variable {H : Type} {enc : TypeId × Value → H} {W : World} {base : Nat} {sp : Nat → Bool} {held : Bool}
theorem int_at {fuel : Nat} {cs : List Value} {k : Nat} {x : DataW H × List MemPlace} (h : DataW.trod enc Try.prog W base sp held fuel 3 ((cs.drop k).take 1) = some x) : ∃ z, cs[k]? = some (.int .i64 z) := by
  obtain ⟨z, hz, _, _⟩ := DataW.trod_int Try.underlying3 h
  refine ⟨z, ?_⟩
  have h0 : ((cs.drop k).take 1)[0]? = some (.int .i64 z) := by rw [hz]; rfl
  simpa using h0
set_option maxRecDepth 100000 in
theorem open_policy {fuel : Nat} {cs : List Value} {x : DataW H × List MemPlace} (h : DataW.trod enc Try.prog W base sp held fuel 28 cs = some x) : ∃ p : Pol, cs = p.cells.toList := by
  have c3 : Try.prog.cellsOf 3 = 1 := by kernel_rfl
  have c24 : Try.prog.cellsOf 24 = 2 := by kernel_rfl
  have c26 : Try.prog.cellsOf 26 = 4 := by kernel_rfl
  have c28 : Try.prog.cellsOf 28 = 9 := by kernel_rfl
  obtain ⟨xs, n, _, _, hl, hlen, hf⟩ := DataW.trod_struct Try.underlying28 h
  rw [c28] at hl
  have hsz : xs.length = 5 := hlen
  have f0 : DataW.trod enc Try.prog W base sp held n 3 ((cs.drop 0).take (Try.prog.cellsOf 3)) = xs[0]? := hf 0 _ rfl
  have f1 : DataW.trod enc Try.prog W base sp held n 3 ((cs.drop 1).take (Try.prog.cellsOf 3)) = xs[1]? := hf 1 _ rfl
  have f2 : DataW.trod enc Try.prog W base sp held n 3 ((cs.drop 2).take (Try.prog.cellsOf 3)) = xs[2]? := hf 2 _ rfl
  have f3 : DataW.trod enc Try.prog W base sp held n 24 ((cs.drop 3).take (Try.prog.cellsOf 24)) = xs[3]? := hf 3 _ rfl
  have f4 : DataW.trod enc Try.prog W base sp held n 26 ((cs.drop 5).take (Try.prog.cellsOf 26)) = xs[4]? := hf 4 _ rfl
  rw [c3, List.getElem?_eq_getElem (by omega)] at f0 f1 f2
  rw [c24, List.getElem?_eq_getElem (by omega)] at f3
  rw [c26, List.getElem?_eq_getElem (by omega)] at f4
  obtain ⟨z0, e0⟩ := int_at f0
  obtain ⟨z1, e1⟩ := int_at f1
  obtain ⟨z2, e2⟩ := int_at f2
  obtain ⟨ys, n3, _, _, _, hl3, g⟩ := DataW.trod_struct Try.underlying24 f3
  have hs3 : ys.length = 2 := hl3
  have g0 : DataW.trod enc Try.prog W base sp held n3 3 ((((cs.drop 3).take 2).drop 0).take (Try.prog.cellsOf 3)) = ys[0]? := g 0 _ rfl
  have g1 : DataW.trod enc Try.prog W base sp held n3 3 ((((cs.drop 3).take 2).drop 1).take (Try.prog.cellsOf 3)) = ys[1]? := g 1 _ rfl
  rw [c3, List.getElem?_eq_getElem (by omega)] at g0 g1
  obtain ⟨z3, e3⟩ := int_at g0
  obtain ⟨z4, e4⟩ := int_at g1
  obtain ⟨us, n4, _, _, _, hl4, u⟩ := DataW.trod_struct Try.underlying26 f4
  have hs4 : us.length = 4 := hl4
  have u0 : DataW.trod enc Try.prog W base sp held n4 3 ((((cs.drop 5).take 4).drop 0).take (Try.prog.cellsOf 3)) = us[0]? := u 0 _ rfl
  have u1 : DataW.trod enc Try.prog W base sp held n4 3 ((((cs.drop 5).take 4).drop 1).take (Try.prog.cellsOf 3)) = us[1]? := u 1 _ rfl
  have u2 : DataW.trod enc Try.prog W base sp held n4 3 ((((cs.drop 5).take 4).drop 2).take (Try.prog.cellsOf 3)) = us[2]? := u 2 _ rfl
  have u3 : DataW.trod enc Try.prog W base sp held n4 3 ((((cs.drop 5).take 4).drop 3).take (Try.prog.cellsOf 3)) = us[3]? := u 3 _ rfl
  rw [c3, List.getElem?_eq_getElem (by omega)] at u0 u1 u2 u3
  obtain ⟨z5, e5⟩ := int_at u0
  obtain ⟨z6, e6⟩ := int_at u1
  obtain ⟨z7, e7⟩ := int_at u2
  obtain ⟨z8, e8⟩ := int_at u3
  match cs, hl with
  | [a0, a1, a2, a3, a4, a5, a6, a7, a8], _ =>
    simp at e0 e1 e2 e3 e4 e5 e6 e7 e8
    subst e0 e1 e2 e3 e4 e5 e6 e7 e8
    exact ⟨⟨z0, z1, z2, z3, z4, z5, z6, z7, z8⟩, rfl⟩
set_option maxRecDepth 100000 in
theorem open_tri {fuel : Nat} {cs : List Value} {x : DataW H × List MemPlace} (h : DataW.trod enc Try.prog W base sp held fuel 70 cs = some x) : ∃ t : Tri, cs = [.int .i64 t.1, .int .i64 t.2.1, .int .i64 t.2.2] := by
  have c3 : Try.prog.cellsOf 3 = 1 := by kernel_rfl
  have c70 : Try.prog.cellsOf 70 = 3 := by kernel_rfl
  obtain ⟨xs, m, _, ex, hl, hn, hel⟩ := DataW.trod_array Try.underlying70 h
  rw [c70] at hl
  have g0 := hel 0 (by omega)
  have g1 := hel 1 (by omega)
  have g2 := hel 2 (by omega)
  rw [c3, List.getElem?_eq_getElem (by omega)] at g0 g1 g2
  obtain ⟨z0, e0⟩ := int_at g0
  obtain ⟨z1, e1⟩ := int_at g1
  obtain ⟨z2, e2⟩ := int_at g2
  match cs, hl with
  | [a0, a1, a2], _ =>
    simp at e0 e1 e2
    subst e0 e1 e2
    exact ⟨(z0, z1, z2), rfl⟩
theorem open_tris {fuel : Nat} {cs : List Value} {x : DataW H × List MemPlace} (h : DataW.trod enc Try.prog W base sp held fuel 22 cs = some x) : ∃ (A : Option Addr) (cap : Nat) (L : List Tri), cs = [.slice A L.length cap] ∧ L.length ≤ maxLen ∧ TriAt W A L := by
  have c70 : Try.prog.cellsOf 70 = 3 := by kernel_rfl
  rcases Go.Deep.open_slice Try.underlying22 h with h0 | ⟨a, len, cap, m, n, D, Pl, hcs, hb, hl, hm, hmm, hx, hi⟩
  · exact ⟨none, 0, [], h0.1, by simp, fun i t ht => by simp at ht⟩
  · have hlm : len ≤ m := by rw [hmm]; split <;> omega
    have hel : ∀ i, ∃ t : Tri, i < len → W.cell? (a.add (i * 3)) = some (.int .i64 t.1) ∧ W.cell? (a.add (i * 3 + 1)) = some (.int .i64 t.2.1) ∧ W.cell? (a.add (i * 3 + 2)) = some (.int .i64 t.2.2) := by
      intro i
      by_cases hlt : i < len
      · obtain ⟨cs', hc, ht'⟩ := hi i (by omega)
        rw [c70] at hc
        obtain ⟨_, hcl, hat⟩ := World.cells?_some hc
        obtain ⟨t, ht⟩ := open_tri ht'
        subst ht
        have h0 := hat 0 (by omega)
        have h1 := hat 1 (by omega)
        have h2 := hat 2 (by omega)
        rw [Go.Deep.add_add] at h0 h1 h2
        exact ⟨t, fun _ => ⟨h0, h1, h2⟩⟩
      · exact ⟨(0, 0, 0), fun h => absurd h hlt⟩
    obtain ⟨f, hf⟩ := Classical.axiomOfChoice hel
    have hL : ((List.range len).map f).length = len := by simp
    refine ⟨some a, cap, (List.range len).map f, by rw [hL]; exact hcs, by rw [hL]; omega, fun i t ht => ?_⟩
    have hil : i < len := by have := (List.getElem?_eq_some_iff.1 ht).1; omega
    rw [List.getElem?_map, List.getElem?_range hil] at ht
    obtain rfl := Option.some.inj ht
    obtain ⟨h0, h1, h2⟩ := hf i hil
    have hspot : a.spot = none := by
      have := World.cell?_spot (hf 0 (by omega)).1
      simpa [Addr.add] using this
    obtain ⟨b, o, s⟩ := a
    simp only at hspot
    subst hspot
    rw [plain_add] at h0 h1 h2
    refine ⟨b, o, rfl, cell_lt h0, h0, by rw [Nat.add_assoc]; exact h1, by rw [Nat.add_assoc]; exact h2⟩
end

set_option maxRecDepth 100000 in
theorem least_lifted (os : Os) (started : os.Started) (H : Type) (enc : TypeId × Value → H) :
    ReturnsInHanded {} Try.checked os 4 .any (Rows.idealLeastSpec.pre6 enc Try.prog Try.f4 Rows.idealLeastRow.domain false)
      (Rows.idealLeastSpec.post enc Try.prog Try.f4 false true false false) := by
  refine returnsInHanded_of_change (by kernel_rfl) started (by kernel_rfl) Try.func4
    (ChangeSpec.witness6 (enc := enc) (C := Try.checked) (os := os) false ⟨#[], #[.int .i64 0, .slice none 0 0, .agg (Pol.cells ⟨0, 0, 0, 0, 0, 0, 0, 0, 0⟩)], []⟩ 12 (by kernel_rfl) (by kernel_rfl) (by kernel_rfl) (by kernel_rfl)) ?_
  intro W base args ds gs before hval0 hW _ _
  have hval : ∀ (j : Nat) t v, Try.f4.params[j]? = some t → args[j]? = some v → Value.okWide Try.prog W .any base t v := hval0
  have hW' := hW
  obtain ⟨p, q, hA0, hV, rfl, _, _⟩ := hW
  have hA : DataW.TrodAll enc Try.prog W 0 (fun _ => true) true Try.f4.params.toList args.toList ds p := hA0
  rw [Try.params4] at hA hval
  obtain ⟨v0, v1, v2, d0, d1, d2, p0, p1, p2, rfl, rfl, rfl, h0, h1, h2⟩ := trodAll_three hA
  obtain ⟨rfl, rfl⟩ := trodVars_none hV
  clear hA0 hval0
  simp only [List.append_nil] at hW'
  have hlt : ∀ x ∈ p0 ++ p1 ++ p2, x.block < W.heap.size := fun x hx => by simpa using hW'.lt x hx
  have hlt0 : ∀ x ∈ p0, x.block < W.heap.size := fun x hx => hlt x (by simp [hx])
  have hlt1 : ∀ x ∈ p1, x.block < W.heap.size := fun x hx => hlt x (by simp [hx])
  have hlt2 : ∀ x ∈ p2, x.block < W.heap.size := fun x hx => hlt x (by simp [hx])
  obtain ⟨n, rfl, _⟩ := open_int Try.underlying3 (hval 0 3 v0 rfl rfl) h0
  obtain ⟨A, len, cap, rfl⟩ := okWide_slice Try.underlying22 (hval 1 22 v1 rfl rfl)
  have hok2 := hval 2 28 v2 rfl rfl
  simp only [Value.okWide, Try.underlying28] at hok2
  obtain ⟨cs2, rfl, _, _⟩ := hok2
  obtain ⟨pol, hpol⟩ : ∃ pol : Pol, Value.agg cs2 = .agg pol.cells := by
    obtain ⟨fuel, hf⟩ := h2
    obtain ⟨pol, hp⟩ := open_policy hf
    exact ⟨pol, by congr 1; exact Array.toList_inj.1 (by simpa [Value.cells] using hp)⟩
  obtain ⟨A', cap', L, hs, hl, hT⟩ : ∃ (A' : Option Addr) (cap' : Nat) (L : List Tri), Value.slice A len cap = .slice A' L.length cap' ∧ L.length ≤ maxLen ∧ TriAt W A' L := by
    obtain ⟨fuel, hf⟩ := h1
    obtain ⟨A', cap', L, h, hl, hT⟩ := open_tris hf
    exact ⟨A', cap', L, by simpa [Value.cells] using h, hl, hT⟩
  obtain rfl : cs2 = pol.cells := by simpa using hpol
  simp only [Value.slice.injEq] at hs
  obtain ⟨rfl, rfl, rfl⟩ := hs
  refine (law_least n hT hl pol).mono fun e W' ⟨he, hb⟩ => ?_
  subst he
  rw [List.append_assoc] at hW'
  exact ⟨_, rfl, _, _, _, [], p0 ++ (p1 ++ p2), [], hW', trodAll_mk1 (shut_bool Try.underlying4 _),
    trodAll_mk3 (Below.trod laidOutI (by kernel_rfl) (of_decide_eq_true (by kernel_rfl)) h0 hb hlt0) (Below.trod laidOutI (by kernel_rfl) (of_decide_eq_true (by kernel_rfl)) h1 hb hlt1) (Below.trod laidOutI (by kernel_rfl) (of_decide_eq_true (by kernel_rfl)) h2 hb hlt2), rfl, hb.frame _, fun h => by cases h⟩

theorem least_holds : Rows.IdealLeastSaid :=
  OpenClaim.holds_of_wide 4 Try.f4 rfl rfl rfl rfl rfl rfl rfl ⟨rfl, rfl, rfl, rfl, rfl⟩ rfl rfl rfl rfl rfl (by kernel_rfl) Try.func4 (by kernel_rfl)
    (of_decide_eq_true (by kernel_rfl)) (by unfold Func.isWrapper; first | (rw [if_pos (by decide +kernel)]; kernel_rfl) | (rw [if_neg (by decide +kernel)]; exact ⟨rfl, rfl⟩))
    (fun os started H enc _ => least_lifted os started H enc)
#print axioms least_holds

end Go.Proofs.Ytobbjdindknkdaa
