/- Two arrays of whole numbers, compared. -/
import Derived.Test.YtobbjdindknkdaaK5
namespace Go.Proofs.Ytobbjdindknkdaa
open Go Go.RowKit
set_option linter.unusedSimpArgs false
set_option linter.unusedVariables false

def eqRows (d : Nat) (e : TypeId) (xs ys : Array Value) : List Nat → Sem Bool
  | [] => pure true
  | i :: r => do
    let a ← part e xs (i * 1)
    let b ← part e ys (i * 1)
    let q ← Op.equalIn d e a b
    if (!q) = true then pure false else eqRows d e xs ys r

theorem run_equalIn_rows {P : Program} (w : World) (d : Nat) (t e : TypeId) (len : Nat) (xs ys : Array Value) (ht : P.underlying t = some (.array len e)) (hs : (P.info? e).map (·.size) = some 1) :
    (Op.equalIn (d + 1) t (.agg xs) (.agg ys)).run P w = (eqRows d e xs ys (List.range' 0 len)).run P w := by
  cases hq : P.info? e with
  | none => simp [hq] at hs
  | some i =>
    have hi : i.size = 1 := by simpa [hq] using hs
    simp only [Op.equalIn, Sem.run_bind, run_underlying ht, Result.andThen_ok, sizeOf, typeInfo, run_program, hq, Sem.run_pure, hi]
    rw [Std.Legacy.Range.forIn_eq_forIn_range']
    simp only [Std.Legacy.Range.size, Nat.sub_zero, Nat.add_sub_cancel, Nat.div_one]
    generalize List.range' 0 len = l
    clear ht
    induction l generalizing w with
    | nil => simp [eqRows]
    | cons j l ih =>
      simp only [List.forIn_cons, eqRows, Sem.run_bind, Sem.run_ite]
      generalize (part e xs (j * 1)).run P w = r1
      cases r1 with
      | ok a w1 =>
        simp only [Result.andThen_ok]
        generalize (part e ys (j * 1)).run P w1 = r2
        cases r2 with
        | ok b w2 =>
          simp only [Result.andThen_ok]
          generalize (Op.equalIn d e a b).run P w2 = r3
          cases r3 with
          | ok r w3 =>
            cases r
            · simp only [Result.andThen_ok, Bool.not_false, if_true, Sem.run_pure]
            · simp only [Result.andThen_ok, Bool.not_true, Bool.false_eq_true, if_false, Sem.run_pure]
              exact ih w3
          | halt x w3 => simp [Result.andThen]
        | halt x w2 => simp [Result.andThen]
      | halt x w1 => simp [Result.andThen]

theorem run_part_int {P : Program} (w : World) (e : TypeId) (k k' : IntKind) (he : P.underlying e = some (.int k')) (xs : List Int) (j : Nat) (hj : j < xs.length) :
    (part e (xs.map (Value.int k)).toArray (j * 1)).run P w = .ok (.int k (nth xs j)) w := by
  have h : (xs.map (Value.int k)).toArray[j]? = some (.int k (nth xs j)) := by simp [nth, hj]
  have ha : (isAgg e).run P w = .ok false w := by simp [isAgg, run_underlying he]
  unfold part
  simp only [Sem.run_bind, ha, Result.andThen_ok, Bool.false_eq_true, if_false, Nat.mul_one, h, Sem.run_pure]

theorem run_equalIn_ints {P : Program} (w : World) (d : Nat) (t e : TypeId) (len : Nat) (k k' : IntKind) (ht : P.underlying t = some (.array len e)) (he : P.underlying e = some (.int k')) (hs : (P.info? e).map (·.size) = some 1)
    (xs ys : List Int) (hx : xs.length = len) (hy : ys.length = len) :
    (Op.equalIn (d + 2) t (.agg (xs.map (Value.int k)).toArray) (.agg (ys.map (Value.int k)).toArray)).run P w = .ok (decide (xs = ys)) w := by
  rw [run_equalIn_rows w (d + 1) t e len _ _ ht hs]
  have key : ∀ (m j : Nat), j + m = len → (eqRows (d + 1) e (xs.map (Value.int k)).toArray (ys.map (Value.int k)).toArray (List.range' j m)).run P w = .ok (decide (xs.drop j = ys.drop j)) w := by
    intro m
    induction m with
    | zero =>
      intro j hj
      rw [List.drop_eq_nil_of_le (by omega), List.drop_eq_nil_of_le (by omega)]
      simp [eqRows]
    | succ m ih =>
      intro j hj
      have h1 : j < xs.length := by omega
      have h2 : j < ys.length := by omega
      have hih := ih (j + 1) (by omega)
      have hiff : (xs.drop j = ys.drop j) ↔ (xs[j] = ys[j] ∧ xs.drop (j + 1) = ys.drop (j + 1)) := by
        rw [List.drop_eq_getElem_cons h1, List.drop_eq_getElem_cons h2]
        exact List.cons_eq_cons
      simp only [List.range'_succ, eqRows, Sem.run_bind, run_part_int w e k k' he xs j h1, run_part_int w e k k' he ys j h2, Result.andThen_ok, run_equalIn_int w d e k k' _ _ he]
      have e1 : nth xs j = xs[j] := by simp [nth, h1]
      have e2 : nth ys j = ys[j] := by simp [nth, h2]
      rw [e1, e2]
      by_cases hq : xs[j] = ys[j]
      · simp only [hq, beq_self_eq_true, Bool.not_true, Bool.false_eq_true, if_false]
        rw [hih]
        simp [hiff, hq]
      · have hb : (xs[j] == ys[j]) = false := by simpa using hq
        simp [hb, hiff, hq]
  have := key len 0 (by omega)
  simpa [List.range_eq_range'] using this


end Go.Proofs.Ytobbjdindknkdaa
