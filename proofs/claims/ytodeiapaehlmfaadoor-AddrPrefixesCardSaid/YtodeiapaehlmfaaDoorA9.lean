import Derived.Test.YtodeiapaehlmfaaDoorA8
import Derived.Laws.BitsAllLaws
import Derived.Laws.BitsLemmas

namespace Go.Proofs.YtodeiapaehlmfaaDoor
open Go Go.RowKit
attribute [local go_sem] rowAt_alloc_at rowAt_alloc_past rowAt_drew rowAt_drewN bv_size iv_size bv_one iv_one bv_set iv_set bv_get iv_get bv_elem iv_elem zlit16 zlit8 z16_length z8_length eq25 eq22 eq23 pv_size pv_one cutS_length zplit
attribute [local irreducible] wpQuiet
set_option linter.unusedSimpArgs false

theorem orG_eq {a b : Int} (ha : 0 ≤ a ∧ a ≤ 255) (hb : 0 ≤ b ∧ b ≤ 255) : orG a b = a * 256 + b := by
  obtain ⟨x, rfl⟩ : ∃ x : Nat, a = x := ⟨a.toNat, by omega⟩
  obtain ⟨y, rfl⟩ : ∃ y : Nat, b = y := ⟨b.toNat, by omega⟩
  have e1 : ((x : Int) * 256) = ((x * 256 : Nat) : Int) := by omega
  have t : ∀ n : Nat, n < 100000 → (BitVec.ofInt 64 (n : Int)).toNat = n := fun n hn => by
    rw [BitVec.ofInt_natCast, BitVec.toNat_ofNat]; exact Nat.mod_eq_of_lt (by omega)
  unfold orG
  rw [e1]
  show IntKind.i64.wrap ((BitVec.ofInt 64 ((x * 256 : Nat) : Int) ||| BitVec.ofInt 64 (y : Int)).toNat : Int) = _
  rw [BitVec.toNat_or, t _ (by omega), t _ (by omega)]
  have e2 : x * 256 ||| y = x * 256 + y := by
    have := Nat.two_pow_add_eq_or_of_lt (i := 8) (b := y) (by omega) x
    rw [show 2 ^ 8 = 256 from rfl, Nat.mul_comm 256 x] at this
    exact this.symm
  rw [e2]
  rw [IntWalk.i64_in _ (by omega)]
  omega
theorem groups_bound {l : List Int} (h : byt l) (k : Nat) : 0 ≤ nth (groupsS l) k ∧ nth (groupsS l) k ≤ 65535 := by
  by_cases hk : k < 8
  · unfold groupsS groupsTo
    rw [nth_tab _ hk, if_pos hk, orG_eq (h _) (h _)]
    have := h (2 * k)
    have := h (2 * k + 1)
    omega
  · rw [nth_none (by rw [groupsS_length]; omega)]; omega

theorem isz76 : (Tryd.prog.info? 76).map (·.size) = some 4 := by kernel_rfl
theorem isz77 : (Tryd.prog.info? 77).map (·.size) = some 3 := by kernel_rfl
theorem eq76 (w : World) (d : Nat) (x y : List Int) (hx : x.length = 4) (hy : y.length = 4) : (Op.equalIn (d + 2) 76 (.agg (iv x)) (.agg (iv y))).run Tryd.prog w = .ok (decide (x = y)) w :=
  run_equalIn_ints w d 76 3 4 .i64 .i64 Tryd.underlying76 Tryd.underlying3 (by kernel_rfl) x y hx hy
theorem eq77 (w : World) (d : Nat) (x y : List Int) (hx : x.length = 3) (hy : y.length = 3) : (Op.equalIn (d + 2) 77 (.agg (iv x)) (.agg (iv y))).run Tryd.prog w = .ok (decide (x = y)) w :=
  run_equalIn_ints w d 77 3 3 .i64 .i64 Tryd.underlying77 Tryd.underlying3 (by kernel_rfl) x y hx hy
def z4 : List Int := [0, 0, 0, 0]
def z3 : List Int := [0, 0, 0]
def b3 : List Int := [0, 0, 1]
theorem z4_length : z4.length = 4 := rfl
theorem z3_length : z3.length = 3 := rfl
theorem b3_length : b3.length = 3 := rfl
theorem zlit4 : #[Value.int .i64 0, Value.int .i64 0, Value.int .i64 0, Value.int .i64 0] = iv z4 := rfl
theorem zlit3 : #[Value.int .i64 0, Value.int .i64 0, Value.int .i64 0] = iv z3 := rfl
theorem blit3 : ((z3.set 0 0).set 1 0).set 2 1 = b3 := rfl
attribute [local go_sem] eq76 eq77 zlit4 zlit3 blit3 z4_length z3_length b3_length
theorem iv_part (g : List Int) (off n : Nat) : ∀ j v, (iv ((g.drop off).take n))[j]? = some v → (iv g)[off + j]? = some v := by
  intro j v h
  have hj : j < n := by
    have := (Array.getElem?_eq_some_iff.1 h).1
    simp [iv] at this
    omega
  rw [← h]
  simp [iv, List.getElem?_take, hj]

theorem run_arrayAt {P : Program} (w : World) (t e : TypeId) (len : Nat) (hu : P.underlying t = some (.array len e)) (A : Option Addr) (n c : Nat) (h : len ≤ n) : (Instr.arrayAt t (.slice A n c)).run P w = .ok (.pointer A) w := by
  simp [Instr.arrayAt, run_underlying hu, Nat.not_lt.2 h]
theorem at76 (w : World) (A : Option Addr) (n c : Nat) (h : 4 ≤ n) : (Instr.arrayAt 76 (.slice A n c)).run Tryd.prog w = .ok (.pointer A) w := run_arrayAt w 76 3 4 Tryd.underlying76 A n c h
theorem at77 (w : World) (A : Option Addr) (n c : Nat) (h : 3 ≤ n) : (Instr.arrayAt 77 (.slice A n c)).run Tryd.prog w = .ok (.pointer A) w := run_arrayAt w 77 3 3 Tryd.underlying77 A n c h
attribute [local go_sem] at76 at77
def fr4 (g : List Int) : List Int := g.take 4
def bk3 (g : List Int) : List Int := (g.drop 4).take 3
theorem fr4_length {g : List Int} (h : g.length = 8) : (fr4 g).length = 4 := by simp [fr4, h]
theorem bk3_length {g : List Int} (h : g.length = 8) : (bk3 g).length = 3 := by simp [bk3, h]
theorem fr4_part (g : List Int) : ∀ j v, (iv (fr4 g))[j]? = some v → (iv g)[0 + j]? = some v := iv_part g 0 4
theorem bk3_part (g : List Int) : ∀ j v, (iv (bk3 g))[j]? = some v → (iv g)[4 + j]? = some v := iv_part g 4 3
theorem row3a (w : World) (C : Array Value) (t : TypeId) (a b : Obj) : rowAt (((w.alloc (.cells C t)).alloc a).alloc b) w.heap.size = some C := row_alloc (row2a w C t a) b
theorem row3b (w : World) (C : Array Value) (t : TypeId) (a b : Obj) : rowAt (((w.alloc a).alloc (.cells C t)).alloc b) (w.heap.size + 1) = some C := row_alloc (row2b w C t a) b
theorem row3c (w : World) (C : Array Value) (t : TypeId) (a b : Obj) : rowAt (((w.alloc a).alloc b).alloc (.cells C t)) (w.heap.size + 2) = some C := rowAt_alloc_at C t _ (by simp)
def nodeS (l : List Int) : Int × Int :=
  if fr4 (groupsS l) = z4 ∨ bk3 (groupsS l) ≠ b3 ∨ ¬ (0 ≤ nth (groupsS l) 7 - 1 ∧ nth (groupsS l) 7 - 1 < 64) then (0, 8) else (nth (groupsS l) 7 - 1, 0)
set_option maxRecDepth 100000 in
set_option maxHeartbeats 400000 in
theorem Node_any (l : List Int) (hl : l.length = 16) (hB : byt l) (w : World) : Calls Tryd.prog 21 #[.agg (bv l)] w fun e w' => e = .returned (.tuple #[.int .i64 (nodeS l).1, .int .i64 (nodeS l).2]) ∧ Below w.heap.size w w' := by
  have r0 := row1 w (bv l) 25
  have hg := groupsS_length l
  have hG := Lib.hid (groups_any l hl hB)
  obtain ⟨b0, b1⟩ := groups_bound hB 7
  have HN : Hid (nodeS l = if fr4 (groupsS l) = z4 ∨ bk3 (groupsS l) ≠ b3 ∨ ¬ (0 ≤ nth (groupsS l) 7 - 1 ∧ nth (groupsS l) 7 - 1 < 64) then (0, 8) else (nth (groupsS l) 7 - 1, 0)) := Lib.hid rfl
  generalize nodeS l = r at *
  generalize groupsS l = g at *
  have f4 := fr4_length hg
  have f3 := bk3_length hg
  by_cases h1 : fr4 g = z4
  · have e76 : ∀ W, (Op.equalIn 10000 76 (.agg (iv (fr4 g))) (.agg (iv z4))).run Tryd.prog W = .ok true W := fun W => by rw [eq76 W 9998 _ _ f4 rfl, decide_eq_true h1]
    have H1 := Lib.hid h1; clear h1
    have hM := Lib.hid (node_any 0)
    go_enter Tryd.func21, Tryd.ntmps21
    go_wp2_with (first | (apply wpList_rowload Tryd.underlying25 rfl isz25; exact rfl; exact rfl; exact rfl; (with_reducible exact r0); exact (by simp [go_sem, *]); simp only [Act.put, List.setIfInBounds_toArray, List.set_cons_zero, List.set_cons_succ]) | (go_at_call 8; refine (hG.out _).mono ?_; rintro e1 w1 ⟨rfl, hb1⟩; have hb := below_call (below1 _ _) hb1) | (apply wpList_rowstore (vs := iv g) isz23; exact rfl; exact rfl; exact rfl; exact rfl; (with_reducible exact row1 _ _ _); exact (by simp [go_sem, *]); exact (by simp [go_sem, *]); exact (by simp [go_sem, *]); try simp only [Act.put, List.setIfInBounds_toArray, List.set_cons_zero, List.set_cons_succ]; try simp (disch := simp [go_sem]) only [setRow_alloc_at, setRow_alloc_past, setRow_drew]) | (apply wpList_subload (cs := iv (fr4 g)) Tryd.underlying76 rfl isz76; exact rfl; exact rfl; exact rfl; (with_reducible exact row1 _ _ _); exact fr4_part g; exact (by simp [go_sem, *]); simp only [Act.put, List.setIfInBounds_toArray, List.set_cons_zero, List.set_cons_succ]) | (apply wpList_rowstore (vs := iv (fr4 g)) isz76; exact rfl; exact rfl; exact rfl; exact rfl; (with_reducible exact row2b _ _ _ _); exact (by simp [go_sem, *]); exact (by simp [go_sem, *]); exact (by simp [go_sem, *]); try simp only [Act.put, List.setIfInBounds_toArray, List.set_cons_zero, List.set_cons_succ]; try simp (disch := simp [go_sem]) only [setRow_alloc_at, setRow_alloc_past, setRow_drew]) | (apply wpList_subload (cs := iv (bk3 g)) Tryd.underlying77 rfl isz77; exact rfl; exact rfl; exact rfl; (with_reducible exact row2a _ _ _ _); exact bk3_part g; exact (by simp [go_sem, *]); simp only [Act.put, List.setIfInBounds_toArray, List.set_cons_zero, List.set_cons_succ]) | (apply wpList_rowstore (vs := iv (bk3 g)) isz77; exact rfl; exact rfl; exact rfl; exact rfl; (with_reducible exact row3c _ _ _ _ _); exact (by simp [go_sem, *]); exact (by simp [go_sem, *]); exact (by simp [go_sem, *]); try simp only [Act.put, List.setIfInBounds_toArray, List.set_cons_zero, List.set_cons_succ]; try simp (disch := simp [go_sem]) only [setRow_alloc_at, setRow_alloc_past, setRow_drew]) | (apply wpList_rowload Tryd.underlying76 rfl isz76; exact rfl; exact rfl; exact rfl; (with_reducible exact row3b _ _ _ _ _); exact (by simp [go_sem, *]); simp only [Act.put, List.setIfInBounds_toArray, List.set_cons_zero, List.set_cons_succ]) | (apply wpList_rowload Tryd.underlying77 rfl isz77; exact rfl; exact rfl; exact rfl; (with_reducible exact row3c _ _ _ _ _); exact (by simp [go_sem, *]); simp only [Act.put, List.setIfInBounds_toArray, List.set_cons_zero, List.set_cons_succ]) | (go_at_call 37; refine (hM.out _).mono ?_; rintro e2 w2 ⟨rfl, hb2⟩))
    go_ret2
    exact ⟨by rw [HN.out, if_pos (.inl H1.out)]; rfl, below_new (below_new (below_new hb _) _) _⟩
  · have e76 : ∀ W, (Op.equalIn 10000 76 (.agg (iv (fr4 g))) (.agg (iv z4))).run Tryd.prog W = .ok false W := fun W => by rw [eq76 W 9998 _ _ f4 rfl, decide_eq_false h1]
    have H1 := Lib.hid h1; clear h1
    by_cases h2 : bk3 g = b3
    · have e77 : ∀ W, (Op.equalIn 10000 77 (.agg (iv (bk3 g))) (.agg (iv b3))).run Tryd.prog W = .ok true W := fun W => by rw [eq77 W 9998 _ _ f3 rfl, decide_eq_true h2]
      have H2 := Lib.hid h2; clear h2
      by_cases h3 : 0 ≤ nth g 7 - 1 ∧ nth g 7 - 1 < 64
      · have hM := Lib.hid (node_yes _ h3)
        have H3 := Lib.hid h3; clear h3
        go_enter Tryd.func21, Tryd.ntmps21
        go_wp2_with (first | (apply wpList_rowload Tryd.underlying25 rfl isz25; exact rfl; exact rfl; exact rfl; (with_reducible exact r0); exact (by simp [go_sem, *]); simp only [Act.put, List.setIfInBounds_toArray, List.set_cons_zero, List.set_cons_succ]) | (go_at_call 8; refine (hG.out _).mono ?_; rintro e1 w1 ⟨rfl, hb1⟩; have hb := below_call (below1 _ _) hb1) | (apply wpList_rowstore (vs := iv g) isz23; exact rfl; exact rfl; exact rfl; exact rfl; (with_reducible exact row1 _ _ _); exact (by simp [go_sem, *]); exact (by simp [go_sem, *]); exact (by simp [go_sem, *]); try simp only [Act.put, List.setIfInBounds_toArray, List.set_cons_zero, List.set_cons_succ]; try simp (disch := simp [go_sem]) only [setRow_alloc_at, setRow_alloc_past, setRow_drew]) | (apply wpList_subload (cs := iv (fr4 g)) Tryd.underlying76 rfl isz76; exact rfl; exact rfl; exact rfl; (with_reducible exact row1 _ _ _); exact fr4_part g; exact (by simp [go_sem, *]); simp only [Act.put, List.setIfInBounds_toArray, List.set_cons_zero, List.set_cons_succ]) | (apply wpList_rowstore (vs := iv (fr4 g)) isz76; exact rfl; exact rfl; exact rfl; exact rfl; (with_reducible exact row2b _ _ _ _); exact (by simp [go_sem, *]); exact (by simp [go_sem, *]); exact (by simp [go_sem, *]); try simp only [Act.put, List.setIfInBounds_toArray, List.set_cons_zero, List.set_cons_succ]; try simp (disch := simp [go_sem]) only [setRow_alloc_at, setRow_alloc_past, setRow_drew]) | (apply wpList_subload (cs := iv (bk3 g)) Tryd.underlying77 rfl isz77; exact rfl; exact rfl; exact rfl; (with_reducible exact row2a _ _ _ _); exact bk3_part g; exact (by simp [go_sem, *]); simp only [Act.put, List.setIfInBounds_toArray, List.set_cons_zero, List.set_cons_succ]) | (apply wpList_rowstore (vs := iv (bk3 g)) isz77; exact rfl; exact rfl; exact rfl; exact rfl; (with_reducible exact row3c _ _ _ _ _); exact (by simp [go_sem, *]); exact (by simp [go_sem, *]); exact (by simp [go_sem, *]); try simp only [Act.put, List.setIfInBounds_toArray, List.set_cons_zero, List.set_cons_succ]; try simp (disch := simp [go_sem]) only [setRow_alloc_at, setRow_alloc_past, setRow_drew]) | (apply wpList_rowload Tryd.underlying76 rfl isz76; exact rfl; exact rfl; exact rfl; (with_reducible exact row3b _ _ _ _ _); exact (by simp [go_sem, *]); simp only [Act.put, List.setIfInBounds_toArray, List.set_cons_zero, List.set_cons_succ]) | (apply wpList_rowload Tryd.underlying77 rfl isz77; exact rfl; exact rfl; exact rfl; (with_reducible exact row3c _ _ _ _ _); exact (by simp [go_sem, *]); simp only [Act.put, List.setIfInBounds_toArray, List.set_cons_zero, List.set_cons_succ]) | (go_at_call 37; refine (hM.out _).mono ?_; rintro e2 w2 ⟨rfl, hb2⟩))
        go_ret2
        exact ⟨by rw [HN.out, if_neg (by rintro (h | h | h); exact H1.out h; exact h H2.out; exact h H3.out)]; rfl, below_call (below_new (below_new (below_new hb _) _) _) hb2⟩
      · have hM := Lib.hid (node_no _ h3)
        have H3 := Lib.hid h3; clear h3
        go_enter Tryd.func21, Tryd.ntmps21
        go_wp2_with (first | (apply wpList_rowload Tryd.underlying25 rfl isz25; exact rfl; exact rfl; exact rfl; (with_reducible exact r0); exact (by simp [go_sem, *]); simp only [Act.put, List.setIfInBounds_toArray, List.set_cons_zero, List.set_cons_succ]) | (go_at_call 8; refine (hG.out _).mono ?_; rintro e1 w1 ⟨rfl, hb1⟩; have hb := below_call (below1 _ _) hb1) | (apply wpList_rowstore (vs := iv g) isz23; exact rfl; exact rfl; exact rfl; exact rfl; (with_reducible exact row1 _ _ _); exact (by simp [go_sem, *]); exact (by simp [go_sem, *]); exact (by simp [go_sem, *]); try simp only [Act.put, List.setIfInBounds_toArray, List.set_cons_zero, List.set_cons_succ]; try simp (disch := simp [go_sem]) only [setRow_alloc_at, setRow_alloc_past, setRow_drew]) | (apply wpList_subload (cs := iv (fr4 g)) Tryd.underlying76 rfl isz76; exact rfl; exact rfl; exact rfl; (with_reducible exact row1 _ _ _); exact fr4_part g; exact (by simp [go_sem, *]); simp only [Act.put, List.setIfInBounds_toArray, List.set_cons_zero, List.set_cons_succ]) | (apply wpList_rowstore (vs := iv (fr4 g)) isz76; exact rfl; exact rfl; exact rfl; exact rfl; (with_reducible exact row2b _ _ _ _); exact (by simp [go_sem, *]); exact (by simp [go_sem, *]); exact (by simp [go_sem, *]); try simp only [Act.put, List.setIfInBounds_toArray, List.set_cons_zero, List.set_cons_succ]; try simp (disch := simp [go_sem]) only [setRow_alloc_at, setRow_alloc_past, setRow_drew]) | (apply wpList_subload (cs := iv (bk3 g)) Tryd.underlying77 rfl isz77; exact rfl; exact rfl; exact rfl; (with_reducible exact row2a _ _ _ _); exact bk3_part g; exact (by simp [go_sem, *]); simp only [Act.put, List.setIfInBounds_toArray, List.set_cons_zero, List.set_cons_succ]) | (apply wpList_rowstore (vs := iv (bk3 g)) isz77; exact rfl; exact rfl; exact rfl; exact rfl; (with_reducible exact row3c _ _ _ _ _); exact (by simp [go_sem, *]); exact (by simp [go_sem, *]); exact (by simp [go_sem, *]); try simp only [Act.put, List.setIfInBounds_toArray, List.set_cons_zero, List.set_cons_succ]; try simp (disch := simp [go_sem]) only [setRow_alloc_at, setRow_alloc_past, setRow_drew]) | (apply wpList_rowload Tryd.underlying76 rfl isz76; exact rfl; exact rfl; exact rfl; (with_reducible exact row3b _ _ _ _ _); exact (by simp [go_sem, *]); simp only [Act.put, List.setIfInBounds_toArray, List.set_cons_zero, List.set_cons_succ]) | (apply wpList_rowload Tryd.underlying77 rfl isz77; exact rfl; exact rfl; exact rfl; (with_reducible exact row3c _ _ _ _ _); exact (by simp [go_sem, *]); simp only [Act.put, List.setIfInBounds_toArray, List.set_cons_zero, List.set_cons_succ]) | (go_at_call 37; refine (hM.out _).mono ?_; rintro e2 w2 ⟨rfl, hb2⟩))
        go_ret2
        exact ⟨by rw [HN.out, if_pos (.inr (.inr H3.out))]; rfl, below_call (below_new (below_new (below_new hb _) _) _) hb2⟩
    · have e77 : ∀ W, (Op.equalIn 10000 77 (.agg (iv (bk3 g))) (.agg (iv b3))).run Tryd.prog W = .ok false W := fun W => by rw [eq77 W 9998 _ _ f3 rfl, decide_eq_false h2]
      have H2 := Lib.hid h2; clear h2
      have hM := Lib.hid (node_any 0)
      go_enter Tryd.func21, Tryd.ntmps21
      go_wp2_with (first | (apply wpList_rowload Tryd.underlying25 rfl isz25; exact rfl; exact rfl; exact rfl; (with_reducible exact r0); exact (by simp [go_sem, *]); simp only [Act.put, List.setIfInBounds_toArray, List.set_cons_zero, List.set_cons_succ]) | (go_at_call 8; refine (hG.out _).mono ?_; rintro e1 w1 ⟨rfl, hb1⟩; have hb := below_call (below1 _ _) hb1) | (apply wpList_rowstore (vs := iv g) isz23; exact rfl; exact rfl; exact rfl; exact rfl; (with_reducible exact row1 _ _ _); exact (by simp [go_sem, *]); exact (by simp [go_sem, *]); exact (by simp [go_sem, *]); try simp only [Act.put, List.setIfInBounds_toArray, List.set_cons_zero, List.set_cons_succ]; try simp (disch := simp [go_sem]) only [setRow_alloc_at, setRow_alloc_past, setRow_drew]) | (apply wpList_subload (cs := iv (fr4 g)) Tryd.underlying76 rfl isz76; exact rfl; exact rfl; exact rfl; (with_reducible exact row1 _ _ _); exact fr4_part g; exact (by simp [go_sem, *]); simp only [Act.put, List.setIfInBounds_toArray, List.set_cons_zero, List.set_cons_succ]) | (apply wpList_rowstore (vs := iv (fr4 g)) isz76; exact rfl; exact rfl; exact rfl; exact rfl; (with_reducible exact row2b _ _ _ _); exact (by simp [go_sem, *]); exact (by simp [go_sem, *]); exact (by simp [go_sem, *]); try simp only [Act.put, List.setIfInBounds_toArray, List.set_cons_zero, List.set_cons_succ]; try simp (disch := simp [go_sem]) only [setRow_alloc_at, setRow_alloc_past, setRow_drew]) | (apply wpList_subload (cs := iv (bk3 g)) Tryd.underlying77 rfl isz77; exact rfl; exact rfl; exact rfl; (with_reducible exact row2a _ _ _ _); exact bk3_part g; exact (by simp [go_sem, *]); simp only [Act.put, List.setIfInBounds_toArray, List.set_cons_zero, List.set_cons_succ]) | (apply wpList_rowstore (vs := iv (bk3 g)) isz77; exact rfl; exact rfl; exact rfl; exact rfl; (with_reducible exact row3c _ _ _ _ _); exact (by simp [go_sem, *]); exact (by simp [go_sem, *]); exact (by simp [go_sem, *]); try simp only [Act.put, List.setIfInBounds_toArray, List.set_cons_zero, List.set_cons_succ]; try simp (disch := simp [go_sem]) only [setRow_alloc_at, setRow_alloc_past, setRow_drew]) | (apply wpList_rowload Tryd.underlying76 rfl isz76; exact rfl; exact rfl; exact rfl; (with_reducible exact row3b _ _ _ _ _); exact (by simp [go_sem, *]); simp only [Act.put, List.setIfInBounds_toArray, List.set_cons_zero, List.set_cons_succ]) | (apply wpList_rowload Tryd.underlying77 rfl isz77; exact rfl; exact rfl; exact rfl; (with_reducible exact row3c _ _ _ _ _); exact (by simp [go_sem, *]); simp only [Act.put, List.setIfInBounds_toArray, List.set_cons_zero, List.set_cons_succ]) | (go_at_call 37; refine (hM.out _).mono ?_; rintro e2 w2 ⟨rfl, hb2⟩))
      go_ret2
      exact ⟨by rw [HN.out, if_pos (.inr (.inl H2.out))]; rfl, below_new (below_new (below_new hb _) _) _⟩
end Go.Proofs.YtodeiapaehlmfaaDoor
