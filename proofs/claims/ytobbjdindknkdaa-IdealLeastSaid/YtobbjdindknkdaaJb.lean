/- What the search holds in memory. -/
import Derived.Test.YtobbjdindknkdaaJa
import Derived.Laws.MakeOwn
namespace Go.Proofs.Ytobbjdindknkdaa
open Go Go.RowKit
attribute [local irreducible] wpQuiet wpPure wpHold wpKeep wpQuietS
set_option linter.unusedSimpArgs false
set_option linter.unusedVariables false

theorem isz40 : (Try.prog.info? 40).map (·.size) = some 9 := by kernel_rfl
/-- ints as they lie -/
def iv (l : List Int) : Array Value := (l.map (Value.int .i64)).toArray
theorem iv_get {l : List Int} {k : Nat} (h : k < l.length) : (iv l)[k]? = some (.int .i64 (l.getD k 0)) := by
  simp [iv, List.getD, List.getElem?_eq_getElem h]
theorem iv_set (l : List Int) (k : Nat) (x : Int) : (iv l).setIfInBounds k (.int .i64 x) = iv (l.set k x) := by
  simp [iv, List.map_set]
theorem made_one (v : Value) (n : Nat) : madeCells #[v] n = (List.replicate n v).toArray := by
  apply Array.ext
  · simp [madeCells]
  · intro i h1 h2
    simp [madeCells, Nat.mod_one]
section
variable {ops : Array Oper} {rest : List Oper} {o : Oper} {a : Act} {w : World} {Q : Exit → Act → World → Prop}
theorem wpList_make33 {n : Int} {x y : Operand} (hn : 0 ≤ n ∧ n ≤ 64) (hw : Region.wanted o (yielded ops a.tmps) = true) (ho : o.op = .makeSlice 33 x y) (hx : a.eval x = .int .i64 n) (hy : a.eval y = .int .i64 n)
    (h : ∀ w', Below w.heap.size w w' → rowAt w' w.heap.size = some (iv (List.replicate n.toNat 0)) → w'.heap.size = w.heap.size + 1 → wpList Try.prog ops Q rest (a.put o.dst (.slice (some ⟨w.heap.size, 0, none⟩) n.toNat n.toNat)) w') : wpList Try.prog ops Q (o :: rest) a w := by
  obtain ⟨i0, hi, hz0, hz1, hz2⟩ := info_parts info3
  obtain ⟨hn0, hn1⟩ := hn
  refine wpList_wanted hw fun _ hK => ?_
  have h1 := run_makeSlice (P := Try.prog) w 33 3 i0 (.int .i64 0) Try.underlying33 hi hz0 .i64 .i64 n n hn0 (Int.le_refl _) (by rw [hz1]; omega) (by rw [hz2]; omega) (by omega)
  rw [hz1] at h1
  unfold Oper.wp execOp
  simp only [ho, hx, hy, Sem.run_bind, h1, Result.andThen_ok, Sem.run_pure]
  refine hK _ _ (h _ (below1 _ _) ?_ (by simp))
  rw [row1]
  have hc : (Value.int .i64 0).cells = #[Value.int .i64 0] := rfl
  rw [hc, Nat.mul_one, made_one]
  simp [iv]
end

theorem foot_cell (w : World) (g k : Nat) (u : Value) : Foot (fun q => q = g) w (w.setCell ⟨g, k, none⟩ u) :=
  Foot.setCell (own := fun q => q = g) (Foot.refl _ w) (p := ⟨g, k, none⟩) (Or.inl rfl) u
/-- what the search holds, before there is a heap -/
structure PreAt (B0 : Nat) (wr : World) (lb r : Nat) (n : Int) (E : List Link) (p : Pol) (b0 gb : Nat) (out : List Int) : Prop where
  links : LinksAt wr lb r n E
  pol : rowAt wr b0 = some p.cells
  out : rowAt wr gb = some (iv out)
  ord : (lb < B0 ∧ r < B0) ∧ B0 ≤ b0 ∧ b0 < gb
theorem PreAt.below {B0 : Nat} {wr w' : World} {lb r : Nat} {n : Int} {E : List Link} {p : Pol} {b0 gb : Nat} {out : List Int} (h : PreAt B0 wr lb r n E p b0 gb out) (hb : Below wr.heap.size wr w') : PreAt B0 w' lb r n E p b0 gb out :=
  ⟨h.links.below hb, row_call hb h.pol, row_call hb h.out, h.ord⟩
theorem PreAt.foot {own : Nat → Prop} {B0 : Nat} {wr w' : World} {lb r : Nat} {n : Int} {E : List Link} {p : Pol} {b0 gb : Nat} {out : List Int} (h : PreAt B0 wr lb r n E p b0 gb out) (hf : Foot own wr w') (ho : ∀ q, own q → gb < q) : PreAt B0 w' lb r n E p b0 gb out :=
  ⟨h.links.foot hf (fun q => by have := ho _ q; have := h.ord; omega) (fun q => by have := ho _ q; have := h.ord; omega), hf.row h.pol (fun q => by have := ho _ q; have := h.ord; omega), hf.row h.out (fun q => by have := ho _ q; omega), h.ord⟩
theorem PreAt.store {B0 : Nat} {wr : World} {lb r : Nat} {n : Int} {E : List Link} {p : Pol} {b0 gb : Nat} {out : List Int} (h : PreAt B0 wr lb r n E p b0 gb out) (k : Nat) (x : Int) : PreAt B0 (wr.setCell ⟨gb, k, none⟩ (.int .i64 x)) lb r n E p b0 gb (out.set k x) := by
  have hf : Foot (fun q => q = gb) wr (wr.setCell ⟨gb, k, none⟩ (.int .i64 x)) := foot_cell wr gb k _
  have := h.ord
  exact ⟨h.links.foot hf (by omega) (by omega), hf.row h.pol (by omega), by rw [row_setCell_same h.out, iv_set], h.ord⟩
structure LookAt (B0 : Nat) (wr : World) (lb r : Nat) (n : Int) (E : List Link) (p : Pol) (b0 gb B : Nat) (v : Value) (s : RS) : Prop where
  pre : PreAt B0 wr lb r n E p b0 gb s.1
  heap : HeapAt wr B B s.2.1 s.2.2 v
  lt : gb < B
theorem LookAt.below {B0 : Nat} {wr w' : World} {lb r : Nat} {n : Int} {E : List Link} {p : Pol} {b0 gb B : Nat} {v : Value} {s : RS} (h : LookAt B0 wr lb r n E p b0 gb B v s) (hb : Below wr.heap.size wr w') : LookAt B0 w' lb r n E p b0 gb B v s :=
  ⟨h.pre.below hb, h.heap.below hb, h.lt⟩
theorem LookAt.turn {B0 : Nat} {wr w' : World} {lb r : Nat} {n : Int} {E : List Link} {p : Pol} {b0 gb B : Nat} {v v' : Value} {s : RS} {js : List Job} {c : Int} (h : LookAt B0 wr lb r n E p b0 gb B v s) (hh : HeapAt w' B B js c v') (hf : Foot (fun q => q = B ∨ v.ownBlock = some q) wr w') : LookAt B0 w' lb r n E p b0 gb B v' (s.1, js, c) :=
  ⟨h.pre.foot hf (fun q hq => by
    have := h.lt
    rcases hq with rfl | hq
    · exact this
    · have := (own_lt h.heap.row hq).1; omega), hh, h.lt⟩
theorem LookAt.store {B0 : Nat} {wr : World} {lb r : Nat} {n : Int} {E : List Link} {p : Pol} {b0 gb B : Nat} {v : Value} {s : RS} (h : LookAt B0 wr lb r n E p b0 gb B v s) (k : Nat) (x : Int) : LookAt B0 (wr.setCell ⟨gb, k, none⟩ (.int .i64 x)) lb r n E p b0 gb B v (s.1.set k x, s.2) := by
  have hf : Foot (fun q => q = gb) wr (wr.setCell ⟨gb, k, none⟩ (.int .i64 x)) := foot_cell wr gb k _
  have hlt := h.lt
  refine ⟨h.pre.store k x, ⟨hf.row h.heap.head (by omega), own_foot h.heap.row hf (fun g hv e => ?_), h.heap.apart, h.heap.base⟩, h.lt⟩
  have := (own_lt h.heap.row hv).1
  omega
theorem LookAt.own {B0 : Nat} {wr : World} {lb r : Nat} {n : Int} {E : List Link} {p : Pol} {b0 gb B : Nat} {v : Value} {s : RS} (h : LookAt B0 wr lb r n E p b0 gb B v s) {w0 w' : World} (h0 : Below w0.heap.size w0 wr) (hB : B0 = w0.heap.size) (hf : Foot (fun q => q = B ∨ v.ownBlock = some q) wr w') : Below w0.heap.size w0 w' := by
  have ho := h.pre.ord
  have hl := h.lt
  refine h0.trans (hf.below h0.size fun q hq => ?_)
  rcases hq with rfl | hq
  · omega
  · have := (own_lt h.heap.row hq).1; omega
def lenOf : Option Value → Nat
  | some (.slice _ m _) => m
  | _ => 0
/-- how much is left, read off the memory -/
def muW (gb B : Nat) (wr : World) : Nat :=
  (match rowAt wr B with | some cs => lenOf cs[0]? | none => 0) + (match rowAt wr gb with | some cs => (cs.toList.map intOf).sum.toNat | none => 0)
theorem muW_eq {B0 : Nat} {wr : World} {lb r : Nat} {n : Int} {E : List Link} {p : Pol} {b0 gb B : Nat} {v : Value} {s : RS} (h : LookAt B0 wr lb r n E p b0 gb B v s) : muW gb B wr = mu s := by
  obtain ⟨A, cap, rfl, hcap⟩ := h.heap.shape
  unfold muW mu
  rw [h.heap.head, h.pre.out]
  have e : (iv s.1).toList.map intOf = s.1 := by simp [iv, intOf, Function.comp_def]
  show s.2.1.length + ((iv s.1).toList.map intOf).sum.toNat = _
  rw [e]
/-- the neighbours, where they lie -/
def KsAt (wr : World) (B : Nat) (v A : Value) (ks : List Int) : Prop := ∀ j x, ks[j]? = some x → ∃ g c, A = .slice (some ⟨g, 0, none⟩) ks.length c ∧ B < g ∧ g < wr.heap.size ∧ v.ownBlock ≠ some g ∧ wr.cell? ⟨g, j, none⟩ = some (.int .i64 x)
theorem KsAt.below {wr w' : World} {B : Nat} {v A : Value} {ks : List Int} (h : KsAt wr B v A ks) (hb : Below wr.heap.size wr w') : KsAt w' B v A ks := fun j x hj => by
  obtain ⟨g, c, h1, h2, h3, h4, h5⟩ := h j x hj
  exact ⟨g, c, h1, h2, by have := hb.size; omega, h4, by rw [hb.cell h3]; exact h5⟩
theorem KsAt.turn {wr w' : World} {B : Nat} {v v' A : Value} {ks : List Int} (h : KsAt wr B v A ks) (hf : Foot (fun q => q = B ∨ v.ownBlock = some q) wr w') (hv : ∀ q, v'.ownBlock = some q → v.ownBlock = some q ∨ wr.heap.size ≤ q) : KsAt w' B v' A ks := fun j x hj => by
  obtain ⟨g, c, h1, h2, h3, h4, h5⟩ := h j x hj
  refine ⟨g, c, h1, h2, by have := hf.size; omega, fun e => ?_, by rw [hf.cell h3 (fun e => by rcases e with e | e; (simp at e; omega); exact h4 e)]; exact h5⟩
  rcases hv g e with h6 | h6
  · exact h4 h6
  · omega
theorem KsAt.store {wr : World} {B gb : Nat} {v A : Value} {ks : List Int} (h : KsAt wr B v A ks) (hlt : gb < B) (k : Nat) (u : Value) : KsAt (wr.setCell ⟨gb, k, none⟩ u) B v A ks := fun j x hj => by
  obtain ⟨g, c, h1, h2, h3, h4, h5⟩ := h j x hj
  have hf : Foot (fun q => q = gb) wr (wr.setCell ⟨gb, k, none⟩ u) := foot_cell wr gb k _
  exact ⟨g, c, h1, h2, by have := hf.size; omega, h4, by rw [hf.cell h3 (by simp; omega)]; exact h5⟩
theorem ksAt_of {w wr : World} {B : Nat} {v A : Value} {ks : List Int} (h : wr.ownsRow w.heap.size 3 1 A ks.length (ks.map (Value.int .i64))) (hB : B < w.heap.size) (hv : ∀ g, v.ownBlock = some g → g < w.heap.size) : KsAt wr B v A ks := fun j x hj => by
  have hj' : (ks.map (Value.int .i64))[j]? = some (.int .i64 x) := by rw [List.getElem?_map, hj]; rfl
  rcases h.2 with ⟨_, h2⟩ | ⟨g, cap, cur, hA, hg, hb, hn, hc, hcur, ht⟩
  · have := (List.getElem?_eq_some_iff.1 hj).1; omega
  · refine ⟨g, cap, hA, by omega, (Array.getElem?_eq_some_iff.1 hb).1, fun e => by have := hv g e; omega, ?_⟩
    have := h.cells (g := g) (by rw [hA]; rfl) j _ hj'
    rwa [plain_add, Nat.zero_add] at this

end Go.Proofs.Ytobbjdindknkdaa
