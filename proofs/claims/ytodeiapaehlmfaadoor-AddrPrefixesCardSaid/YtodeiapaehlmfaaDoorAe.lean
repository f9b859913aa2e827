import Derived.Test.YtodeiapaehlmfaaDoorAd
import Derived.Lib.SplitLaws
import Derived.Below
import Derived.Laws.OwnMore
import Derived.Deep.AppendLies
import Derived.Deep.Draws
import Derived.Maps.AppendAt
import Derived.RegionTactic
import Derived.OwnWalk
namespace Go.Proofs.YtodeiapaehlmfaaDoor
open Go Go.RowKit
set_option linter.unusedSimpArgs false

/-! ### words for memory (the kit's howto/extra-words.md, sections 1 and 3, copied as that paper asks) -/
theorem block_of_add (a : Addr) (n : Nat) : (a.add n).block = a.block := by unfold Addr.add; split <;> rfl
theorem add_of_add (a : Addr) (i j : Nat) : (a.add i).add j = a.add (i + j) := by
  unfold Addr.add
  by_cases hi : i = 0 <;> by_cases hj : j = 0 <;> simp [hi, hj, Nat.add_assoc]

def Reads (w : World) (B size : Nat) (A : Option Addr) (n : Nat) (xs : List Value) : Prop :=
  xs.length = n * size ∧ (0 < n → ∃ ad, A = some ad ∧ ad.block < B ∧ ∀ j u, xs[j]? = some u → w.cell? (ad.add j) = some u)

section
variable {w w' : World} {B B' size n : Nat} {A : Option Addr} {xs : List Value}
theorem Reads.none_ : Reads w B size A 0 [] := ⟨by simp, fun h => absurd h (by omega)⟩
theorem Reads.at_ {k : Nat} (h : Reads w B 1 A n xs) (hk : k < n) : ∃ ad u, A = some ad ∧ ad.block < B ∧ xs[k]? = some u ∧ w.cell? (ad.add k) = some u := by
  obtain ⟨ad, e, hb, hc⟩ := h.2 (by omega)
  have hl : k < xs.length := by have := h.1; omega
  exact ⟨ad, xs[k], e, hb, List.getElem?_eq_getElem hl, hc k _ (List.getElem?_eq_getElem hl)⟩
theorem Reads.keep (h : Reads w B size A n xs) (hk : ∀ p : Addr, p.block < B → w'.cell? p = w.cell? p) : Reads w' B size A n xs :=
  ⟨h.1, fun hn => by
    obtain ⟨ad, e, hb, hc⟩ := h.2 hn
    exact ⟨ad, e, hb, fun j u hu => (hk _ (by rw [block_of_add]; exact hb)).trans (hc j u hu)⟩⟩
theorem Reads.more (h : Reads w B size A n xs) (hB : B ≤ B') : Reads w B' size A n xs :=
  ⟨h.1, fun hn => by
    obtain ⟨ad, e, hb, hc⟩ := h.2 hn
    exact ⟨ad, e, by omega, hc⟩⟩
theorem Reads.below (h : Reads w B size A n xs) (hb : Below B w w') : Reads w' B size A n xs := h.keep fun _ hp => hb.cell hp
theorem Reads.drew (h : Reads w B size A n xs) : Reads w.drew B size A n xs := h
theorem Reads.drewN (h : Reads w B size A n xs) (k : Nat) : Reads (w.drewN k) B size A n xs := h
theorem Reads.alloc (h : Reads w B size A n xs) (hB : B ≤ w.heap.size) (o : Obj) : Reads (w.alloc o) B size A n xs := h.keep fun p hp => World.cell?_alloc_lt w o p (by omega)
theorem Reads.setCell (h : Reads w B size A n xs) {p : Addr} (hB : B ≤ p.block) (u : Value) : Reads (w.setCell p u) B size A n xs :=
  h.keep fun q hq => World.cell?_setCell_other w p q u (fun e => by subst e; omega)
theorem Reads.grown (h : Reads w B size A n xs) {row : Option Nat} (hg : w.grownBy w' row) (hB : B ≤ w.heap.size) (hr : ∀ g, row = some g → B ≤ g) : Reads w' B size A n xs :=
  h.keep fun p hp => World.cell?_of_block (hg.block p.block (by omega) (fun e => by have := hr _ e.symm; omega))
theorem Reads.cut (h : Reads w B size A n xs) {k cap : Nat} (hk : k ≤ n) (hc : n ≤ cap) :
    Reads w B size (if cap = k then A else A.map (·.add (k * size))) (n - k) (xs.drop (k * size)) := by
  refine ⟨by rw [List.length_drop, h.1, Nat.sub_mul], fun hn => ?_⟩
  obtain ⟨ad, rfl, hb, hcell⟩ := h.2 (by omega)
  rw [if_neg (by omega)]
  refine ⟨ad.add (k * size), rfl, by rw [block_of_add]; exact hb, fun j u hu => ?_⟩
  rw [add_of_add]
  exact hcell _ u (by rw [← hu, List.getElem?_drop])
theorem Reads.of_own {base : Nat} {e : TypeId} {c : Nat} (h : w.ownsRow base e size (.slice A n c) n xs) : Reads w w.heap.size size A n xs := by
  refine ⟨h.1, fun hn => ?_⟩
  obtain ⟨g, cap, hv, _, hlt⟩ := h.form hn
  have hA : A = some ⟨g, 0, none⟩ := by injection hv
  subst hA
  exact ⟨_, rfl, hlt, h.cells (g := g) rfl⟩
end
section
variable {P : Program} (w : World)

theorem run_append_of_nil (base : Nat) (t ty e : TypeId) (i : TypeInfo) (size : Nat) (ht : P.underlying t = some (.slice e)) (hi : P.info? e = some i)
    (v : Value) (n : Nat) (xs : List Value) (hown : w.ownsRow base e size v n xs) (c : Nat) : (Builtin.append_ #[t, t] ty #[v, .slice none 0 c]).run P w = .ok v w := by
  rcases hown.2 with ⟨rfl, rfl⟩ | ⟨g, cap, cur, rfl, _, _, hnc, _⟩
  · simp [Builtin.append_, run_underlying ht, sizeOf, typeInfo, hi, Builtin.lenOf, Builtin.firstCells]
  · simp [Builtin.append_, run_underlying ht, sizeOf, typeInfo, hi, Builtin.lenOf, Builtin.firstCells, hnc, storeCells]

theorem run_append_any (base : Nat) (t ty e : TypeId) (i : TypeInfo) (z : Value) (size bytes : Nat) (ht : P.underlying t = some (.slice e)) (hi : P.info? e = some i) (hz : i.zero = some z)
    (hsize : i.size = size) (hby : i.bytes = bytes) (hzs : z.cells.size = size) (hsz : 0 < size)
    (v : Value) (n : Nat) (xs : List Value) (hown : w.ownsRow base e size v n xs)
    (B : Nat) (A : Option Addr) (m c : Nat) (news : List Value) (hr : Reads w B size A m news) (h1 : ∀ u ∈ news, u.oneCell' = true)
    (h63 : n + m ≤ maxLen) (hbytes : (n + m) * bytes ≤ 140737488355328) (hbase : base ≤ w.heap.size) :
    ∃ v' w', (Builtin.append_ #[t, t] ty #[v, .slice A m c]).run P w = .ok v' w' ∧ w'.ownsRow base e size v' (n + m) (xs ++ news) ∧ w.grownBy w' v.ownBlock ∧
      (v'.ownBlock = v.ownBlock ∨ v'.ownBlock = some w.heap.size) := by
  rcases A with _ | ad
  · have hm : m = 0 := by
      rcases Nat.eq_zero_or_pos m with h0 | h0
      · exact h0
      · obtain ⟨ad, h, _⟩ := hr.2 h0
        cases h
    subst hm
    have hn : news = [] := List.eq_nil_of_length_eq_zero (by simpa using hr.1)
    subst hn
    exact ⟨v, w, run_append_of_nil w base t ty e i size ht hi v n xs hown c, by simpa using hown, World.grownBy.refl w _, .inl rfl⟩
  · have hcells : ∀ j u, news[j]? = some u → w.cell? (ad.add j) = some u := by
      intro j u hu
      rcases Nat.eq_zero_or_pos m with h0 | h0
      · subst h0
        have hn : news = [] := List.eq_nil_of_length_eq_zero (by simpa using hr.1)
        subst hn
        simp at hu
      · obtain ⟨ad', h, _, hc⟩ := hr.2 h0
        injection h with h
        subst h
        exact hc j u hu
    obtain ⟨v', w', hrun, h2, h3, _, h5⟩ := run_append_own_at (P := P) w base t ty e i z size bytes ht hi hz hsize hby hzs hsz v n xs hown ad m c news hr.1 hcells h1 h63 hbytes hbase
    exact ⟨v', w', hrun, h2, h3, h5⟩

theorem wp_append_any {o : Oper} {a : Act} {K : Act → World → Prop} {Q : Exit → Act → World → Prop} (s x : Operand) (t : TypeId)
    (ho : o.op = .call { callee := .builtin .append, args := #[s, x], argTypes := #[t, t] })
    (base : Nat) (e : TypeId) (i : TypeInfo) (z : Value) (size bytes : Nat) (ht : P.underlying t = some (.slice e)) (hi : P.info? e = some i) (hz : i.zero = some z)
    (hsize : i.size = size) (hby : i.bytes = bytes) (hzs : z.cells.size = size) (hsz : 0 < size)
    (v : Value) (n : Nat) (xs : List Value) (hs : a.eval s = v) (hown : w.ownsRow base e size v n xs)
    (B : Nat) (A : Option Addr) (m c : Nat) (news : List Value) (hx : a.eval x = .slice A m c) (hr : Reads w B size A m news) (h1 : ∀ u ∈ news, u.oneCell' = true)
    (h63 : n + m ≤ maxLen) (hbytes : (n + m) * bytes ≤ 140737488355328) (hbase : base ≤ w.heap.size)
    (h : ∀ v' w', w'.ownsRow base e size v' (n + m) (xs ++ news) → w.grownBy w' v.ownBlock → (v'.ownBlock = v.ownBlock ∨ v'.ownBlock = some w.heap.size) → K (a.put o.dst v') w') : o.wp P a w K Q := by
  obtain ⟨v', w', hrun, h2, h3, h4⟩ := run_append_any (P := P) w base t o.type e i z size bytes ht hi hz hsize hby hzs hsz v n xs hown B A m c news hr h1 h63 hbytes hbase
  unfold Oper.wp execOp
  simp only [ho, resolve, invoke, builtin, Sem.run_bind, Sem.run_pure, Result.andThen_ok, List.map_toArray, List.map_cons, List.map_nil, hs, hx, hrun]
  exact h v' w' h2 h3 h4

theorem wpList_append_any {ops : Array Oper} {rest : List Oper} {o : Oper} {a : Act} {Q : Exit → Act → World → Prop} (hgd : o.guard = none) (s x : Operand) (t : TypeId)
    (ho : o.op = .call { callee := .builtin .append, args := #[s, x], argTypes := #[t, t] })
    (base : Nat) (e : TypeId) (i : TypeInfo) (z : Value) (size bytes : Nat) (ht : P.underlying t = some (.slice e)) (hi : P.info? e = some i) (hz : i.zero = some z)
    (hsize : i.size = size) (hby : i.bytes = bytes) (hzs : z.cells.size = size) (hsz : 0 < size)
    (v : Value) (n : Nat) (xs : List Value) (hs : a.eval s = v) (hown : w.ownsRow base e size v n xs)
    (B : Nat) (A : Option Addr) (m c : Nat) (news : List Value) (hx : a.eval x = .slice A m c) (hr : Reads w B size A m news) (h1 : ∀ u ∈ news, u.oneCell' = true)
    (h63 : n + m ≤ maxLen) (hbytes : (n + m) * bytes ≤ 140737488355328) (hbase : base ≤ w.heap.size)
    (h : ∀ v' w', w'.ownsRow base e size v' (n + m) (xs ++ news) → w.grownBy w' v.ownBlock → (v'.ownBlock = v.ownBlock ∨ v'.ownBlock = some w.heap.size) → wpList P ops Q rest (a.put o.dst v') w') : wpList P ops Q (o :: rest) a w :=
  wpList_plain hgd fun _ hK => wp_append_any w s x t ho base e i z size bytes ht hi hz hsize hby hzs hsz v n xs hs hown B A m c news hx hr h1 h63 hbytes hbase fun v' w' h2 h3 h4 => hK _ _ (h v' w' h2 h3 h4)

theorem step_append_any {ops : Array Oper} {o : Oper} {a : Act} {K : Act → World → Prop} {Q : Exit → Act → World → Prop} {E : Prop} (hgd : o.guard = none) (s x : Operand) (t : TypeId)
    (ho : o.op = .call { callee := .builtin .append, args := #[s, x], argTypes := #[t, t] })
    (base : Nat) (e : TypeId) (i : TypeInfo) (z : Value) (size bytes : Nat) (ht : P.underlying t = some (.slice e)) (hi : P.info? e = some i) (hz : i.zero = some z)
    (hsize : i.size = size) (hby : i.bytes = bytes) (hzs : z.cells.size = size) (hsz : 0 < size)
    (v : Value) (n : Nat) (xs : List Value) (hs : a.eval s = v) (hown : w.ownsRow base e size v n xs)
    (B : Nat) (A : Option Addr) (m c : Nat) (news : List Value) (hx : a.eval x = .slice A m c) (hr : Reads w B size A m news) (h1 : ∀ u ∈ news, u.oneCell' = true)
    (h63 : n + m ≤ maxLen) (hbytes : (n + m) * bytes ≤ 140737488355328) (hbase : base ≤ w.heap.size)
    (h : ∀ v' w', w'.ownsRow base e size v' (n + m) (xs ++ news) → w.grownBy w' v.ownBlock → (v'.ownBlock = v.ownBlock ∨ v'.ownBlock = some w.heap.size) → K (a.put o.dst v') w') :
    if Region.wanted o (yielded ops a.tmps) = true then Oper.wp P o a w K Q else E := by
  have hw : Region.wanted o (yielded ops a.tmps) = true := by simp [Region.wanted, hgd]
  rw [if_pos hw]
  exact wp_append_any w s x t ho base e i z size bytes ht hi hz hsize hby hzs hsz v n xs hs hown B A m c news hx hr h1 h63 hbytes hbase h
end

theorem own_below {w w' : World} {base : Nat} {e : TypeId} {size : Nat} {v : Value} {n : Nat} {xs : List Value} (h : w.ownsRow base e size v n xs) (hb : Below w.heap.size w w') : w'.ownsRow base e size v n xs := by
  refine h.kept (row := none) ⟨hb.os, hb.tape, hb.output, hb.size, fun k hk _ => hb.block k hk⟩ ?_
  cases h : v.ownBlock <;> simp
theorem own_le {w : World} {base base' size n : Nat} {e : TypeId} {v : Value} {xs : List Value} (h : w.ownsRow base e size v n xs) (hb : base' ≤ base) : w.ownsRow base' e size v n xs := Joins.ownsRow_le h hb

/-! ### addr.list -/
def colon : ByteArray := ⟨#[58]⟩
def partsS (t : ByteArray) : List ByteArray := Lib.splitB colon 0 (Lib.countB t colon) t
def gAll : List ByteArray → Option (List Int)
  | [] => some []
  | p :: r => match groupS p.data.toList with
    | none => none
    | some n => (gAll r).map (fun l => (n : Int) :: l)
def listS (t : ByteArray) : Option (List Int) := if t.size = 0 then some [] else gAll (partsS t)
theorem partsS_length (t : ByteArray) : (partsS t).length = Lib.countB t colon + 1 := Lib.splitB_all colon (by decide) 0 _ t rfl
theorem gAll_cons_none {p : ByteArray} {r : List ByteArray} (h : groupS p.data.toList = none) : gAll (p :: r) = none := by rw [gAll, h]
theorem gAll_cons_some {p : ByteArray} {r : List ByteArray} {n : Nat} (h : groupS p.data.toList = some n) : gAll (p :: r) = (gAll r).map (fun l => (n : Int) :: l) := by rw [gAll, h]

/-- what list gives: a slice of the numbers and yes, or nil and no -/
def listed (o : Option (List Int)) (base : Nat) (e : Ending) (w : World) : Prop :=
  match o with
  | some xs => ∃ A cap, e = .returned (.tuple #[.slice A xs.length cap, .bool true]) ∧ w.ownsRow base 3 1 (.slice A xs.length cap) xs.length (xs.map (Value.int .i64))
  | none => e = .returned (.tuple #[.slice none 0 0, .bool false])

theorem info3 : (Tryd.prog.info? 3).map (fun i => (i.zero, i.size, i.bytes)) = some (some (.int .i64 0), 1, 8) := by kernel_rfl

set_option maxHeartbeats 2000000 in
set_option maxRecDepth 100000 in
theorem list_any (t : ByteArray) (hlim : t.size ≤ 65536) (w : World) (hg : Glob w) :
    Calls Tryd.prog 30 #[.string t] w fun e w' => listed (listS t) w.heap.size e w' ∧ Below w.heap.size w w' := by
  by_cases hne : t.size = 0
  · have ht : t = ⟨#[]⟩ := by
      have hsz : t.data.toList.length = t.size := Lib.size_eq t
      have : t.data.toList = [] := List.length_eq_zero_iff.1 (hsz.trans hne)
      rcases t with ⟨⟨l⟩⟩
      simp at this
      subst this
      rfl
    subst ht
    go_enter Tryd.func30, Tryd.ntmps30
    go_wp2
    go_ret2
    exact ⟨⟨none, 0, rfl, World.ownsRow_nil _ _ _ _⟩, Below.refl _ _⟩
  · have hemp : t.toList.isEmpty = false := by
      rw [← decide_eq_emptyBytes]
      exact decide_eq_false (fun h => hne (by rw [h]; rfl))
    obtain ⟨i0, hi, hz0, hz1, hz2⟩ := info_parts info3
    obtain ⟨m, hm⟩ := hg.top
    have hcount : Lib.countB t colon ≤ t.size := Lib.countB_le colon (by decide) _ t (Nat.le_refl _)
    have hlen := partsS_length t
    have HS := Lib.hid (Tryd.strings_Split t colon m w (by omega) hm (by decide))
    have hL : listS t = gAll (partsS t) := if_neg hne
    rw [hL]
    have hdef : Lib.splitB colon 0 (Lib.countB t colon) t = partsS t := rfl
    rw [hdef] at HS
    obtain ⟨parts, hP⟩ : ∃ parts, parts = partsS t := ⟨_, rfl⟩
    rw [← hP] at HS hlen ⊢
    rw [← hlen] at HS
    have hn : parts.length ≤ 65537 := by omega
    clear hP hdef hL hlen hcount hm
    have HI := Lib.hid (And.intro hi (And.intro hz0 (And.intro hz1 hz2)))
    clear hi hz0 hz1 hz2
    have HG := Lib.hid hg; clear hg
    go_enter Tryd.func30, Tryd.ntmps30
    go_wp2_with (first | (go_at_call 40; refine HS.out.mono ?_; rintro e w' ⟨rfl, rfl⟩))
    have hc1 : ∀ (j : Nat) p, parts[j]? = some p → (w.alloc (.cells (parts.map Value.string).toArray 9)).cell? ⟨w.heap.size, j, none⟩ = some (.string p) := by
      intro j p hj
      rw [World.cell?_alloc_new]
      simp [hj]
    have hb1 : Below w.heap.size w (w.alloc (.cells (parts.map Value.string).toArray 9)) := (Below.refl _ _).alloc (Nat.le_refl _) _
    have hsz1 : w.heap.size < (w.alloc (.cells (parts.map Value.string).toArray 9)).heap.size := by simp
    have HG1 := Lib.hid (HG.out.since hb1)
    have HC1 := Lib.hid hc1
    have HB1 := Lib.hid hb1
    clear hc1 hb1 HG HS
    generalize w.alloc (.cells (parts.map Value.string).toArray 9) = W at *
    go_loopw [4, 14] (fun v t wr => ∃ (k : Nat) (xs : List Int), k ≤ parts.length ∧ t = .int .i64 k ∧ xs.length = k ∧ (∃ A cap, v = .slice A k cap) ∧ wr.ownsRow W.heap.size 3 1 v k (xs.map (Value.int .i64)) ∧
       Hid (gAll parts = (gAll (parts.drop k)).map (xs ++ ·)) ∧ Hid (Below W.heap.size W wr)) (fun _ t _ => parts.length - (intOf t).toNat)
    case atStart => exact ⟨0, [], by omega, rfl, rfl, ⟨none, 0, rfl⟩, World.ownsRow_nil _ _ _ _, Lib.hid (by cases h : gAll parts <;> simp [h]), Lib.hid (Below.refl _ _)⟩
    case round =>
      obtain ⟨k, xs, hk, rfl, hxs, ⟨A, cap, rfl⟩, hown, HE, HB⟩ := hrel
      by_cases hlt : k < parts.length
      · obtain ⟨p, hp⟩ : ∃ p, parts[k]? = some p := ⟨parts[k], List.getElem?_eq_getElem hlt⟩
        have hck : wr.cell? ⟨w.heap.size, k, none⟩ = some (.string p) := (HB.out.cell hsz1).trans (HC1.out k p hp)
        have hdrop : parts.drop k = p :: parts.drop (k + 1) := by
          have : parts[k] = p := by rw [List.getElem?_eq_getElem hlt] at hp; exact Option.some.inj hp
          rw [← this]; exact List.drop_eq_getElem_cons hlt
        have HGr := Lib.hid (group_any p wr (HG1.out.since HB.out))
        have HE' := HE.out
        rw [hdrop] at HE'
        clear HE hdrop hp
        rcases hgr : groupS p.data.toList with _ | n
        · rw [gAll_cons_none hgr] at HE'
          have HN := Lib.hid HE'
          have HGr2 : Hid (Calls Tryd.prog 41 #[.string p] wr fun e w' => e = .returned (.tuple #[.int .i64 0, .bool false]) ∧ Below wr.heap.size wr w') := Lib.hid (by have := HGr.out; rwa [hgr] at this)
          clear HE' HGr hgr HC1 HG1 hown HI
          go_wp2_with (first | (go_at_call 41; refine HGr2.out.mono ?_; rintro e w' ⟨rfl, hb⟩))
          go_ret2
          exact ⟨by rw [HN.out]; rfl, below_call HB1.out (below_call HB.out hb)⟩
        · rw [gAll_cons_some hgr] at HE'
          have hn := groupS_lt hgr
          have HN := Lib.hid HE'
          have HGr2 : Hid (Calls Tryd.prog 41 #[.string p] wr fun e w' => e = .returned (.tuple #[.int .i64 n, .bool true]) ∧ Below wr.heap.size wr w') := Lib.hid (by have := HGr.out; rwa [hgr] at this)
          have HO := Lib.hid hown
          clear HE' HGr hgr HC1 HG1 hown
          go_wp2_with (first
            | (go_at_call 41; refine HGr2.out.mono ?_; rintro e w' ⟨rfl, hb⟩)
            | (at_builtin; refine wpList_append_lies _ rfl (.tmp 25) (.tmp 27) 29 rfl W.heap.size 3 i0 (.int .i64 0) 1 8 Tryd.underlying29 HI.out.1 HI.out.2.1 HI.out.2.2.1 HI.out.2.2.2 rfl (by decide) (.slice A k cap) k (xs.map (Value.int .i64)) rfl ((own_below HO.out hb).alloc _) ⟨w'.heap.size, 0, none⟩ 1 1 [.int .i64 n] rfl rfl ?c1 ?c2 (by decide) ?c3 ?c4 ?c5 _ rfl ?_))
          case c1 =>
            intro j u hj
            match j, hj with
            | 0, hj => simp at hj; subst hj; simp [Addr.add]
          case c2 => intro u hu; simp at hu; subst hu; rfl
          case c3 => unfold maxLen; omega
          case c4 => omega
          case c5 => have := HB.out.size; have := hb.size; simp; omega
          · intro g c w2 hown2 hgrow hat hlt2
            have hB2 : Below W.heap.size W w2 := by
              refine Below.grown ((below_call HB.out hb).alloc ?_ _) hgrow ?_ ?_
              · have := HB.out.size; have := hb.size; omega
              · have := HB.out.size; have := hb.size; simp; omega
              · intro q hq
                exact (HO.out.lt q hq).1
            go_wp2
            go_roundw
            case rel =>
              refine ⟨k + 1, xs ++ [(n : Int)], by omega, by go_num, by simp [hxs], ⟨_, _, rfl⟩, ?_, ?_, Lib.hid hB2⟩
              · simpa using hown2
              · refine Lib.hid ?_
                rw [HN.out]
                cases gAll (parts.drop (k + 1)) <;> simp
            case measure => simp [intOf]; omega
      · have hkk : k = parts.length := by omega
        have HN : Hid (gAll parts = some xs) := Lib.hid (by rw [HE.out, hkk, List.drop_length]; simp [gAll])
        have HO := Lib.hid (own_le hown (by omega) : wr.ownsRow w.heap.size 3 1 _ k _)
        clear HE HC1 HG1 hown HI
        go_wp2
        go_ret2
        rw [HN.out]
        exact ⟨⟨A, cap, by rw [hxs]; rfl, by rw [hxs]; exact HO.out⟩, below_call HB1.out HB.out⟩

end Go.Proofs.YtodeiapaehlmfaaDoor
