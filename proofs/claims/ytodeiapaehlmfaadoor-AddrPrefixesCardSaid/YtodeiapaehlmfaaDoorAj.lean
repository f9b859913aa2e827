import Derived.Test.YtodeiapaehlmfaaDoorAi
import Derived.Lib.AppendZerosOnto
namespace Go.Proofs.YtodeiapaehlmfaaDoor
open Go Go.RowKit
attribute [local go_sem] rowAt_alloc_at rowAt_alloc_past rowAt_drew rowAt_drewN bv_size iv_size bv_one iv_one bv_set iv_set bv_get iv_get bv_elem iv_elem zlit16 zlit8 z16_length z8_length
attribute [local irreducible] wpQuiet
set_option linter.unusedSimpArgs false

/-! ### append of noughts onto a row of the call's own -/
theorem zeroCells_one (zv : Value) (k : Nat) : (Builtin.zeroCells #[zv] k).toList = List.replicate k zv := by
  simp only [Builtin.zeroCells, Array.toList_map, Array.toList_range]
  refine List.ext_getElem (by simp) fun j h1 h2 => ?_
  simp [Nat.mod_one]

theorem run_append_own_zeros {P : Program} (w : World) (base : Nat) (t tn ty e : TypeId) (i : TypeInfo) (zv : Value) (bytes : Nat) (kq kn : IntKind) (ht : P.underlying t = some (.slice e)) (htn : P.underlying tn = some (.int kn)) (hi : P.info? e = some i) (hz : i.zero = some zv)
    (hsize : i.size = 1) (hby : i.bytes = bytes) (hzs : zv.cells = #[zv]) (h1 : zv.oneCell' = true) (v : Value) (n : Nat) (xs : List Value) (hown : w.ownsRow base e 1 v n xs) (k : Nat)
    (h63 : n + k ≤ maxLen) (hbytes : (n + k) * bytes ≤ 140737488355328) (hbase : base ≤ w.heap.size) :
    ∃ v' w', (Builtin.append_ #[t, tn] ty #[v, .int kq k]).run P w = .ok v' w' ∧ w'.ownsRow base e 1 v' (n + k) (xs ++ List.replicate k zv) ∧ w.grownBy w' v.ownBlock ∧ (v'.ownBlock = v.ownBlock ∨ v'.ownBlock = some w.heap.size) := by
  subst hby
  have hm : maxLen = 9223372036854775807 ∨ True := Or.inr trivial
  have hsmall : n + k ≤ 9223372036854775807 := by simp only [maxLen] at h63; omega
  have hlen : (xs ++ List.replicate k zv).length = (n + k) * 1 := by simp [hown.1]
  have hkb : k * i.bytes ≤ 281474976710656 := by
    have := Nat.mul_le_mul_right i.bytes (show k ≤ n + k by omega)
    omega
  have grown : ∀ (old : Nat) (row : Option Nat),
      (w.drew.alloc (.cells (xs.toArray ++ Builtin.zeroCells zv.cells k ++ Builtin.zeroCells zv.cells (grownCap w (n + k) old e - (n + k))) e)).ownsRow base e 1
        (.slice (some ⟨w.heap.size, 0, none⟩) (n + k) (grownCap w (n + k) old e)) (n + k) (xs ++ List.replicate k zv) ∧
      w.grownBy (w.drew.alloc (.cells (xs.toArray ++ Builtin.zeroCells zv.cells k ++ Builtin.zeroCells zv.cells (grownCap w (n + k) old e - (n + k))) e)) row := by
    intro old row
    have hge := grownCap_ge w (n + k) old e
    have hcm : grownCap w (n + k) old e ≤ maxLen := grownCap_le_maxLen w (n + k) old e h63
    refine ⟨⟨hlen, .inr ⟨w.heap.size, _, _, rfl, hbase, heap_alloc_new w.drew _, hge, hcm, ?_, ?_⟩⟩, ⟨rfl, rfl, rfl, by simp, fun k hk _ => heap_alloc_old w.drew _ hk⟩⟩
    · have := hown.1
      simp only [Array.size_append, List.size_toArray, size_zeroCells, hzs]
      simp
      omega
    · simp only [Array.toList_append, hzs, zeroCells_one]
      rw [← hlen]
      exact List.take_left
  have hw : IntKind.i64.wrap (k : Int) = k := by rw [IntKind.wrap_i64]; omega
  have hneg : ¬ ((k : Int) < 0) := by omega
  have h48i : ¬ (281474976710656 < (k : Int) * (i.bytes : Int)) := by
    rw [← Int.natCast_mul]
    omega
  rcases hown.2 with ⟨rfl, rfl⟩ | ⟨g, cap, cur, rfl, hbg, hg, hnc, hcm, hcs, htake⟩
  · have hx : xs = [] := List.eq_nil_of_length_eq_zero (by simpa using hown.1)
    subst hx
    by_cases hk0 : k = 0
    · subst hk0
      refine ⟨.slice none 0 0, w, ?_, World.ownsRow_nil w base e 1, ⟨rfl, rfl, rfl, Nat.le_refl _, fun _ _ _ => rfl⟩, Or.inl rfl⟩
      have hw0 : IntKind.i64.wrap 0 = 0 := hw
      simp [Builtin.append_, run_underlying ht, run_underlying htn, sizeOf, typeInfo, hi, asInt, asIntOf, hw0]
    · have hr := Lib.run_append_grow_zeros (P := P) w t tn ty e i zv kq kn ht htn hi hz none 0 0 [] (by simp [Builtin.firstCells, loadCells, loadCellsFrom]) k (by omega) (by omega) (by omega) (by omega) hkb (growslice_fits (by omega) hbytes)
      have hgr := grown 0 (Value.ownBlock (.slice none 0 0))
      exact ⟨_, _, hr, hgr.1, hgr.2, Or.inr rfl⟩
  · by_cases hroom : n + k ≤ cap
    · have hst := run_storeCells_at P g (n * 1) e (List.replicate k zv) 0 cur w hg (by simp; omega) (by intro u hu; rw [(List.mem_replicate.1 hu).2]; exact h1)
      simp only [Nat.add_zero] at hst
      refine ⟨.slice (some ⟨g, 0, none⟩) (n + k) cap, w.setRow g (cur.toList.take (n * 1) ++ List.replicate k zv ++ cur.toList.drop (n * 1 + (List.replicate k zv).length)).toArray, ?_, ⟨hlen, .inr ⟨g, cap, _, rfl, hbg, setRow_heap w g cur _ e _ hg, hroom, hcm, ?_, ?_⟩⟩, ⟨rfl, rfl, rfl, by simp, fun k _ hk => setRow_other w g k _ (fun e => hk (by simp [Value.ownBlock, e]))⟩, Or.inl rfl⟩
      · by_cases hk0 : k = 0
        · subst hk0
          have hw0 : IntKind.i64.wrap 0 = 0 := hw
          simp at hst
          simp [Builtin.append_, run_underlying ht, run_underlying htn, sizeOf, typeInfo, hi, hsize, asInt, asIntOf, hw0, hnc, Addr.add_lit, hst]
        · have hz0 : (Builtin.zeroCells #[zv] k).toList = List.replicate k zv := zeroCells_one zv k
          simp at hst
          simp [Builtin.append_, run_underlying ht, run_underlying htn, sizeOf, typeInfo, zeroValue, hi, hz, hzs, hsize, asInt, asIntOf, hw, hneg, h48i, hroom, hk0, Addr.add_lit, hz0, hst]
      · simp only [List.size_toArray, List.length_append, List.length_take, List.length_drop, Array.length_toList]
        simp
        omega
      · rw [htake, ← hlen]
        exact List.take_left
    · have holds : ∀ j u, xs[j]? = some u → w.cell? ((⟨g, 0, none⟩ : Addr).add j) = some u := hown.cells (g := g) rfl
      have hfo := run_firstCells_some (P := P) w.drew i.size n ⟨g, 0, none⟩ n cap xs (by rw [hsize]; exact hown.1) (by simpa using holds)
      have hr := Lib.run_append_grow_zeros (P := P) w t tn ty e i zv kq kn ht htn hi hz (some ⟨g, 0, none⟩) n cap xs hfo k (by omega) (by omega) (by omega) (by omega) hkb (growslice_fits (by omega) hbytes)
      have hgr := grown cap (Value.ownBlock (.slice (some ⟨g, 0, none⟩) n cap))
      exact ⟨_, _, hr, hgr.1, hgr.2, Or.inr rfl⟩

/-! ### addr.Parse -/
theorem byt_set {l : List Int} (h : byt l) {i : Nat} {x : Int} (hx : 0 ≤ x ∧ x ≤ 255) : byt (l.set i x) := by
  intro k
  unfold nth
  by_cases hk : k < l.length
  · by_cases hki : i = k
    · subst hki
      simp [List.getD, List.getElem?_set, hk, hx]
    · have := h k
      unfold nth at this
      simpa [List.getD, List.getElem?_set, hki] using this
  · have : (l.set i x)[k]? = none := List.getElem?_eq_none (by simp; omega)
    simp [List.getD, this]
theorem byt_ofTo {l : List Int} (h : ∀ j, 0 ≤ nth l j ∧ nth l j ≤ 65535) : ∀ k, byt (ofTo l k)
  | 0 => byt_z16
  | k + 1 => by
    have := h k
    refine byt_set (byt_set (byt_ofTo h k) ?_) ?_ <;> omega
theorem byt_ofS (l : List Int) : byt (ofS l).1 := by
  unfold ofS
  split
  · rename_i h
    refine byt_ofTo (fun j => ?_) 8
    unfold nth
    by_cases hj : j < l.length
    · have := List.all_eq_true.1 h.2 l[j] (List.getElem_mem hj)
      simp only [okG, decide_eq_true_eq] at this
      simpa [List.getD, List.getElem?_eq_getElem hj] using this
    · simp [List.getD, List.getElem?_eq_none (show l.length ≤ j by omega)]
  · exact byt_z16

theorem of_own {w : World} {base n : Nat} {v : Value} {xs : List Int} (hn : xs.length = n) (h : w.ownsRow base 3 1 v n (xs.map (Value.int .i64))) :
    Calls Tryd.prog 9 #[v] w fun e w' => e = .returned (.tuple #[.agg (bv (ofS xs).1), .int .i64 (ofS xs).2]) ∧ Below w.heap.size w w' := by
  by_cases h8 : n = 8
  · obtain ⟨g, cap, rfl, _, hlt⟩ := h.form (by omega)
    have hc := h.cells (g := g) rfl
    subst h8
    refine of_eight g 0 cap xs hn w hlt (fun k hk => ?_)
    have := hc k (.int .i64 (nth xs k)) (by simp [nth, List.getD, List.getElem?_eq_getElem (show k < xs.length by omega)])
    rwa [Lib.add_plain] at this
  · rcases h.2 with ⟨rfl, h0⟩ | ⟨g, cap, cur, rfl, _⟩
    · subst h0
      exact of_other none 0 0 xs hn (by omega) w
    · exact of_other _ n cap xs hn h8 w

def dcolon : List UInt8 := [58, 58]
def bytesOf (l : List UInt8) : ByteArray := ⟨l.toArray⟩
def parseF (t : ByteArray) : Option (List Int) := listS (bytesOf (Lib.cut t.data.toList dcolon).1)
def parseB (t : ByteArray) : Option (List Int) := listS (bytesOf (Lib.cut t.data.toList dcolon).2.1)
def parseI (t : ByteArray) : Bool := (Lib.cut t.data.toList dcolon).2.2
/-- the groups that a text spells, if it spells at most eight -/
def parseG (t : ByteArray) : Option (List Int) :=
  match parseF t, parseB t with
  | some l, some m => if l.length + m.length > 8 then none else some (if parseI t then l ++ List.replicate (8 - l.length - m.length) 0 ++ m else l ++ m)
  | _, _ => none
def parseS (t : ByteArray) : List Int × Int :=
  match parseG t with
  | some g => if (ofS g).2 = 0 ∧ bytesOf (textS (ofS g).1) = t then ((ofS g).1, 0) else (z16, 3)
  | none => (z16, 3)
theorem parseS_none {t : ByteArray} (h : parseG t = none) : parseS t = (z16, 3) := by rw [parseS, h]
theorem parseS_bad {t : ByteArray} {g : List Int} (h : parseG t = some g) (h2 : ¬ ((ofS g).2 = 0 ∧ bytesOf (textS (ofS g).1) = t)) : parseS t = (z16, 3) := by rw [parseS, h]; exact if_neg h2
theorem parseS_ok {t : ByteArray} {g : List Int} (h : parseG t = some g) (h2 : (ofS g).2 = 0 ∧ bytesOf (textS (ofS g).1) = t) : parseS t = ((ofS g).1, 0) := by rw [parseS, h]; exact if_pos h2
theorem cut_le (s sep : List UInt8) : (Lib.cut s sep).1.length ≤ s.length ∧ (Lib.cut s sep).2.1.length ≤ s.length := by
  unfold Lib.cut
  split <;> simp <;> omega


theorem gAll_length : ∀ {ps : List ByteArray} {l : List Int}, gAll ps = some l → l.length = ps.length
  | [], l, h => by simp [gAll] at h; subst h; rfl
  | p :: r, l, h => by
    rw [gAll] at h
    split at h
    · cases h
    · cases hr : gAll r with
      | none => rw [hr] at h; cases h
      | some l' =>
        rw [hr] at h
        simp at h
        subst h
        simp [gAll_length hr]
theorem listS_length {t : ByteArray} {l : List Int} (h : listS t = some l) (hlim : t.size ≤ 65536) : l.length ≤ 65537 := by
  unfold listS at h
  split at h
  · simp at h; subst h; simp
  · have h1 := gAll_length h
    have h2 := partsS_length t
    have h3 := Lib.countB_le colon (by decide) _ t (Nat.le_refl _)
    omega
theorem list_no {t : ByteArray} (h : listS t = none) (hlim : t.size ≤ 65536) (w : World) (hg : Glob w) : Calls Tryd.prog 30 #[.string t] w fun e w' => e = .returned (.tuple #[.slice none 0 0, .bool false]) ∧ Below w.heap.size w w' := by
  have := list_any t hlim w hg
  rw [h] at this
  exact this
theorem list_yes {t : ByteArray} {xs : List Int} (h : listS t = some xs) (hlim : t.size ≤ 65536) (w : World) (hg : Glob w) : Calls Tryd.prog 30 #[.string t] w fun e w' => ∃ A cap, e = .returned (.tuple #[.slice A xs.length cap, .bool true]) ∧ w'.ownsRow w.heap.size 3 1 (.slice A xs.length cap) xs.length (xs.map (Value.int .i64)) ∧ Below w.heap.size w w' := by
  refine (list_any t hlim w hg).mono ?_
  rintro e w' ⟨h1, h2⟩
  rw [h] at h1
  obtain ⟨A, cap, he, ho⟩ := h1
  exact ⟨A, cap, he, ho, h2⟩

set_option maxHeartbeats 2000000 in
set_option maxRecDepth 100000 in
theorem parse_no (t : ByteArray) (hlim : t.size ≤ 65536) (hP : parseG t = none) (w : World) (hg : Glob w) : Calls Tryd.prog 10 #[.string t] w fun e w' => e = .returned (.tuple #[.agg (bv (parseS t).1), .int .i64 (parseS t).2]) ∧ Below w.heap.size w w' := by
  have HP := Lib.hid (parseS_none hP)
  have hcl := cut_le t.data.toList dcolon
  have hsz : t.data.toList.length = t.size := Lib.size_eq t
  have hb0 := below1 w (.cells (bv z16) 25)
  obtain ⟨m, hm⟩ := (hg.since hb0).top
  have HC := Lib.hid (Tryd.strings_Cut t ⟨#[58, 58]⟩ m (w.alloc (.cells (bv z16) 25)) (by omega) hm)
  have hlF : (bytesOf (Lib.cut t.data.toList dcolon).1).size ≤ 65536 := by show (Lib.cut t.data.toList dcolon).1.toArray.size ≤ _; simp; omega
  have hlB : (bytesOf (Lib.cut t.data.toList dcolon).2.1).size ≤ 65536 := by show (Lib.cut t.data.toList dcolon).2.1.toArray.size ≤ _; simp; omega
  have HG0 := Lib.hid (hg.since hb0)
  clear hg hm hsz hcl hlim
  have eI : (Lib.cut t.data.toList dcolon).2.2 = parseI t := rfl
  have eD : (ByteArray.mk #[58, 58]).data.toList = dcolon := rfl
  rw [eD, eI] at HC
  rcases hF : parseF t with _ | l
  · have HF := Lib.hid (list_no hF hlF)
    rcases hB : parseB t with _ | m
    · have HB := Lib.hid (list_no hB hlB)
      clear hF hB hlF hlB eI eD hP
      unfold bytesOf at HF HB
      generalize (Lib.cut t.data.toList dcolon).1 = F at *
      generalize (Lib.cut t.data.toList dcolon).2.1 = B at *
      generalize parseI t = I at *
      go_enter Tryd.func10, Tryd.ntmps10
      go_wp2_with (first
        | (go_at_call 29; refine HC.out.mono ?_; rintro e w1 ⟨rfl, n, hw1⟩; have HG1 : Hid (Glob w1) := Lib.hid (by rw [hw1]; exact HG0.out.since (below_drewN (Below.refl _ _) n)); have q0 : rowAt w1 w.heap.size = some (bv z16) := (by simp [hw1, go_sem]); have hb1 : Below w.heap.size w w1 := (by rw [hw1]; exact below_drewN hb0 n); have hn1 : w1.heap.size = w.heap.size + 1 := (by simp [hw1]); clear hw1)
        | (go_at_call 30; with_reducible refine (HF.out _ HG1.out).mono ?_; rintro e w2 ⟨rfl, hb2⟩; have q1 := row_call hb2 q0; have HG2 := Lib.hid (HG1.out.since hb2); have hb12 := below_call hb1 hb2)
        | (go_at_call 30; with_reducible refine (HB.out _ HG2.out).mono ?_; rintro e w3 ⟨rfl, hb3⟩; have q2 := row_call hb3 q1; have HG3 := Lib.hid (HG2.out.since hb3); have hb13 := below_call hb12 hb3)
        | (apply wpList_rowstore (vs := bv z16) isz25; exact rfl; exact rfl; exact rfl; exact rfl; (with_reducible exact q2); exact (by simp [go_sem, *]); exact (by simp [go_sem, *]); exact (by simp [go_sem, *]); try simp only [Act.put, List.setIfInBounds_toArray, List.set_cons_zero, List.set_cons_succ]))
      refine bodyPost_ret (results_row_tmp rfl Tryd.underlying25 rfl isz25 _ _ (w.heap.size) (bv z16) rfl (rowAt_setRow_same q2 _) (by simp [go_sem, *])) rfl ?_
      exact ⟨by rw [HP.out]; rfl, below_set hb13 (Nat.le_refl _) _⟩
    · have HB := Lib.hid (list_yes hB hlB)
      clear hF hB hlF hlB eI eD hP
      unfold bytesOf at HF HB
      generalize (Lib.cut t.data.toList dcolon).1 = F at *
      generalize (Lib.cut t.data.toList dcolon).2.1 = B at *
      generalize parseI t = I at *
      go_enter Tryd.func10, Tryd.ntmps10
      go_wp2_with (first
        | (go_at_call 29; refine HC.out.mono ?_; rintro e w1 ⟨rfl, n, hw1⟩; have HG1 : Hid (Glob w1) := Lib.hid (by rw [hw1]; exact HG0.out.since (below_drewN (Below.refl _ _) n)); have q0 : rowAt w1 w.heap.size = some (bv z16) := (by simp [hw1, go_sem]); have hb1 : Below w.heap.size w w1 := (by rw [hw1]; exact below_drewN hb0 n); have hn1 : w1.heap.size = w.heap.size + 1 := (by simp [hw1]); clear hw1)
        | (go_at_call 30; with_reducible refine (HF.out _ HG1.out).mono ?_; rintro e w2 ⟨rfl, hb2⟩; have q1 := row_call hb2 q0; have HG2 := Lib.hid (HG1.out.since hb2); have hb12 := below_call hb1 hb2)
        | (go_at_call 30; with_reducible refine (HB.out _ HG2.out).mono ?_; rintro e w3 ⟨A2, c2, rfl, hown2, hb3⟩; have q2 := row_call hb3 q1; have HG3 := Lib.hid (HG2.out.since hb3); have hb13 := below_call hb12 hb3; have HO2 := Lib.hid hown2; clear hown2)
        | (apply wpList_rowstore (vs := bv z16) isz25; exact rfl; exact rfl; exact rfl; exact rfl; (with_reducible exact q2); exact (by simp [go_sem, *]); exact (by simp [go_sem, *]); exact (by simp [go_sem, *]); try simp only [Act.put, List.setIfInBounds_toArray, List.set_cons_zero, List.set_cons_succ]))
      refine bodyPost_ret (results_row_tmp rfl Tryd.underlying25 rfl isz25 _ _ (w.heap.size) (bv z16) rfl (rowAt_setRow_same q2 _) (by simp [go_sem, *])) rfl ?_
      exact ⟨by rw [HP.out]; rfl, below_set hb13 (Nat.le_refl _) _⟩
  · have HF := Lib.hid (list_yes hF hlF)
    rcases hB : parseB t with _ | m
    · have HB := Lib.hid (list_no hB hlB)
      clear hF hB hlF hlB eI eD hP
      unfold bytesOf at HF HB
      generalize (Lib.cut t.data.toList dcolon).1 = F at *
      generalize (Lib.cut t.data.toList dcolon).2.1 = B at *
      generalize parseI t = I at *
      go_enter Tryd.func10, Tryd.ntmps10
      go_wp2_with (first
        | (go_at_call 29; refine HC.out.mono ?_; rintro e w1 ⟨rfl, n, hw1⟩; have HG1 : Hid (Glob w1) := Lib.hid (by rw [hw1]; exact HG0.out.since (below_drewN (Below.refl _ _) n)); have q0 : rowAt w1 w.heap.size = some (bv z16) := (by simp [hw1, go_sem]); have hb1 : Below w.heap.size w w1 := (by rw [hw1]; exact below_drewN hb0 n); have hn1 : w1.heap.size = w.heap.size + 1 := (by simp [hw1]); clear hw1)
        | (go_at_call 30; with_reducible refine (HF.out _ HG1.out).mono ?_; rintro e w2 ⟨A1, c1, rfl, hown1, hb2⟩; have q1 := row_call hb2 q0; have HG2 := Lib.hid (HG1.out.since hb2); have hb12 := below_call hb1 hb2; have HO1 := Lib.hid hown1; clear hown1)
        | (go_at_call 30; with_reducible refine (HB.out _ HG2.out).mono ?_; rintro e w3 ⟨rfl, hb3⟩; have q2 := row_call hb3 q1; have HG3 := Lib.hid (HG2.out.since hb3); have hb13 := below_call hb12 hb3)
        | (apply wpList_rowstore (vs := bv z16) isz25; exact rfl; exact rfl; exact rfl; exact rfl; (with_reducible exact q2); exact (by simp [go_sem, *]); exact (by simp [go_sem, *]); exact (by simp [go_sem, *]); try simp only [Act.put, List.setIfInBounds_toArray, List.set_cons_zero, List.set_cons_succ]))
      refine bodyPost_ret (results_row_tmp rfl Tryd.underlying25 rfl isz25 _ _ (w.heap.size) (bv z16) rfl (rowAt_setRow_same q2 _) (by simp [go_sem, *])) rfl ?_
      exact ⟨by rw [HP.out]; rfl, below_set hb13 (Nat.le_refl _) _⟩
    · have HB := Lib.hid (list_yes hB hlB)
      have h8 : (8 : Int) < (l.length : Int) + m.length := by
        rw [parseG, hF, hB] at hP
        simp only at hP
        split at hP
        · omega
        · cases hP
      have hl8 : l.length ≤ 65537 := listS_length hF hlF
      have hm8 : m.length ≤ 65537 := listS_length hB hlB
      clear hF hB hlF hlB eI eD hP
      unfold bytesOf at HF HB
      generalize (Lib.cut t.data.toList dcolon).1 = F at *
      generalize (Lib.cut t.data.toList dcolon).2.1 = B at *
      generalize parseI t = I at *
      go_enter Tryd.func10, Tryd.ntmps10
      go_wp2_with (first
        | (go_at_call 29; refine HC.out.mono ?_; rintro e w1 ⟨rfl, n, hw1⟩; have HG1 : Hid (Glob w1) := Lib.hid (by rw [hw1]; exact HG0.out.since (below_drewN (Below.refl _ _) n)); have q0 : rowAt w1 w.heap.size = some (bv z16) := (by simp [hw1, go_sem]); have hb1 : Below w.heap.size w w1 := (by rw [hw1]; exact below_drewN hb0 n); have hn1 : w1.heap.size = w.heap.size + 1 := (by simp [hw1]); clear hw1)
        | (go_at_call 30; with_reducible refine (HF.out _ HG1.out).mono ?_; rintro e w2 ⟨A1, c1, rfl, hown1, hb2⟩; have q1 := row_call hb2 q0; have HG2 := Lib.hid (HG1.out.since hb2); have hb12 := below_call hb1 hb2; have HO1 := Lib.hid hown1; clear hown1)
        | (go_at_call 30; with_reducible refine (HB.out _ HG2.out).mono ?_; rintro e w3 ⟨A2, c2, rfl, hown2, hb3⟩; have q2 := row_call hb3 q1; have HG3 := Lib.hid (HG2.out.since hb3); have hb13 := below_call hb12 hb3; have HO2 := Lib.hid hown2; clear hown2)
        | (apply wpList_rowstore (vs := bv z16) isz25; exact rfl; exact rfl; exact rfl; exact rfl; (with_reducible exact q2); exact (by simp [go_sem, *]); exact (by simp [go_sem, *]); exact (by simp [go_sem, *]); try simp only [Act.put, List.setIfInBounds_toArray, List.set_cons_zero, List.set_cons_succ]))
      refine bodyPost_ret (results_row_tmp rfl Tryd.underlying25 rfl isz25 _ _ (w.heap.size) (bv z16) rfl (rowAt_setRow_same q2 _) (by simp [go_sem, *])) rfl ?_
      exact ⟨by rw [HP.out]; rfl, below_set hb13 (Nat.le_refl _) _⟩


end Go.Proofs.YtodeiapaehlmfaaDoor
