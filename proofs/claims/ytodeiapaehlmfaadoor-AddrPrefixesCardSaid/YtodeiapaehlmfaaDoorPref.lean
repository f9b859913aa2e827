/- The statement AddrPrefixes is proved: for every address, every list of prefixes and every number of bits the law returns true and its arguments read afterwards as before; the package variables that the row lists hold what the program's text lays (tied card). -/
import Derived.Test.YtodeiapaehlmfaaDoorBc
import Derived.Test.YtodeiapaehlmfaaDoorAu
import Derived.Test.YtodeiapaehlmfaaDoorCards
import Derived.Test.YtodeiapaehlmfaaDoorTie
import Derived.Deep.Slices
import Derived.Carry
namespace Go.Proofs.YtodeiapaehlmfaaDoor
open Go Go.ChangeShapes Go.WideShapes Go.ChangeAt Go.RowKit

theorem laidOut2 : laidOutB Tryd.prog = true := by kernel_rfl

set_option maxRecDepth 100000 in
theorem open_prefix_cells {H : Type} {enc : TypeId × Value → H} {W : World} {base fuel : Nat} {sp : Nat → Bool} {held : Bool} {cs : List Value} {x : DataW H × List MemPlace} (hl : cs.length = 17)
    (h : DataW.trod enc Tryd.prog W base sp held fuel 47 cs = some x) : ∃ (P : List Int) (m : Int), P.length = 16 ∧ byt P ∧ cs = (pv P m).toList := by
  have c22 : Tryd.prog.cellsOf 22 = 16 := by kernel_rfl
  have c3 : Tryd.prog.cellsOf 3 = 1 := by kernel_rfl
  obtain ⟨y0, y1, n, _, _, h0, h1⟩ := trod_struct2 Tryd.underlying47 h
  simp only [List.drop_zero, c22, c3] at h0 h1
  have hd : DataW.Trod enc Tryd.prog W base sp held 22 (.agg (cs.take 16).toArray) y0.1 y0.2 := ⟨n, by simpa [Value.cells] using h0⟩
  obtain ⟨P, hP, hw, hcs, _, _⟩ := open_cells_arr Tryd.underlying22 Tryd.underlying5 (by kernel_rfl) (by kernel_rfl) hd
  obtain ⟨m, hm, _, _⟩ := DataW.trod_int Tryd.underlying3 h1
  refine ⟨P, m, hP, byt_wf hw, ?_⟩
  have hlist : cs = P.map (Value.int .u8) ++ [Value.int .i64 m] := by
    rw [← List.take_append_drop 16 cs]
    congr 1
    rw [← hm]
    exact (List.take_of_length_le (by simp [hl])).symm
  rw [hlist]
  simp [pv]

theorem open_prefixes {H : Type} {enc : TypeId × Value → H} {W : World} {base fuel : Nat} {sp : Nat → Bool} {held : Bool} {cs : List Value} {x : DataW H × List MemPlace}
    (h : DataW.trod enc Tryd.prog W base sp held fuel 57 cs = some x) : (∃ A cap, cs = [.slice A 0 cap]) ∨ ∃ (b o n cap : Nat) (L : List (List Int × Int)), cs = [.slice (some ⟨b, o, none⟩) n cap] ∧ 0 < n ∧ n ≤ maxLen ∧ L.length = n ∧ good16 L ∧ Reads W W.heap.size 17 (some ⟨b, o, none⟩) n (pcells L) := by
  have c47 : Tryd.prog.cellsOf 47 = 17 := by kernel_rfl
  rcases Go.Deep.open_slice Tryd.underlying57 h with h0 | ⟨a, len, cap, m, n, D, Pl, hcs, hb, hl, hm, hmm, hx, hi⟩
  · exact .inl ⟨none, 0, h0.1⟩
  · rcases Nat.eq_zero_or_pos len with hz | hz
    · subst hz; exact .inl ⟨_, cap, hcs⟩
    · right
      have hlm : len ≤ m := by rw [hmm]; split <;> omega
      have hel : ∀ i, ∃ p : List Int × Int, i < len → p.1.length = 16 ∧ byt p.1 ∧ ∀ j v, (pv p.1 p.2)[j]? = some v → W.cell? (a.add (i * 17 + j)) = some v := by
        intro i
        by_cases hlt : i < len
        · obtain ⟨cs', hc, ht'⟩ := hi i (by omega)
          rw [c47] at hc
          obtain ⟨_, hcl, hat⟩ := World.cells?_some hc
          obtain ⟨P, q, hP, hB, hcs'⟩ := open_prefix_cells hcl ht'
          refine ⟨(P, q), fun _ => ⟨hP, hB, fun j v hv => ?_⟩⟩
          have hj : j < 17 := by
            have := (Array.getElem?_eq_some_iff.1 hv).1
            rw [pv_size, hP] at this; omega
          have h1 := hat j hj
          rw [← Go.Deep.add_add, h1, hcs', Array.getElem?_toList]
          exact hv
        · exact ⟨([], 0), fun h => absurd h hlt⟩
      obtain ⟨f, hf⟩ := Classical.axiomOfChoice hel
      have hL : ((List.range len).map f).length = len := by simp
      have hg : good16 ((List.range len).map f) := fun p hp => by
        obtain ⟨i, hi, rfl⟩ := List.mem_map.1 hp
        have := hf i (List.mem_range.1 hi)
        exact ⟨this.1, this.2.1⟩
      have hcell : ∀ j u, (pcells ((List.range len).map f))[j]? = some u → W.cell? (a.add j) = some u := by
        intro j u hu
        have hlen := pcells_length hg
        have hj : j < len * 17 := by
          have := (List.getElem?_eq_some_iff.1 hu).1
          omega
        have hq : j / 17 < len := by omega
        have hfq := hf (j / 17) hq
        have hk : ((List.range len).map f)[j / 17]? = some (f (j / 17)) := by simp [hq]
        have hsz : j % 17 < (pv (f (j / 17)).1 (f (j / 17)).2).size := by rw [pv_size, hfq.1]; omega
        have hv : (pv (f (j / 17)).1 (f (j / 17)).2)[j % 17]? = some ((pv (f (j / 17)).1 (f (j / 17)).2)[j % 17]) := Array.getElem?_eq_getElem hsz
        have h1 := pcells_at hg hk _ _ hv
        have h2 := hfq.2.2 _ _ hv
        rw [show j / 17 * 17 + j % 17 = j by omega] at h1 h2
        rw [h2]
        exact h1.symm.trans hu
      have h00 : ∃ u, (pcells ((List.range len).map f))[0]? = some u := ⟨_, List.getElem?_eq_getElem (by rw [pcells_length hg]; simp; omega)⟩
      obtain ⟨u0, hu0⟩ := h00
      have hc0 := hcell 0 u0 hu0
      have hspot : a.spot = none := by
        have := World.cell?_spot hc0
        simpa [Addr.add] using this
      obtain ⟨b, o, s⟩ := a
      simp only at hspot
      subst hspot
      refine ⟨b, o, len, cap, (List.range len).map f, hcs, hz, by omega, hL, hg, by rw [pcells_length hg, hL], fun _ => ⟨⟨b, o, none⟩, rfl, ?_, hcell⟩⟩
      have := cell_lt hc0
      simpa [Addr.add] using this

theorem law_prefixes (a : List Int) (ha : a.length = 16) (hA : byt a) (v : Value) (bits : Int) (w : World) (hgl : Glob w) (hv : (∃ A cap, v = .slice A 0 cap) ∨ ∃ (b o n cap : Nat) (L : List (List Int × Int)), v = .slice (some ⟨b, o, none⟩) n cap ∧ 0 < n ∧ n ≤ maxLen ∧ L.length = n ∧ good16 L ∧ Reads w w.heap.size 17 (some ⟨b, o, none⟩) n (pcells L)) :
    Calls Tryd.prog 7 #[.agg (bv a), v, .int .i64 bits] w fun e w' => e = .returned (.bool true) ∧ Below w.heap.size w w' := by
  rcases hv with ⟨A, cap, rfl⟩ | ⟨b, o, n, cap, L, rfl, hn0, hn, hL, hg, hr⟩
  · exact law_prefixes_none a ha hA A cap bits w hgl
  · exact law_prefixes_some a ha hA b o n cap L hL hg bits w hr hn hn0 hgl

set_option maxRecDepth 100000 in
theorem pref_lifted (os : Os) (started : os.Started) (H : Type) (enc : TypeId × Value → H) :
    ReturnsInHanded {} Tryd.checked os 7 .any (fun w args => (Rows.addrPrefixesSpec.pre enc Tryd.prog Tryd.f7 Rows.addrPrefixesRow.domain false w args ∧ laidMetH Tryd.prog laidAll w) ∧ sizedMet enc Tryd.prog Tryd.f7 (OpenSpec.ofChange Rows.addrPrefixesSpec) false w args)
      (Rows.addrPrefixesSpec.post enc Tryd.prog Tryd.f7 false true false false) := by
  refine lift_laid_shaped (C := Tryd.checked) (X := fun w _ => laidMetH Tryd.prog laidAll w) (fun _ _ _ hh h => h.of_heap hh) own started (by kernel_rfl) Tryd.func7
    (ChangeSpec.witness_shaped (enc := enc) (C := Tryd.checked) (os := os) (X := fun w _ => laidMetH Tryd.prog laidAll w) false (World.laidAll Tryd.prog os laidAll) #[.agg (bv z16), .slice none 0 0, .int .i64 0] 8 (World.laidAll_os _ _ _)
      (World.shaped_of_ZipB (by kernel_rfl) (by kernel_rfl)) (by kernel_rfl) (by kernel_rfl) (by kernel_rfl)
      (by rw [MakeChecks.laidMetH_plain _ _ _ (by kernel_rfl)]; exact laidMet_laidAll _ (by kernel_rfl) (by kernel_rfl))) ?_
  intro W base args ds gs before hval0 hW _ _ hL hsh
  have hval : ∀ (j : Nat) t v, Tryd.f7.params[j]? = some t → args[j]? = some v → Value.okWide Tryd.prog W .any base t v := hval0
  have hW' := hW
  obtain ⟨p, q, hA0, hV, rfl, _, _⟩ := hW
  have hA : DataW.TrodAll enc Tryd.prog W 0 (fun _ => true) true Tryd.f7.params.toList args.toList ds p := hA0
  rw [Tryd.params7] at hA hval
  obtain ⟨v0, v1, v2, d0, d1, d2, p0, p1, p2, rfl, rfl, rfl, h0, h1, h2⟩ := trodAll_three hA
  obtain ⟨rfl, rfl⟩ := trodVars_none hV
  clear hA0 hval0
  simp only [List.append_nil] at hW'
  have hlt : ∀ x ∈ p0 ++ p1 ++ p2, x.block < W.heap.size := fun x hx => by simpa using hW'.lt x hx
  have hlt0 : ∀ x ∈ p0, x.block < W.heap.size := fun x hx => hlt x (by simp [hx])
  have hlt1 : ∀ x ∈ p1, x.block < W.heap.size := fun x hx => hlt x (by simp [hx])
  have hlt2 : ∀ x ∈ p2, x.block < W.heap.size := fun x hx => hlt x (by simp [hx])
  obtain ⟨a, ha, wa, rfl, _⟩ := open_ints_arr Tryd.underlying22 Tryd.underlying5 (by kernel_rfl) (by kernel_rfl) (hval 0 22 v0 rfl rfl) h0
  obtain ⟨bits, rfl, _⟩ := open_int Tryd.underlying3 (hval 2 3 v2 rfl rfl) h2
  obtain ⟨A, len, cap, rfl⟩ := okWide_slice Tryd.underlying57 (hval 1 57 v1 rfl rfl)
  have hv : (∃ A' cap', Value.slice A len cap = .slice A' 0 cap') ∨ ∃ (b o n cap' : Nat) (L : List (List Int × Int)), Value.slice A len cap = .slice (some ⟨b, o, none⟩) n cap' ∧ 0 < n ∧ n ≤ maxLen ∧ L.length = n ∧ good16 L ∧ Reads W W.heap.size 17 (some ⟨b, o, none⟩) n (pcells L) := by
    obtain ⟨fuel, hf⟩ := h1
    rcases open_prefixes hf with ⟨A', cap', h⟩ | ⟨b, o, n, cap', L, h, hrest⟩
    · exact .inl ⟨A', cap', by simpa [Value.cells] using h⟩
    · exact .inr ⟨b, o, n, cap', L, by simpa [Value.cells] using h, hrest⟩
  refine (law_prefixes a ha (byt_wf wa) _ bits W (glob_of hsh hL) hv).mono fun e W' ⟨he, hb⟩ => ?_
  subst he
  rw [List.append_assoc] at hW'
  exact ⟨_, rfl, _, _, _, [], p0 ++ (p1 ++ p2), [], hW', trodAll_mk1 (shut_bool Tryd.underlying4 _),
    trodAll_mk3 (Below.trod laidOut2 (by kernel_rfl) (of_decide_eq_true (by kernel_rfl)) h0 hb hlt0) (Below.trod laidOut2 (by kernel_rfl) (of_decide_eq_true (by kernel_rfl)) h1 hb hlt1) (Below.trod laidOut2 (by kernel_rfl) (of_decide_eq_true (by kernel_rfl)) h2 hb hlt2), rfl, hb.frame _, fun h => by cases h⟩

theorem pref_said : Rows.AddrPrefixesSaid :=
  OpenClaim.holds_of_wide 7 Tryd.f7 rfl rfl rfl rfl rfl rfl rfl ⟨rfl, rfl, rfl, rfl, rfl⟩ rfl rfl rfl rfl rfl (by kernel_rfl) Tryd.func7 (by kernel_rfl)
    (of_decide_eq_true (by kernel_rfl)) (by unfold Func.isWrapper; first | (rw [if_pos (by decide +kernel)]; kernel_rfl) | (rw [if_neg (by decide +kernel)]; exact ⟨rfl, rfl⟩))
    (fun os started H enc _ => pref_lifted os started H enc)

theorem pref_holds : Rows.AddrPrefixesCardSaid :=
  Claim7.holds_tied_plain_at .later [] [.data, .data, .data, .data, .sentinel, .sentinel, .pinned] true (true, "ff75a9f54229bbad3d8a548d5b02948df86db32cc40879be9863dbd8be239e68") true
    pref_said (fun _ h => by cases h) (by kernel_rfl) (fun _ h => by cases h) addrPrefixes_row_tie rfl ⟨rfl, rfl⟩ (by kernel_rfl) rfl
    (fun f fn hf hfn => by
      obtain rfl : f = 7 := Option.some.inj ((show Tryd.prog.funcNamed "rivulet/rivuletlaw03.AddrPrefixes" = some 7 by kernel_rfl).symm.trans hf) |>.symm
      obtain rfl : fn = Tryd.f7 := (Option.some.inj (Tryd.func7.symm.trans hfn)).symm
      exact ⟨by kernel_rfl, fun j t ht => by
        rw [Tryd.params7] at ht
        have hm : t ∈ [22, 57, 3] := by simpa using Array.mem_of_getElem? ht
        have hall : ([22, 57, 3].all fun u => !Tryd.prog.wantsStandIn u) = true := by kernel_rfl
        exact (show Tryd.prog.wantsStandIn t = false by simpa using List.all_eq_true.1 hall t hm)⟩)
    (by kernel_rfl)
#print axioms pref_holds

end Go.Proofs.YtodeiapaehlmfaaDoor
