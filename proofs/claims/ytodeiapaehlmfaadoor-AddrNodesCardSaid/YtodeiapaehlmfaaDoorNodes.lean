/- The statement AddrNodes is proved: for every number, prefix and address the law returns true and its arguments read afterwards as before; the package variables that the row lists hold what the program's text lays (tied card). -/
import Derived.Test.YtodeiapaehlmfaaDoorAt
import Derived.Test.YtodeiapaehlmfaaDoorAu
import Derived.Test.YtodeiapaehlmfaaDoorCards
import Derived.Test.YtodeiapaehlmfaaDoorTie
import Derived.Carry
namespace Go.Proofs.YtodeiapaehlmfaaDoor
open Go Go.ChangeShapes Go.WideShapes Go.ChangeAt Go.RowKit

theorem laidOut2 : laidOutB Tryd.prog = true := by kernel_rfl

theorem law_nodes (P : List Int) (hP : P.length = 16) (hPb : byt P) (m n : Int) (a : List Int) (ha : a.length = 16) (hB : byt a) (w : World) (hg : Glob w) :
    Calls Tryd.prog 6 #[.int .i64 n, .agg (pv P m), .agg (bv a)] w fun e w' => e = .returned (.bool true) ∧ Below w.heap.size w w' := by
  rcases node_agree hB with ⟨hw, hnd⟩ | ⟨hw, _, hnd⟩
  · by_cases h1 : n < 0
    · exact nodes_neg_low P hP hPb m n a ha hB hw hnd h1 w hg
    by_cases h2 : 63 < n
    · exact nodes_neg_high P hP hPb m n a ha hB hw hnd h1 h2 w hg
    cases hr : rightB P m with
    | false => exact nodes_neg_noright P hP hPb m n a ha hB hw hnd h1 h2 hr w hg
    | true =>
      by_cases hm : m = 64
      · subst hm
        exact nodes_neg_all P hP hPb n a ha hB hw hnd h1 h2 hr w hg
      · exact nodes_neg_no64 P hP hPb m n a ha hB hw hnd h1 h2 hr hm w hg
  · by_cases h1 : n < 0
    · exact nodes_pos_low P hP hPb m n a ha hB hw hnd h1 w hg
    by_cases h2 : 63 < n
    · exact nodes_pos_high P hP hPb m n a ha hB hw hnd h1 h2 w hg
    cases hr : rightB P m with
    | false => exact nodes_pos_noright P hP hPb m n a ha hB hw hnd h1 h2 hr w hg
    | true =>
      by_cases hm : m = 64
      · subst hm
        exact nodes_pos_all P hP hPb n a ha hB hw hnd h1 h2 hr w hg
      · exact nodes_pos_no64 P hP hPb m n a ha hB hw hnd h1 h2 hr hm w hg

set_option maxRecDepth 100000 in
theorem nodes_lifted (os : Os) (started : os.Started) (H : Type) (enc : TypeId × Value → H) :
    ReturnsInHanded {} Tryd.checked os 6 .any (fun w args => (Rows.addrNodesSpec.pre enc Tryd.prog Tryd.f6 Rows.addrNodesRow.domain false w args ∧ laidMetH Tryd.prog laidAll w) ∧ sizedMet enc Tryd.prog Tryd.f6 (OpenSpec.ofChange Rows.addrNodesSpec) false w args)
      (Rows.addrNodesSpec.post enc Tryd.prog Tryd.f6 false true false false) := by
  refine lift_laid_shaped (C := Tryd.checked) (X := fun w _ => laidMetH Tryd.prog laidAll w) (fun _ _ _ hh h => h.of_heap hh) own started (by kernel_rfl) Tryd.func6
    (ChangeSpec.witness_shaped (enc := enc) (C := Tryd.checked) (os := os) (X := fun w _ => laidMetH Tryd.prog laidAll w) false (World.laidAll Tryd.prog os laidAll) #[.int .i64 0, .agg (pv z16 0), .agg (bv z16)] 8 (World.laidAll_os _ _ _)
      (World.shaped_of_ZipB (by kernel_rfl) (by kernel_rfl)) (by kernel_rfl) (by kernel_rfl) (by kernel_rfl)
      (by rw [MakeChecks.laidMetH_plain _ _ _ (by kernel_rfl)]; exact laidMet_laidAll _ (by kernel_rfl) (by kernel_rfl))) ?_
  intro W base args ds gs before hval0 hW _ _ hL hsh
  have hval : ∀ (j : Nat) t v, Tryd.f6.params[j]? = some t → args[j]? = some v → Value.okWide Tryd.prog W .any base t v := hval0
  have hW' := hW
  obtain ⟨p, q, hA0, hV, rfl, _, _⟩ := hW
  have hA : DataW.TrodAll enc Tryd.prog W 0 (fun _ => true) true Tryd.f6.params.toList args.toList ds p := hA0
  rw [Tryd.params6] at hA hval
  obtain ⟨v0, v1, v2, d0, d1, d2, p0, p1, p2, rfl, rfl, rfl, h0, h1, h2⟩ := trodAll_three hA
  obtain ⟨rfl, rfl⟩ := trodVars_none hV
  clear hA0 hval0
  simp only [List.append_nil] at hW'
  have hlt : ∀ x ∈ p0 ++ p1 ++ p2, x.block < W.heap.size := fun x hx => by simpa using hW'.lt x hx
  have hlt0 : ∀ x ∈ p0, x.block < W.heap.size := fun x hx => hlt x (by simp [hx])
  have hlt1 : ∀ x ∈ p1, x.block < W.heap.size := fun x hx => hlt x (by simp [hx])
  have hlt2 : ∀ x ∈ p2, x.block < W.heap.size := fun x hx => hlt x (by simp [hx])
  obtain ⟨n, rfl, _⟩ := open_int Tryd.underlying3 (hval 0 3 v0 rfl rfl) h0
  obtain ⟨P, m, hP, hPb, rfl⟩ := open_prefix (hval 1 47 v1 rfl rfl) h1
  obtain ⟨a, ha, wa, rfl, _⟩ := open_ints_arr Tryd.underlying22 Tryd.underlying5 (by kernel_rfl) (by kernel_rfl) (hval 2 22 v2 rfl rfl) h2
  refine (law_nodes P hP hPb m n a ha (byt_wf wa) W (glob_of hsh hL)).mono fun e W' ⟨he, hb⟩ => ?_
  subst he
  rw [List.append_assoc] at hW'
  exact ⟨_, rfl, _, _, _, [], p0 ++ (p1 ++ p2), [], hW', trodAll_mk1 (shut_bool Tryd.underlying4 _),
    trodAll_mk3 (Below.trod laidOut2 (by kernel_rfl) (of_decide_eq_true (by kernel_rfl)) h0 hb hlt0) (Below.trod laidOut2 (by kernel_rfl) (of_decide_eq_true (by kernel_rfl)) h1 hb hlt1) (Below.trod laidOut2 (by kernel_rfl) (of_decide_eq_true (by kernel_rfl)) h2 hb hlt2), rfl, hb.frame _, fun h => by cases h⟩

theorem nodes_said : Rows.AddrNodesSaid :=
  OpenClaim.holds_of_wide 6 Tryd.f6 rfl rfl rfl rfl rfl rfl rfl ⟨rfl, rfl, rfl, rfl, rfl⟩ rfl rfl rfl rfl rfl (by kernel_rfl) Tryd.func6 (by kernel_rfl)
    (of_decide_eq_true (by kernel_rfl)) (by unfold Func.isWrapper; first | (rw [if_pos (by decide +kernel)]; kernel_rfl) | (rw [if_neg (by decide +kernel)]; exact ⟨rfl, rfl⟩))
    (fun os started H enc _ => nodes_lifted os started H enc)

theorem nodes_holds : Rows.AddrNodesCardSaid :=
  Claim7.holds_tied_plain_at .later [] [.data, .data, .data, .data, .sentinel, .sentinel, .pinned] true (true, "ff75a9f54229bbad3d8a548d5b02948df86db32cc40879be9863dbd8be239e68") true
    nodes_said (fun _ h => by cases h) (by kernel_rfl) (fun _ h => by cases h) addrNodes_row_tie rfl ⟨rfl, rfl⟩ (by kernel_rfl) rfl
    (fun f fn hf hfn => by
      obtain rfl : f = 6 := Option.some.inj ((show Tryd.prog.funcNamed "rivulet/rivuletlaw03.AddrNodes" = some 6 by kernel_rfl).symm.trans hf) |>.symm
      obtain rfl : fn = Tryd.f6 := (Option.some.inj (Tryd.func6.symm.trans hfn)).symm
      exact ⟨by kernel_rfl, fun j t ht => by
        rw [Tryd.params6] at ht
        have hm : t ∈ [3, 47, 22] := by simpa using Array.mem_of_getElem? ht
        have hall : ([3, 47, 22].all fun u => !Tryd.prog.wantsStandIn u) = true := by kernel_rfl
        exact (show Tryd.prog.wantsStandIn t = false by simpa using List.all_eq_true.1 hall t hm)⟩)
    (by kernel_rfl)
#print axioms nodes_holds

end Go.Proofs.YtodeiapaehlmfaaDoor
