/- The statement AddrGroups is proved: for every slice of numbers the law returns true and its argument reads afterwards as before; the package variables that the row lists hold what the program's text lays (tied card). -/
import Derived.Test.YtodeiapaehlmfaaDoorAq
import Derived.Test.YtodeiapaehlmfaaDoorAp
import Derived.Test.YtodeiapaehlmfaaDoorCards
import Derived.Test.YtodeiapaehlmfaaDoorTie
import Derived.Carry
namespace Go.Proofs.YtodeiapaehlmfaaDoor
open Go Go.ChangeShapes Go.WideShapes Go.ChangeAt Go.RowKit

theorem laidOut : laidOutB Tryd.prog = true := by kernel_rfl

theorem size3 (V : World) : (sizeOf (Tryd.prog.elem 29)).run Tryd.prog V = .ok 1 V := by kernel_rfl
theorem add_zero' (a : Addr) : a.add 0 = a := by unfold Addr.add; simp
set_option maxRecDepth 100000 in
theorem slice_head (A : Option Addr) (len cap : Nat) (h : Int) (n : Nat) (hn : h.toNat = n) (h0 : 0 ≤ h) (h1 : h ≤ cap) (V : World) : (Instr.slice 29 (.slice A len cap) none (some (.int .i64 h)) none).run Tryd.prog V = .ok (.slice A n cap) V := by
  rw [run_slice_h V 29 A len cap (by exact Tryd.underlying29) .i64 h h0 h1, size3, hn]
  cases A <;> simp [sliced, Result.andThen, add_zero']
set_option maxRecDepth 100000 in
theorem groups_walk (A : Option Addr) (len cap : Nat) (W : World) (hg : Glob W) (h : (A = none ∧ len = 0 ∧ cap = 0) ∨ ∃ (a : Addr) (zs : List Int), A = some a ∧ len ≤ cap ∧ zs.length = cap ∧ ∀ i, i < zs.length → W.cell? (a.add i) = some (.int .i64 (zs.getD i 0))) :
    Calls Tryd.prog 4 #[.slice A len cap] W fun e w' => e = .returned (.bool true) ∧ Below W.heap.size W w' := by
  rcases h with ⟨rfl, rfl, rfl⟩ | ⟨a, zs, rfl, hlc, hz, hc⟩
  · refine law_groups_gen none 0 0 0 [] rfl (by omega) W hg (fun V => ?_) (of_other none 0 0 [] rfl (by omega) W) (fun k hk => absurd hk (by omega))
    exact slice_head none 0 0 _ 0 (by decide) (by decide) (by decide) V
  · have hn : min len 20 ≤ zs.length := by omega
    have hsl : ∀ V, (Instr.slice 29 (.slice (some a) len cap) none (some (.int .i64 (min (len : Int) 20))) none).run Tryd.prog V = .ok (.slice (some a) (min len 20) cap) V := fun V => by
      exact slice_head (some a) len cap _ _ (by omega) (by omega) (by omega) V
    have hLl : (zs.take (min len 20)).length = min len 20 := by simp; omega
    by_cases h0 : 0 < zs.length
    · obtain ⟨b, off, rfl, hcc⟩ := ints_at hc h0
      have hcell : ∀ k, k < min len 20 → W.cell? ⟨b, off + k, none⟩ = some (.int .i64 (nth (zs.take (min len 20)) k)) := fun k hk => by
        rw [hcc k (by omega)]
        simp [nth, List.getD, hk]
      refine law_groups_gen _ len (min len 20) cap (zs.take (min len 20)) hLl (by omega) W hg hsl ?_ (fun k hk => ⟨b, off, rfl, hcell k hk⟩)
      by_cases h8 : min len 20 = 8
      · rw [h8] at hLl hcell ⊢
        exact of_eight b off cap _ hLl W (cell_lt (hcell 0 (by omega))) (fun k hk => hcell k hk)
      · exact of_other _ _ cap _ hLl h8 W
    · exact law_groups_gen _ len (min len 20) cap (zs.take (min len 20)) hLl (by omega) W hg hsl (of_other _ _ cap _ hLl (by omega) W) (fun k hk => absurd hk (by omega))

set_option maxRecDepth 100000 in
theorem groups_lifted (os : Os) (started : os.Started) (H : Type) (enc : TypeId × Value → H) :
    ReturnsInHanded {} Tryd.checked os 4 .any (fun w args => (Rows.addrGroupsSpec.pre enc Tryd.prog Tryd.f4 Rows.addrGroupsRow.domain false w args ∧ laidMetH Tryd.prog laidAll w) ∧ sizedMet enc Tryd.prog Tryd.f4 (OpenSpec.ofChange Rows.addrGroupsSpec) false w args)
      (Rows.addrGroupsSpec.post enc Tryd.prog Tryd.f4 false true false false) := by
  refine lift_laid_shaped (C := Tryd.checked) (X := fun w _ => laidMetH Tryd.prog laidAll w) (fun _ _ _ hh h => h.of_heap hh) own started (by kernel_rfl) Tryd.func4
    (ChangeSpec.witness_shaped (enc := enc) (C := Tryd.checked) (os := os) (X := fun w _ => laidMetH Tryd.prog laidAll w) false (World.laidAll Tryd.prog os laidAll) #[.slice none 0 0] 8 (World.laidAll_os _ _ _)
      (World.shaped_of_ZipB (by kernel_rfl) (by kernel_rfl)) (by kernel_rfl) (by kernel_rfl) (by kernel_rfl)
      (by rw [MakeChecks.laidMetH_plain _ _ _ (by kernel_rfl)]; exact laidMet_laidAll _ (by kernel_rfl) (by kernel_rfl))) ?_
  intro W base args ds gs before hval0 hW _ _ hL hsh
  have hval : ∀ (j : Nat) t v, Tryd.f4.params[j]? = some t → args[j]? = some v → Value.okWide Tryd.prog W .any base t v := hval0
  have hW' := hW
  obtain ⟨p, q, hA0, hV, rfl, _, _⟩ := hW
  have hA : DataW.TrodAll enc Tryd.prog W 0 (fun _ => true) true Tryd.f4.params.toList args.toList ds p := hA0
  rw [Tryd.params4] at hA hval
  obtain ⟨v0, d0, rfl, rfl, h0⟩ := trodAll_one hA
  obtain ⟨rfl, rfl⟩ := trodVars_none hV
  obtain ⟨A, len, cap, rfl⟩ := okWide_slice Tryd.underlying29 (hval 0 29 v0 rfl rfl)
  have h0k := h0
  obtain ⟨fuel, hf⟩ := h0
  clear hA0 hval0
  simp only [List.append_nil] at hW'
  have hlt : ∀ x ∈ p, x.block < W.heap.size := fun x hx => by simpa using hW'.lt x hx
  have hsc : (A = none ∧ len = 0 ∧ cap = 0) ∨ ∃ (a : Addr) (zs : List Int), A = some a ∧ len ≤ cap ∧ zs.length = cap ∧ ∀ i, i < zs.length → W.cell? (a.add i) = some (.int .i64 (zs.getD i 0)) := by
    rcases open_ints Tryd.underlying29 Tryd.underlying3 (by kernel_rfl) hf with ⟨hcs, _⟩ | ⟨a, len', cap', zs, hcs, _, hl, _, hz, _, hcell, _⟩
    · simp [Value.cells] at hcs
      exact Or.inl hcs
    · simp [Value.cells] at hcs
      obtain ⟨rfl, rfl, rfl⟩ := hcs
      exact Or.inr ⟨a, zs, rfl, hl, by simpa using hz, hcell⟩
  refine (groups_walk A len cap W (glob_of hsh hL) hsc).mono fun e W' ⟨he, hb⟩ => ?_
  subst he
  exact ⟨_, rfl, _, _, _, [], p, [], hW', trodAll_mk1 (shut_bool Tryd.underlying4 _), trodAll_mk1 (Below.trod laidOut (by kernel_rfl) (of_decide_eq_true (by kernel_rfl)) h0k hb hlt), rfl, hb.frame _, fun h => by cases h⟩

theorem groups_said : Rows.AddrGroupsSaid :=
  OpenClaim.holds_of_wide 4 Tryd.f4 rfl rfl rfl rfl rfl rfl rfl ⟨rfl, rfl, rfl, rfl, rfl⟩ rfl rfl rfl rfl rfl (by kernel_rfl) Tryd.func4 (by kernel_rfl)
    (of_decide_eq_true (by kernel_rfl)) (by unfold Func.isWrapper; first | (rw [if_pos (by decide +kernel)]; kernel_rfl) | (rw [if_neg (by decide +kernel)]; exact ⟨rfl, rfl⟩))
    (fun os started H enc _ => groups_lifted os started H enc)

theorem groups_holds : Rows.AddrGroupsCardSaid :=
  Claim7.holds_tied_plain_at .later [] [.data, .data, .data, .data, .sentinel, .sentinel, .pinned] true (true, "ff75a9f54229bbad3d8a548d5b02948df86db32cc40879be9863dbd8be239e68") true
    groups_said (fun _ h => by cases h) (by kernel_rfl) (fun _ h => by cases h) addrGroups_row_tie rfl ⟨rfl, rfl⟩ (by kernel_rfl) rfl
    (fun f fn hf hfn => by
      obtain rfl : f = 4 := Option.some.inj ((show Tryd.prog.funcNamed "rivulet/rivuletlaw03.AddrGroups" = some 4 by kernel_rfl).symm.trans hf) |>.symm
      obtain rfl : fn = Tryd.f4 := (Option.some.inj (Tryd.func4.symm.trans hfn)).symm
      exact ⟨by kernel_rfl, fun j t ht => by
        rw [Tryd.params4] at ht
        have hm : t ∈ [29] := by simpa using Array.mem_of_getElem? ht
        have hall : ([29].all fun u => !Tryd.prog.wantsStandIn u) = true := by kernel_rfl
        exact (show Tryd.prog.wantsStandIn t = false by simpa using List.all_eq_true.1 hall t hm)⟩)
    (by kernel_rfl)
#print axioms groups_holds

end Go.Proofs.YtodeiapaehlmfaaDoor
