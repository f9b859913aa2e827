/- Links made from triples, the code's and the document's. -/
import Derived.Test.YtobbjdindknkdaaJi
namespace Go.Proofs.Ytobbjdindknkdaa
open Go Go.RowKit
attribute [local irreducible] wpQuiet wpPure wpHold wpKeep wpQuietS
set_option linter.unusedSimpArgs false
set_option linter.unusedVariables false

/-- triples that a slice shows -/
def TriAt (w : World) (A : Option Addr) (L : List Tri) : Prop := ∀ i t, L[i]? = some t → ∃ b o, A = some ⟨b, o, none⟩ ∧ b < w.heap.size ∧ w.cell? ⟨b, o + i * 3, none⟩ = some (.int .i64 t.1) ∧ w.cell? ⟨b, o + i * 3 + 1, none⟩ = some (.int .i64 t.2.1) ∧ w.cell? ⟨b, o + i * 3 + 2, none⟩ = some (.int .i64 t.2.2)
theorem rnode_at {w : World} {db : Nat} {N : Int} {c : Nat → Nat → Int} (h : RefAt w db N c) {a : Int} (ha : 0 ≤ a ∧ a < N) : Calls Try.prog 21 #[.pointer (some ⟨db, 0, none⟩), .int .i64 a] w fun e w' => e = .returned (.bool true) ∧ Below w.heap.size w w' :=
  (rnode_any h a).mono fun e w' ⟨h1, h2⟩ => ⟨by rw [h1]; simp [nodeB, ha], h2 ▸ Below.refl _ _⟩
/-- the count of nodes that is made of a number -/
def madeN (n : Int) : Nat := (1 + (IntKind.u64.wrap n).tmod 8).toNat
theorem made_eq (n : Int) : wrap64 (1 + wrap64 ((IntKind.u64.wrap n).tmod 8)) = (madeN n : Int) ∧ 1 ≤ madeN n ∧ madeN n ≤ 8 := by
  have h0 : 0 ≤ IntKind.u64.wrap n := by rw [show IntKind.u64.wrap n = n % 18446744073709551616 from rfl]; omega
  have h1 : 0 ≤ (IntKind.u64.wrap n).tmod 8 ∧ (IntKind.u64.wrap n).tmod 8 < 8 := by rw [Int.tmod_eq_emod_of_nonneg h0]; omega
  unfold madeN
  generalize (IntKind.u64.wrap n).tmod 8 = x at *
  have e1 : wrap64 x = x := by unfold wrap64; omega
  rw [e1]
  have e2 : wrap64 (1 + x) = 1 + x := by unfold wrap64; omega
  rw [e2]
  omega
set_option maxHeartbeats 4000000 in
theorem made_any (n : Int) {w : World} {A : Option Addr} {cap : Nat} {L : List Tri} (hL : TriAt w A L) (hl : L.length ≤ maxLen) :
    Calls Try.prog 6 #[.int .i64 n, .slice A L.length cap] w fun e w' => ∃ lb r db c, e = .returned (.tuple #[.pointer (some ⟨lb, 0, none⟩), .pointer (some ⟨db, 0, none⟩)]) ∧
      LinksAt w' lb r (madeN n) (madeE (madeN n) [] (L.take 30)) ∧ RefAt w' db (madeN n) c ∧ MadeOK (madeN n) (madeE (madeN n) [] (L.take 30)) c ∧ Below w.heap.size w w' ∧ db ≠ lb ∧ db ≠ r := by
  have HT := Lib.hid hL
  clear hL
  go_enter Try.func6, Try.ntmps6
  obtain ⟨hN, hN1, hN8⟩ := made_eq n
  generalize madeN n = N at *
  go_wp2_with (first
    | (go_at_call 19; rw [hN]; refine (new_any N ⟨by omega, by omega⟩ _).mono ?_; rintro e w1 ⟨lb, r, rfl, hl1, hb1, hlb, hr⟩)
    | (apply wpList_build49; exact rfl; exact rfl; exact rfl; intro C hC1 hC2 hC3; simp only [Act.put, List.setIfInBounds_toArray, List.set_cons_zero, List.set_cons_succ])
    | (apply wpList_box49; exact rfl; exact rfl; exact rfl; simp only [Act.put, List.setIfInBounds_toArray, List.set_cons_zero, List.set_cons_succ]))
  have HL0 : Hid (LinksAt (w1.alloc (.cells C 49)) lb r N []) := Lib.hid (hl1.below (below1 _ _))
  have HR0 : Hid (RefAt (w1.alloc (.cells C 49)) w1.heap.size N (fun _ _ => 0)) := Lib.hid ⟨C, row1 _ _ _, hC1, hC2, fun a b ha hb => hC3 _ (by omega) (by omega)⟩
  have HB0 : Hid (Below w.heap.size w (w1.alloc (.cells C 49))) := Lib.hid (below_call hb1 (below1 _ _))
  have hdl : w1.heap.size ≠ lb := by have := row_lt hl1.head; omega
  have hdr : ¬ w1.heap.size = r := by have := mapAt_lt hl1.map; omega
  have hw1 : w.heap.size ≤ w1.heap.size := hb1.size
  clear hl1 hb1 hC1 hC2 hC3
  --LOOP
  go_loopw [9] (fun t wr => ∃ (k : Nat) (E : List Link) (c : Nat → Nat → Int), t = .int .i64 k ∧ k ≤ L.length ∧ k ≤ 30 ∧ Hid (LinksAt wr lb r N E) ∧ Hid (RefAt wr w1.heap.size N c) ∧ Hid (MadeOK N E c) ∧ Hid (madeE N E ((L.take 30).drop k) = madeE N [] (L.take 30)) ∧ Hid (Below w.heap.size w wr)) (fun t _ => L.length - (intOf t).toNat)
  case atStart => exact ⟨0, [], fun _ _ => 0, rfl, by omega, by omega, HL0, HR0, Lib.hid (made_start N), Lib.hid rfl, HB0⟩
  case round =>
    obtain ⟨k, E, c, rfl, hkl, hk30, HLk, HRf, HM, HE, HB⟩ := hrel
    clear HL0 HR0 HB0
    have hnl : (k : Int) < 9223372036854775807 := by omega
    by_cases hk1 : (k : Int) < L.length
    · by_cases hk2 : (k : Int) < 30
      · obtain ⟨⟨x1, x2, x3⟩, hx⟩ : ∃ t, L[k]? = some t := ⟨L[k], List.getElem?_eq_getElem (by omega)⟩
        obtain ⟨b, o, hA, hbl, z1, z2, z3⟩ := HT.out k _ hx
        subst hA
        simp only at z1 z2 z3
        have zu1 : ∀ w', Since wr w' → w'.cell? ⟨b, o + k * 3, none⟩ = some (.int .i64 x1) := fun w' hs => by rw [(below_call HB.out hs).cell hbl]; exact z1
        have zu2 : ∀ w', Since wr w' → w'.cell? ⟨b, o + k * 3 + 1, none⟩ = some (.int .i64 x2) := fun w' hs => by rw [(below_call HB.out hs).cell hbl]; exact z2
        have zu3 : ∀ w', Since wr w' → w'.cell? ⟨b, o + k * 3 + 2, none⟩ = some (.int .i64 x3) := fun w' hs => by rw [(below_call HB.out hs).cell hbl]; exact z3
        have hdrop : (L.take 30).drop k = (x1, x2, x3) :: (L.take 30).drop (k + 1) := by
          have hkt : k < (L.take 30).length := by simp; omega
          rw [List.drop_eq_getElem_cons hkt]
          congr 1
          have h9 := List.getElem?_eq_getElem hkt
          rw [List.getElem?_take, if_pos (by omega), hx] at h9
          exact (Option.some.inj h9).symm
        have HE1 := HE.out
        rw [hdrop, madeE] at HE1
        simp only at HE1
        clear z1 z2 z3 hdrop HE hx
        by_cases hs : (setS N E x1 x2 x3).1 = 0
        · obtain ⟨h1, h2, hne, hx3, hE1⟩ := setS_ok hs
          obtain ⟨x1, rfl⟩ : ∃ a : Nat, x1 = a := ⟨x1.toNat, by omega⟩
          obtain ⟨x2, rfl⟩ : ∃ a : Nat, x2 = a := ⟨x2.toNat, by omega⟩
          rw [hE1] at HE1
          go_wp2
          refine wp_region_mid (Since wr) [0, 1, 2, 3, 4, 5, 6, 7, 8, 9, 10, 11, 12, 13, 14, 15] 16 _ [17, 18, 19, 20, 21, 22, 23, 24, 25, 26, 27, 28, 29, 30, 31, 32, 33, 34, 35] (by kernel_rfl) rfl (by kernel_rfl) (Since.drew _) ?_
          simp only [pick, List.getElem?_cons_succ, List.getElem?_cons_zero]
          (refine wpQuiet_step (fun K hK => ?_); rw [if_pos (by rfl)]; apply quiet_val; (intro wq hwq; go_simp; (try go_ints); exact rfl); refine hK _ ?_; clear hK K; simp only [Act.put, List.setIfInBounds_toArray, List.set_cons_zero, List.set_cons_succ])
          (refine wpQuiet_step (fun K hK => ?_); rw [if_pos (by rfl)]; apply quiet_val; (intro wq hwq; go_simp; (try go_ints); exact rfl); refine hK _ ?_; clear hK K; simp only [Act.put, List.setIfInBounds_toArray, List.set_cons_zero, List.set_cons_succ])
          (refine wpQuiet_step (fun K hK => ?_); rw [if_pos (by rfl)]; apply quiet_val; (intro wq hwq; go_simp; (try go_ints); exact rfl); refine hK _ ?_; clear hK K; simp only [Act.put, List.setIfInBounds_toArray, List.set_cons_zero, List.set_cons_succ])
          (refine wpQuiet_step (fun K hK => ?_); rw [if_pos (by rfl)]; apply quiet_val; (intro wq hwq; go_simp; (try go_ints); exact rfl); refine hK _ ?_; clear hK K; simp only [Act.put, List.setIfInBounds_toArray, List.set_cons_zero, List.set_cons_succ])
          (refine wpQuiet_step (fun K hK => ?_); rw [if_pos (by rfl)]; apply quiet_val; (intro wq hwq; go_simp; (try go_ints); exact rfl); refine hK _ ?_; clear hK K; simp only [Act.put, List.setIfInBounds_toArray, List.set_cons_zero, List.set_cons_succ])
          (refine wpQuiet_step (fun K hK => ?_); rw [if_pos (by rfl)]; apply quiet_val; (intro wq hwq; go_simp; (try go_ints); exact rfl); refine hK _ ?_; clear hK K; simp only [Act.put, List.setIfInBounds_toArray, List.set_cons_zero, List.set_cons_succ])
          (refine wpQuiet_step (fun K hK => ?_); rw [if_pos (by rfl)]; apply quiet_val; (intro wq hwq; go_simp; (try go_ints); exact rfl); refine hK _ ?_; clear hK K; simp only [Act.put, List.setIfInBounds_toArray, List.set_cons_zero, List.set_cons_succ])
          (refine wpQuiet_step (fun K hK => ?_); rw [if_pos (by rfl)]; apply quiet_val; (intro wq hwq; go_simp; (try go_ints); exact rfl); refine hK _ ?_; clear hK K; simp only [Act.put, List.setIfInBounds_toArray, List.set_cons_zero, List.set_cons_succ])
          (refine wpQuiet_step (fun K hK => ?_); rw [if_pos (by rfl)]; apply quiet_val; (intro wq hwq; go_simp; (try go_ints); exact rfl); refine hK _ ?_; clear hK K; simp only [Act.put, List.setIfInBounds_toArray, List.set_cons_zero, List.set_cons_succ])
          (refine wpQuiet_step (fun K hK => ?_); rw [if_pos (by rfl)]; apply quiet_val; (intro wq hwq; go_simp; (try go_ints); exact rfl); refine hK _ ?_; clear hK K; simp only [Act.put, List.setIfInBounds_toArray, List.set_cons_zero, List.set_cons_succ])
          (refine wpQuiet_step (fun K hK => ?_); rw [if_pos (by rfl)]; apply quiet_val; (intro wq hwq; go_simp; (try go_ints); exact rfl); refine hK _ ?_; clear hK K; simp only [Act.put, List.setIfInBounds_toArray, List.set_cons_zero, List.set_cons_succ])
          (refine wpQuiet_step (fun K hK => ?_); rw [if_pos (by rfl)]; apply quiet_val; (intro wq hwq; go_simp; (try go_ints); exact rfl); refine hK _ ?_; clear hK K; simp only [Act.put, List.setIfInBounds_toArray, List.set_cons_zero, List.set_cons_succ])
          (refine wpQuiet_step (fun K hK => ?_); rw [if_pos (by rfl)]; apply quiet_val; (intro wq hwq; go_simp; (try go_ints); exact rfl); refine hK _ ?_; clear hK K; simp only [Act.put, List.setIfInBounds_toArray, List.set_cons_zero, List.set_cons_succ])
          (refine wpQuiet_step (fun K hK => ?_); rw [if_pos (by rfl)]; apply quiet_val; (intro wq hwq; go_simp; (try go_ints); exact rfl); refine hK _ ?_; clear hK K; simp only [Act.put, List.setIfInBounds_toArray, List.set_cons_zero, List.set_cons_succ])
          (refine wpQuiet_step (fun K hK => ?_); rw [if_pos (by rfl)]; apply quiet_val; (intro wq hwq; go_simp; (try go_ints); exact rfl); refine hK _ ?_; clear hK K; simp only [Act.put, List.setIfInBounds_toArray, List.set_cons_zero, List.set_cons_succ])
          (refine wpQuiet_step (fun K hK => ?_); rw [if_pos (by rfl)]; apply quiet_val; (intro wq hwq; go_simp; (try go_ints); exact rfl); refine hK _ ?_; clear hK K; simp only [Act.put, List.setIfInBounds_toArray, List.set_cons_zero, List.set_cons_succ])
          refine wpQuiet_nil ?_; intro wn hwn
          refine ⟨by rfl, 20, #[.pointer (some ⟨lb, 0, none⟩), .int .i64 x1, .int .i64 x2, .int .i64 x3], by (go_simp; try exact ⟨rfl, rfl⟩), ?_⟩
          refine (set_any (HLk.out.below hwn) x1 x2 x3).mono ?_
          rintro e w2 ⟨rfl, hl2, hf2⟩
          refine ⟨_, rfl, Since w2, Below.refl _ _, ?_⟩
          have hR2 := (HRf.out.below hwn).foot hf2 hdr
          have B2 := Lib.hid ((below_call HB.out hwn).trans (hf2.below (B := w.heap.size) (below_call HB.out hwn).size (fun q hq => by omega)))
          have zv1 : ∀ w', Since w2 w' → w'.cell? ⟨b, o + k * 3, none⟩ = some (.int .i64 x1) := fun w' hs => by rw [(below_call B2.out hs).cell hbl, ← HB.out.cell hbl]; exact zu1 _ (Below.refl _ _)
          have zv2 : ∀ w', Since w2 w' → w'.cell? ⟨b, o + k * 3 + 1, none⟩ = some (.int .i64 x2) := fun w' hs => by rw [(below_call B2.out hs).cell hbl, ← HB.out.cell hbl]; exact zu2 _ (Below.refl _ _)
          have zv3 : ∀ w', Since w2 w' → w'.cell? ⟨b, o + k * 3 + 2, none⟩ = some (.int .i64 x3) := fun w' hs => by rw [(below_call B2.out hs).cell hbl, ← HB.out.cell hbl]; exact zu3 _ (Below.refl _ _)
          simp only [Act.put, List.setIfInBounds_toArray, List.set_cons_zero, List.set_cons_succ]
          rw [hs]
          (refine wpQuiet_step (fun K hK => ?_); rw [if_pos (by rfl)]; apply quiet_val; (intro wq hwq; go_simp; (try go_ints); exact rfl); refine hK _ ?_; clear hK K; simp only [Act.put, List.setIfInBounds_toArray, List.set_cons_zero, List.set_cons_succ])
          (refine wpQuiet_step (fun K hK => ?_); rw [if_pos (by rfl)]; apply quiet_val; (intro wq hwq; go_simp; (try go_ints); exact rfl); refine hK _ ?_; clear hK K; simp only [Act.put, List.setIfInBounds_toArray, List.set_cons_zero, List.set_cons_succ])
          (refine wpQuiet_step (fun K hK => ?_); rw [if_pos (by rfl)]; apply quiet_val; (intro wq hwq; go_simp; (try go_ints); exact rfl); refine hK _ ?_; clear hK K; simp only [Act.put, List.setIfInBounds_toArray, List.set_cons_zero, List.set_cons_succ])
          (refine wpQuiet_step (fun K hK => ?_); rw [if_pos (by rfl)]; apply quiet_val; (intro wq hwq; go_simp; (try go_ints); exact rfl); refine hK _ ?_; clear hK K; simp only [Act.put, List.setIfInBounds_toArray, List.set_cons_zero, List.set_cons_succ])
          (refine wpQuiet_step (fun K hK => ?_); rw [if_pos (by rfl)]; apply quiet_val; (intro wq hwq; go_simp; (try go_ints); exact rfl); refine hK _ ?_; clear hK K; simp only [Act.put, List.setIfInBounds_toArray, List.set_cons_zero, List.set_cons_succ])
          (refine wpQuiet_step (fun K hK => ?_); rw [if_pos (by rfl)]; apply quiet_val; (intro wq hwq; go_simp; (try go_ints); exact rfl); refine hK _ ?_; clear hK K; simp only [Act.put, List.setIfInBounds_toArray, List.set_cons_zero, List.set_cons_succ])
          (refine wpQuiet_step (fun K hK => ?_); rw [if_pos (by rfl)]; apply quiet_val; (intro wq hwq; go_simp; (try go_ints); exact rfl); refine hK _ ?_; clear hK K; simp only [Act.put, List.setIfInBounds_toArray, List.set_cons_zero, List.set_cons_succ])
          (refine wpQuiet_step (fun K hK => ?_); rw [if_pos (by rfl)]; apply quiet_val; (intro wq hwq; go_simp; (try go_ints); exact rfl); refine hK _ ?_; clear hK K; simp only [Act.put, List.setIfInBounds_toArray, List.set_cons_zero, List.set_cons_succ])
          (refine wpQuiet_step (fun K hK => ?_); rw [if_pos (by rfl)]; apply quiet_call; (intro wq; go_simp; exact ⟨rfl, rfl⟩); (intro wq hwq; exact Since.call hwq (rnode_at (hR2.below hwq) ⟨h1.1, h1.2⟩)); refine hK _ ?_; clear hK K; simp only [Act.put, List.setIfInBounds_toArray, List.set_cons_zero, List.set_cons_succ])
          (refine wpQuiet_step (fun K hK => ?_); rw [if_pos (by rfl)]; apply quiet_val; (intro wq hwq; go_simp; (try go_ints); exact rfl); refine hK _ ?_; clear hK K; simp only [Act.put, List.setIfInBounds_toArray, List.set_cons_zero, List.set_cons_succ])
          (refine wpQuiet_step (fun K hK => ?_); rw [if_pos (by rfl)]; apply quiet_val; (intro wq hwq; go_simp; (try go_ints); exact rfl); refine hK _ ?_; clear hK K; simp only [Act.put, List.setIfInBounds_toArray, List.set_cons_zero, List.set_cons_succ])
          (refine wpQuiet_step (fun K hK => ?_); rw [if_pos (by rfl)]; apply quiet_val; (intro wq hwq; go_simp; (try go_ints); exact rfl); refine hK _ ?_; clear hK K; simp only [Act.put, List.setIfInBounds_toArray, List.set_cons_zero, List.set_cons_succ])
          (refine wpQuiet_step (fun K hK => ?_); rw [if_pos (by rfl)]; apply quiet_val; (intro wq hwq; go_simp; (try go_ints); exact rfl); refine hK _ ?_; clear hK K; simp only [Act.put, List.setIfInBounds_toArray, List.set_cons_zero, List.set_cons_succ])
          (refine wpQuiet_step (fun K hK => ?_); rw [if_pos (by rfl)]; apply quiet_val; (intro wq hwq; go_simp; (try go_ints); exact rfl); refine hK _ ?_; clear hK K; simp only [Act.put, List.setIfInBounds_toArray, List.set_cons_zero, List.set_cons_succ])
          (refine wpQuiet_step (fun K hK => ?_); rw [if_pos (by rfl)]; apply quiet_val; (intro wq hwq; go_simp; (try go_ints); exact rfl); refine hK _ ?_; clear hK K; simp only [Act.put, List.setIfInBounds_toArray, List.set_cons_zero, List.set_cons_succ])
          (refine wpQuiet_step (fun K hK => ?_); rw [if_pos (by rfl)]; apply quiet_val; (intro wq hwq; go_simp; (try go_ints); exact rfl); refine hK _ ?_; clear hK K; simp only [Act.put, List.setIfInBounds_toArray, List.set_cons_zero, List.set_cons_succ])
          (refine wpQuiet_step (fun K hK => ?_); rw [if_pos (by rfl)]; apply quiet_val; (intro wq hwq; go_simp; (try go_ints); exact rfl); refine hK _ ?_; clear hK K; simp only [Act.put, List.setIfInBounds_toArray, List.set_cons_zero, List.set_cons_succ])
          (refine wpQuiet_step (fun K hK => ?_); rw [if_pos (by rfl)]; apply quiet_call; (intro wq; go_simp; exact ⟨rfl, rfl⟩); (intro wq hwq; exact Since.call hwq (rnode_at (hR2.below hwq) ⟨h2.1, h2.2⟩)); refine hK _ ?_; clear hK K; simp only [Act.put, List.setIfInBounds_toArray, List.set_cons_zero, List.set_cons_succ])
          (refine wpQuiet_step (fun K hK => ?_); rw [if_pos (by rfl)]; apply quiet_val; (intro wq hwq; go_simp; (try go_ints); exact rfl); refine hK _ ?_; clear hK K; simp only [Act.put, List.setIfInBounds_toArray, List.set_cons_zero, List.set_cons_succ])
          refine wpQuiet_nil ?_; intro w3 hw3
          have hR3 := hR2.below hw3
          have hl3 := hl2.below hw3
          rw [hE1] at hl3
          have B3 := Lib.hid (below_call B2.out hw3)
          have zx1 : ∀ w', Since w3 w' → w'.cell? ⟨b, o + k * 3, none⟩ = some (.int .i64 x1) := fun w' hs => zv1 w' (below_call hw3 hs)
          have zx2 : ∀ w', Since w3 w' → w'.cell? ⟨b, o + k * 3 + 1, none⟩ = some (.int .i64 x2) := fun w' hs => zv2 w' (below_call hw3 hs)
          have zx3 : ∀ w', Since w3 w' → w'.cell? ⟨b, o + k * 3 + 2, none⟩ = some (.int .i64 x3) := fun w' hs => zv3 w' (below_call hw3 hs)
          have HR3 := Lib.hid hR3
          have HL3 := Lib.hid hl3
          clear hR3 hl3 hR2 hl2 zu1 zu2 zu3 zv1 zv2 zv3 hf2 hw3 hwn
          go_wp2
          refine wp_region_flow (Since _) 16 (by kernel_rfl) (by kernel_rfl) (Since.drew _) ?_; simp only [List.take_succ_cons, List.take_zero, List.drop_succ_cons, List.drop_zero]
          (refine wpQuiet_step (fun K hK => ?_); rw [if_pos (by rfl)]; apply quiet_val; (intro wq hwq; go_simp; (try go_ints); exact rfl); refine hK _ ?_; clear hK K; simp only [Act.put, List.setIfInBounds_toArray, List.set_cons_zero, List.set_cons_succ])
          (refine wpQuiet_step (fun K hK => ?_); rw [if_pos (by rfl)]; apply quiet_val; (intro wq hwq; go_simp; (try go_ints); exact rfl); refine hK _ ?_; clear hK K; simp only [Act.put, List.setIfInBounds_toArray, List.set_cons_zero, List.set_cons_succ])
          (refine wpQuiet_step (fun K hK => ?_); rw [if_pos (by rfl)]; apply quiet_val; (intro wq hwq; go_simp; (try go_ints); exact rfl); refine hK _ ?_; clear hK K; simp only [Act.put, List.setIfInBounds_toArray, List.set_cons_zero, List.set_cons_succ])
          (refine wpQuiet_step (fun K hK => ?_); rw [if_pos (by rfl)]; apply quiet_val; (intro wq hwq; go_simp; (try go_ints); exact rfl); refine hK _ ?_; clear hK K; simp only [Act.put, List.setIfInBounds_toArray, List.set_cons_zero, List.set_cons_succ])
          (refine wpQuiet_step (fun K hK => ?_); rw [if_pos (by rfl)]; apply quiet_val; (intro wq hwq; go_simp; (try go_ints); exact rfl); refine hK _ ?_; clear hK K; simp only [Act.put, List.setIfInBounds_toArray, List.set_cons_zero, List.set_cons_succ])
          (refine wpQuiet_step (fun K hK => ?_); rw [if_pos (by rfl)]; apply quiet_val; (intro wq hwq; go_simp; (try go_ints); exact rfl); refine hK _ ?_; clear hK K; simp only [Act.put, List.setIfInBounds_toArray, List.set_cons_zero, List.set_cons_succ])
          (refine wpQuiet_step (fun K hK => ?_); rw [if_pos (by rfl)]; apply quiet_val; (intro wq hwq; go_simp; (try go_ints); exact rfl); refine hK _ ?_; clear hK K; simp only [Act.put, List.setIfInBounds_toArray, List.set_cons_zero, List.set_cons_succ])
          (refine wpQuiet_step (fun K hK => ?_); rw [if_pos (by rfl)]; apply quiet_val; (intro wq hwq; go_simp; (try go_ints); exact rfl); refine hK _ ?_; clear hK K; simp only [Act.put, List.setIfInBounds_toArray, List.set_cons_zero, List.set_cons_succ])
          (refine wpQuiet_step (fun K hK => ?_); rw [if_pos (by rfl)]; apply quiet_val; (intro wq hwq; go_simp; (try go_ints); exact rfl); refine hK _ ?_; clear hK K; simp only [Act.put, List.setIfInBounds_toArray, List.set_cons_zero, List.set_cons_succ])
          (refine wpQuiet_step (fun K hK => ?_); rw [if_pos (by rfl)]; apply quiet_val; (intro wq hwq; go_simp; (try go_ints); exact rfl); refine hK _ ?_; clear hK K; simp only [Act.put, List.setIfInBounds_toArray, List.set_cons_zero, List.set_cons_succ])
          (refine wpQuiet_step (fun K hK => ?_); rw [if_pos (by rfl)]; apply quiet_val; (intro wq hwq; go_simp; (try go_ints); exact rfl); refine hK _ ?_; clear hK K; simp only [Act.put, List.setIfInBounds_toArray, List.set_cons_zero, List.set_cons_succ])
          (refine wpQuiet_step (fun K hK => ?_); rw [if_pos (by rfl)]; apply quiet_val; (intro wq hwq; go_simp; (try go_ints); exact rfl); refine hK _ ?_; clear hK K; simp only [Act.put, List.setIfInBounds_toArray, List.set_cons_zero, List.set_cons_succ])
          (refine wpQuiet_step (fun K hK => ?_); rw [if_pos (by rfl)]; apply quiet_val; (intro wq hwq; go_simp; (try go_ints); exact rfl); refine hK _ ?_; clear hK K; simp only [Act.put, List.setIfInBounds_toArray, List.set_cons_zero, List.set_cons_succ])
          (refine wpQuiet_step (fun K hK => ?_); rw [if_pos (by rfl)]; apply quiet_val; (intro wq hwq; go_simp; (try go_ints); exact rfl); refine hK _ ?_; clear hK K; simp only [Act.put, List.setIfInBounds_toArray, List.set_cons_zero, List.set_cons_succ])
          (refine wpQuiet_step (fun K hK => ?_); rw [if_pos (by rfl)]; apply quiet_val; (intro wq hwq; go_simp; (try go_ints); exact rfl); refine hK _ ?_; clear hK K; simp only [Act.put, List.setIfInBounds_toArray, List.set_cons_zero, List.set_cons_succ])
          (refine wpQuiet_step (fun K hK => ?_); rw [if_pos (by rfl)]; apply quiet_val; (intro wq hwq; go_simp; (try go_ints); exact rfl); refine hK _ ?_; clear hK K; simp only [Act.put, List.setIfInBounds_toArray, List.set_cons_zero, List.set_cons_succ])
          refine wpQuiet_nil ?_; intro wn hwn
          go_wp2_with (go_at_call 22; refine (rset_any (HR3.out.below hwn) (a := x1) (b := x2) (by omega) (by omega) x3).mono ?_; rintro e w5 ⟨rfl, hr5, hf5⟩)
          go_roundw
          case rel => exact ⟨k + 1, _, _, by go_num, by omega, by omega, Lib.hid ((HL3.out.below hwn).foot hf5 (by omega) (by omega)), Lib.hid hr5, Lib.hid ⟨match_set HM.out.m x3, setE_good HM.out.g hx3⟩, Lib.hid HE1, Lib.hid ((below_call B3.out hwn).trans (hf5.below (B := w.heap.size) (below_call B3.out hwn).size (fun q hq => by omega)))⟩
          case measure => simp [intOf]; omega
        · have hE1 := setS_no hs
          rw [hE1] at HE1
          have hez : (((setS N E x1 x2 x3).1 : Int) == 0) = false := by simp [hs]
          go_wp2
          refine wp_region_mid (Since wr) [0, 1, 2, 3, 4, 5, 6, 7, 8, 9, 10, 11, 12, 13, 14, 15] 16 _ [17, 18, 19, 20, 21, 22, 23, 24, 25, 26, 27, 28, 29, 30, 31, 32, 33, 34, 35] (by kernel_rfl) rfl (by kernel_rfl) (Since.drew _) ?_
          simp only [pick, List.getElem?_cons_succ, List.getElem?_cons_zero]
          (refine wpQuiet_step (fun K hK => ?_); rw [if_pos (by rfl)]; apply quiet_val; (intro wq hwq; go_simp; (try go_ints); exact rfl); refine hK _ ?_; clear hK K; simp only [Act.put, List.setIfInBounds_toArray, List.set_cons_zero, List.set_cons_succ])
          (refine wpQuiet_step (fun K hK => ?_); rw [if_pos (by rfl)]; apply quiet_val; (intro wq hwq; go_simp; (try go_ints); exact rfl); refine hK _ ?_; clear hK K; simp only [Act.put, List.setIfInBounds_toArray, List.set_cons_zero, List.set_cons_succ])
          (refine wpQuiet_step (fun K hK => ?_); rw [if_pos (by rfl)]; apply quiet_val; (intro wq hwq; go_simp; (try go_ints); exact rfl); refine hK _ ?_; clear hK K; simp only [Act.put, List.setIfInBounds_toArray, List.set_cons_zero, List.set_cons_succ])
          (refine wpQuiet_step (fun K hK => ?_); rw [if_pos (by rfl)]; apply quiet_val; (intro wq hwq; go_simp; (try go_ints); exact rfl); refine hK _ ?_; clear hK K; simp only [Act.put, List.setIfInBounds_toArray, List.set_cons_zero, List.set_cons_succ])
          (refine wpQuiet_step (fun K hK => ?_); rw [if_pos (by rfl)]; apply quiet_val; (intro wq hwq; go_simp; (try go_ints); exact rfl); refine hK _ ?_; clear hK K; simp only [Act.put, List.setIfInBounds_toArray, List.set_cons_zero, List.set_cons_succ])
          (refine wpQuiet_step (fun K hK => ?_); rw [if_pos (by rfl)]; apply quiet_val; (intro wq hwq; go_simp; (try go_ints); exact rfl); refine hK _ ?_; clear hK K; simp only [Act.put, List.setIfInBounds_toArray, List.set_cons_zero, List.set_cons_succ])
          (refine wpQuiet_step (fun K hK => ?_); rw [if_pos (by rfl)]; apply quiet_val; (intro wq hwq; go_simp; (try go_ints); exact rfl); refine hK _ ?_; clear hK K; simp only [Act.put, List.setIfInBounds_toArray, List.set_cons_zero, List.set_cons_succ])
          (refine wpQuiet_step (fun K hK => ?_); rw [if_pos (by rfl)]; apply quiet_val; (intro wq hwq; go_simp; (try go_ints); exact rfl); refine hK _ ?_; clear hK K; simp only [Act.put, List.setIfInBounds_toArray, List.set_cons_zero, List.set_cons_succ])
          (refine wpQuiet_step (fun K hK => ?_); rw [if_pos (by rfl)]; apply quiet_val; (intro wq hwq; go_simp; (try go_ints); exact rfl); refine hK _ ?_; clear hK K; simp only [Act.put, List.setIfInBounds_toArray, List.set_cons_zero, List.set_cons_succ])
          (refine wpQuiet_step (fun K hK => ?_); rw [if_pos (by rfl)]; apply quiet_val; (intro wq hwq; go_simp; (try go_ints); exact rfl); refine hK _ ?_; clear hK K; simp only [Act.put, List.setIfInBounds_toArray, List.set_cons_zero, List.set_cons_succ])
          (refine wpQuiet_step (fun K hK => ?_); rw [if_pos (by rfl)]; apply quiet_val; (intro wq hwq; go_simp; (try go_ints); exact rfl); refine hK _ ?_; clear hK K; simp only [Act.put, List.setIfInBounds_toArray, List.set_cons_zero, List.set_cons_succ])
          (refine wpQuiet_step (fun K hK => ?_); rw [if_pos (by rfl)]; apply quiet_val; (intro wq hwq; go_simp; (try go_ints); exact rfl); refine hK _ ?_; clear hK K; simp only [Act.put, List.setIfInBounds_toArray, List.set_cons_zero, List.set_cons_succ])
          (refine wpQuiet_step (fun K hK => ?_); rw [if_pos (by rfl)]; apply quiet_val; (intro wq hwq; go_simp; (try go_ints); exact rfl); refine hK _ ?_; clear hK K; simp only [Act.put, List.setIfInBounds_toArray, List.set_cons_zero, List.set_cons_succ])
          (refine wpQuiet_step (fun K hK => ?_); rw [if_pos (by rfl)]; apply quiet_val; (intro wq hwq; go_simp; (try go_ints); exact rfl); refine hK _ ?_; clear hK K; simp only [Act.put, List.setIfInBounds_toArray, List.set_cons_zero, List.set_cons_succ])
          (refine wpQuiet_step (fun K hK => ?_); rw [if_pos (by rfl)]; apply quiet_val; (intro wq hwq; go_simp; (try go_ints); exact rfl); refine hK _ ?_; clear hK K; simp only [Act.put, List.setIfInBounds_toArray, List.set_cons_zero, List.set_cons_succ])
          (refine wpQuiet_step (fun K hK => ?_); rw [if_pos (by rfl)]; apply quiet_val; (intro wq hwq; go_simp; (try go_ints); exact rfl); refine hK _ ?_; clear hK K; simp only [Act.put, List.setIfInBounds_toArray, List.set_cons_zero, List.set_cons_succ])
          refine wpQuiet_nil ?_; intro wn hwn
          refine ⟨by rfl, 20, #[.pointer (some ⟨lb, 0, none⟩), .int .i64 x1, .int .i64 x2, .int .i64 x3], by (go_simp; try exact ⟨rfl, rfl⟩), ?_⟩
          refine (set_any (HLk.out.below hwn) x1 x2 x3).mono ?_
          rintro e w2 ⟨rfl, hl2, hf2⟩
          refine ⟨_, rfl, Since w2, Below.refl _ _, ?_⟩
          have hR2 := (HRf.out.below hwn).foot hf2 hdr
          have B2 := Lib.hid ((below_call HB.out hwn).trans (hf2.below (B := w.heap.size) (below_call HB.out hwn).size (fun q hq => by omega)))
          have zv1 : ∀ w', Since w2 w' → w'.cell? ⟨b, o + k * 3, none⟩ = some (.int .i64 x1) := fun w' hs => by rw [(below_call B2.out hs).cell hbl, ← HB.out.cell hbl]; exact zu1 _ (Below.refl _ _)
          have zv2 : ∀ w', Since w2 w' → w'.cell? ⟨b, o + k * 3 + 1, none⟩ = some (.int .i64 x2) := fun w' hs => by rw [(below_call B2.out hs).cell hbl, ← HB.out.cell hbl]; exact zu2 _ (Below.refl _ _)
          have zv3 : ∀ w', Since w2 w' → w'.cell? ⟨b, o + k * 3 + 2, none⟩ = some (.int .i64 x3) := fun w' hs => by rw [(below_call B2.out hs).cell hbl, ← HB.out.cell hbl]; exact zu3 _ (Below.refl _ _)
          simp only [Act.put, List.setIfInBounds_toArray, List.set_cons_zero, List.set_cons_succ]
          rw [hE1] at hl2
          generalize (setS N E x1 x2 x3).1 = z at *
          (refine wpQuiet_step (fun K hK => ?_); rw [if_pos (by rfl)]; apply quiet_val; (intro wq hwq; go_simp; (try go_ints); exact rfl); refine hK _ ?_; clear hK K; simp only [Act.put, List.setIfInBounds_toArray, List.set_cons_zero, List.set_cons_succ])
          (refine wpQuiet_step (fun K hK => ?_); rw [if_pos (by rfl)]; apply quiet_val; (intro wq hwq; go_simp; (try go_ints); exact rfl); refine hK _ ?_; clear hK K; simp only [Act.put, List.setIfInBounds_toArray, List.set_cons_zero, List.set_cons_succ])
          (refine wpQuiet_skip (by rfl) ?_; simp only [Act.put, List.setIfInBounds_toArray, List.set_cons_zero, List.set_cons_succ])
          (refine wpQuiet_skip (by rfl) ?_; simp only [Act.put, List.setIfInBounds_toArray, List.set_cons_zero, List.set_cons_succ])
          (refine wpQuiet_skip (by rfl) ?_; simp only [Act.put, List.setIfInBounds_toArray, List.set_cons_zero, List.set_cons_succ])
          (refine wpQuiet_skip (by rfl) ?_; simp only [Act.put, List.setIfInBounds_toArray, List.set_cons_zero, List.set_cons_succ])
          (refine wpQuiet_skip (by rfl) ?_; simp only [Act.put, List.setIfInBounds_toArray, List.set_cons_zero, List.set_cons_succ])
          (refine wpQuiet_skip (by rfl) ?_; simp only [Act.put, List.setIfInBounds_toArray, List.set_cons_zero, List.set_cons_succ])
          (refine wpQuiet_skip (by rfl) ?_; simp only [Act.put, List.setIfInBounds_toArray, List.set_cons_zero, List.set_cons_succ])
          (refine wpQuiet_step (fun K hK => ?_); rw [if_pos (by rfl)]; apply quiet_val; (intro wq hwq; go_simp; (try go_ints); exact rfl); refine hK _ ?_; clear hK K; simp only [Act.put, List.setIfInBounds_toArray, List.set_cons_zero, List.set_cons_succ])
          (refine wpQuiet_step (fun K hK => ?_); rw [if_pos (by rfl)]; apply quiet_val; (intro wq hwq; go_simp; (try go_ints); exact rfl); refine hK _ ?_; clear hK K; simp only [Act.put, List.setIfInBounds_toArray, List.set_cons_zero, List.set_cons_succ])
          (refine wpQuiet_skip (by rfl) ?_; simp only [Act.put, List.setIfInBounds_toArray, List.set_cons_zero, List.set_cons_succ])
          (refine wpQuiet_skip (by rfl) ?_; simp only [Act.put, List.setIfInBounds_toArray, List.set_cons_zero, List.set_cons_succ])
          (refine wpQuiet_skip (by rfl) ?_; simp only [Act.put, List.setIfInBounds_toArray, List.set_cons_zero, List.set_cons_succ])
          (refine wpQuiet_skip (by rfl) ?_; simp only [Act.put, List.setIfInBounds_toArray, List.set_cons_zero, List.set_cons_succ])
          (refine wpQuiet_skip (by rfl) ?_; simp only [Act.put, List.setIfInBounds_toArray, List.set_cons_zero, List.set_cons_succ])
          (refine wpQuiet_skip (by rfl) ?_; simp only [Act.put, List.setIfInBounds_toArray, List.set_cons_zero, List.set_cons_succ])
          (refine wpQuiet_skip (by rfl) ?_; simp only [Act.put, List.setIfInBounds_toArray, List.set_cons_zero, List.set_cons_succ])
          (refine wpQuiet_step (fun K hK => ?_); rw [if_pos (by rfl)]; apply quiet_val; (intro wq hwq; go_simp; (try go_ints); exact rfl); refine hK _ ?_; clear hK K; simp only [Act.put, List.setIfInBounds_toArray, List.set_cons_zero, List.set_cons_succ])
          refine wpQuiet_nil ?_; intro w3 hw3
          have hR3 := hR2.below hw3
          have hl3 := hl2.below hw3
          have B3 := Lib.hid (below_call B2.out hw3)
          clear zu1 zu2 zu3 zv1 zv2 zv3
          go_wp2
          go_roundw
          case rel => exact ⟨k + 1, E, c, by go_num, by omega, by omega, Lib.hid hl3, Lib.hid hR3, HM, Lib.hid HE1, B3⟩
          case measure => simp [intOf]; omega
      · have hk3 : 30 ≤ k := by omega
        have HF : Hid (E = madeE N [] (L.take 30)) := Lib.hid (by rw [← HE.out, List.drop_eq_nil_of_le (by simp; omega)]; rfl)
        clear HE
        go_wp2
        go_ret2
        rw [← HF.out]
        exact ⟨lb, r, w1.heap.size, rfl, HLk.out, c, HRf.out, HM.out, HB.out, hdl, hdr⟩
    · have hk3 : k = L.length := by omega
      have HF : Hid (E = madeE N [] (L.take 30)) := Lib.hid (by rw [← HE.out, List.drop_eq_nil_of_le (by simp; omega)]; rfl)
      clear HE
      go_wp2
      go_ret2
      rw [← HF.out]
      exact ⟨lb, r, w1.heap.size, rfl, HLk.out, c, HRf.out, HM.out, HB.out, hdl, hdr⟩

end Go.Proofs.Ytobbjdindknkdaa
