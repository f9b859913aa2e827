/- The tree: by whom each rank is. -/
import Derived.Test.YtobbjdindknkdaaJd
namespace Go.Proofs.Ytobbjdindknkdaa
open Go Go.RowKit
attribute [local irreducible] wpQuiet wpPure wpHold wpKeep wpQuietS
set_option linter.unusedSimpArgs false
set_option linter.unusedVariables false

theorem relaxS_inv {n : Int} {E : List Link} {p : Pol} (hp : GoodP p) {i d : Int} (hd : 0 ≤ d ∧ d ≤ 65535) : ∀ (ks : List Int) (s : RS), RInv n s → (∀ k ∈ ks, 0 ≤ k ∧ k < n) → RInv n (relaxS n E p i d ks s)
  | [], s, h, _ => h
  | k :: ks, s, h, hk => by
    rw [relaxS]
    split
    · rename_i hlt
      exact relaxS_inv hp hd ks _ (h.add (hk k (by simp)) (byS_range hp i d k hd).1 hlt).1 (fun x hx => hk x (by simp [hx]))
    · exact relaxS_inv hp hd ks s h (fun x hx => hk x (by simp [hx]))
theorem lookS_range {n : Int} {E : List Link} {p : Pol} (hn : 0 ≤ n) (hp : GoodP p) : ∀ (f : Nat) (s : RS), RInv n s → (∀ x ∈ lookS n E p f s, 0 ≤ x ∧ x ≤ 65535) ∧ (lookS n E p f s).length = n.toNat
  | 0, s, h => ⟨h.out, h.len⟩
  | f + 1, s, h => by
    rw [lookS]
    cases hs : s.2.1[0]? with
    | none => exact ⟨h.out, h.len⟩
    | some a =>
      obtain ⟨h1, -, h2, h3⟩ := h.take hs
      simp only
      split
      · exact lookS_range hn hp f _ h1
      · exact lookS_range hn hp f _ (relaxS_inv hp h3 _ _ h1 (fun k hk => by have := (nbS_mem hn).1 hk; omega))
theorem ranksS_range {n : Int} {E : List Link} {p : Pol} (hn : 1 ≤ n ∧ n ≤ 8) (hp : GoodP p) : (∀ x ∈ ranksS n E p, 0 ≤ x ∧ x ≤ 65535) ∧ (ranksS n E p).length = n.toNat := lookS_range (by omega) hp _ _ (start_inv hn hp).1

/-! ### by whom -/
def whomStep (n : Int) (E : List Link) (p : Pol) (R : List Int) (i : Int) (cur k : Int) : Int := if cur = -1 ∧ i ≠ 0 ∧ R.getD i.toNat 0 ≠ 65535 ∧ byS n E p k (R.getD k.toNat 0) i = R.getD i.toNat 0 then k else cur
def whomS (n : Int) (E : List Link) (p : Pol) (R : List Int) (i : Int) : Int := (nbS n E i).foldl (whomStep n E p R i) (-1)
def whomsTo (n : Int) (E : List Link) (p : Pol) (R : List Int) : Nat → List Int
  | 0 => []
  | k + 1 => whomsTo n E p R k ++ [whomS n E p R k]
def treeS (n : Int) (E : List Link) (p : Pol) : List Int := whomsTo n E p (ranksS n E p) n.toNat
theorem whomsTo_length (n : Int) (E : List Link) (p : Pol) (R : List Int) : ∀ k, (whomsTo n E p R k).length = k
  | 0 => rfl
  | k + 1 => by rw [whomsTo, List.length_append, whomsTo_length n E p R k]; rfl
/-- ints that a slice shows -/
def IntsAt (w : World) (A : Option Addr) (xs : List Int) : Prop := ∀ j x, xs[j]? = some x → ∃ g, A = some ⟨g, 0, none⟩ ∧ g < w.heap.size ∧ w.cell? ⟨g, j, none⟩ = some (.int .i64 x)
theorem IntsAt.below {w w' : World} {A : Option Addr} {xs : List Int} (h : IntsAt w A xs) (hb : Below w.heap.size w w') : IntsAt w' A xs := fun j x hj => by
  obtain ⟨g, h1, h2, h3⟩ := h j x hj
  exact ⟨g, h1, by have := hb.size; omega, by rw [hb.cell h2]; exact h3⟩
theorem intsAt_row {w : World} {g : Nat} {xs : List Int} (h : rowAt w g = some (iv xs)) : IntsAt w (some ⟨g, 0, none⟩) xs := fun j x hj =>
  ⟨g, rfl, row_lt h, by rw [cell_row h j]; simp [iv, hj]⟩
theorem intsAt_own {w : World} {B n cap : Nat} {A : Option Addr} {xs : List Int} (h : w.ownsRow B 3 1 (.slice A n cap) n (xs.map (Value.int .i64))) : IntsAt w A xs := fun j x hj => by
  have hj' : (xs.map (Value.int .i64))[j]? = some (.int .i64 x) := by rw [List.getElem?_map, hj]; rfl
  have hjl := (List.getElem?_eq_some_iff.1 hj').1
  rcases h.2 with ⟨_, h2⟩ | ⟨g, cap', cur, hA, hg, hb, hn, hc, hcur, ht⟩
  · have := h.1; omega
  · simp only [Value.slice.injEq] at hA
    refine ⟨g, hA.1, (Array.getElem?_eq_some_iff.1 hb).1, ?_⟩
    have := h.cells (g := g) (by rw [hA.1]; rfl) j _ hj'
    rwa [plain_add, Nat.zero_add] at this

set_option maxHeartbeats 4000000 in
theorem tree_any {w : World} {lb r : Nat} {n : Int} {E : List Link} (h : LinksAt w lb r n E) (hE : GoodE E) (hn : 1 ≤ n ∧ n ≤ 8) (p : Pol) (hp : GoodP p) (hc : checkS p = 0) :
    Calls Try.prog 9 #[.pointer (some ⟨lb, 0, none⟩), .agg p.cells] w fun e w' => ∃ A cap, e = .returned (.tuple #[.slice A n.toNat cap, .int .i64 0]) ∧ w'.ownsRow w.heap.size 3 1 (.slice A n.toNat cap) n.toNat ((treeS n E p).map (Value.int .i64)) ∧ Below w.heap.size w w' := by
  obtain ⟨i0, hi, hz0, hz1, hz2⟩ := info_parts info3
  have HI := Lib.hid (And.intro hi (And.intro hz0 (And.intro hz1 hz2)))
  obtain ⟨N, rfl⟩ : ∃ N : Nat, n = N := ⟨n.toNat, by omega⟩
  obtain ⟨hn0, hn1⟩ := hn
  simp only [Int.toNat_natCast]
  have r0 := row1 w p.cells 40
  have h1 := h.below (below1 w (.cells p.cells 40))
  have HRk := Lib.hid (ranks_any h1 hE ⟨hn0, hn1⟩ p hp hc)
  have B0 := Lib.hid (below1 w (.cells p.cells 40))
  have HL := Lib.hid h1
  have hrr := ranksS_range (E := E) (n := N) ⟨hn0, hn1⟩ hp
  simp only [Int.toNat_natCast] at hrr
  have HRR := Lib.hid hrr.1
  clear hrr
  have hT : treeS N E p = whomsTo N E p (ranksS N E p) N := by unfold treeS; rw [Int.toNat_natCast]
  rw [hT]
  simp only [Int.toNat_natCast] at HRk
  clear hT
  generalize ranksS N E p = R at *
  obtain ⟨c, l, ii, ff, sp, ma, mb, mc, md, hPC, hPl⟩ : ∃ c l ii f s ma mb mc md, p.cells = #[.int .i64 c, .int .i64 l, .int .i64 ii, .int .i64 f, .int .i64 s, .int .i64 ma, .int .i64 mb, .int .i64 mc, .int .i64 md] ∧ p.l = l := ⟨p.c, p.l, p.i, p.f, p.s, p.ma, p.mb, p.mc, p.md, rfl, rfl⟩
  have HPC := Lib.hid hPC
  have HP := Lib.hid hp
  have HGE := Lib.hid hE
  rw [hPC] at r0 HRk B0 HL ⊢
  clear h h1 hc hPC hPl hp hE hi hz0 hz1 hz2
  go_enter Try.func9, Try.ntmps9
  go_wp2_with (go_at_call 7; refine HRk.out.mono ?_; rintro e w1 ⟨gb, rfl, hR1, hRl, hb1, hgb⟩)
  have HL1 := Lib.hid (HL.out.below hb1)
  have HP1 := Lib.hid (row_call hb1 r0)
  have HR1 := Lib.hid hR1
  have B1 := Lib.hid (below_call B0.out hb1)
  have hg1 : gb < w1.heap.size := row_lt hR1
  have hw1 : w.heap.size ≤ w1.heap.size := B1.out.size
  clear HRk r0 B0 HL hR1 hb1
  go_loopw [8, 25] (fun v t wr => ∃ (k : Nat) (xs : List Int), t = .int .i64 k ∧ k ≤ N ∧ (∃ A cap, v = .slice A xs.length cap) ∧ wr.ownsRow w1.heap.size 3 1 v xs.length (xs.map (Value.int .i64)) ∧ Hid (xs = whomsTo N E p R k) ∧ Hid (Below w1.heap.size w1 wr)) (fun _ t _ => N - (intOf t).toNat)
  case atStart => exact ⟨0, [], rfl, by omega, ⟨none, 0, rfl⟩, World.ownsRow_nil _ _ _ _, Lib.hid rfl, Lib.hid (Below.refl _ _)⟩
  case round =>
    obtain ⟨k, xs, rfl, hk, ⟨A, cap, rfl⟩, hown, HE, HB⟩ := hrel
    by_cases hlt : (k : Int) < N
    · have hkR : k < R.length := by omega
      have hrow := row_call HB.out HR1.out
      have zk : wr.cell? ⟨gb, k, none⟩ = some (.int .i64 (R.getD k 0)) := (cell_row hrow k).trans (iv_get hkR)
      have HXL : Hid (xs.length = k) := Lib.hid (by rw [HE.out, whomsTo_length])
      have HNb := Lib.hid (neighbors_any (HL1.out.below HB.out) ⟨by omega, by omega⟩ (k : Int))
      have HKm : Hid (∀ x ∈ nbS N E k, 0 ≤ x ∧ x < (N : Int)) := Lib.hid fun x hx => by have := (nbS_mem (by omega)).1 hx; omega
      have hkl : (nbS N E k).length ≤ 8 := by have := nbTo_length N E k (N : Int).toNat; unfold nbS; omega
      have HW : Hid ((nbS N E k).foldl (whomStep N E p R k) (-1) = whomS N E p R k) := Lib.hid rfl
      have HO := Lib.hid hown
      obtain ⟨nk, hnk⟩ : ∃ nk, R.getD k 0 = nk := ⟨_, rfl⟩
      rw [hnk] at zk
      have HE2 : Hid (xs ++ [whomS N E p R k] = whomsTo N E p R (k + 1)) := Lib.hid (by rw [whomsTo, HE.out])
      generalize whomS N E p R k = who at *
      generalize nbS N E k = ks at *
      clear hown hrow HE
      go_wp2_with (go_at_call 25; refine HNb.out.mono ?_; rintro e w2 ⟨A2, cap2, rfl, hown2, hb2⟩)
      have HK2 := Lib.hid (intsAt_own hown2)
      have B2 := Lib.hid (below_call HB.out hb2)
      have HO2 := Lib.hid (own_below' (B := 0) HO.out hb2)
      have hw2 : w1.heap.size ≤ w2.heap.size := B2.out.size
      clear hown2 hb2 HNb zk HO
      --INNER
      go_loopw [34, 11] (fun t v wr => ∃ (j : Nat) (cur : Int), t = .int .i64 j ∧ v = .int .i64 cur ∧ j ≤ ks.length ∧ Hid ((ks.drop j).foldl (whomStep N E p R k) cur = who) ∧ Hid (Below w2.heap.size w2 wr)) (fun t _ _ => ks.length - (intOf t).toNat)
      case atStart => exact ⟨0, -1, rfl, rfl, by omega, HW, Lib.hid (Below.refl _ _)⟩
      case round =>
        obtain ⟨j, cur, rfl, rfl, hj, HRX, Bq⟩ := hrel
        by_cases hjl : j < ks.length
        · obtain ⟨x, hx⟩ : ∃ x, ks[j]? = some x := ⟨ks[j], List.getElem?_eq_getElem hjl⟩
          have hdrop : ks.drop j = x :: ks.drop (j + 1) := by
            have : ks[j] = x := by rw [List.getElem?_eq_getElem hjl] at hx; exact Option.some.inj hx
            rw [← this]; exact List.drop_eq_getElem_cons hjl
          obtain ⟨hx0, hx1⟩ := HKm.out x (List.mem_of_getElem? hx)
          obtain ⟨g2, hA2, hg2, zk0⟩ := HK2.out j x hx
          subst hA2
          have zk : wr.cell? ⟨g2, j, none⟩ = some (.int .i64 x) := by rw [Bq.out.cell hg2]; exact zk0
          obtain ⟨x, rfl⟩ : ∃ xn : Nat, x = xn := ⟨x.toNat, by omega⟩
          have hxl2 : x < R.length := by omega
          have hdr := HRR.out (R.getD x 0) (getD_mem hxl2)
          have Lq := Lib.hid (((HL1.out.below B2.out).below Bq.out))
          have HBy := Lib.hid fun (w' : World) (h' : LinksAt w' lb r N E) => by_any h' HGE.out p HP.out x (R.getD x 0) k ⟨by omega, by omega⟩ hdr
          rw [HPC.out] at HBy
          have hrx := HRX.out
          rw [hdrop, List.foldl_cons] at hrx
          have hst : whomStep N E p R k cur x = if cur = -1 ∧ (k : Int) ≠ 0 ∧ nk ≠ 65535 ∧ byS N E p x (R.getD x 0) k = nk then (x : Int) else cur := by unfold whomStep; simp only [Int.toNat_natCast, hnk]
          rw [hst] at hrx
          have pr := row_call Bq.out (row_call B2.out HP1.out)
          have rr := row_call Bq.out (row_call B2.out HR1.out)
          have zr : ∀ w', Since wr w' → w'.cell? ⟨gb, x, none⟩ = some (.int .i64 (R.getD x 0)) := fun w' hs => later hs rr (iv_get hxl2)
          have hjj : (j : Int) < ks.length := by omega
          clear hdrop hx zk0 HRX hst hx0
          generalize byS N E p x (R.getD x 0) k = y at *
          generalize R.getD x 0 = dr at *
          by_cases t1 : cur = -1
          · by_cases t2 : k = 0
            · have e2 : ((k : Int) != 0) = false := by simp [t2]
              rw [if_neg (by omega)] at hrx
              have HRX := Lib.hid hrx
              clear hrx
              subst t1
              go_wp2
              refine wp_region_calm (Since _) (by kernel_rfl) (by kernel_rfl) (Since.drew _) ?_
              (refine wpQuiet_step (fun K hK => ?_); rw [if_pos (by rfl)]; apply quiet_val; (intro wq hwq; go_simp; (try go_ints); exact rfl); refine hK _ ?_; clear hK K; simp only [Act.put, List.setIfInBounds_toArray, List.set_cons_zero, List.set_cons_succ])
              (refine wpQuiet_step (fun K hK => ?_); rw [if_pos (by rfl)]; apply quiet_val; (intro wq hwq; go_simp; (try go_ints); exact rfl); refine hK _ ?_; clear hK K; simp only [Act.put, List.setIfInBounds_toArray, List.set_cons_zero, List.set_cons_succ])
              (refine wpQuiet_step (fun K hK => ?_); rw [if_pos (by rfl)]; apply quiet_val; (intro wq hwq; go_simp; (try go_ints); exact rfl); refine hK _ ?_; clear hK K; simp only [Act.put, List.setIfInBounds_toArray, List.set_cons_zero, List.set_cons_succ])
              (refine wpQuiet_step (fun K hK => ?_); rw [if_pos (by rfl)]; apply quiet_val; (intro wq hwq; go_simp; (try go_ints); exact rfl); refine hK _ ?_; clear hK K; simp only [Act.put, List.setIfInBounds_toArray, List.set_cons_zero, List.set_cons_succ])
              (refine wpQuiet_step (fun K hK => ?_); rw [if_pos (by rfl)]; apply quiet_val; (intro wq hwq; go_simp; (try go_ints); exact rfl); refine hK _ ?_; clear hK K; simp only [Act.put, List.setIfInBounds_toArray, List.set_cons_zero, List.set_cons_succ])
              (refine wpQuiet_step (fun K hK => ?_); rw [if_pos (by rfl)]; apply quiet_val; (intro wq hwq; go_simp; (try go_ints); exact rfl); refine hK _ ?_; clear hK K; simp only [Act.put, List.setIfInBounds_toArray, List.set_cons_zero, List.set_cons_succ])
              (refine wpQuiet_step (fun K hK => ?_); rw [if_pos (by rfl)]; apply quiet_val; (intro wq hwq; go_simp; (try go_ints); exact rfl); refine hK _ ?_; clear hK K; simp only [Act.put, List.setIfInBounds_toArray, List.set_cons_zero, List.set_cons_succ])
              (refine wpQuiet_skip (by rfl) ?_; simp only [Act.put, List.setIfInBounds_toArray, List.set_cons_zero, List.set_cons_succ])
              (refine wpQuiet_skip (by rfl) ?_; simp only [Act.put, List.setIfInBounds_toArray, List.set_cons_zero, List.set_cons_succ])
              (refine wpQuiet_step (fun K hK => ?_); rw [if_pos (by rfl)]; apply quiet_val; (intro wq hwq; go_simp; (try go_ints); exact rfl); refine hK _ ?_; clear hK K; simp only [Act.put, List.setIfInBounds_toArray, List.set_cons_zero, List.set_cons_succ])
              (refine wpQuiet_step (fun K hK => ?_); rw [if_pos (by rfl)]; apply quiet_val; (intro wq hwq; go_simp; (try go_ints); exact rfl); refine hK _ ?_; clear hK K; simp only [Act.put, List.setIfInBounds_toArray, List.set_cons_zero, List.set_cons_succ])
              (refine wpQuiet_skip (by rfl) ?_; simp only [Act.put, List.setIfInBounds_toArray, List.set_cons_zero, List.set_cons_succ])
              (refine wpQuiet_skip (by rfl) ?_; simp only [Act.put, List.setIfInBounds_toArray, List.set_cons_zero, List.set_cons_succ])
              (refine wpQuiet_skip (by rfl) ?_; simp only [Act.put, List.setIfInBounds_toArray, List.set_cons_zero, List.set_cons_succ])
              (refine wpQuiet_skip (by rfl) ?_; simp only [Act.put, List.setIfInBounds_toArray, List.set_cons_zero, List.set_cons_succ])
              (refine wpQuiet_skip (by rfl) ?_; simp only [Act.put, List.setIfInBounds_toArray, List.set_cons_zero, List.set_cons_succ])
              (refine wpQuiet_skip (by rfl) ?_; simp only [Act.put, List.setIfInBounds_toArray, List.set_cons_zero, List.set_cons_succ])
              (refine wpQuiet_skip (by rfl) ?_; simp only [Act.put, List.setIfInBounds_toArray, List.set_cons_zero, List.set_cons_succ])
              (refine wpQuiet_skip (by rfl) ?_; simp only [Act.put, List.setIfInBounds_toArray, List.set_cons_zero, List.set_cons_succ])
              (refine wpQuiet_skip (by rfl) ?_; simp only [Act.put, List.setIfInBounds_toArray, List.set_cons_zero, List.set_cons_succ])
              (refine wpQuiet_skip (by rfl) ?_; simp only [Act.put, List.setIfInBounds_toArray, List.set_cons_zero, List.set_cons_succ])
              (refine wpQuiet_skip (by rfl) ?_; simp only [Act.put, List.setIfInBounds_toArray, List.set_cons_zero, List.set_cons_succ])
              (refine wpQuiet_step (fun K hK => ?_); rw [if_pos (by rfl)]; apply quiet_val; (intro wq hwq; go_simp; (try go_ints); exact rfl); refine hK _ ?_; clear hK K; simp only [Act.put, List.setIfInBounds_toArray, List.set_cons_zero, List.set_cons_succ])
              refine wpQuiet_nil ?_; intro wn hwn
              go_wp2
              go_roundw
              case rel => exact ⟨j + 1, (-1), by go_num, rfl, by omega, HRX, Lib.hid (below_call Bq.out hwn)⟩
              case measure => simp [intOf]; omega
            · have e2 : ((k : Int) != 0) = true := by simp [t2]
              by_cases t3 : nk = 65535
              · have e3 : (nk != 65535) = false := by simp [t3]
                rw [if_neg (by omega)] at hrx
                have HRX := Lib.hid hrx
                clear hrx
                subst t1
                go_wp2
                refine wp_region_calm (Since _) (by kernel_rfl) (by kernel_rfl) (Since.drew _) ?_
                (refine wpQuiet_step (fun K hK => ?_); rw [if_pos (by rfl)]; apply quiet_val; (intro wq hwq; go_simp; (try go_ints); exact rfl); refine hK _ ?_; clear hK K; simp only [Act.put, List.setIfInBounds_toArray, List.set_cons_zero, List.set_cons_succ])
                (refine wpQuiet_step (fun K hK => ?_); rw [if_pos (by rfl)]; apply quiet_val; (intro wq hwq; go_simp; (try go_ints); exact rfl); refine hK _ ?_; clear hK K; simp only [Act.put, List.setIfInBounds_toArray, List.set_cons_zero, List.set_cons_succ])
                (refine wpQuiet_step (fun K hK => ?_); rw [if_pos (by rfl)]; apply quiet_val; (intro wq hwq; go_simp; (try go_ints); exact rfl); refine hK _ ?_; clear hK K; simp only [Act.put, List.setIfInBounds_toArray, List.set_cons_zero, List.set_cons_succ])
                (refine wpQuiet_step (fun K hK => ?_); rw [if_pos (by rfl)]; apply quiet_val; (intro wq hwq; go_simp; (try go_ints); exact rfl); refine hK _ ?_; clear hK K; simp only [Act.put, List.setIfInBounds_toArray, List.set_cons_zero, List.set_cons_succ])
                (refine wpQuiet_step (fun K hK => ?_); rw [if_pos (by rfl)]; apply quiet_val; (intro wq hwq; go_simp; (try go_ints); exact rfl); refine hK _ ?_; clear hK K; simp only [Act.put, List.setIfInBounds_toArray, List.set_cons_zero, List.set_cons_succ])
                (refine wpQuiet_step (fun K hK => ?_); rw [if_pos (by rfl)]; apply quiet_val; (intro wq hwq; go_simp; (try go_ints); exact rfl); refine hK _ ?_; clear hK K; simp only [Act.put, List.setIfInBounds_toArray, List.set_cons_zero, List.set_cons_succ])
                (refine wpQuiet_step (fun K hK => ?_); rw [if_pos (by rfl)]; apply quiet_val; (intro wq hwq; go_simp; (try go_ints); exact rfl); refine hK _ ?_; clear hK K; simp only [Act.put, List.setIfInBounds_toArray, List.set_cons_zero, List.set_cons_succ])
                (refine wpQuiet_step (fun K hK => ?_); rw [if_pos (by rfl)]; apply quiet_val; (intro wq hwq; go_simp; (try go_ints); exact rfl); refine hK _ ?_; clear hK K; simp only [Act.put, List.setIfInBounds_toArray, List.set_cons_zero, List.set_cons_succ])
                (refine wpQuiet_step (fun K hK => ?_); rw [if_pos (by rfl)]; apply quiet_val; (intro wq hwq; go_simp; (try go_ints); exact rfl); refine hK _ ?_; clear hK K; simp only [Act.put, List.setIfInBounds_toArray, List.set_cons_zero, List.set_cons_succ])
                (refine wpQuiet_step (fun K hK => ?_); rw [if_pos (by rfl)]; apply quiet_val; (intro wq hwq; go_simp; (try go_ints); exact rfl); refine hK _ ?_; clear hK K; simp only [Act.put, List.setIfInBounds_toArray, List.set_cons_zero, List.set_cons_succ])
                (refine wpQuiet_step (fun K hK => ?_); rw [if_pos (by rfl)]; apply quiet_val; (intro wq hwq; go_simp; (try go_ints); exact rfl); refine hK _ ?_; clear hK K; simp only [Act.put, List.setIfInBounds_toArray, List.set_cons_zero, List.set_cons_succ])
                (refine wpQuiet_skip (by rfl) ?_; simp only [Act.put, List.setIfInBounds_toArray, List.set_cons_zero, List.set_cons_succ])
                (refine wpQuiet_skip (by rfl) ?_; simp only [Act.put, List.setIfInBounds_toArray, List.set_cons_zero, List.set_cons_succ])
                (refine wpQuiet_skip (by rfl) ?_; simp only [Act.put, List.setIfInBounds_toArray, List.set_cons_zero, List.set_cons_succ])
                (refine wpQuiet_skip (by rfl) ?_; simp only [Act.put, List.setIfInBounds_toArray, List.set_cons_zero, List.set_cons_succ])
                (refine wpQuiet_skip (by rfl) ?_; simp only [Act.put, List.setIfInBounds_toArray, List.set_cons_zero, List.set_cons_succ])
                (refine wpQuiet_skip (by rfl) ?_; simp only [Act.put, List.setIfInBounds_toArray, List.set_cons_zero, List.set_cons_succ])
                (refine wpQuiet_skip (by rfl) ?_; simp only [Act.put, List.setIfInBounds_toArray, List.set_cons_zero, List.set_cons_succ])
                (refine wpQuiet_skip (by rfl) ?_; simp only [Act.put, List.setIfInBounds_toArray, List.set_cons_zero, List.set_cons_succ])
                (refine wpQuiet_skip (by rfl) ?_; simp only [Act.put, List.setIfInBounds_toArray, List.set_cons_zero, List.set_cons_succ])
                (refine wpQuiet_skip (by rfl) ?_; simp only [Act.put, List.setIfInBounds_toArray, List.set_cons_zero, List.set_cons_succ])
                (refine wpQuiet_skip (by rfl) ?_; simp only [Act.put, List.setIfInBounds_toArray, List.set_cons_zero, List.set_cons_succ])
                (refine wpQuiet_step (fun K hK => ?_); rw [if_pos (by rfl)]; apply quiet_val; (intro wq hwq; go_simp; (try go_ints); exact rfl); refine hK _ ?_; clear hK K; simp only [Act.put, List.setIfInBounds_toArray, List.set_cons_zero, List.set_cons_succ])
                refine wpQuiet_nil ?_; intro wn hwn
                go_wp2
                go_roundw
                case rel => exact ⟨j + 1, (-1), by go_num, rfl, by omega, HRX, Lib.hid (below_call Bq.out hwn)⟩
                case measure => simp [intOf]; omega
              · have e3 : (nk != 65535) = true := by simp [t3]
                by_cases t4 : y = nk
                · rw [if_pos ⟨t1, by omega, t3, t4⟩] at hrx
                  have HRX := Lib.hid hrx
                  clear hrx
                  subst t1
                  go_wp2
                  refine wp_region_calm (Since _) (by kernel_rfl) (by kernel_rfl) (Since.drew _) ?_
                  (refine wpQuiet_step (fun K hK => ?_); rw [if_pos (by rfl)]; apply quiet_val; (intro wq hwq; go_simp; (try go_ints); exact rfl); refine hK _ ?_; clear hK K; simp only [Act.put, List.setIfInBounds_toArray, List.set_cons_zero, List.set_cons_succ])
                  (refine wpQuiet_step (fun K hK => ?_); rw [if_pos (by rfl)]; apply quiet_val; (intro wq hwq; go_simp; (try go_ints); exact rfl); refine hK _ ?_; clear hK K; simp only [Act.put, List.setIfInBounds_toArray, List.set_cons_zero, List.set_cons_succ])
                  (refine wpQuiet_step (fun K hK => ?_); rw [if_pos (by rfl)]; apply quiet_val; (intro wq hwq; go_simp; (try go_ints); exact rfl); refine hK _ ?_; clear hK K; simp only [Act.put, List.setIfInBounds_toArray, List.set_cons_zero, List.set_cons_succ])
                  (refine wpQuiet_step (fun K hK => ?_); rw [if_pos (by rfl)]; apply quiet_val; (intro wq hwq; go_simp; (try go_ints); exact rfl); refine hK _ ?_; clear hK K; simp only [Act.put, List.setIfInBounds_toArray, List.set_cons_zero, List.set_cons_succ])
                  (refine wpQuiet_step (fun K hK => ?_); rw [if_pos (by rfl)]; apply quiet_val; (intro wq hwq; go_simp; (try go_ints); exact rfl); refine hK _ ?_; clear hK K; simp only [Act.put, List.setIfInBounds_toArray, List.set_cons_zero, List.set_cons_succ])
                  (refine wpQuiet_step (fun K hK => ?_); rw [if_pos (by rfl)]; apply quiet_val; (intro wq hwq; go_simp; (try go_ints); exact rfl); refine hK _ ?_; clear hK K; simp only [Act.put, List.setIfInBounds_toArray, List.set_cons_zero, List.set_cons_succ])
                  (refine wpQuiet_step (fun K hK => ?_); rw [if_pos (by rfl)]; apply quiet_val; (intro wq hwq; go_simp; (try go_ints); exact rfl); refine hK _ ?_; clear hK K; simp only [Act.put, List.setIfInBounds_toArray, List.set_cons_zero, List.set_cons_succ])
                  (refine wpQuiet_step (fun K hK => ?_); rw [if_pos (by rfl)]; apply quiet_val; (intro wq hwq; go_simp; (try go_ints); exact rfl); refine hK _ ?_; clear hK K; simp only [Act.put, List.setIfInBounds_toArray, List.set_cons_zero, List.set_cons_succ])
                  (refine wpQuiet_step (fun K hK => ?_); rw [if_pos (by rfl)]; apply quiet_val; (intro wq hwq; go_simp; (try go_ints); exact rfl); refine hK _ ?_; clear hK K; simp only [Act.put, List.setIfInBounds_toArray, List.set_cons_zero, List.set_cons_succ])
                  (refine wpQuiet_step (fun K hK => ?_); rw [if_pos (by rfl)]; apply quiet_val; (intro wq hwq; go_simp; (try go_ints); exact rfl); refine hK _ ?_; clear hK K; simp only [Act.put, List.setIfInBounds_toArray, List.set_cons_zero, List.set_cons_succ])
                  (refine wpQuiet_step (fun K hK => ?_); rw [if_pos (by rfl)]; apply quiet_val; (intro wq hwq; go_simp; (try go_ints); exact rfl); refine hK _ ?_; clear hK K; simp only [Act.put, List.setIfInBounds_toArray, List.set_cons_zero, List.set_cons_succ])
                  (refine wpQuiet_step (fun K hK => ?_); rw [if_pos (by rfl)]; apply quiet_val; (intro wq hwq; go_simp; (try go_ints); exact rfl); refine hK _ ?_; clear hK K; simp only [Act.put, List.setIfInBounds_toArray, List.set_cons_zero, List.set_cons_succ])
                  (refine wpQuiet_step (fun K hK => ?_); rw [if_pos (by rfl)]; apply quiet_rowload (cs := #[.int .i64 c, .int .i64 l, .int .i64 ii, .int .i64 ff, .int .i64 sp, .int .i64 ma, .int .i64 mb, .int .i64 mc, .int .i64 md]) Try.underlying40 rfl isz40; exact rfl; exact rfl; exact (fun w' hs => laterRow hs pr); exact (by simp [go_sem, *]); refine hK _ ?_; clear hK K; simp only [Act.put, List.setIfInBounds_toArray, List.set_cons_zero, List.set_cons_succ])
                  (refine wpQuiet_step (fun K hK => ?_); rw [if_pos (by rfl)]; apply quiet_val; (intro wq hwq; go_simp; (try go_ints); exact rfl); refine hK _ ?_; clear hK K; simp only [Act.put, List.setIfInBounds_toArray, List.set_cons_zero, List.set_cons_succ])
                  (refine wpQuiet_step (fun K hK => ?_); rw [if_pos (by rfl)]; apply quiet_val; (intro wq hwq; go_simp; (try go_ints); exact rfl); refine hK _ ?_; clear hK K; simp only [Act.put, List.setIfInBounds_toArray, List.set_cons_zero, List.set_cons_succ])
                  (refine wpQuiet_step (fun K hK => ?_); rw [if_pos (by rfl)]; apply quiet_val; (intro wq hwq; go_simp; (try go_ints); exact rfl); refine hK _ ?_; clear hK K; simp only [Act.put, List.setIfInBounds_toArray, List.set_cons_zero, List.set_cons_succ])
                  (refine wpQuiet_step (fun K hK => ?_); rw [if_pos (by rfl)]; apply quiet_val; (intro wq hwq; go_simp; (try go_ints); exact rfl); refine hK _ ?_; clear hK K; simp only [Act.put, List.setIfInBounds_toArray, List.set_cons_zero, List.set_cons_succ])
                  (refine wpQuiet_step (fun K hK => ?_); rw [if_pos (by rfl)]; apply quiet_val; (intro wq hwq; go_simp; (try go_ints); exact rfl); refine hK _ ?_; clear hK K; simp only [Act.put, List.setIfInBounds_toArray, List.set_cons_zero, List.set_cons_succ])
                  (refine wpQuiet_step (fun K hK => ?_); rw [if_pos (by rfl)]; apply quiet_val; (intro wq hwq; go_simp; (try go_ints); exact rfl); refine hK _ ?_; clear hK K; simp only [Act.put, List.setIfInBounds_toArray, List.set_cons_zero, List.set_cons_succ])
                  (refine wpQuiet_step (fun K hK => ?_); rw [if_pos (by rfl)]; apply quiet_call; (intro wq; go_simp; exact ⟨rfl, rfl⟩); (intro wq hwq; exact Since.call hwq (HBy.out _ (Lq.out.below hwq))); refine hK _ ?_; clear hK K; simp only [Act.put, List.setIfInBounds_toArray, List.set_cons_zero, List.set_cons_succ])
                  (refine wpQuiet_step (fun K hK => ?_); rw [if_pos (by rfl)]; apply quiet_val; (intro wq hwq; go_simp; (try go_ints); exact rfl); refine hK _ ?_; clear hK K; simp only [Act.put, List.setIfInBounds_toArray, List.set_cons_zero, List.set_cons_succ])
                  (refine wpQuiet_step (fun K hK => ?_); rw [if_pos (by rfl)]; apply quiet_val; (intro wq hwq; go_simp; (try go_ints); exact rfl); refine hK _ ?_; clear hK K; simp only [Act.put, List.setIfInBounds_toArray, List.set_cons_zero, List.set_cons_succ])
                  (refine wpQuiet_step (fun K hK => ?_); rw [if_pos (by rfl)]; apply quiet_val; (intro wq hwq; go_simp; (try go_ints); exact rfl); refine hK _ ?_; clear hK K; simp only [Act.put, List.setIfInBounds_toArray, List.set_cons_zero, List.set_cons_succ])
                  refine wpQuiet_nil ?_; intro wn hwn
                  go_wp2
                  go_roundw
                  case rel => exact ⟨j + 1, (x : Int), by go_num, rfl, by omega, HRX, Lib.hid (below_call Bq.out hwn)⟩
                  case measure => simp [intOf]; omega
                · rw [if_neg (by omega)] at hrx
                  have HRX := Lib.hid hrx
                  clear hrx
                  subst t1
                  go_wp2
                  refine wp_region_calm (Since _) (by kernel_rfl) (by kernel_rfl) (Since.drew _) ?_
                  (refine wpQuiet_step (fun K hK => ?_); rw [if_pos (by rfl)]; apply quiet_val; (intro wq hwq; go_simp; (try go_ints); exact rfl); refine hK _ ?_; clear hK K; simp only [Act.put, List.setIfInBounds_toArray, List.set_cons_zero, List.set_cons_succ])
                  (refine wpQuiet_step (fun K hK => ?_); rw [if_pos (by rfl)]; apply quiet_val; (intro wq hwq; go_simp; (try go_ints); exact rfl); refine hK _ ?_; clear hK K; simp only [Act.put, List.setIfInBounds_toArray, List.set_cons_zero, List.set_cons_succ])
                  (refine wpQuiet_step (fun K hK => ?_); rw [if_pos (by rfl)]; apply quiet_val; (intro wq hwq; go_simp; (try go_ints); exact rfl); refine hK _ ?_; clear hK K; simp only [Act.put, List.setIfInBounds_toArray, List.set_cons_zero, List.set_cons_succ])
                  (refine wpQuiet_step (fun K hK => ?_); rw [if_pos (by rfl)]; apply quiet_val; (intro wq hwq; go_simp; (try go_ints); exact rfl); refine hK _ ?_; clear hK K; simp only [Act.put, List.setIfInBounds_toArray, List.set_cons_zero, List.set_cons_succ])
                  (refine wpQuiet_step (fun K hK => ?_); rw [if_pos (by rfl)]; apply quiet_val; (intro wq hwq; go_simp; (try go_ints); exact rfl); refine hK _ ?_; clear hK K; simp only [Act.put, List.setIfInBounds_toArray, List.set_cons_zero, List.set_cons_succ])
                  (refine wpQuiet_step (fun K hK => ?_); rw [if_pos (by rfl)]; apply quiet_val; (intro wq hwq; go_simp; (try go_ints); exact rfl); refine hK _ ?_; clear hK K; simp only [Act.put, List.setIfInBounds_toArray, List.set_cons_zero, List.set_cons_succ])
                  (refine wpQuiet_step (fun K hK => ?_); rw [if_pos (by rfl)]; apply quiet_val; (intro wq hwq; go_simp; (try go_ints); exact rfl); refine hK _ ?_; clear hK K; simp only [Act.put, List.setIfInBounds_toArray, List.set_cons_zero, List.set_cons_succ])
                  (refine wpQuiet_step (fun K hK => ?_); rw [if_pos (by rfl)]; apply quiet_val; (intro wq hwq; go_simp; (try go_ints); exact rfl); refine hK _ ?_; clear hK K; simp only [Act.put, List.setIfInBounds_toArray, List.set_cons_zero, List.set_cons_succ])
                  (refine wpQuiet_step (fun K hK => ?_); rw [if_pos (by rfl)]; apply quiet_val; (intro wq hwq; go_simp; (try go_ints); exact rfl); refine hK _ ?_; clear hK K; simp only [Act.put, List.setIfInBounds_toArray, List.set_cons_zero, List.set_cons_succ])
                  (refine wpQuiet_step (fun K hK => ?_); rw [if_pos (by rfl)]; apply quiet_val; (intro wq hwq; go_simp; (try go_ints); exact rfl); refine hK _ ?_; clear hK K; simp only [Act.put, List.setIfInBounds_toArray, List.set_cons_zero, List.set_cons_succ])
                  (refine wpQuiet_step (fun K hK => ?_); rw [if_pos (by rfl)]; apply quiet_val; (intro wq hwq; go_simp; (try go_ints); exact rfl); refine hK _ ?_; clear hK K; simp only [Act.put, List.setIfInBounds_toArray, List.set_cons_zero, List.set_cons_succ])
                  (refine wpQuiet_step (fun K hK => ?_); rw [if_pos (by rfl)]; apply quiet_val; (intro wq hwq; go_simp; (try go_ints); exact rfl); refine hK _ ?_; clear hK K; simp only [Act.put, List.setIfInBounds_toArray, List.set_cons_zero, List.set_cons_succ])
                  (refine wpQuiet_step (fun K hK => ?_); rw [if_pos (by rfl)]; apply quiet_rowload (cs := #[.int .i64 c, .int .i64 l, .int .i64 ii, .int .i64 ff, .int .i64 sp, .int .i64 ma, .int .i64 mb, .int .i64 mc, .int .i64 md]) Try.underlying40 rfl isz40; exact rfl; exact rfl; exact (fun w' hs => laterRow hs pr); exact (by simp [go_sem, *]); refine hK _ ?_; clear hK K; simp only [Act.put, List.setIfInBounds_toArray, List.set_cons_zero, List.set_cons_succ])
                  (refine wpQuiet_step (fun K hK => ?_); rw [if_pos (by rfl)]; apply quiet_val; (intro wq hwq; go_simp; (try go_ints); exact rfl); refine hK _ ?_; clear hK K; simp only [Act.put, List.setIfInBounds_toArray, List.set_cons_zero, List.set_cons_succ])
                  (refine wpQuiet_step (fun K hK => ?_); rw [if_pos (by rfl)]; apply quiet_val; (intro wq hwq; go_simp; (try go_ints); exact rfl); refine hK _ ?_; clear hK K; simp only [Act.put, List.setIfInBounds_toArray, List.set_cons_zero, List.set_cons_succ])
                  (refine wpQuiet_step (fun K hK => ?_); rw [if_pos (by rfl)]; apply quiet_val; (intro wq hwq; go_simp; (try go_ints); exact rfl); refine hK _ ?_; clear hK K; simp only [Act.put, List.setIfInBounds_toArray, List.set_cons_zero, List.set_cons_succ])
                  (refine wpQuiet_step (fun K hK => ?_); rw [if_pos (by rfl)]; apply quiet_val; (intro wq hwq; go_simp; (try go_ints); exact rfl); refine hK _ ?_; clear hK K; simp only [Act.put, List.setIfInBounds_toArray, List.set_cons_zero, List.set_cons_succ])
                  (refine wpQuiet_step (fun K hK => ?_); rw [if_pos (by rfl)]; apply quiet_val; (intro wq hwq; go_simp; (try go_ints); exact rfl); refine hK _ ?_; clear hK K; simp only [Act.put, List.setIfInBounds_toArray, List.set_cons_zero, List.set_cons_succ])
                  (refine wpQuiet_step (fun K hK => ?_); rw [if_pos (by rfl)]; apply quiet_val; (intro wq hwq; go_simp; (try go_ints); exact rfl); refine hK _ ?_; clear hK K; simp only [Act.put, List.setIfInBounds_toArray, List.set_cons_zero, List.set_cons_succ])
                  (refine wpQuiet_step (fun K hK => ?_); rw [if_pos (by rfl)]; apply quiet_call; (intro wq; go_simp; exact ⟨rfl, rfl⟩); (intro wq hwq; exact Since.call hwq (HBy.out _ (Lq.out.below hwq))); refine hK _ ?_; clear hK K; simp only [Act.put, List.setIfInBounds_toArray, List.set_cons_zero, List.set_cons_succ])
                  (refine wpQuiet_step (fun K hK => ?_); rw [if_pos (by rfl)]; apply quiet_val; (intro wq hwq; go_simp; (try go_ints); exact rfl); refine hK _ ?_; clear hK K; simp only [Act.put, List.setIfInBounds_toArray, List.set_cons_zero, List.set_cons_succ])
                  (refine wpQuiet_step (fun K hK => ?_); rw [if_pos (by rfl)]; apply quiet_val; (intro wq hwq; go_simp; (try go_ints); exact rfl); refine hK _ ?_; clear hK K; simp only [Act.put, List.setIfInBounds_toArray, List.set_cons_zero, List.set_cons_succ])
                  (refine wpQuiet_step (fun K hK => ?_); rw [if_pos (by rfl)]; apply quiet_val; (intro wq hwq; go_simp; (try go_ints); exact rfl); refine hK _ ?_; clear hK K; simp only [Act.put, List.setIfInBounds_toArray, List.set_cons_zero, List.set_cons_succ])
                  refine wpQuiet_nil ?_; intro wn hwn
                  go_wp2
                  go_roundw
                  case rel => exact ⟨j + 1, (-1), by go_num, rfl, by omega, HRX, Lib.hid (below_call Bq.out hwn)⟩
                  case measure => simp [intOf]; omega
          · have e1 : (cur == -1) = false := by simp [t1]
            rw [if_neg (by omega)] at hrx
            have HRX := Lib.hid hrx
            clear hrx
            go_wp2
            refine wp_region_calm (Since _) (by kernel_rfl) (by kernel_rfl) (Since.drew _) ?_
            (refine wpQuiet_step (fun K hK => ?_); rw [if_pos (by rfl)]; apply quiet_val; (intro wq hwq; go_simp; (try go_ints); exact rfl); refine hK _ ?_; clear hK K; simp only [Act.put, List.setIfInBounds_toArray, List.set_cons_zero, List.set_cons_succ])
            (refine wpQuiet_step (fun K hK => ?_); rw [if_pos (by rfl)]; apply quiet_val; (intro wq hwq; go_simp; (try go_ints); exact rfl); refine hK _ ?_; clear hK K; simp only [Act.put, List.setIfInBounds_toArray, List.set_cons_zero, List.set_cons_succ])
            (refine wpQuiet_step (fun K hK => ?_); rw [if_pos (by rfl)]; apply quiet_val; (intro wq hwq; go_simp; (try go_ints); exact rfl); refine hK _ ?_; clear hK K; simp only [Act.put, List.setIfInBounds_toArray, List.set_cons_zero, List.set_cons_succ])
            (refine wpQuiet_skip (by rfl) ?_; simp only [Act.put, List.setIfInBounds_toArray, List.set_cons_zero, List.set_cons_succ])
            (refine wpQuiet_skip (by rfl) ?_; simp only [Act.put, List.setIfInBounds_toArray, List.set_cons_zero, List.set_cons_succ])
            (refine wpQuiet_step (fun K hK => ?_); rw [if_pos (by rfl)]; apply quiet_val; (intro wq hwq; go_simp; (try go_ints); exact rfl); refine hK _ ?_; clear hK K; simp only [Act.put, List.setIfInBounds_toArray, List.set_cons_zero, List.set_cons_succ])
            (refine wpQuiet_step (fun K hK => ?_); rw [if_pos (by rfl)]; apply quiet_val; (intro wq hwq; go_simp; (try go_ints); exact rfl); refine hK _ ?_; clear hK K; simp only [Act.put, List.setIfInBounds_toArray, List.set_cons_zero, List.set_cons_succ])
            (refine wpQuiet_skip (by rfl) ?_; simp only [Act.put, List.setIfInBounds_toArray, List.set_cons_zero, List.set_cons_succ])
            (refine wpQuiet_skip (by rfl) ?_; simp only [Act.put, List.setIfInBounds_toArray, List.set_cons_zero, List.set_cons_succ])
            (refine wpQuiet_step (fun K hK => ?_); rw [if_pos (by rfl)]; apply quiet_val; (intro wq hwq; go_simp; (try go_ints); exact rfl); refine hK _ ?_; clear hK K; simp only [Act.put, List.setIfInBounds_toArray, List.set_cons_zero, List.set_cons_succ])
            (refine wpQuiet_step (fun K hK => ?_); rw [if_pos (by rfl)]; apply quiet_val; (intro wq hwq; go_simp; (try go_ints); exact rfl); refine hK _ ?_; clear hK K; simp only [Act.put, List.setIfInBounds_toArray, List.set_cons_zero, List.set_cons_succ])
            (refine wpQuiet_skip (by rfl) ?_; simp only [Act.put, List.setIfInBounds_toArray, List.set_cons_zero, List.set_cons_succ])
            (refine wpQuiet_skip (by rfl) ?_; simp only [Act.put, List.setIfInBounds_toArray, List.set_cons_zero, List.set_cons_succ])
            (refine wpQuiet_skip (by rfl) ?_; simp only [Act.put, List.setIfInBounds_toArray, List.set_cons_zero, List.set_cons_succ])
            (refine wpQuiet_skip (by rfl) ?_; simp only [Act.put, List.setIfInBounds_toArray, List.set_cons_zero, List.set_cons_succ])
            (refine wpQuiet_skip (by rfl) ?_; simp only [Act.put, List.setIfInBounds_toArray, List.set_cons_zero, List.set_cons_succ])
            (refine wpQuiet_skip (by rfl) ?_; simp only [Act.put, List.setIfInBounds_toArray, List.set_cons_zero, List.set_cons_succ])
            (refine wpQuiet_skip (by rfl) ?_; simp only [Act.put, List.setIfInBounds_toArray, List.set_cons_zero, List.set_cons_succ])
            (refine wpQuiet_skip (by rfl) ?_; simp only [Act.put, List.setIfInBounds_toArray, List.set_cons_zero, List.set_cons_succ])
            (refine wpQuiet_skip (by rfl) ?_; simp only [Act.put, List.setIfInBounds_toArray, List.set_cons_zero, List.set_cons_succ])
            (refine wpQuiet_skip (by rfl) ?_; simp only [Act.put, List.setIfInBounds_toArray, List.set_cons_zero, List.set_cons_succ])
            (refine wpQuiet_skip (by rfl) ?_; simp only [Act.put, List.setIfInBounds_toArray, List.set_cons_zero, List.set_cons_succ])
            (refine wpQuiet_step (fun K hK => ?_); rw [if_pos (by rfl)]; apply quiet_val; (intro wq hwq; go_simp; (try go_ints); exact rfl); refine hK _ ?_; clear hK K; simp only [Act.put, List.setIfInBounds_toArray, List.set_cons_zero, List.set_cons_succ])
            refine wpQuiet_nil ?_; intro wn hwn
            go_wp2
            go_roundw
            case rel => exact ⟨j + 1, cur, by go_num, rfl, by omega, HRX, Lib.hid (below_call Bq.out hwn)⟩
            case measure => simp [intOf]; omega
        · have hjk : j = ks.length := by omega
          have HWh : Hid (cur = who) := Lib.hid (by rw [← HRX.out, hjk, List.drop_length]; rfl)
          have hjj : ¬ (j : Int) < ks.length := by omega
          have Bw := below_call B2.out Bq.out
          have HOq := Lib.hid (own_below' (B := 0) HO2.out Bq.out)
          have HBw := Lib.hid Bw
          have hwr : w1.heap.size ≤ wr.heap.size := Bw.size
          clear HRX Bw
          go_wp2_with (at_builtin; refine wpList_append_lies _ rfl (.tmp 63) (.tmp 65) 33 rfl w1.heap.size 3 i0 (.int .i64 0) 1 8 Try.underlying33 HI.out.1 HI.out.2.1 HI.out.2.2.1 HI.out.2.2.2 rfl (by decide) (.slice A xs.length cap) xs.length (xs.map (Value.int .i64)) rfl (own_alloc HOq.out _) ⟨wr.heap.size, 0, none⟩ 1 1 [.int .i64 cur] rfl rfl ?c1 ?c2 (by decide) ?c3 ?c4 ?c5 _ rfl ?_)
          case c2 => rfl
          case c3 => have := HXL.out; unfold maxLen; omega
          case c4 => have := HXL.out; omega
          case c5 => omega
          · intro g c3 w4 hown2 hgrow hat hlt2
            have hB2 : Below w1.heap.size w1 w4 := by
              refine Below.grown (HBw.out.alloc hwr _) hgrow (by simp; omega) ?_
              intro q hq
              exact (HOq.out.lt q hq).1
            have HE3 : Hid (xs ++ [cur] = whomsTo N E p R (k + 1)) := Lib.hid (by rw [HWh.out]; exact HE2.out)
            go_wp2
            go_roundw
            case rel =>
              refine ⟨k + 1, xs ++ [cur], by go_num, by omega, ⟨_, _, by simp; exact ⟨rfl, rfl⟩⟩, ?_, HE3, Lib.hid hB2⟩
              simpa using hown2
            case measure => simp [intOf]; omega
      --OUTER
    · have hkN : k = N := by omega
      have HE2 : Hid (whomsTo N E p R N = xs) := Lib.hid (by rw [HE.out, hkN])
      have HXL : Hid (xs.length = N) := Lib.hid (by rw [← HE2.out, whomsTo_length])
      have HO := Lib.hid hown
      have hlt2 : ¬ (k : Int) < N := hlt
      clear HE hown
      go_wp2
      go_ret2
      rw [HE2.out]
      refine ⟨A, cap, by rw [← HXL.out]; rfl, ?_, below_call B1.out HB.out⟩
      have := own_less HO.out hw1
      rwa [HXL.out] at this

end Go.Proofs.Ytobbjdindknkdaa
