/- The document's ranks walked. -/
import Derived.Test.YtobbjdindknkdaaJf
namespace Go.Proofs.Ytobbjdindknkdaa
open Go Go.RowKit
attribute [local irreducible] wpQuiet wpPure wpHold wpKeep wpQuietS
set_option linter.unusedSimpArgs false
set_option linter.unusedVariables false

/-! ### the document's ranks -/
def relax1 (c : Nat → Nat → Int) (p : Pol) (a : Nat) (out : List Int) (b : Nat) : List Int := if rbyS c p a (out.getD a 0) b < out.getD b 0 then out.set b (rbyS c p a (out.getD a 0) b) else out
def bAcc (c : Nat → Nat → Int) (p : Pol) (a : Nat) (out : List Int) : Nat → List Int
  | 0 => out
  | k + 1 => relax1 c p a (bAcc c p a out k) (k + 1)
def aAcc (N : Nat) (c : Nat → Nat → Int) (p : Pol) (out : List Int) : Nat → List Int
  | 0 => out
  | k + 1 => bAcc c p k (aAcc N c p out k) (N - 1)
def rAcc (N : Nat) (c : Nat → Nat → Int) (p : Pol) (out : List Int) : Nat → List Int
  | 0 => out
  | k + 1 => aAcc N c p (rAcc N c p out k) N
def ranksR (N : Nat) (c : Nat → Nat → Int) (p : Pol) : List Int := rAcc N c p ((List.replicate N (65535 : Int)).set 0 p.l) N
def OutOK (N : Nat) (l : List Int) : Prop := l.length = N ∧ ∀ x ∈ l, 0 ≤ x ∧ x ≤ 65535
def GoodC (N : Nat) (c : Nat → Nat → Int) : Prop := ∀ i k, i < N → k < N → c i k = 0 ∨ (128 ≤ c i k ∧ c i k ≤ 65534)
theorem OutOK.at {N : Nat} {l : List Int} (h : OutOK N l) {k : Nat} (hk : k < N) : 0 ≤ l.getD k 0 ∧ l.getD k 0 ≤ 65535 := h.2 _ (getD_mem (by rw [h.1]; exact hk))
theorem OutOK.set {N : Nat} {l : List Int} (h : OutOK N l) (k : Nat) {x : Int} (hx : 0 ≤ x ∧ x ≤ 65535) : OutOK N (l.set k x) := ⟨by simpa using h.1, fun y hy => by
  rcases List.mem_or_eq_of_mem_set hy with h1 | h1
  · exact h.2 y h1
  · rw [h1]; exact hx⟩
theorem rbyS_range {c : Nat → Nat → Int} {p : Pol} (hp : GoodP p) (i : Nat) (d : Int) (k : Nat) (hd : 0 ≤ d ∧ d ≤ 65535) : (0 ≤ rbyS c p i d k ∧ rbyS c p i d k ≤ 65535) ∧ (d < rbyS c p i d k ∨ rbyS c p i d k = 65535) := by
  unfold rbyS
  split
  · omega
  · have := rank_range (c := c i k) hp.f hp.s hp.l hd
    omega
theorem relax1_ok {N : Nat} {c : Nat → Nat → Int} {p : Pol} (hp : GoodP p) {a b : Nat} (ha : a < N) {l : List Int} (h : OutOK N l) : OutOK N (relax1 c p a l b) := by
  unfold relax1
  split
  · exact h.set b (rbyS_range hp a _ b (h.at ha)).1
  · exact h
theorem bAcc_ok {N : Nat} {c : Nat → Nat → Int} {p : Pol} (hp : GoodP p) {a : Nat} (ha : a < N) {l : List Int} (h : OutOK N l) : ∀ k, OutOK N (bAcc c p a l k)
  | 0 => h
  | k + 1 => relax1_ok hp ha (bAcc_ok hp ha h k)
theorem aAcc_ok {N : Nat} {c : Nat → Nat → Int} {p : Pol} (hp : GoodP p) {l : List Int} (h : OutOK N l) : ∀ k, k ≤ N → OutOK N (aAcc N c p l k)
  | 0, _ => h
  | k + 1, hk => bAcc_ok hp (by omega) (aAcc_ok hp h k (by omega)) _
theorem rAcc_ok {N : Nat} {c : Nat → Nat → Int} {p : Pol} (hp : GoodP p) {l : List Int} (h : OutOK N l) : ∀ k, OutOK N (rAcc N c p l k)
  | 0 => h
  | k + 1 => aAcc_ok hp (rAcc_ok hp h k) N (Nat.le_refl _)
theorem start_ok {N : Nat} {p : Pol} (hp : GoodP p) : OutOK N ((List.replicate N (65535 : Int)).set 0 p.l) :=
  OutOK.set ⟨by simp, fun x hx => by rw [(List.mem_replicate.1 hx).2]; omega⟩ 0 (by have := hp.l; omega)
theorem ranksR_ok {N : Nat} {c : Nat → Nat → Int} {p : Pol} (hp : GoodP p) : OutOK N (ranksR N c p) := rAcc_ok hp (start_ok hp) N
theorem isz28 : (Try.prog.info? 28).map (·.size) = some 9 := by kernel_rfl
/-- what the document's search holds -/
structure RanAt (B0 : Nat) (wr : World) (db N : Nat) (c : Nat → Nat → Int) (p : Pol) (b0 gb : Nat) (out : List Int) : Prop where
  links : RefAt wr db N c
  pol : rowAt wr b0 = some p.cells
  out : rowAt wr gb = some (iv out)
  ord : db < B0 ∧ B0 ≤ b0 ∧ b0 < gb
theorem RanAt.below {B0 : Nat} {wr w' : World} {db N : Nat} {c : Nat → Nat → Int} {p : Pol} {b0 gb : Nat} {out : List Int} (h : RanAt B0 wr db N c p b0 gb out) (hb : Below wr.heap.size wr w') : RanAt B0 w' db N c p b0 gb out :=
  ⟨h.links.below hb, row_call hb h.pol, row_call hb h.out, h.ord⟩
theorem RanAt.store {B0 : Nat} {wr : World} {db N : Nat} {c : Nat → Nat → Int} {p : Pol} {b0 gb : Nat} {out : List Int} (h : RanAt B0 wr db N c p b0 gb out) (k : Nat) (x : Int) : RanAt B0 (wr.setCell ⟨gb, k, none⟩ (.int .i64 x)) db N c p b0 gb (out.set k x) := by
  have hf := foot_cell wr gb k (.int .i64 x)
  have := h.ord
  exact ⟨h.links.foot hf (by omega), hf.row h.pol (by omega), by rw [row_setCell_same h.out, iv_set], h.ord⟩

set_option maxHeartbeats 2000000 in
theorem rranks_any {w : World} {db N : Nat} {c : Nat → Nat → Int} (h : RefAt w db N c) (hn : 1 ≤ N ∧ N ≤ 8) (p : Pol) (hp : GoodP p) (hc : GoodC N c) :
    Calls Try.prog 12 #[.pointer (some ⟨db, 0, none⟩), .agg p.cells] w fun e w' => ∃ gb, e = .returned (.slice (some ⟨gb, 0, none⟩) N N) ∧ rowAt w' gb = some (iv (ranksR N c p)) ∧ Below w.heap.size w w' ∧ w.heap.size ≤ gb := by
  obtain ⟨hn0, hn1⟩ := hn
  have r0 := row1 w p.cells 28
  have h1 := h.below (below1 w (.cells p.cells 28))
  have z := h1.n
  have hdb := h.lt
  have B0 := Lib.hid (below1 w (.cells p.cells 28))
  have HL := Lib.hid h1
  have HR : Hid (rAcc N c p ((List.replicate N (65535 : Int)).set 0 p.l) N = ranksR N c p) := Lib.hid rfl
  generalize ranksR N c p = R at *
  obtain ⟨cc, l, ii, ff, sp, ma, mb, mc, md, hPC, hPl⟩ : ∃ c l ii f s ma mb mc md, p.cells = #[.int .i64 c, .int .i64 l, .int .i64 ii, .int .i64 f, .int .i64 s, .int .i64 ma, .int .i64 mb, .int .i64 mc, .int .i64 md] ∧ p.l = l := ⟨p.c, p.l, p.i, p.f, p.s, p.ma, p.mb, p.mc, p.md, rfl, rfl⟩
  have HPC := Lib.hid hPC
  have HP' := Lib.hid hp
  have HPl := Lib.hid hPl
  have HC := Lib.hid hc
  rw [hPl] at HR
  rw [hPC] at r0 B0 HL z ⊢
  clear h h1 hc hPC hPl hp
  go_enter Try.func12, Try.ntmps12
  go_wp2_with (apply wpList_make33 (n := (N : Int)) (by omega); exact rfl; exact rfl; exact rfl; exact rfl; intro w3 hb3 hr3 hs3; simp only [Int.toNat_natCast] at hr3 ⊢; simp only [Act.put, List.setIfInBounds_toArray, List.set_cons_zero, List.set_cons_succ])
  have HP3 : Hid (RanAt w.heap.size w3 db N c p w.heap.size (w.heap.size + 1) (List.replicate 0 65535 ++ List.replicate (N - 0) 0)) := Lib.hid
    ⟨HL.out.below hb3, row_call hb3 (by rw [HPC.out]; exact r0), by simpa using hr3, hdb, Nat.le_refl _, by omega⟩
  have hB3 : Hid (Below w.heap.size w w3) := Lib.hid (below_call B0.out hb3)
  clear HL r0 B0 hr3 hs3 hb3 z
  have hgb : w.heap.size ≤ w.heap.size + 1 := by omega
  go_loopw [6] (fun t wr => ∃ k : Nat, t = .int .i64 k ∧ k ≤ N ∧ Hid (RanAt w.heap.size wr db N c p w.heap.size (w.heap.size + 1) (List.replicate k 65535 ++ List.replicate (N - k) 0)) ∧ Hid (Below w.heap.size w wr)) (fun t _ => N - (intOf t).toNat)
  case atStart => exact ⟨0, rfl, by omega, HP3, hB3⟩
  case round =>
    obtain ⟨k, rfl, hk, HP, HB⟩ := hrel
    have zn := HP.out.links.n
    by_cases hlt : (k : Int) < N
    · have hlen : k < (List.replicate k (65535 : Int) ++ List.replicate (N - k) 0).length := by simp; omega
      have z := (cell_row HP.out.out k).trans (iv_get hlen)
      have zf := frozen_row HP.out.out k
      have hset : (List.replicate k (65535 : Int) ++ List.replicate (N - k) 0).set k 65535 = List.replicate (k + 1) 65535 ++ List.replicate (N - (k + 1)) 0 := by
        rw [List.set_append_right _ _ (by simp), List.length_replicate, Nat.sub_self, show N - k = (N - (k + 1)) + 1 by omega, List.replicate_succ, List.set_cons_zero, List.replicate_succ', List.append_assoc]
        rfl
      have HP2 := HP.out.store k 65535
      rw [hset] at HP2
      have HP2 := Lib.hid HP2
      have HB2 := Lib.hid (below_setCell HB.out hgb k (.int .i64 65535))
      clear HP hset hlen
      go_wp2
      go_roundw
      case rel => exact ⟨k + 1, by go_num, by omega, HP2, HB2⟩
      case measure => simp [intOf]; omega
    · have hkN : k = N := by omega
      have HP2 := HP.out
      rw [hkN, Nat.sub_self, List.replicate_zero, List.append_nil] at HP2
      have z := (cell_row HP2.out 0).trans (iv_get (by simp; omega))
      have zf := frozen_row HP2.out 0
      have zl := (cell_row HP2.pol 1).trans (show _ = some (Value.int .i64 l) by rw [HPC.out]; rfl)
      have S0 := Lib.hid (HP2.store 0 l)
      have BS := Lib.hid (below_setCell HB.out hgb 0 (.int .i64 l))
      have HO0 : Hid (OutOK N ((List.replicate N (65535 : Int)).set 0 l)) := Lib.hid (by have := start_ok (N := N) HP'.out; rwa [HPl.out] at this)
      clear HP HP2 HB HP3 hB3
      go_wp2
      generalize (List.replicate N (65535 : Int)).set 0 l = o0 at *
      generalize wr.setCell ⟨(w.heap.size + 1), 0, none⟩ (.int .i64 l) = W0 at *
      clear z zf zl zn hlt hk
      go_loopw [7] (fun t wr => ∃ k : Nat, t = .int .i64 k ∧ k ≤ N ∧ Hid (RanAt w.heap.size wr db N c p w.heap.size (w.heap.size + 1) (rAcc N c p o0 k)) ∧ Hid (Below w.heap.size w wr)) (fun t _ => N - (intOf t).toNat)
      case atStart => exact ⟨0, rfl, by omega, S0, BS⟩
      case round =>
        obtain ⟨k1, rfl, hk1, HS1, HB1⟩ := hrel
        clear S0 BS
        have zn := HS1.out.links.n
        by_cases hlt1 : (k1 : Int) < N
        · have HO1 := Lib.hid (rAcc_ok (c := c) HP'.out HO0.out k1)
          have HE1 : Hid (aAcc N c p (rAcc N c p o0 k1) N = rAcc N c p o0 (k1 + 1)) := Lib.hid rfl
          generalize rAcc N c p o0 k1 = o1 at *
          go_wp2
          clear zn
          go_loopw [8] (fun t wr => ∃ k : Nat, t = .int .i64 k ∧ k ≤ N ∧ Hid (RanAt w.heap.size wr db N c p w.heap.size (w.heap.size + 1) (aAcc N c p o1 k)) ∧ Hid (Below w.heap.size w wr)) (fun t _ => N - (intOf t).toNat)
          case atStart => exact ⟨0, rfl, by omega, HS1, HB1⟩
          case round =>
            obtain ⟨k2, rfl, hk2, HS2, HB2⟩ := hrel
            clear HS1 HB1
            have zn := HS2.out.links.n
            by_cases hlt2 : (k2 : Int) < N
            · have HO2 := Lib.hid (aAcc_ok (c := c) HP'.out HO1.out k2 hk2)
              have HE2 : Hid (bAcc c p k2 (aAcc N c p o1 k2) (N - 1) = aAcc N c p o1 (k2 + 1)) := Lib.hid rfl
              generalize aAcc N c p o1 k2 = o2 at *
              have hk2N : k2 < N := by omega
              go_wp2
              clear zn
              go_loopw [9] (fun t wr => ∃ j : Nat, t = .int .i64 j ∧ 1 ≤ j ∧ j ≤ N ∧ Hid (RanAt w.heap.size wr db N c p w.heap.size (w.heap.size + 1) (bAcc c p k2 o2 (j - 1))) ∧ Hid (Below w.heap.size w wr)) (fun t _ => N - (intOf t).toNat)
              case atStart => exact ⟨1, rfl, by omega, by omega, HS2, HB2⟩
              case round =>
                obtain ⟨b, rfl, hb0, hb1, HS3, HB3⟩ := hrel
                clear HS2 HB2
                have zn := HS3.out.links.n
                by_cases hlt3 : (b : Int) < N
                · have HO3 := Lib.hid (bAcc_ok (c := c) HP'.out hk2N HO2.out (b - 1))
                  have HE3 : Hid (relax1 c p k2 (bAcc c p k2 o2 (b - 1)) b = bAcc c p k2 o2 b) := Lib.hid (by conv => rhs; rw [show b = (b - 1) + 1 by omega, bAcc]; rw [show b - 1 + 1 = b by omega])
                  generalize bAcc c p k2 o2 (b - 1) = o3 at *
                  have hbN : b < N := by omega
                  have hl3 := HO3.out.1
                  obtain ⟨da, hda⟩ : ∃ da, o3.getD k2 0 = da := ⟨_, rfl⟩
                  obtain ⟨db', hdb'⟩ : ∃ x, o3.getD b 0 = x := ⟨_, rfl⟩
                  have hdr : 0 ≤ da ∧ da ≤ 65535 := by rw [← hda]; exact HO3.out.at hk2N
                  have HBy := Lib.hid fun (w' : World) (h' : RefAt w' db N c) => rby_any h' p HP'.out (i := k2) (k := b) (by omega) (by omega) da hdr (HC.out k2 b hk2N hbN)
                  have pr := HS3.out.pol
                  rw [HPC.out] at HBy pr
                  have hrx := HE3.out
                  unfold relax1 at hrx
                  rw [hda, hdb'] at hrx
                  have hor := HS3.out.out
                  have za : ∀ w', Since wr w' → w'.cell? ⟨w.heap.size + 1, k2, none⟩ = some (.int .i64 da) := fun w' hs => later hs hor (by rw [← hda]; exact iv_get (by omega))
                  have hyr := (rbyS_range (c := c) HP'.out k2 da b hdr).1
                  generalize rbyS c p k2 da b = y at *
                  clear HE3
                  go_wp2
                  refine wp_region_calm (Since _) (by kernel_rfl) (by kernel_rfl) (Since.drew _) ?_
                  (refine wpQuiet_step (fun K hK => ?_); rw [if_pos (by rfl)]; apply quiet_val; (intro wq hwq; go_simp; (try go_ints); exact rfl); refine hK _ ?_; clear hK K; simp only [Act.put, List.setIfInBounds_toArray, List.set_cons_zero, List.set_cons_succ])
                  (refine wpQuiet_step (fun K hK => ?_); rw [if_pos (by rfl)]; apply quiet_rowload (cs := #[.int .i64 cc, .int .i64 l, .int .i64 ii, .int .i64 ff, .int .i64 sp, .int .i64 ma, .int .i64 mb, .int .i64 mc, .int .i64 md]) Try.underlying28 rfl isz28; exact rfl; exact rfl; exact (fun w' hs => laterRow hs pr); exact (by simp [go_sem, *]); refine hK _ ?_; clear hK K; simp only [Act.put, List.setIfInBounds_toArray, List.set_cons_zero, List.set_cons_succ])
                  (refine wpQuiet_step (fun K hK => ?_); rw [if_pos (by rfl)]; apply quiet_val; (intro wq hwq; go_simp; (try go_ints); exact rfl); refine hK _ ?_; clear hK K; simp only [Act.put, List.setIfInBounds_toArray, List.set_cons_zero, List.set_cons_succ])
                  (refine wpQuiet_step (fun K hK => ?_); rw [if_pos (by rfl)]; apply quiet_val; (intro wq hwq; go_simp; (try go_ints); exact rfl); refine hK _ ?_; clear hK K; simp only [Act.put, List.setIfInBounds_toArray, List.set_cons_zero, List.set_cons_succ])
                  (refine wpQuiet_step (fun K hK => ?_); rw [if_pos (by rfl)]; apply quiet_val; (intro wq hwq; go_simp; (try go_ints); exact rfl); refine hK _ ?_; clear hK K; simp only [Act.put, List.setIfInBounds_toArray, List.set_cons_zero, List.set_cons_succ])
                  (refine wpQuiet_step (fun K hK => ?_); rw [if_pos (by rfl)]; apply quiet_val; (intro wq hwq; go_simp; (try go_ints); exact rfl); refine hK _ ?_; clear hK K; simp only [Act.put, List.setIfInBounds_toArray, List.set_cons_zero, List.set_cons_succ])
                  (refine wpQuiet_step (fun K hK => ?_); rw [if_pos (by rfl)]; apply quiet_val; (intro wq hwq; go_simp; (try go_ints); exact rfl); refine hK _ ?_; clear hK K; simp only [Act.put, List.setIfInBounds_toArray, List.set_cons_zero, List.set_cons_succ])
                  (refine wpQuiet_step (fun K hK => ?_); rw [if_pos (by rfl)]; apply quiet_val; (intro wq hwq; go_simp; (try go_ints); exact rfl); refine hK _ ?_; clear hK K; simp only [Act.put, List.setIfInBounds_toArray, List.set_cons_zero, List.set_cons_succ])
                  (refine wpQuiet_step (fun K hK => ?_); rw [if_pos (by rfl)]; apply quiet_call; (intro wq; go_simp; exact ⟨rfl, rfl⟩); (intro wq hwq; exact Since.call hwq (HBy.out _ (HS3.out.links.below hwq))); refine hK _ ?_; clear hK K; simp only [Act.put, List.setIfInBounds_toArray, List.set_cons_zero, List.set_cons_succ])
                  (refine wpQuiet_step (fun K hK => ?_); rw [if_pos (by rfl)]; apply quiet_val; (intro wq hwq; go_simp; (try go_ints); exact rfl); refine hK _ ?_; clear hK K; simp only [Act.put, List.setIfInBounds_toArray, List.set_cons_zero, List.set_cons_succ])
                  refine wpQuiet_nil ?_; intro wn hwn
                  have S4 := HS3.out.below hwn
                  have zb : wn.cell? ⟨w.heap.size + 1, b, none⟩ = some (.int .i64 db') := by rw [cell_row S4.out b, ← hdb']; exact iv_get (by omega)
                  have fb := frozen_row S4.out b
                  have B4 := below_call HB3.out hwn
                  by_cases hy : y < db'
                  · rw [if_pos hy] at hrx
                    have S5 := Lib.hid (hrx ▸ S4.store b y)
                    have B5 := Lib.hid (below_setCell B4 hgb b (.int .i64 y))
                    clear S4 B4 hrx hor
                    go_wp2
                    go_roundw
                    case rel => exact ⟨b + 1, by go_num, by omega, by omega, S5, B5⟩
                    case measure => simp [intOf]; omega
                  · rw [if_neg hy] at hrx
                    have S5 := Lib.hid (hrx ▸ S4)
                    have B5 := Lib.hid B4
                    clear S4 B4 hrx hor
                    go_wp2
                    go_roundw
                    case rel => exact ⟨b + 1, by go_num, by omega, by omega, S5, B5⟩
                    case measure => simp [intOf]; omega
                · have hbe : b = N := by omega
                  have HS4 : Hid (RanAt w.heap.size wr db N c p w.heap.size (w.heap.size + 1) (aAcc N c p o1 (k2 + 1))) := Lib.hid (by have := HS3.out; rwa [show b - 1 = N - 1 by omega, HE2.out] at this)
                  clear HS3
                  go_wp2
                  go_roundw
                  case rel => exact ⟨k2 + 1, by go_num, by omega, HS4, HB3⟩
                  case measure => simp [intOf]; omega
            · have hk2e : k2 = N := by omega
              have HS3 : Hid (RanAt w.heap.size wr db N c p w.heap.size (w.heap.size + 1) (rAcc N c p o0 (k1 + 1))) := Lib.hid (by have := HS2.out; rwa [hk2e, HE1.out] at this)
              clear HS2
              go_wp2
              go_roundw
              case rel => exact ⟨k1 + 1, by go_num, by omega, HS3, HB2⟩
              case measure => simp [intOf]; omega
        · have hk1e : k1 = N := by omega
          have HF := HS1.out.out
          rw [hk1e, HR.out] at HF
          clear HS1
          go_wp2
          go_ret
          exact ⟨_, rfl, HF, HB1.out, hgb⟩

end Go.Proofs.Ytobbjdindknkdaa
