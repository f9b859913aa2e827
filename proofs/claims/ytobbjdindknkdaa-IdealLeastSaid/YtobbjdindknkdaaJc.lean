/- The search walked. -/
import Derived.Test.YtobbjdindknkdaaJb
namespace Go.Proofs.Ytobbjdindknkdaa
open Go Go.RowKit
attribute [local irreducible] wpQuiet wpPure wpHold wpKeep wpQuietS
set_option linter.unusedSimpArgs false
set_option linter.unusedVariables false

set_option maxHeartbeats 2000000 in
theorem ranks_any {w : World} {lb r : Nat} {n : Int} {E : List Link} (h : LinksAt w lb r n E) (hE : GoodE E) (hn : 1 ≤ n ∧ n ≤ 8) (p : Pol) (hp : GoodP p) (hc : checkS p = 0) :
    Calls Try.prog 7 #[.pointer (some ⟨lb, 0, none⟩), .agg p.cells] w fun e w' => ∃ gb, e = .returned (.tuple #[.slice (some ⟨gb, 0, none⟩) n.toNat n.toNat, .int .i64 0]) ∧ rowAt w' gb = some (iv (ranksS n E p)) ∧ (ranksS n E p).length = n.toNat ∧ Below w.heap.size w w' ∧ w.heap.size ≤ gb := by
  obtain ⟨N, rfl⟩ : ∃ N : Nat, n = N := ⟨n.toNat, by omega⟩
  obtain ⟨hn0, hn1⟩ := hn
  simp only [Int.toNat_natCast]
  have r0 := row1 w p.cells 40
  have HK := Lib.hid fun a w => check_any a p w
  rw [hc] at HK
  have h1 := h.below (below1 w (.cells p.cells 40))
  have B0 := Lib.hid (below1 w (.cells p.cells 40))
  have HL := Lib.hid h1
  have HH := Lib.hid h
  have HR : Hid (∃ f, 600000 ≤ f ∧ lookS N E p f (startS N p) = ranksS N E p) := Lib.hid ⟨1000000, by omega, rfl⟩
  generalize ranksS N E p = R at *
  obtain ⟨c, l, ii, ff, sp, ma, mb, mc, md, hPC, hPl⟩ : ∃ c l ii f s ma mb mc md, p.cells = #[.int .i64 c, .int .i64 l, .int .i64 ii, .int .i64 f, .int .i64 s, .int .i64 ma, .int .i64 mb, .int .i64 mc, .int .i64 md] ∧ p.l = l := ⟨p.c, p.l, p.i, p.f, p.s, p.ma, p.mb, p.mc, p.md, rfl, rfl⟩
  have HPC := Lib.hid hPC
  have HPl := Lib.hid hPl
  rw [hPC] at r0 HK B0 HL ⊢
  clear h h1 hc hPC hPl
  go_enter Try.func7, Try.ntmps7
  go_wp2
  go_step3
  go_wp2_with (first
    | (go_at_call 23; refine (HK.out _ _).mono ?_; rintro e w1 ⟨rfl, hb1⟩)
    | (go_at_call 24; refine (nodes_any (HL.out.below hb1)).mono ?_; rintro e w2 ⟨rfl, rfl⟩)
    | (apply wpList_make33 (n := (N : Int)) (by omega); exact rfl; exact rfl; exact rfl; exact rfl; intro w3 hb3 hr3 hs3; simp only [Int.toNat_natCast] at hr3 ⊢; simp only [Act.put, List.setIfInBounds_toArray, List.set_cons_zero, List.set_cons_succ]))
  have HP3 : Hid (PreAt w.heap.size w3 lb r N E p w.heap.size w1.heap.size (List.replicate 0 65535 ++ List.replicate (N - 0) 0)) := Lib.hid
    ⟨((HL.out.below hb1)).below hb3, row_call hb3 (row_call hb1 (by rw [HPC.out]; exact r0)), by simpa using hr3, ⟨⟨(row_lt HH.out.head), mapAt_lt HH.out.map⟩, Nat.le_refl _, by have := hb1.size; simp at this; omega⟩⟩
  have hB3 : Hid (Below w.heap.size w w3) := Lib.hid (below_call (below_call B0.out hb1) hb3)
  clear HK HL r0 B0 hr3 hs3 hb3 hb1
  generalize w1.heap.size = gb at *
  go_loopw [27] (fun t wr => ∃ k : Nat, t = .int .i64 k ∧ k ≤ N ∧ Hid (PreAt w.heap.size wr lb r N E p w.heap.size gb (List.replicate k 65535 ++ List.replicate (N - k) 0)) ∧ Hid (Below w.heap.size w wr)) (fun t _ => N - (intOf t).toNat)
  case atStart => exact ⟨0, rfl, by omega, HP3, hB3⟩
  case round =>
    obtain ⟨k, rfl, hk, HP, HB⟩ := hrel
    by_cases hlt : k < N
    · have hlen : k < (List.replicate k (65535 : Int) ++ List.replicate (N - k) 0).length := by simp; omega
      have z := (cell_row HP.out.out k).trans (iv_get hlen)
      have zf := frozen_row HP.out.out k
      have hset : (List.replicate k (65535 : Int) ++ List.replicate (N - k) 0).set k 65535 = List.replicate (k + 1) 65535 ++ List.replicate (N - (k + 1)) 0 := by
        rw [List.set_append_right _ _ (by simp), List.length_replicate, Nat.sub_self, show N - k = (N - (k + 1)) + 1 by omega, List.replicate_succ, List.set_cons_zero, List.replicate_succ', List.append_assoc]
        rfl
      have HP2 := HP.out.store k 65535
      rw [hset] at HP2
      have HP2 := Lib.hid HP2
      have hg : w.heap.size ≤ gb := by have := HP.out.ord; omega
      have HB2 := Lib.hid (below_setCell HB.out hg k (.int .i64 65535))
      clear HP hset hlen
      go_wp2
      go_roundw
      case rel => exact ⟨k + 1, by go_num, by omega, HP2, HB2⟩
      case measure => simp [intOf]; omega
    · have hkN : k = N := by omega
      have HP2 := HP.out
      rw [hkN, Nat.sub_self, List.replicate_zero, List.append_nil] at HP2
      have z := (cell_row HP2.out 0).trans (iv_get (by simp; omega))
      have zf := frozen_row HP2.out 0
      have zl := (cell_row HP2.pol 1).trans (show _ = some (Value.int .i64 l) by rw [HPC.out]; rfl)
      have P4 := (HP2.store 0 l).below (below1 _ (.cells #[.slice none 0 0, .int .i64 0] 56))
      have zl4 := (cell_row P4.pol 1).trans (show _ = some (Value.int .i64 l) by rw [HPC.out]; rfl)
      have hg : w.heap.size ≤ gb := by have := HP2.ord; omega
      have B4 := below_call (below_setCell HB.out hg 0 (.int .i64 l)) (below1 _ (.cells #[.slice none 0 0, .int .i64 0] 56))
      have hh4 : HeapAt ((wr.setCell ⟨gb, 0, none⟩ (.int .i64 l)).alloc (.cells #[.slice none 0 0, .int .i64 0] 56)) wr.heap.size wr.heap.size [] 0 (.slice none 0 0) :=
        ⟨by have := row1 (wr.setCell ⟨gb, 0, none⟩ (.int .i64 l)) #[.slice none 0 0, .int .i64 0] 56; simpa using this, World.ownsRow_nil _ _ _ _, (fun e => by cases e), Nat.le_refl _⟩
      have hgl : gb < wr.heap.size := row_lt HP2.out
      have HS4 : Hid (LookAt w.heap.size ((wr.setCell ⟨gb, 0, none⟩ (.int .i64 l)).alloc (.cells #[.slice none 0 0, .int .i64 0] 56)) lb r N E p w.heap.size gb wr.heap.size (.slice none 0 0) ((List.replicate N (65535 : Int)).set 0 l, [], 0)) := Lib.hid ⟨P4, hh4, hgl⟩
      have HA4 := Lib.hid (add_any hh4 (by simp) 0 l (by simp))
      have HB4 := Lib.hid B4
      clear HP HP2 P4 hh4 B4 HB
      have hsz4 : ((wr.setCell ⟨gb, 0, none⟩ (.int .i64 l)).alloc (.cells #[.slice none 0 0, .int .i64 0] 56)).heap.size = wr.heap.size + 1 := by simp
      go_wp2_with (go_at_call 17; refine HA4.out.mono ?_; rintro e w5 ⟨rfl, v5, hh5, hf5, ho5⟩)
      have hS5 := HS4.out.turn hh5 hf5
      have hB5 := HS4.out.own HB4.out rfl hf5
      have hst : startS N p = ((List.replicate N (65535 : Int)).set 0 l, addJ [] (l, 0, 0), wrap64 (0 + 1)) := by unfold startS; rw [HPl.out, Int.toNat_natCast]
      rw [← hst] at hS5
      have HInv := start_inv (n := N) ⟨hn0, hn1⟩ hp
      have hlb : ∃ s0, s0 = startS N p := ⟨_, rfl⟩
      obtain ⟨s0, hs0⟩ := hlb
      rw [← hs0] at hS5 HInv HR
      have HS5 := Lib.hid hS5
      have HB5 := Lib.hid hB5
      have HI5 := Lib.hid HInv
      have HP := Lib.hid hp
      have HGE := Lib.hid hE
      clear HS4 HA4 HB4 hS5 hB5 hst hs0 HInv hh5 hf5 ho5 z zf zl zl4 hsz4 hp hE HP3 hB3
      generalize wr.heap.size = B at *
      go_step3
      go_wp2
      clear hlt hkN hk hgl
      go_loopw [] (fun wr => ∃ (fu : Nat) (s : RS) (v : Value), mu s ≤ fu ∧ mu s ≤ 600000 ∧ Hid (lookS N E p fu s = R) ∧ Hid (RInv N s) ∧ Hid (LookAt w.heap.size wr lb r N E p w.heap.size gb B v s) ∧ Hid (Below w.heap.size w wr)) (fun wr => muW gb B wr)
      case atStart =>
        obtain ⟨fu, hfu, hR⟩ := HR.out
        exact ⟨fu, s0, v5, by have := HI5.out.2; omega, HI5.out.2, Lib.hid hR, Lib.hid HI5.out.1, HS5, HB5⟩
      case round =>
        obtain ⟨fu, s, v, hfu, hmu, HE, HI, HS, HB⟩ := hrel
        clear HR HS5 HB5 HI5
        rcases hs : s.2.1[0]? with _ | ⟨d, i, cn⟩
        · have hnil : s.2.1 = [] := by simpa using hs
          have hRR : s.1 = R := by rw [← HE.out, lookS_end _ _ _ _ hnil]
          have hheap := HS.out.heap
          rw [hnil] at hheap
          have HT := Lib.hid (take_empty hheap)
          have hrow := HS.out.pre.out
          have hlen := HI.out.len
          rw [hRR] at hrow hlen
          have HF := Lib.hid (And.intro hrow hlen)
          clear hs hheap hrow hlen hnil hRR
          go_wp2_with (go_at_call 15; with_reducible refine HT.out.mono ?_; rintro e w' ⟨rfl, rfl⟩)
          rw [Exit.noGoto_ret]
          go_ret2
          exact ⟨gb, rfl, HF.out.1, HF.out.2, HB.out, hg⟩
        · obtain ⟨hI1, hmu1, ⟨hi0, hi1⟩, hd0, hd1⟩ := HI.out.take hs
          simp only at hi0 hi1 hd0 hd1
          obtain ⟨m, rfl⟩ : ∃ m : Nat, i = m := ⟨i.toNat, by omega⟩
          have HT := Lib.hid (take_any HS.out.heap hs (by have := HI.out.bound hmu; omega))
          obtain ⟨fv, rfl⟩ : ∃ fv, fu = fv + 1 := ⟨fu - 1, by omega⟩
          have hml : m < s.1.length := by have := HI.out.len; omega
          have HMU := Lib.hid (muW_eq HS.out)
          obtain ⟨o, ho⟩ : ∃ o, s.1.getD m 0 = o := ⟨_, rfl⟩
          by_cases hlt : o < d
          · have HE2 : Hid (lookS N E p fv (s.1, takeJ s.2.1, s.2.2) = R) := Lib.hid (by rw [← HE.out, lookS, hs]; simp only [Int.toNat_natCast]; rw [if_pos (by rw [ho]; exact hlt)])
            have HI1 := Lib.hid hI1
            clear hI1 hs HE HI
            go_wp2_with (go_at_call 15; with_reducible refine HT.out.mono ?_; rintro e w1 ⟨rfl, v1, hh1, hf1, ho1⟩; have S1 := HS.out.turn hh1 hf1; have z1 : w1.cell? ⟨gb, m, none⟩ = some (.int .i64 o) := (by rw [← ho]; exact (cell_row S1.pre.out m).trans (iv_get hml)); have B1 := Lib.hid (HS.out.own HB.out rfl hf1); have S1 := Lib.hid S1; clear hh1 hf1 ho1)
            go_roundw
            case rel => exact ⟨fv, (s.1, takeJ s.2.1, s.2.2), v1, by omega, by omega, HE2, HI1, S1, B1⟩
            case measure =>
              rw [muW_eq S1.out, HMU.out]
              omega
          · have HE2 : Hid (lookS N E p fv (relaxS N E p m d (nbS N E m) (s.1, takeJ s.2.1, s.2.2)) = R) := Lib.hid (by rw [← HE.out, lookS, hs]; simp only [Int.toNat_natCast]; rw [if_neg (by rw [ho]; exact hlt)])
            have HI1 := Lib.hid hI1
            have HKm : Hid (∀ x ∈ nbS N E m, 0 ≤ x ∧ x < (N : Int)) := Lib.hid fun x hx => by have := (nbS_mem (by omega)).1 hx; omega
            have HNb := Lib.hid fun (w' : World) (h' : LinksAt w' lb r N E) => neighbors_any h' ⟨by omega, by omega⟩ (m : Int)
            clear hI1 hs HE HI
            have hkl : (nbS N E m).length ≤ 8 := by have := nbTo_length N E m (N : Int).toNat; unfold nbS; omega
            generalize nbS N E m = ks at *
            generalize hs1 : ((s.1, takeJ s.2.1, s.2.2) : RS) = s1 at *
            have hs1' : s1.1 = s.1 := by rw [← hs1]
            go_wp2_with (first
              | (go_at_call 15; with_reducible refine HT.out.mono ?_; rintro e w1 ⟨rfl, v1, hh1, hf1, ho1⟩; have S1 := HS.out.turn hh1 hf1; rw [hs1] at S1; have z1 : w1.cell? ⟨gb, m, none⟩ = some (.int .i64 o) := (by rw [← ho, ← hs1']; exact (cell_row S1.pre.out m).trans (iv_get (by rw [hs1']; exact hml))); have B1 := Lib.hid (HS.out.own HB.out rfl hf1); have S1 := Lib.hid S1; clear hh1 hf1 ho1)
              | (go_at_call 25; refine (HNb.out _ S1.out.pre.links).mono ?_; rintro e w2 ⟨A, cap, rfl, hown2, hb2⟩))
            have hvl : ∀ g, v1.ownBlock = some g → g < w1.heap.size := fun g hv => (own_lt S1.out.heap.row hv).2
            have hBl : B < w1.heap.size := row_lt S1.out.heap.head
            have HK2 := Lib.hid (ksAt_of (v := v1) hown2 hBl hvl)
            have S2 := Lib.hid (S1.out.below hb2)
            have B2 := Lib.hid (below_call B1.out hb2)
            have HBL := Lib.hid (Nat.lt_of_lt_of_le hBl hb2.size)
            clear hvl hown2 hBl hb2 S1 B1 z1
            go_loopw [58] (fun t wr => ∃ (j : Nat) (q : RS) (u : Value), t = .int .i64 j ∧ j ≤ ks.length ∧ Hid (relaxS N E p m d (ks.drop j) q = relaxS N E p m d ks s1) ∧ Hid (RInv N q) ∧ mu q ≤ mu s1 ∧ Hid (LookAt w.heap.size wr lb r N E p w.heap.size gb B u q) ∧ Hid (KsAt wr B u (.slice A ks.length cap) ks) ∧ Hid (Below w.heap.size w wr)) (fun t _ => ks.length - (intOf t).toNat)
            case atStart => exact ⟨0, s1, v1, rfl, by omega, Lib.hid rfl, HI1, Nat.le_refl _, S2, HK2, B2⟩
            case round =>
              obtain ⟨j, q, u, rfl, hj, HRX, HIq, hmq, Sq, HKq, Bq⟩ := hrel
              clear S2 HK2 B2
              by_cases hjl : j < ks.length
              · obtain ⟨x, hx⟩ : ∃ x, ks[j]? = some x := ⟨ks[j], List.getElem?_eq_getElem hjl⟩
                have hdrop : ks.drop j = x :: ks.drop (j + 1) := by
                  have : ks[j] = x := by rw [List.getElem?_eq_getElem hjl] at hx; exact Option.some.inj hx
                  rw [← this]; exact List.drop_eq_getElem_cons hjl
                obtain ⟨hx0, hx1⟩ := HKm.out x (List.mem_of_getElem? hx)
                obtain ⟨g, cq, hA, hgB, hgl, hgu, zk⟩ := HKq.out j x hx
                simp only [Value.slice.injEq] at hA
                obtain ⟨rfl, -, rfl⟩ := hA
                obtain ⟨xn, rfl⟩ : ∃ xn : Nat, x = xn := ⟨x.toNat, by omega⟩
                have HBy := Lib.hid fun (w' : World) (h' : LinksAt w' lb r N E) => by_any h' HGE.out p HP.out m d xn ⟨by omega, by omega⟩ ⟨hd0, hd1⟩
                have hyr := byS_range (n := N) (E := E) HP.out m d xn ⟨hd0, hd1⟩
                have hxl : xn < q.1.length := by have := HIq.out.len; omega
                obtain ⟨oq, hoq⟩ : ∃ oq, q.1.getD xn 0 = oq := ⟨_, rfl⟩
                have hrx := HRX.out
                rw [hdrop, relaxS] at hrx
                simp only [Int.toNat_natCast] at hrx
                rw [hoq] at hrx
                have hadd := fun h => HIq.out.add (k := (xn : Int)) (v := byS N E p m d xn) ⟨by omega, by omega⟩ hyr.1 h
                simp only [Int.toNat_natCast] at hadd
                rw [hoq] at hadd
                rw [HPC.out] at HBy
                generalize byS N E p m d xn = y at *
                have pr : rowAt wr w.heap.size = some #[.int .i64 c, .int .i64 l, .int .i64 ii, .int .i64 ff, .int .i64 sp, .int .i64 ma, .int .i64 mb, .int .i64 mc, .int .i64 md] := HPC.out ▸ Sq.out.pre.pol
                have zc0 := (cell_row pr 0).trans rfl
                have zc1 := (cell_row pr 1).trans rfl
                have zc2 := (cell_row pr 2).trans rfl
                have zc3 := (cell_row pr 3).trans rfl
                have zc4 := (cell_row pr 4).trans rfl
                have zc5 := (cell_row pr 5).trans rfl
                have zc6 := (cell_row pr 6).trans rfl
                have zc7 := (cell_row pr 7).trans rfl
                have zc8 := (cell_row pr 8).trans rfl
                simp only [List.getElem?_toArray, List.getElem?_cons_zero, List.getElem?_cons_succ] at zc0 zc1 zc2 zc3 zc4 zc5 zc6 zc7 zc8
                clear hdrop hx HRX pr
                have hjj : (j : Int) < ks.length := by omega
                by_cases hyo : y < oq
                · obtain ⟨hI3, hmu3⟩ := hadd hyo
                  rw [if_pos hyo] at hrx
                  have HRX := Lib.hid hrx
                  have HI3 := Lib.hid hI3
                  have hq2 : q.2.1.length < 1000000 := by have := HIq.out.bound (show mu q ≤ 600000 by omega); omega
                  clear hrx hI3 hadd HIq
                  go_wp2_with (first
                    | (go_at_call 26; refine (HBy.out _ Sq.out.pre.links).mono ?_; rintro e w3 ⟨rfl, hb3⟩; have S3 := Sq.out.below hb3; have z3 : w3.cell? ⟨gb, xn, none⟩ = some (.int .i64 oq) := (by rw [← hoq]; exact (cell_row S3.pre.out xn).trans (iv_get hxl)); have zf3 := frozen_row S3.pre.out xn; have S4 := S3.store xn y; have K4 := Lib.hid ((HKq.out.below hb3).store S3.lt xn (.int .i64 y)); have B4 := Lib.hid (below_setCell (below_call Bq.out hb3) hg xn (.int .i64 y)); have hBs := row_lt S4.heap.head; have HA4 := Lib.hid (add_any S4.heap (Nat.le_of_lt hBs) xn y hq2); have S4 := Lib.hid S4; clear S3 hb3)
                    | (go_at_call 17; with_reducible refine HA4.out.mono ?_; rintro e w5 ⟨rfl, v5, hh5, hf5, ho5⟩))
                  go_roundw
                  case rel => exact ⟨j + 1, _, v5, by go_num, by omega, HRX, HI3, by omega, Lib.hid (S4.out.turn hh5 hf5), Lib.hid (K4.out.turn hf5 ho5), Lib.hid (S4.out.own B4.out rfl hf5)⟩
                  case measure => simp [intOf]; omega
                · rw [if_neg hyo] at hrx
                  have HRX := Lib.hid hrx
                  clear hrx hadd
                  go_wp2_with (go_at_call 26; refine (HBy.out _ Sq.out.pre.links).mono ?_; rintro e w3 ⟨rfl, hb3⟩; have S3 := Sq.out.below hb3; have z3 : w3.cell? ⟨gb, xn, none⟩ = some (.int .i64 oq) := (by rw [← hoq]; exact (cell_row S3.pre.out xn).trans (iv_get hxl)); have K4 := Lib.hid (HKq.out.below hb3); have B4 := Lib.hid (below_call Bq.out hb3); have S4 := Lib.hid S3; clear S3 hb3)
                  go_roundw
                  case rel => exact ⟨j + 1, q, u, by go_num, by omega, HRX, HIq, by omega, S4, K4, B4⟩
                  case measure => simp [intOf]; omega
              · have hjk : j = ks.length := by omega
                have HRq : Hid (q = relaxS N E p m d ks s1) := Lib.hid (by rw [← HRX.out, hjk, List.drop_length]; rfl)
                have HE3 : Hid (lookS N E p fv q = R) := Lib.hid (by rw [HRq.out]; exact HE2.out)
                have HMq := Lib.hid (muW_eq Sq.out)
                have hms : mu s1 + 1 = mu s := hmu1
                have hjj : ¬ (j : Int) < ks.length := by omega
                clear HRX HE2 HKq HKm
                go_wp2
                go_roundw
                case rel => exact ⟨fv, q, u, by omega, by omega, HE3, HIq, Sq, Bq⟩
                case measure =>
                  rw [HMq.out, HMU.out]
                  omega

end Go.Proofs.Ytobbjdindknkdaa
