import Derived.Test.YtodeiapaehlmfaaDoorBb
import Derived.Test.YtodeiapaehlmfaaDoorAl
import Derived.Test.YtodeiapaehlmfaaDoorAn
import Derived.Laws.StructEq
namespace Go.Proofs.YtodeiapaehlmfaaDoor
open Go Go.RowKit
attribute [local go_sem] rowAt_alloc_at rowAt_alloc_past rowAt_drew rowAt_drewN bv_size iv_size bv_one iv_one bv_set iv_set bv_get iv_get bv_elem iv_elem zlit16 zlit8 z16_length z8_length eq25 eq22 eq23 pv_size pv_one cutS_length zplit
attribute [local irreducible] wpQuiet wpPure wpHold wpKeep wpQuietS
set_option linter.unusedSimpArgs false
set_option linter.unusedVariables false

theorem fields40 : (Tryd.prog.fieldsOf 40).toList.map (fun f => (f.name == "_", f.type, f.offset)) = [(false, 25, 0), (false, 3, 16)] := by kernel_rfl
theorem part40a (c : List Int) (hc : c.length = 16) (n : Int) (w : World) : (part 25 (pv c n) 0).run Tryd.prog w = .ok (.agg (bv c)) w := by
  obtain ⟨x0, x1, x2, x3, x4, x5, x6, x7, x8, x9, x10, x11, x12, x13, x14, x15, rfl⟩ := bv16 hc
  kernel_rfl
theorem part40b (c : List Int) (hc : c.length = 16) (n : Int) (w : World) : (part 3 (pv c n) 16).run Tryd.prog w = .ok (.int .i64 n) w := by
  obtain ⟨x0, x1, x2, x3, x4, x5, x6, x7, x8, x9, x10, x11, x12, x13, x14, x15, rfl⟩ := bv16 hc
  kernel_rfl
theorem eq40 (w : World) (c : List Int) (hc : c.length = 16) (n : Int) : (Op.equalIn 10000 40 (.agg (pv c n)) (.agg (pv c n))).run Tryd.prog w = .ok true w := by
  have hu : Tryd.prog.underlying 40 = some (.struct (Tryd.prog.fieldsOf 40)) := by kernel_rfl
  rw [run_equalIn_struct w 9999 40 _ _ hu (by kernel_rfl)]
  have hf := fields40
  generalize Tryd.prog.fieldsOf 40 = fs at hf
  obtain ⟨l⟩ := fs
  simp only at hf ⊢
  rcases l with _ | ⟨f0, _ | ⟨f1, _ | ⟨f2, l⟩⟩⟩
  · simp at hf
  · simp at hf
  · simp only [List.map_cons, List.map_nil, List.cons.injEq, Prod.mk.injEq, and_true] at hf
    obtain ⟨⟨h1, h2, h3⟩, h4, h5, h6⟩ := hf
    have n0 : f0.name ≠ "_" := by simpa using h1
    have n1 : f1.name ≠ "_" := by simpa using h4
    have e25 := eq25 w 9997 c c hc hc
    rw [decide_eq_true rfl] at e25
    simp only [Op.eqFields, if_pos n0, if_pos n1, Sem.run_bind, h2, h3, h5, h6, part40a c hc n, part40b c hc n, Result.andThen_ok, e25]
    simp [part40b c hc n, run_equalIn_int w 9998 3 .i64 .i64 n n Tryd.underlying3]
  · simp at hf

theorem run_build47 (c : List Int) (hc : c.length = 16) (n : Int) (w : World) : (Instr.build 47 #[(0, .agg (bv c)), (1, .int .i64 n)]).run Tryd.prog w = .ok (.agg (pv c n)) w := by
  obtain ⟨x0, x1, x2, x3, x4, x5, x6, x7, x8, x9, x10, x11, x12, x13, x14, x15, rfl⟩ := bv16 hc
  kernel_rfl
theorem wpList_build47 {ops : Array Oper} {rest : List Oper} {o : Oper} {a : Act} {w : World} {Q : Exit → Act → World → Prop} {x y : Operand} {c : List Int} {n : Int} (hw : Region.wanted o (yielded ops a.tmps) = true) (ho : o.op = .build 47 #[(0, x), (1, y)])
    (hx : a.eval x = .agg (bv c)) (hy : a.eval y = .int .i64 n) (hc : c.length = 16) (h : wpList Tryd.prog ops Q rest (a.put o.dst (.agg (pv c n))) w) : wpList Tryd.prog ops Q (o :: rest) a w := by
  refine wpList_wanted hw fun _ hK => ?_
  unfold Oper.wp execOp
  have e : (#[(0, x), (1, y)] : Array (Nat × Operand)).map (fun (p : Nat × Operand) => (p.1, a.eval p.2)) = #[(0, .agg (bv c)), (1, .int .i64 n)] := by simp [hx, hy]
  simp only [ho]
  show o.upon _ _ _ _ ((do pure (.value (← Instr.build 47 ((#[(0, x), (1, y)] : Array (Nat × Operand)).map (fun (p : Nat × Operand) => (p.1, a.eval p.2))))) : Sem Next).run Tryd.prog w)
  rw [e]
  simp only [Sem.run_bind, run_build47 c hc n w, Result.andThen_ok, Sem.run_pure]
  exact hK _ _ h
theorem range_row {w : World} {n : Nat} {cs : Array Value} (h : rowAt w n = some cs) : rangeOf w n 0 cs := fun j v hv => by rw [Nat.zero_add, cell_row h j, hv]
theorem row_of_heap {w : World} {n : Nat} {cs : Array Value} {t : TypeId} (h : w.heap[n]? = some (.cells cs t)) : rowAt w n = some cs := by
  unfold rowAt; rw [h]; simp
theorem cutPS_length {a : List Int} (ha : a.length = 16) (n : Int) : (cutPS a n).1.length = 16 := by
  unfold cutPS; split
  · exact (cutS_length _ _).trans ha
  · rfl

/-- what a round of the law knows of memory -/
structure Here (n0 b o g q k : Nat) (a P : List Int) (m : Int) (L M : List (List Int × Int)) (B : Nat) (w0 : World) (v : Value) (w : World) : Prop where
  below : Below w0.heap.size w0 w
  ra : rowAt w n0 = some (bv a)
  rl : rangeOf w b (o + k * 17) (pv P m)
  rm : rangeOf w g (k * 17) (pv P m)
  bl : b < w.heap.size
  gl : g < w.heap.size
  own : w.ownsRow B 40 17 v q (pcells M)
theorem Here.since {n0 b o g q k : Nat} {a P : List Int} {m : Int} {L M : List (List Int × Int)} {B : Nat} {w0 : World} {v : Value} {w w' : World} (h : Here n0 b o g q k a P m L M B w0 v w) (hs : Below w.heap.size w w') : Here n0 b o g q k a P m L M B w0 v w' :=
  ⟨h.below.trans (hs.mono h.below.size), row_call hs h.ra, rangeOf_since h.rl h.bl hs, rangeOf_since h.rm h.gl hs, Nat.lt_of_lt_of_le h.bl hs.size, Nat.lt_of_lt_of_le h.gl hs.size, own_of_block h.own fun x hx => hs.block x (own_lt h.own hx).2⟩

set_option maxHeartbeats 8000000 in
set_option maxRecDepth 100000 in
theorem law_prefixes_some (a : List Int) (ha : a.length = 16) (hA : byt a) (b o n cap : Nat) (L : List (List Int × Int)) (hL : L.length = n) (hg : good16 L) (bits : Int) (w : World) (hr : Reads w w.heap.size 17 (some ⟨b, o, none⟩) n (pcells L)) (hn : n ≤ maxLen) (hn0 : 0 < n) (hgl : Glob w) :
    Calls Tryd.prog 7 #[.agg (bv a), .slice (some ⟨b, o, none⟩) n cap, .int .i64 bits] w fun e w' => e = .returned (.bool true) ∧ Below w.heap.size w w' := by
  have HB0 := Lib.hid (below1 w (.cells (bv a) 22))
  have r0 := row1 w (bv a) 22
  have HPre := Lib.hid (prefixes_some b o n cap L hL hg (w.alloc (.cells (bv a) 22)) ((hr.alloc (Nat.le_refl _) _).more (by simp)) hn)
  have HK := Lib.hid (fun w hg => known_any w hg)
  have HGl := Lib.hid hgl
  have HR := Lib.hid hr
  have HG := Lib.hid hg
  clear hr hg hgl
  unfold maxLen at hn
  go_enter Tryd.func7, Tryd.ntmps7
  go_wp2_with (first
    | (go_at_call 26; refine (HPre.out).mono ?_; rintro e w1 ⟨A', c', rfl, hown1, hb1⟩; have r1 := row_call hb1 r0; have HB1 := Lib.hid (below_call HB0.out hb1); have HO1 := Lib.hid (own_less hown1 (show w.heap.size ≤ _ by simp)); clear hown1 hb1))
  obtain ⟨q, hq⟩ : ∃ q, q = min n 20 := ⟨_, rfl⟩
  rw [← hq] at HO1 ⊢
  have hq0 : 0 < q := by omega
  have hqn : q ≤ n := by omega
  have hq20 : q ≤ 20 := by omega
  obtain ⟨g, cg, hv, hbg, hglt⟩ := HO1.out.form hq0
  injection hv with hv1 hv2 hv3
  subst hv1; subst hv3
  have hM16 : good16 (L.take 20) := fun p hp => HG.out p (List.mem_of_mem_take hp)
  have hMl : (L.take 20).length = q := by simp; omega
  have HM16 := Lib.hid hM16
  have HMl := Lib.hid hMl
  have HMk : Hid (∀ k, k < q → (L.take 20)[k]? = L[k]?) := Lib.hid fun k hk => List.getElem?_take_of_lt (by omega)
  clear hM16 hMl r0 hq hv2
  generalize L.take 20 = M at *
  go_loopw [8, 9, 10] (fun x y t wr => ∃ (k : Nat), k ≤ q ∧ t = .int .i64 k ∧ x = .int .i64 (longTo a M k).1 ∧ y = .int .i64 (longTo a M k).2 ∧ Hid (Below w.heap.size w wr) ∧ rowAt wr w.heap.size = some (bv a) ∧ Hid (wr.ownsRow w.heap.size 40 17 (.slice (some ⟨g, 0, none⟩) q c') q (pcells M))) (fun _ _ t _ => q - (intOf t).toNat)
  case atStart => exact ⟨0, by omega, rfl, rfl, rfl, HB1, r1, HO1⟩
  case round =>
    obtain ⟨k, hk, rfl, rfl, rfl, HB, ra, HO⟩ := hrel
    clear r1 HB1 HO1 hglt
    have hrange := longTo_range (a := a) M k
    by_cases hlt : k < q
    · obtain ⟨p, hp⟩ : ∃ p, L[k]? = some p := ⟨L[k], List.getElem?_eq_getElem (by omega)⟩
      have hpm : M[k]? = some p := (HMk.out k hlt).trans hp
      have hp16 := (HG.out p (List.mem_of_getElem? hp)).1
      have hpB := (HG.out p (List.mem_of_getElem? hp)).2
      obtain ⟨hbw, hrg⟩ := range_at HG.out HR.out hp (by omega)
      have hrm : rangeOf wr g (k * 17) (pv p.1 p.2) := fun j v hv => by
        have := HO.out.cells (g := g) rfl _ _ (pcells_at HM16.out hpm j v hv)
        rwa [plain_add, Nat.zero_add] at this
      have hbs := HB.out.size
      have HX0 : Hid (Here w.heap.size b o g q k a p.1 p.2 L M w.heap.size w (.slice (some ⟨g, 0, none⟩) q c') wr) :=
        Lib.hid ⟨HB.out, ra, rangeOf_since hrg hbw HB.out, hrm, by omega, (own_lt HO.out rfl).2, HO.out⟩
      have HS := Lib.hid (longTo_succ (a := a) hpm)
      obtain ⟨P, m⟩ := p
      simp only at hp16 hpB HX0 HS
      have k0 : (0 : Int) ≤ k := by omega
      have k1 : (k : Int) < n := by omega
      have k2 : (k : Int) < q := by omega
      have hHas := Lib.hid fun w => has_any P hp16 m a ha w
      have hRHas := Lib.hid fun w => rhas_any P hp16 hpB m a ha hA w
      have hRi := Lib.hid fun w => right_any P hp16 m w
      have hRRi := Lib.hid fun w => rright_any P hp16 hpB m w
      rw [has_eq hp16 hpB ha hA m] at hRHas
      rw [right_eq hp16 hpB m] at hRRi
      have hCut := Lib.hid fun w => Cut_any a ha m w
      have hCl := cutPS_length ha m
      have HCP : Hid (hasB P m a = true → cutPS a m = (P, m, 0)) := Lib.hid fun h => by
        have h1 := hasB_range h
        unfold hasB at h
        rw [Bool.and_eq_true, decide_eq_true_eq] at h
        rw [cutPS_yes h1, h.2]
      clear hp hpm hrg hrm hpB hbw hbs
      generalize (longTo a M k) = s at *
      obtain ⟨s1, s2⟩ := s
      simp only at hrange ⊢
      obtain ⟨h1, h2⟩ := hrange
      generalize rightB P m = R at *
      have e40 := fun W => eq40 W P hp16 m
      rcases hh : hasB P m a with _ | _
      · have HE := Lib.hid (HS.out.trans (long_no (fun h => by rw [hh] at h; exact absurd h.1 (by simp))))
        rw [hh] at hHas hRHas
        generalize cutPS a m = X at *
        obtain ⟨X0, X1, X2⟩ := X
        simp only at hCut hCl
        clear hh HS HCP
        go_wp2
        refine wp_region_calm (Since _) (by kernel_rfl) (by kernel_rfl) (Since.drew _) ?_
        (refine wpQuiet_step (fun K hK => ?_); rw [if_pos (by rfl)]; apply quiet_val; (intro wq hwq; go_simp; (try go_ints); exact rfl); refine hK _ ?_; clear hK K; simp only [Act.put, List.setIfInBounds_toArray, List.set_cons_zero, List.set_cons_succ])
        (refine wpQuiet_step (fun K hK => ?_); rw [if_pos (by rfl)]; apply quiet_val; (intro wq hwq; go_simp; (try go_ints); exact rfl); refine hK _ ?_; clear hK K; simp only [Act.put, List.setIfInBounds_toArray, List.set_cons_zero, List.set_cons_succ])
        (refine wpQuiet_step (fun K hK => ?_); rw [if_pos (by rfl)]; apply quiet_val; (intro wq hwq; go_simp; (try go_ints); exact rfl); refine hK _ ?_; clear hK K; simp only [Act.put, List.setIfInBounds_toArray, List.set_cons_zero, List.set_cons_succ])
        (refine wpQuiet_step (fun K hK => ?_); rw [if_pos (by rfl)]; refine quiet_range (cs := pv P m) Tryd.underlying47 rfl isz47 rfl rfl (fun w' h => (HX0.out.since h).rl) (by simp [go_sem, *]) ?_; refine hK _ ?_; clear hK K; simp only [Act.put, List.setIfInBounds_toArray, List.set_cons_zero, List.set_cons_succ])
        (refine wpQuiet_step (fun K hK => ?_); rw [if_pos (by rfl)]; apply quiet_rowload (cs := bv a) Tryd.underlying22 rfl isz22; exact rfl; exact rfl; exact fun w' h => (HX0.out.since h).ra; exact (by simp [go_sem, *]); refine hK _ ?_; clear hK K; simp only [Act.put, List.setIfInBounds_toArray, List.set_cons_zero, List.set_cons_succ])
        (refine wpQuiet_step (fun K hK => ?_); rw [if_pos (by rfl)]; apply quiet_call; (intro wq; go_simp; exact ⟨rfl, rfl⟩); (intro wq hwq; exact Since.call hwq (hRHas.out _)); refine hK _ ?_; clear hK K; simp only [Act.put, List.setIfInBounds_toArray, List.set_cons_zero, List.set_cons_succ])
        (refine wpQuiet_step (fun K hK => ?_); rw [if_pos (by rfl)]; apply quiet_val; (intro wq hwq; go_simp; (try go_ints); exact rfl); refine hK _ ?_; clear hK K; simp only [Act.put, List.setIfInBounds_toArray, List.set_cons_zero, List.set_cons_succ])
        refine wpQuiet_nil ?_; intro wn hwn
        have HX1 := Lib.hid (HX0.out.since hwn)
        clear hwn HX0
        go_wp2
        refine wp_region_calm (Since _) (by kernel_rfl) (by kernel_rfl) (Since.drew _) ?_
        (refine wpQuiet_step (fun K hK => ?_); rw [if_pos (by rfl)]; apply quiet_val; (intro wq hwq; go_simp; (try go_ints); exact rfl); refine hK _ ?_; clear hK K; simp only [Act.put, List.setIfInBounds_toArray, List.set_cons_zero, List.set_cons_succ])
        (refine wpQuiet_step (fun K hK => ?_); rw [if_pos (by rfl)]; apply quiet_val; (intro wq hwq; go_simp; (try go_ints); exact rfl); refine hK _ ?_; clear hK K; simp only [Act.put, List.setIfInBounds_toArray, List.set_cons_zero, List.set_cons_succ])
        (refine wpQuiet_step (fun K hK => ?_); rw [if_pos (by rfl)]; apply quiet_val; (intro wq hwq; go_simp; (try go_ints); exact rfl); refine hK _ ?_; clear hK K; simp only [Act.put, List.setIfInBounds_toArray, List.set_cons_zero, List.set_cons_succ])
        (refine wpQuiet_step (fun K hK => ?_); rw [if_pos (by rfl)]; refine quiet_range (cs := pv P m) Tryd.underlying40 rfl isz40 rfl rfl (fun w' h => (HX1.out.since h).rm) (by simp [go_sem, *]) ?_; refine hK _ ?_; clear hK K; simp only [Act.put, List.setIfInBounds_toArray, List.set_cons_zero, List.set_cons_succ])
        (refine wpQuiet_step (fun K hK => ?_); rw [if_pos (by rfl)]; apply quiet_call; (intro wq; go_simp; exact ⟨rfl, rfl⟩); (intro wq hwq; exact Since.call hwq (hRi.out _)); refine hK _ ?_; clear hK K; simp only [Act.put, List.setIfInBounds_toArray, List.set_cons_zero, List.set_cons_succ])
        (refine wpQuiet_step (fun K hK => ?_); rw [if_pos (by rfl)]; apply quiet_val; (intro wq hwq; go_simp; (try go_ints); exact rfl); refine hK _ ?_; clear hK K; simp only [Act.put, List.setIfInBounds_toArray, List.set_cons_zero, List.set_cons_succ])
        (refine wpQuiet_step (fun K hK => ?_); rw [if_pos (by rfl)]; apply quiet_val; (intro wq hwq; go_simp; (try go_ints); exact rfl); refine hK _ ?_; clear hK K; simp only [Act.put, List.setIfInBounds_toArray, List.set_cons_zero, List.set_cons_succ])
        (refine wpQuiet_step (fun K hK => ?_); rw [if_pos (by rfl)]; apply quiet_val; (intro wq hwq; go_simp; (try go_ints); exact rfl); refine hK _ ?_; clear hK K; simp only [Act.put, List.setIfInBounds_toArray, List.set_cons_zero, List.set_cons_succ])
        (refine wpQuiet_step (fun K hK => ?_); rw [if_pos (by rfl)]; refine quiet_range (cs := pv P m) Tryd.underlying47 rfl isz47 rfl rfl (fun w' h => (HX1.out.since h).rl) (by simp [go_sem, *]) ?_; refine hK _ ?_; clear hK K; simp only [Act.put, List.setIfInBounds_toArray, List.set_cons_zero, List.set_cons_succ])
        (refine wpQuiet_step (fun K hK => ?_); rw [if_pos (by rfl)]; apply quiet_call; (intro wq; go_simp; exact ⟨rfl, rfl⟩); (intro wq hwq; exact Since.call hwq (hRRi.out _)); refine hK _ ?_; clear hK K; simp only [Act.put, List.setIfInBounds_toArray, List.set_cons_zero, List.set_cons_succ])
        (refine wpQuiet_step (fun K hK => ?_); rw [if_pos (by rfl)]; apply quiet_val; (intro wq hwq; go_simp; (try go_ints); exact rfl); refine hK _ ?_; clear hK K; simp only [Act.put, List.setIfInBounds_toArray, List.set_cons_zero, List.set_cons_succ])
        (refine wpQuiet_step (fun K hK => ?_); rw [if_pos (by rfl)]; apply quiet_val; (intro wq hwq; go_simp; (try go_ints); exact rfl); refine hK _ ?_; clear hK K; simp only [Act.put, List.setIfInBounds_toArray, List.set_cons_zero, List.set_cons_succ])
        (refine wpQuiet_step (fun K hK => ?_); rw [if_pos (by rfl)]; apply quiet_val; (intro wq hwq; go_simp; (try go_ints); exact rfl); refine hK _ ?_; clear hK K; simp only [Act.put, List.setIfInBounds_toArray, List.set_cons_zero, List.set_cons_succ])
        (refine wpQuiet_step (fun K hK => ?_); rw [if_pos (by rfl)]; apply quiet_val; (intro wq hwq; go_simp; (try go_ints); exact rfl); refine hK _ ?_; clear hK K; simp only [Act.put, List.setIfInBounds_toArray, List.set_cons_zero, List.set_cons_succ])
        (refine wpQuiet_step (fun K hK => ?_); rw [if_pos (by rfl)]; apply quiet_val; (intro wq hwq; go_simp; (try go_ints); exact rfl); refine hK _ ?_; clear hK K; simp only [Act.put, List.setIfInBounds_toArray, List.set_cons_zero, List.set_cons_succ])
        (refine wpQuiet_step (fun K hK => ?_); rw [if_pos (by rfl)]; refine quiet_range (cs := pv P m) Tryd.underlying40 rfl isz40 rfl rfl (fun w' h => (HX1.out.since h).rm) (by simp [go_sem, *]) ?_; refine hK _ ?_; clear hK K; simp only [Act.put, List.setIfInBounds_toArray, List.set_cons_zero, List.set_cons_succ])
        (refine wpQuiet_step (fun K hK => ?_); rw [if_pos (by rfl)]; apply quiet_rowload (cs := bv a) Tryd.underlying22 rfl isz22; exact rfl; exact rfl; exact fun w' h => (HX1.out.since h).ra; exact (by simp [go_sem, *]); refine hK _ ?_; clear hK K; simp only [Act.put, List.setIfInBounds_toArray, List.set_cons_zero, List.set_cons_succ])
        (refine wpQuiet_step (fun K hK => ?_); rw [if_pos (by rfl)]; apply quiet_call; (intro wq; go_simp; exact ⟨rfl, rfl⟩); (intro wq hwq; exact Since.call hwq (hHas.out _)); refine hK _ ?_; clear hK K; simp only [Act.put, List.setIfInBounds_toArray, List.set_cons_zero, List.set_cons_succ])
        (refine wpQuiet_step (fun K hK => ?_); rw [if_pos (by rfl)]; apply quiet_val; (intro wq hwq; go_simp; (try go_ints); exact rfl); refine hK _ ?_; clear hK K; simp only [Act.put, List.setIfInBounds_toArray, List.set_cons_zero, List.set_cons_succ])
        (refine wpQuiet_step (fun K hK => ?_); rw [if_pos (by rfl)]; apply quiet_val; (intro wq hwq; go_simp; (try go_ints); exact rfl); refine hK _ ?_; clear hK K; simp only [Act.put, List.setIfInBounds_toArray, List.set_cons_zero, List.set_cons_succ])
        (refine wpQuiet_step (fun K hK => ?_); rw [if_pos (by rfl)]; apply quiet_val; (intro wq hwq; go_simp; (try go_ints); exact rfl); refine hK _ ?_; clear hK K; simp only [Act.put, List.setIfInBounds_toArray, List.set_cons_zero, List.set_cons_succ])
        refine wpQuiet_nil ?_; intro wn hwn
        have HX2 := Lib.hid (HX1.out.since hwn)
        clear hwn HX1
        have c16 := HX2.out.rl 16 _ (pv_bits P m hp16)
        have c5 : ∀ w', Since wn w' → w'.cell? ⟨g, k * 17 + 16, none⟩ = some (.int .i64 m) := fun w' h => (HX2.out.since h).rm 16 _ (pv_bits P m hp16)
        go_wp2
        refine wp_region_free [1, 2, 3, 4] [0, 5, 6, 7] [8, 9] 10 [11, 12] (O := .cells (pv z16 0) 40) (by kernel_rfl) rfl (by kernel_rfl) (fun a w => by kernel_rfl) ?_; simp only [pick, List.getElem?_cons_succ, List.getElem?_cons_zero]
        (refine wpPure_take (by rfl) (by (intro wq; go_simp; (try go_ints); exact rfl)) ?_; simp only [Act.put, List.setIfInBounds_toArray, List.set_cons_zero, List.set_cons_succ])
        (refine wpPure_take (by rfl) (by (intro wq; go_simp; (try go_ints); exact rfl)) ?_; simp only [Act.put, List.setIfInBounds_toArray, List.set_cons_zero, List.set_cons_succ])
        (refine wpPure_take (by rfl) (by (intro wq; go_simp; (try go_ints); exact rfl)) ?_; simp only [Act.put, List.setIfInBounds_toArray, List.set_cons_zero, List.set_cons_succ])
        (refine wpPure_take (by rfl) (by (intro wq; go_simp; (try go_ints); exact rfl)) ?_; simp only [Act.put, List.setIfInBounds_toArray, List.set_cons_zero, List.set_cons_succ])
        refine wpPure_nil ?_
        (refine wpQuietS_range (cs := bv a) Tryd.underlying22 rfl isz22 (by rfl) rfl rfl (fun w' h => range_row (HX2.out.since h).ra) (by simp [go_sem, *]) ?_; simp only [Act.put, List.setIfInBounds_toArray, List.set_cons_zero, List.set_cons_succ])
        (refine wpQuietS_val (by rfl) (by (intro wq hwq; go_simp; (try go_ints); exact rfl)) ?_; simp only [Act.put, List.setIfInBounds_toArray, List.set_cons_zero, List.set_cons_succ])
        (refine wpQuietS_call (by rfl) (by (intro wq hwq; go_simp; (try exact ⟨rfl, rfl⟩))) (fun wq hwq => hCut.out _) ?_; simp only [Act.put, List.setIfInBounds_toArray, List.set_cons_zero, List.set_cons_succ])
        (refine wpQuietS_val (by rfl) (by (intro wq hwq; go_simp; (try go_ints); exact rfl)) ?_; simp only [Act.put, List.setIfInBounds_toArray, List.set_cons_zero, List.set_cons_succ])
        refine wpQuietS_nil ?_
        (refine wpPure_take (by rfl) (by (intro wq; go_simp; (try go_ints); exact rfl)) ?_; simp only [Act.put, List.setIfInBounds_toArray, List.set_cons_zero, List.set_cons_succ])
        (refine wpPure_take (by rfl) (by (intro wq; go_simp; (try go_ints); exact rfl)) ?_; simp only [Act.put, List.setIfInBounds_toArray, List.set_cons_zero, List.set_cons_succ])
        refine wpPure_nil ?_; intro wn bn hwn hbn hOn; simp only [Act.put, List.setIfInBounds_toArray, List.set_cons_zero, List.set_cons_succ]
        have q3 := row_of_heap hOn
        have HX3 := Lib.hid (HX2.out.since (below_set hwn hbn (pv X0 X1)))
        have y3 := rowAt_setRow_same q3 (pv X0 X1)
        clear hwn c16 c5 HX2 hOn
        go_wp2_with (first
          | (apply wpList_rowstore (vs := pv X0 X1) isz40; exact rfl; exact rfl; exact rfl; exact rfl; (with_reducible exact q3); exact (by simp [go_sem, *]); exact (by simp [go_sem, *]); exact (by simp [go_sem, *]); try simp only [Act.put, List.setIfInBounds_toArray, List.set_cons_zero, List.set_cons_succ]))
        refine Calm.normal ?_
        go_wp2
        refine wp_region_calm (Since _) (by kernel_rfl) (by kernel_rfl) (Since.drew _) ?_
        (refine wpQuiet_step (fun K hK => ?_); rw [if_pos (by rfl)]; apply quiet_val; (intro wq hwq; go_simp; (try go_ints); exact rfl); refine hK _ ?_; clear hK K; simp only [Act.put, List.setIfInBounds_toArray, List.set_cons_zero, List.set_cons_succ])
        (refine wpQuiet_step (fun K hK => ?_); rw [if_pos (by rfl)]; apply quiet_val; (intro wq hwq; go_simp; (try go_ints); exact rfl); refine hK _ ?_; clear hK K; simp only [Act.put, List.setIfInBounds_toArray, List.set_cons_zero, List.set_cons_succ])
        (refine wpQuiet_skip (by rfl) ?_; simp only [Act.put, List.setIfInBounds_toArray, List.set_cons_zero, List.set_cons_succ])
        (refine wpQuiet_skip (by rfl) ?_; simp only [Act.put, List.setIfInBounds_toArray, List.set_cons_zero, List.set_cons_succ])
        (refine wpQuiet_skip (by rfl) ?_; simp only [Act.put, List.setIfInBounds_toArray, List.set_cons_zero, List.set_cons_succ])
        (refine wpQuiet_skip (by rfl) ?_; simp only [Act.put, List.setIfInBounds_toArray, List.set_cons_zero, List.set_cons_succ])
        (refine wpQuiet_skip (by rfl) ?_; simp only [Act.put, List.setIfInBounds_toArray, List.set_cons_zero, List.set_cons_succ])
        (refine wpQuiet_skip (by rfl) ?_; simp only [Act.put, List.setIfInBounds_toArray, List.set_cons_zero, List.set_cons_succ])
        (refine wpQuiet_skip (by rfl) ?_; simp only [Act.put, List.setIfInBounds_toArray, List.set_cons_zero, List.set_cons_succ])
        (refine wpQuiet_skip (by rfl) ?_; simp only [Act.put, List.setIfInBounds_toArray, List.set_cons_zero, List.set_cons_succ])
        (refine wpQuiet_skip (by rfl) ?_; simp only [Act.put, List.setIfInBounds_toArray, List.set_cons_zero, List.set_cons_succ])
        (refine wpQuiet_skip (by rfl) ?_; simp only [Act.put, List.setIfInBounds_toArray, List.set_cons_zero, List.set_cons_succ])
        (refine wpQuiet_step (fun K hK => ?_); rw [if_pos (by rfl)]; apply quiet_val; (intro wq hwq; go_simp; (try go_ints); exact rfl); refine hK _ ?_; clear hK K; simp only [Act.put, List.setIfInBounds_toArray, List.set_cons_zero, List.set_cons_succ])
        refine wpQuiet_nil ?_; intro wn hwn
        have HX4 := Lib.hid (HX3.out.since hwn)
        clear hwn HX3
        go_wp2
        go_roundw
        case rel => exact ⟨k + 1, by omega, by go_num, by rw [HE.out], by rw [HE.out], Lib.hid HX4.out.below, HX4.out.ra, Lib.hid HX4.out.own⟩
        case measure => simp [intOf]; omega
      · by_cases hgt : s1 < m
        · have HE := Lib.hid (HS.out.trans (long_yes hh hgt))
          rw [hh] at hHas hRHas
          rw [HCP.out hh] at hCut
          simp only at hCut
          clear hCl
          clear hh HS HCP
          go_wp2
          refine wp_region_calm (Since _) (by kernel_rfl) (by kernel_rfl) (Since.drew _) ?_
          (refine wpQuiet_step (fun K hK => ?_); rw [if_pos (by rfl)]; apply quiet_val; (intro wq hwq; go_simp; (try go_ints); exact rfl); refine hK _ ?_; clear hK K; simp only [Act.put, List.setIfInBounds_toArray, List.set_cons_zero, List.set_cons_succ])
          (refine wpQuiet_step (fun K hK => ?_); rw [if_pos (by rfl)]; apply quiet_val; (intro wq hwq; go_simp; (try go_ints); exact rfl); refine hK _ ?_; clear hK K; simp only [Act.put, List.setIfInBounds_toArray, List.set_cons_zero, List.set_cons_succ])
          (refine wpQuiet_step (fun K hK => ?_); rw [if_pos (by rfl)]; apply quiet_val; (intro wq hwq; go_simp; (try go_ints); exact rfl); refine hK _ ?_; clear hK K; simp only [Act.put, List.setIfInBounds_toArray, List.set_cons_zero, List.set_cons_succ])
          (refine wpQuiet_step (fun K hK => ?_); rw [if_pos (by rfl)]; refine quiet_range (cs := pv P m) Tryd.underlying47 rfl isz47 rfl rfl (fun w' h => (HX0.out.since h).rl) (by simp [go_sem, *]) ?_; refine hK _ ?_; clear hK K; simp only [Act.put, List.setIfInBounds_toArray, List.set_cons_zero, List.set_cons_succ])
          (refine wpQuiet_step (fun K hK => ?_); rw [if_pos (by rfl)]; apply quiet_rowload (cs := bv a) Tryd.underlying22 rfl isz22; exact rfl; exact rfl; exact fun w' h => (HX0.out.since h).ra; exact (by simp [go_sem, *]); refine hK _ ?_; clear hK K; simp only [Act.put, List.setIfInBounds_toArray, List.set_cons_zero, List.set_cons_succ])
          (refine wpQuiet_step (fun K hK => ?_); rw [if_pos (by rfl)]; apply quiet_call; (intro wq; go_simp; exact ⟨rfl, rfl⟩); (intro wq hwq; exact Since.call hwq (hRHas.out _)); refine hK _ ?_; clear hK K; simp only [Act.put, List.setIfInBounds_toArray, List.set_cons_zero, List.set_cons_succ])
          (refine wpQuiet_step (fun K hK => ?_); rw [if_pos (by rfl)]; apply quiet_val; (intro wq hwq; go_simp; (try go_ints); exact rfl); refine hK _ ?_; clear hK K; simp only [Act.put, List.setIfInBounds_toArray, List.set_cons_zero, List.set_cons_succ])
          refine wpQuiet_nil ?_; intro wn hwn
          have HX1 := Lib.hid (HX0.out.since hwn)
          clear hwn HX0
          go_wp2
          refine wp_region_calm (Since _) (by kernel_rfl) (by kernel_rfl) (Since.drew _) ?_
          (refine wpQuiet_step (fun K hK => ?_); rw [if_pos (by rfl)]; apply quiet_val; (intro wq hwq; go_simp; (try go_ints); exact rfl); refine hK _ ?_; clear hK K; simp only [Act.put, List.setIfInBounds_toArray, List.set_cons_zero, List.set_cons_succ])
          (refine wpQuiet_step (fun K hK => ?_); rw [if_pos (by rfl)]; apply quiet_val; (intro wq hwq; go_simp; (try go_ints); exact rfl); refine hK _ ?_; clear hK K; simp only [Act.put, List.setIfInBounds_toArray, List.set_cons_zero, List.set_cons_succ])
          (refine wpQuiet_step (fun K hK => ?_); rw [if_pos (by rfl)]; apply quiet_val; (intro wq hwq; go_simp; (try go_ints); exact rfl); refine hK _ ?_; clear hK K; simp only [Act.put, List.setIfInBounds_toArray, List.set_cons_zero, List.set_cons_succ])
          (refine wpQuiet_step (fun K hK => ?_); rw [if_pos (by rfl)]; refine quiet_range (cs := pv P m) Tryd.underlying40 rfl isz40 rfl rfl (fun w' h => (HX1.out.since h).rm) (by simp [go_sem, *]) ?_; refine hK _ ?_; clear hK K; simp only [Act.put, List.setIfInBounds_toArray, List.set_cons_zero, List.set_cons_succ])
          (refine wpQuiet_step (fun K hK => ?_); rw [if_pos (by rfl)]; apply quiet_call; (intro wq; go_simp; exact ⟨rfl, rfl⟩); (intro wq hwq; exact Since.call hwq (hRi.out _)); refine hK _ ?_; clear hK K; simp only [Act.put, List.setIfInBounds_toArray, List.set_cons_zero, List.set_cons_succ])
          (refine wpQuiet_step (fun K hK => ?_); rw [if_pos (by rfl)]; apply quiet_val; (intro wq hwq; go_simp; (try go_ints); exact rfl); refine hK _ ?_; clear hK K; simp only [Act.put, List.setIfInBounds_toArray, List.set_cons_zero, List.set_cons_succ])
          (refine wpQuiet_step (fun K hK => ?_); rw [if_pos (by rfl)]; apply quiet_val; (intro wq hwq; go_simp; (try go_ints); exact rfl); refine hK _ ?_; clear hK K; simp only [Act.put, List.setIfInBounds_toArray, List.set_cons_zero, List.set_cons_succ])
          (refine wpQuiet_step (fun K hK => ?_); rw [if_pos (by rfl)]; apply quiet_val; (intro wq hwq; go_simp; (try go_ints); exact rfl); refine hK _ ?_; clear hK K; simp only [Act.put, List.setIfInBounds_toArray, List.set_cons_zero, List.set_cons_succ])
          (refine wpQuiet_step (fun K hK => ?_); rw [if_pos (by rfl)]; refine quiet_range (cs := pv P m) Tryd.underlying47 rfl isz47 rfl rfl (fun w' h => (HX1.out.since h).rl) (by simp [go_sem, *]) ?_; refine hK _ ?_; clear hK K; simp only [Act.put, List.setIfInBounds_toArray, List.set_cons_zero, List.set_cons_succ])
          (refine wpQuiet_step (fun K hK => ?_); rw [if_pos (by rfl)]; apply quiet_call; (intro wq; go_simp; exact ⟨rfl, rfl⟩); (intro wq hwq; exact Since.call hwq (hRRi.out _)); refine hK _ ?_; clear hK K; simp only [Act.put, List.setIfInBounds_toArray, List.set_cons_zero, List.set_cons_succ])
          (refine wpQuiet_step (fun K hK => ?_); rw [if_pos (by rfl)]; apply quiet_val; (intro wq hwq; go_simp; (try go_ints); exact rfl); refine hK _ ?_; clear hK K; simp only [Act.put, List.setIfInBounds_toArray, List.set_cons_zero, List.set_cons_succ])
          (refine wpQuiet_step (fun K hK => ?_); rw [if_pos (by rfl)]; apply quiet_val; (intro wq hwq; go_simp; (try go_ints); exact rfl); refine hK _ ?_; clear hK K; simp only [Act.put, List.setIfInBounds_toArray, List.set_cons_zero, List.set_cons_succ])
          (refine wpQuiet_step (fun K hK => ?_); rw [if_pos (by rfl)]; apply quiet_val; (intro wq hwq; go_simp; (try go_ints); exact rfl); refine hK _ ?_; clear hK K; simp only [Act.put, List.setIfInBounds_toArray, List.set_cons_zero, List.set_cons_succ])
          (refine wpQuiet_step (fun K hK => ?_); rw [if_pos (by rfl)]; apply quiet_val; (intro wq hwq; go_simp; (try go_ints); exact rfl); refine hK _ ?_; clear hK K; simp only [Act.put, List.setIfInBounds_toArray, List.set_cons_zero, List.set_cons_succ])
          (refine wpQuiet_step (fun K hK => ?_); rw [if_pos (by rfl)]; apply quiet_val; (intro wq hwq; go_simp; (try go_ints); exact rfl); refine hK _ ?_; clear hK K; simp only [Act.put, List.setIfInBounds_toArray, List.set_cons_zero, List.set_cons_succ])
          (refine wpQuiet_step (fun K hK => ?_); rw [if_pos (by rfl)]; refine quiet_range (cs := pv P m) Tryd.underlying40 rfl isz40 rfl rfl (fun w' h => (HX1.out.since h).rm) (by simp [go_sem, *]) ?_; refine hK _ ?_; clear hK K; simp only [Act.put, List.setIfInBounds_toArray, List.set_cons_zero, List.set_cons_succ])
          (refine wpQuiet_step (fun K hK => ?_); rw [if_pos (by rfl)]; apply quiet_rowload (cs := bv a) Tryd.underlying22 rfl isz22; exact rfl; exact rfl; exact fun w' h => (HX1.out.since h).ra; exact (by simp [go_sem, *]); refine hK _ ?_; clear hK K; simp only [Act.put, List.setIfInBounds_toArray, List.set_cons_zero, List.set_cons_succ])
          (refine wpQuiet_step (fun K hK => ?_); rw [if_pos (by rfl)]; apply quiet_call; (intro wq; go_simp; exact ⟨rfl, rfl⟩); (intro wq hwq; exact Since.call hwq (hHas.out _)); refine hK _ ?_; clear hK K; simp only [Act.put, List.setIfInBounds_toArray, List.set_cons_zero, List.set_cons_succ])
          (refine wpQuiet_step (fun K hK => ?_); rw [if_pos (by rfl)]; apply quiet_val; (intro wq hwq; go_simp; (try go_ints); exact rfl); refine hK _ ?_; clear hK K; simp only [Act.put, List.setIfInBounds_toArray, List.set_cons_zero, List.set_cons_succ])
          (refine wpQuiet_step (fun K hK => ?_); rw [if_pos (by rfl)]; apply quiet_val; (intro wq hwq; go_simp; (try go_ints); exact rfl); refine hK _ ?_; clear hK K; simp only [Act.put, List.setIfInBounds_toArray, List.set_cons_zero, List.set_cons_succ])
          (refine wpQuiet_step (fun K hK => ?_); rw [if_pos (by rfl)]; apply quiet_val; (intro wq hwq; go_simp; (try go_ints); exact rfl); refine hK _ ?_; clear hK K; simp only [Act.put, List.setIfInBounds_toArray, List.set_cons_zero, List.set_cons_succ])
          refine wpQuiet_nil ?_; intro wn hwn
          have HX2 := Lib.hid (HX1.out.since hwn)
          clear hwn HX1
          have c16 := HX2.out.rl 16 _ (pv_bits P m hp16)
          have c5 : ∀ w', Since wn w' → w'.cell? ⟨g, k * 17 + 16, none⟩ = some (.int .i64 m) := fun w' h => (HX2.out.since h).rm 16 _ (pv_bits P m hp16)
          go_wp2
          refine wp_region_free [1, 2, 3, 4] [0, 5, 6, 7] [8, 9] 10 [11, 12] (O := .cells (pv z16 0) 40) (by kernel_rfl) rfl (by kernel_rfl) (fun a w => by kernel_rfl) ?_; simp only [pick, List.getElem?_cons_succ, List.getElem?_cons_zero]
          (refine wpPure_take (by rfl) (by (intro wq; go_simp; (try go_ints); exact rfl)) ?_; simp only [Act.put, List.setIfInBounds_toArray, List.set_cons_zero, List.set_cons_succ])
          (refine wpPure_take (by rfl) (by (intro wq; go_simp; (try go_ints); exact rfl)) ?_; simp only [Act.put, List.setIfInBounds_toArray, List.set_cons_zero, List.set_cons_succ])
          (refine wpPure_take (by rfl) (by (intro wq; go_simp; (try go_ints); exact rfl)) ?_; simp only [Act.put, List.setIfInBounds_toArray, List.set_cons_zero, List.set_cons_succ])
          (refine wpPure_take (by rfl) (by (intro wq; go_simp; (try go_ints); exact rfl)) ?_; simp only [Act.put, List.setIfInBounds_toArray, List.set_cons_zero, List.set_cons_succ])
          refine wpPure_nil ?_
          (refine wpQuietS_range (cs := bv a) Tryd.underlying22 rfl isz22 (by rfl) rfl rfl (fun w' h => range_row (HX2.out.since h).ra) (by simp [go_sem, *]) ?_; simp only [Act.put, List.setIfInBounds_toArray, List.set_cons_zero, List.set_cons_succ])
          (refine wpQuietS_val (by rfl) (by (intro wq hwq; go_simp; (try go_ints); exact rfl)) ?_; simp only [Act.put, List.setIfInBounds_toArray, List.set_cons_zero, List.set_cons_succ])
          (refine wpQuietS_call (by rfl) (by (intro wq hwq; go_simp; (try exact ⟨rfl, rfl⟩))) (fun wq hwq => hCut.out _) ?_; simp only [Act.put, List.setIfInBounds_toArray, List.set_cons_zero, List.set_cons_succ])
          (refine wpQuietS_val (by rfl) (by (intro wq hwq; go_simp; (try go_ints); exact rfl)) ?_; simp only [Act.put, List.setIfInBounds_toArray, List.set_cons_zero, List.set_cons_succ])
          refine wpQuietS_nil ?_
          (refine wpPure_take (by rfl) (by (intro wq; go_simp; (try go_ints); exact rfl)) ?_; simp only [Act.put, List.setIfInBounds_toArray, List.set_cons_zero, List.set_cons_succ])
          (refine wpPure_take (by rfl) (by (intro wq; go_simp; (try go_ints); exact rfl)) ?_; simp only [Act.put, List.setIfInBounds_toArray, List.set_cons_zero, List.set_cons_succ])
          refine wpPure_nil ?_; intro wn bn hwn hbn hOn; simp only [Act.put, List.setIfInBounds_toArray, List.set_cons_zero, List.set_cons_succ]
          have q3 := row_of_heap hOn
          have HX3 := Lib.hid (HX2.out.since (below_set hwn hbn (pv P m)))
          have y3 := rowAt_setRow_same q3 (pv P m)
          clear hwn c16 c5 HX2 hOn
          go_wp2_with (first
            | (apply wpList_rowstore (vs := pv P m) isz40; exact rfl; exact rfl; exact rfl; exact rfl; (with_reducible exact q3); exact (by simp [go_sem, *]); exact (by simp [go_sem, *]); exact (by simp [go_sem, *]); try simp only [Act.put, List.setIfInBounds_toArray, List.set_cons_zero, List.set_cons_succ]))
          refine Calm.normal ?_
          go_wp2
          refine wp_region_calm (Since _) (by kernel_rfl) (by kernel_rfl) (Since.drew _) ?_
          (refine wpQuiet_step (fun K hK => ?_); rw [if_pos (by rfl)]; apply quiet_val; (intro wq hwq; go_simp; (try go_ints); exact rfl); refine hK _ ?_; clear hK K; simp only [Act.put, List.setIfInBounds_toArray, List.set_cons_zero, List.set_cons_succ])
          (refine wpQuiet_step (fun K hK => ?_); rw [if_pos (by rfl)]; apply quiet_val; (intro wq hwq; go_simp; (try go_ints); exact rfl); refine hK _ ?_; clear hK K; simp only [Act.put, List.setIfInBounds_toArray, List.set_cons_zero, List.set_cons_succ])
          (refine wpQuiet_step (fun K hK => ?_); rw [if_pos (by rfl)]; apply quiet_val; (intro wq hwq; go_simp; (try go_ints); exact rfl); refine hK _ ?_; clear hK K; simp only [Act.put, List.setIfInBounds_toArray, List.set_cons_zero, List.set_cons_succ])
          (refine wpQuiet_step (fun K hK => ?_); rw [if_pos (by rfl)]; apply quiet_val; (intro wq hwq; go_simp; (try go_ints); exact rfl); refine hK _ ?_; clear hK K; simp only [Act.put, List.setIfInBounds_toArray, List.set_cons_zero, List.set_cons_succ])
          (refine wpQuiet_step (fun K hK => ?_); rw [if_pos (by rfl)]; apply quiet_val; (intro wq hwq; go_simp; (try go_ints); exact rfl); refine hK _ ?_; clear hK K; simp only [Act.put, List.setIfInBounds_toArray, List.set_cons_zero, List.set_cons_succ])
          (refine wpQuiet_step (fun K hK => ?_); rw [if_pos (by rfl)]; apply quiet_rowload (cs := pv P m) Tryd.underlying40 rfl isz40; exact rfl; exact rfl; exact fun w' h => laterRow h y3; exact (by simp [go_sem, *]); refine hK _ ?_; clear hK K; simp only [Act.put, List.setIfInBounds_toArray, List.set_cons_zero, List.set_cons_succ])
          (refine wpQuiet_step (fun K hK => ?_); rw [if_pos (by rfl)]; apply quiet_val; (intro wq hwq; go_simp; (try go_ints); exact rfl); refine hK _ ?_; clear hK K; simp only [Act.put, List.setIfInBounds_toArray, List.set_cons_zero, List.set_cons_succ])
          (refine wpQuiet_step (fun K hK => ?_); rw [if_pos (by rfl)]; apply quiet_val; (intro wq hwq; go_simp; (try go_ints); exact rfl); refine hK _ ?_; clear hK K; simp only [Act.put, List.setIfInBounds_toArray, List.set_cons_zero, List.set_cons_succ])
          (refine wpQuiet_step (fun K hK => ?_); rw [if_pos (by rfl)]; apply quiet_val; (intro wq hwq; go_simp; (try go_ints); exact rfl); refine hK _ ?_; clear hK K; simp only [Act.put, List.setIfInBounds_toArray, List.set_cons_zero, List.set_cons_succ])
          (refine wpQuiet_step (fun K hK => ?_); rw [if_pos (by rfl)]; refine quiet_range (cs := pv P m) Tryd.underlying40 rfl isz40 rfl rfl (fun w' h => (HX3.out.since h).rm) (by simp [go_sem, *]) ?_; refine hK _ ?_; clear hK K; simp only [Act.put, List.setIfInBounds_toArray, List.set_cons_zero, List.set_cons_succ])
          (refine wpQuiet_step (fun K hK => ?_); rw [if_pos (by rfl)]; apply quiet_val; (intro wq hwq; go_simp; (try go_ints); exact rfl); refine hK _ ?_; clear hK K; simp only [Act.put, List.setIfInBounds_toArray, List.set_cons_zero, List.set_cons_succ])
          (refine wpQuiet_step (fun K hK => ?_); rw [if_pos (by rfl)]; apply quiet_val; (intro wq hwq; go_simp; (try go_ints); exact rfl); refine hK _ ?_; clear hK K; simp only [Act.put, List.setIfInBounds_toArray, List.set_cons_zero, List.set_cons_succ])
          (refine wpQuiet_step (fun K hK => ?_); rw [if_pos (by rfl)]; apply quiet_val; (intro wq hwq; go_simp; (try go_ints); exact rfl); refine hK _ ?_; clear hK K; simp only [Act.put, List.setIfInBounds_toArray, List.set_cons_zero, List.set_cons_succ])
          refine wpQuiet_nil ?_; intro wn hwn
          have HX4 := Lib.hid (HX3.out.since hwn)
          clear hwn HX3
          go_wp2
          go_roundw
          case rel => exact ⟨k + 1, by omega, by go_num, by rw [HE.out], by rw [HE.out], Lib.hid HX4.out.below, HX4.out.ra, Lib.hid HX4.out.own⟩
          case measure => simp [intOf]; omega
        · have HE := Lib.hid (HS.out.trans (long_no (fun h => hgt h.2)))
          rw [hh] at hHas hRHas
          rw [HCP.out hh] at hCut
          simp only at hCut
          clear hCl
          clear hh HS HCP
          go_wp2
          refine wp_region_calm (Since _) (by kernel_rfl) (by kernel_rfl) (Since.drew _) ?_
          (refine wpQuiet_step (fun K hK => ?_); rw [if_pos (by rfl)]; apply quiet_val; (intro wq hwq; go_simp; (try go_ints); exact rfl); refine hK _ ?_; clear hK K; simp only [Act.put, List.setIfInBounds_toArray, List.set_cons_zero, List.set_cons_succ])
          (refine wpQuiet_step (fun K hK => ?_); rw [if_pos (by rfl)]; apply quiet_val; (intro wq hwq; go_simp; (try go_ints); exact rfl); refine hK _ ?_; clear hK K; simp only [Act.put, List.setIfInBounds_toArray, List.set_cons_zero, List.set_cons_succ])
          (refine wpQuiet_step (fun K hK => ?_); rw [if_pos (by rfl)]; apply quiet_val; (intro wq hwq; go_simp; (try go_ints); exact rfl); refine hK _ ?_; clear hK K; simp only [Act.put, List.setIfInBounds_toArray, List.set_cons_zero, List.set_cons_succ])
          (refine wpQuiet_step (fun K hK => ?_); rw [if_pos (by rfl)]; refine quiet_range (cs := pv P m) Tryd.underlying47 rfl isz47 rfl rfl (fun w' h => (HX0.out.since h).rl) (by simp [go_sem, *]) ?_; refine hK _ ?_; clear hK K; simp only [Act.put, List.setIfInBounds_toArray, List.set_cons_zero, List.set_cons_succ])
          (refine wpQuiet_step (fun K hK => ?_); rw [if_pos (by rfl)]; apply quiet_rowload (cs := bv a) Tryd.underlying22 rfl isz22; exact rfl; exact rfl; exact fun w' h => (HX0.out.since h).ra; exact (by simp [go_sem, *]); refine hK _ ?_; clear hK K; simp only [Act.put, List.setIfInBounds_toArray, List.set_cons_zero, List.set_cons_succ])
          (refine wpQuiet_step (fun K hK => ?_); rw [if_pos (by rfl)]; apply quiet_call; (intro wq; go_simp; exact ⟨rfl, rfl⟩); (intro wq hwq; exact Since.call hwq (hRHas.out _)); refine hK _ ?_; clear hK K; simp only [Act.put, List.setIfInBounds_toArray, List.set_cons_zero, List.set_cons_succ])
          (refine wpQuiet_step (fun K hK => ?_); rw [if_pos (by rfl)]; apply quiet_val; (intro wq hwq; go_simp; (try go_ints); exact rfl); refine hK _ ?_; clear hK K; simp only [Act.put, List.setIfInBounds_toArray, List.set_cons_zero, List.set_cons_succ])
          refine wpQuiet_nil ?_; intro wn hwn
          have HX1 := Lib.hid (HX0.out.since hwn)
          clear hwn HX0
          go_wp2
          refine wp_region_calm (Since _) (by kernel_rfl) (by kernel_rfl) (Since.drew _) ?_
          (refine wpQuiet_step (fun K hK => ?_); rw [if_pos (by rfl)]; apply quiet_val; (intro wq hwq; go_simp; (try go_ints); exact rfl); refine hK _ ?_; clear hK K; simp only [Act.put, List.setIfInBounds_toArray, List.set_cons_zero, List.set_cons_succ])
          (refine wpQuiet_step (fun K hK => ?_); rw [if_pos (by rfl)]; apply quiet_val; (intro wq hwq; go_simp; (try go_ints); exact rfl); refine hK _ ?_; clear hK K; simp only [Act.put, List.setIfInBounds_toArray, List.set_cons_zero, List.set_cons_succ])
          (refine wpQuiet_step (fun K hK => ?_); rw [if_pos (by rfl)]; apply quiet_val; (intro wq hwq; go_simp; (try go_ints); exact rfl); refine hK _ ?_; clear hK K; simp only [Act.put, List.setIfInBounds_toArray, List.set_cons_zero, List.set_cons_succ])
          (refine wpQuiet_step (fun K hK => ?_); rw [if_pos (by rfl)]; refine quiet_range (cs := pv P m) Tryd.underlying40 rfl isz40 rfl rfl (fun w' h => (HX1.out.since h).rm) (by simp [go_sem, *]) ?_; refine hK _ ?_; clear hK K; simp only [Act.put, List.setIfInBounds_toArray, List.set_cons_zero, List.set_cons_succ])
          (refine wpQuiet_step (fun K hK => ?_); rw [if_pos (by rfl)]; apply quiet_call; (intro wq; go_simp; exact ⟨rfl, rfl⟩); (intro wq hwq; exact Since.call hwq (hRi.out _)); refine hK _ ?_; clear hK K; simp only [Act.put, List.setIfInBounds_toArray, List.set_cons_zero, List.set_cons_succ])
          (refine wpQuiet_step (fun K hK => ?_); rw [if_pos (by rfl)]; apply quiet_val; (intro wq hwq; go_simp; (try go_ints); exact rfl); refine hK _ ?_; clear hK K; simp only [Act.put, List.setIfInBounds_toArray, List.set_cons_zero, List.set_cons_succ])
          (refine wpQuiet_step (fun K hK => ?_); rw [if_pos (by rfl)]; apply quiet_val; (intro wq hwq; go_simp; (try go_ints); exact rfl); refine hK _ ?_; clear hK K; simp only [Act.put, List.setIfInBounds_toArray, List.set_cons_zero, List.set_cons_succ])
          (refine wpQuiet_step (fun K hK => ?_); rw [if_pos (by rfl)]; apply quiet_val; (intro wq hwq; go_simp; (try go_ints); exact rfl); refine hK _ ?_; clear hK K; simp only [Act.put, List.setIfInBounds_toArray, List.set_cons_zero, List.set_cons_succ])
          (refine wpQuiet_step (fun K hK => ?_); rw [if_pos (by rfl)]; refine quiet_range (cs := pv P m) Tryd.underlying47 rfl isz47 rfl rfl (fun w' h => (HX1.out.since h).rl) (by simp [go_sem, *]) ?_; refine hK _ ?_; clear hK K; simp only [Act.put, List.setIfInBounds_toArray, List.set_cons_zero, List.set_cons_succ])
          (refine wpQuiet_step (fun K hK => ?_); rw [if_pos (by rfl)]; apply quiet_call; (intro wq; go_simp; exact ⟨rfl, rfl⟩); (intro wq hwq; exact Since.call hwq (hRRi.out _)); refine hK _ ?_; clear hK K; simp only [Act.put, List.setIfInBounds_toArray, List.set_cons_zero, List.set_cons_succ])
          (refine wpQuiet_step (fun K hK => ?_); rw [if_pos (by rfl)]; apply quiet_val; (intro wq hwq; go_simp; (try go_ints); exact rfl); refine hK _ ?_; clear hK K; simp only [Act.put, List.setIfInBounds_toArray, List.set_cons_zero, List.set_cons_succ])
          (refine wpQuiet_step (fun K hK => ?_); rw [if_pos (by rfl)]; apply quiet_val; (intro wq hwq; go_simp; (try go_ints); exact rfl); refine hK _ ?_; clear hK K; simp only [Act.put, List.setIfInBounds_toArray, List.set_cons_zero, List.set_cons_succ])
          (refine wpQuiet_step (fun K hK => ?_); rw [if_pos (by rfl)]; apply quiet_val; (intro wq hwq; go_simp; (try go_ints); exact rfl); refine hK _ ?_; clear hK K; simp only [Act.put, List.setIfInBounds_toArray, List.set_cons_zero, List.set_cons_succ])
          (refine wpQuiet_step (fun K hK => ?_); rw [if_pos (by rfl)]; apply quiet_val; (intro wq hwq; go_simp; (try go_ints); exact rfl); refine hK _ ?_; clear hK K; simp only [Act.put, List.setIfInBounds_toArray, List.set_cons_zero, List.set_cons_succ])
          (refine wpQuiet_step (fun K hK => ?_); rw [if_pos (by rfl)]; apply quiet_val; (intro wq hwq; go_simp; (try go_ints); exact rfl); refine hK _ ?_; clear hK K; simp only [Act.put, List.setIfInBounds_toArray, List.set_cons_zero, List.set_cons_succ])
          (refine wpQuiet_step (fun K hK => ?_); rw [if_pos (by rfl)]; refine quiet_range (cs := pv P m) Tryd.underlying40 rfl isz40 rfl rfl (fun w' h => (HX1.out.since h).rm) (by simp [go_sem, *]) ?_; refine hK _ ?_; clear hK K; simp only [Act.put, List.setIfInBounds_toArray, List.set_cons_zero, List.set_cons_succ])
          (refine wpQuiet_step (fun K hK => ?_); rw [if_pos (by rfl)]; apply quiet_rowload (cs := bv a) Tryd.underlying22 rfl isz22; exact rfl; exact rfl; exact fun w' h => (HX1.out.since h).ra; exact (by simp [go_sem, *]); refine hK _ ?_; clear hK K; simp only [Act.put, List.setIfInBounds_toArray, List.set_cons_zero, List.set_cons_succ])
          (refine wpQuiet_step (fun K hK => ?_); rw [if_pos (by rfl)]; apply quiet_call; (intro wq; go_simp; exact ⟨rfl, rfl⟩); (intro wq hwq; exact Since.call hwq (hHas.out _)); refine hK _ ?_; clear hK K; simp only [Act.put, List.setIfInBounds_toArray, List.set_cons_zero, List.set_cons_succ])
          (refine wpQuiet_step (fun K hK => ?_); rw [if_pos (by rfl)]; apply quiet_val; (intro wq hwq; go_simp; (try go_ints); exact rfl); refine hK _ ?_; clear hK K; simp only [Act.put, List.setIfInBounds_toArray, List.set_cons_zero, List.set_cons_succ])
          (refine wpQuiet_step (fun K hK => ?_); rw [if_pos (by rfl)]; apply quiet_val; (intro wq hwq; go_simp; (try go_ints); exact rfl); refine hK _ ?_; clear hK K; simp only [Act.put, List.setIfInBounds_toArray, List.set_cons_zero, List.set_cons_succ])
          (refine wpQuiet_step (fun K hK => ?_); rw [if_pos (by rfl)]; apply quiet_val; (intro wq hwq; go_simp; (try go_ints); exact rfl); refine hK _ ?_; clear hK K; simp only [Act.put, List.setIfInBounds_toArray, List.set_cons_zero, List.set_cons_succ])
          refine wpQuiet_nil ?_; intro wn hwn
          have HX2 := Lib.hid (HX1.out.since hwn)
          clear hwn HX1
          have c16 := HX2.out.rl 16 _ (pv_bits P m hp16)
          have c5 : ∀ w', Since wn w' → w'.cell? ⟨g, k * 17 + 16, none⟩ = some (.int .i64 m) := fun w' h => (HX2.out.since h).rm 16 _ (pv_bits P m hp16)
          go_wp2
          refine wp_region_free [1, 2, 3, 4] [0, 5, 6, 7] [8, 9] 10 [11, 12] (O := .cells (pv z16 0) 40) (by kernel_rfl) rfl (by kernel_rfl) (fun a w => by kernel_rfl) ?_; simp only [pick, List.getElem?_cons_succ, List.getElem?_cons_zero]
          (refine wpPure_take (by rfl) (by (intro wq; go_simp; (try go_ints); exact rfl)) ?_; simp only [Act.put, List.setIfInBounds_toArray, List.set_cons_zero, List.set_cons_succ])
          (refine wpPure_take (by rfl) (by (intro wq; go_simp; (try go_ints); exact rfl)) ?_; simp only [Act.put, List.setIfInBounds_toArray, List.set_cons_zero, List.set_cons_succ])
          (refine wpPure_take (by rfl) (by (intro wq; go_simp; (try go_ints); exact rfl)) ?_; simp only [Act.put, List.setIfInBounds_toArray, List.set_cons_zero, List.set_cons_succ])
          (refine wpPure_take (by rfl) (by (intro wq; go_simp; (try go_ints); exact rfl)) ?_; simp only [Act.put, List.setIfInBounds_toArray, List.set_cons_zero, List.set_cons_succ])
          refine wpPure_nil ?_
          (refine wpQuietS_range (cs := bv a) Tryd.underlying22 rfl isz22 (by rfl) rfl rfl (fun w' h => range_row (HX2.out.since h).ra) (by simp [go_sem, *]) ?_; simp only [Act.put, List.setIfInBounds_toArray, List.set_cons_zero, List.set_cons_succ])
          (refine wpQuietS_val (by rfl) (by (intro wq hwq; go_simp; (try go_ints); exact rfl)) ?_; simp only [Act.put, List.setIfInBounds_toArray, List.set_cons_zero, List.set_cons_succ])
          (refine wpQuietS_call (by rfl) (by (intro wq hwq; go_simp; (try exact ⟨rfl, rfl⟩))) (fun wq hwq => hCut.out _) ?_; simp only [Act.put, List.setIfInBounds_toArray, List.set_cons_zero, List.set_cons_succ])
          (refine wpQuietS_val (by rfl) (by (intro wq hwq; go_simp; (try go_ints); exact rfl)) ?_; simp only [Act.put, List.setIfInBounds_toArray, List.set_cons_zero, List.set_cons_succ])
          refine wpQuietS_nil ?_
          (refine wpPure_take (by rfl) (by (intro wq; go_simp; (try go_ints); exact rfl)) ?_; simp only [Act.put, List.setIfInBounds_toArray, List.set_cons_zero, List.set_cons_succ])
          (refine wpPure_take (by rfl) (by (intro wq; go_simp; (try go_ints); exact rfl)) ?_; simp only [Act.put, List.setIfInBounds_toArray, List.set_cons_zero, List.set_cons_succ])
          refine wpPure_nil ?_; intro wn bn hwn hbn hOn; simp only [Act.put, List.setIfInBounds_toArray, List.set_cons_zero, List.set_cons_succ]
          have q3 := row_of_heap hOn
          have HX3 := Lib.hid (HX2.out.since (below_set hwn hbn (pv P m)))
          have y3 := rowAt_setRow_same q3 (pv P m)
          clear hwn c16 c5 HX2 hOn
          go_wp2_with (first
            | (apply wpList_rowstore (vs := pv P m) isz40; exact rfl; exact rfl; exact rfl; exact rfl; (with_reducible exact q3); exact (by simp [go_sem, *]); exact (by simp [go_sem, *]); exact (by simp [go_sem, *]); try simp only [Act.put, List.setIfInBounds_toArray, List.set_cons_zero, List.set_cons_succ]))
          refine Calm.normal ?_
          go_wp2
          refine wp_region_calm (Since _) (by kernel_rfl) (by kernel_rfl) (Since.drew _) ?_
          (refine wpQuiet_step (fun K hK => ?_); rw [if_pos (by rfl)]; apply quiet_val; (intro wq hwq; go_simp; (try go_ints); exact rfl); refine hK _ ?_; clear hK K; simp only [Act.put, List.setIfInBounds_toArray, List.set_cons_zero, List.set_cons_succ])
          (refine wpQuiet_step (fun K hK => ?_); rw [if_pos (by rfl)]; apply quiet_val; (intro wq hwq; go_simp; (try go_ints); exact rfl); refine hK _ ?_; clear hK K; simp only [Act.put, List.setIfInBounds_toArray, List.set_cons_zero, List.set_cons_succ])
          (refine wpQuiet_step (fun K hK => ?_); rw [if_pos (by rfl)]; apply quiet_val; (intro wq hwq; go_simp; (try go_ints); exact rfl); refine hK _ ?_; clear hK K; simp only [Act.put, List.setIfInBounds_toArray, List.set_cons_zero, List.set_cons_succ])
          (refine wpQuiet_step (fun K hK => ?_); rw [if_pos (by rfl)]; apply quiet_val; (intro wq hwq; go_simp; (try go_ints); exact rfl); refine hK _ ?_; clear hK K; simp only [Act.put, List.setIfInBounds_toArray, List.set_cons_zero, List.set_cons_succ])
          (refine wpQuiet_step (fun K hK => ?_); rw [if_pos (by rfl)]; apply quiet_val; (intro wq hwq; go_simp; (try go_ints); exact rfl); refine hK _ ?_; clear hK K; simp only [Act.put, List.setIfInBounds_toArray, List.set_cons_zero, List.set_cons_succ])
          (refine wpQuiet_step (fun K hK => ?_); rw [if_pos (by rfl)]; apply quiet_rowload (cs := pv P m) Tryd.underlying40 rfl isz40; exact rfl; exact rfl; exact fun w' h => laterRow h y3; exact (by simp [go_sem, *]); refine hK _ ?_; clear hK K; simp only [Act.put, List.setIfInBounds_toArray, List.set_cons_zero, List.set_cons_succ])
          (refine wpQuiet_step (fun K hK => ?_); rw [if_pos (by rfl)]; apply quiet_val; (intro wq hwq; go_simp; (try go_ints); exact rfl); refine hK _ ?_; clear hK K; simp only [Act.put, List.setIfInBounds_toArray, List.set_cons_zero, List.set_cons_succ])
          (refine wpQuiet_step (fun K hK => ?_); rw [if_pos (by rfl)]; apply quiet_val; (intro wq hwq; go_simp; (try go_ints); exact rfl); refine hK _ ?_; clear hK K; simp only [Act.put, List.setIfInBounds_toArray, List.set_cons_zero, List.set_cons_succ])
          (refine wpQuiet_step (fun K hK => ?_); rw [if_pos (by rfl)]; apply quiet_val; (intro wq hwq; go_simp; (try go_ints); exact rfl); refine hK _ ?_; clear hK K; simp only [Act.put, List.setIfInBounds_toArray, List.set_cons_zero, List.set_cons_succ])
          (refine wpQuiet_step (fun K hK => ?_); rw [if_pos (by rfl)]; refine quiet_range (cs := pv P m) Tryd.underlying40 rfl isz40 rfl rfl (fun w' h => (HX3.out.since h).rm) (by simp [go_sem, *]) ?_; refine hK _ ?_; clear hK K; simp only [Act.put, List.setIfInBounds_toArray, List.set_cons_zero, List.set_cons_succ])
          (refine wpQuiet_step (fun K hK => ?_); rw [if_pos (by rfl)]; apply quiet_val; (intro wq hwq; go_simp; (try go_ints); exact rfl); refine hK _ ?_; clear hK K; simp only [Act.put, List.setIfInBounds_toArray, List.set_cons_zero, List.set_cons_succ])
          (refine wpQuiet_step (fun K hK => ?_); rw [if_pos (by rfl)]; apply quiet_val; (intro wq hwq; go_simp; (try go_ints); exact rfl); refine hK _ ?_; clear hK K; simp only [Act.put, List.setIfInBounds_toArray, List.set_cons_zero, List.set_cons_succ])
          (refine wpQuiet_step (fun K hK => ?_); rw [if_pos (by rfl)]; apply quiet_val; (intro wq hwq; go_simp; (try go_ints); exact rfl); refine hK _ ?_; clear hK K; simp only [Act.put, List.setIfInBounds_toArray, List.set_cons_zero, List.set_cons_succ])
          refine wpQuiet_nil ?_; intro wn hwn
          have HX4 := Lib.hid (HX3.out.since hwn)
          clear hwn HX3
          go_wp2
          go_roundw
          case rel => exact ⟨k + 1, by omega, by go_num, by rw [HE.out], by rw [HE.out], Lib.hid HX4.out.below, HX4.out.ra, Lib.hid HX4.out.own⟩
          case measure => simp [intOf]; omega
    · have hkq : k = q := by omega
      subst hkq
      have HLs : Hid (longS a M = if (longTo a M k).1 < 0 then (0, 8) else ((longTo a M k).2, 0)) := Lib.hid (by unfold longS; rw [HMl.out])
      have HLo := Lib.hid (longest_some a ha g 0 k c' M HMl.out HM16.out)
      have hReads : Reads wr wr.heap.size 17 (some ⟨g, 0, none⟩) k (pcells M) := Reads.of_own HO.out
      have HReads := Lib.hid hReads
      clear hReads
      generalize (longTo a M k) = s at *
      obtain ⟨s1, s2⟩ := s
      simp only at hrange HLs ⊢
      obtain ⟨h1, h2⟩ := hrange
      by_cases hneg : s1 < 0
      · rw [if_pos hneg] at HLs
        rw [HLs.out] at HLo
        by_cases hbi : 0 ≤ bits ∧ bits ≤ 128
        · have hCut := Lib.hid (Cut_yes ha hbi rfl)
          have hPl : (cutS bits a).length = 16 := (cutS_length _ _).trans ha
          have hPB : byt (cutS bits a) := fun q => by
            rcases Nat.lt_or_ge q 16 with h | h
            · rw [nth_cutS ha bits h]; exact cutB_range _ _ _
            · rw [nth_none (by omega)]; omega
          have hRH := Lib.hid fun w => rhas_any (cutS bits a) hPl hPB bits a ha hA w
          rw [has_eq hPl hPB ha hA bits, hasB_cut hA ha hbi] at hRH
          obtain ⟨b0, b1⟩ := hbi
          clear hPB
          generalize cutS bits a = PB at *
          go_wp2_with (first
            | (apply wpList_rowload Tryd.underlying22 rfl isz22; exact rfl; exact rfl; exact rfl; (with_reducible exact ra); exact (by simp [go_sem, *]); simp only [Act.put, List.setIfInBounds_toArray, List.set_cons_zero, List.set_cons_succ])
            | (go_at_call 28; refine (HLo.out _ HReads.out (by omega)).mono ?_; rintro e w2 ⟨rfl, hb2⟩; have ra2 := row_call hb2 ra; have HB2 := Lib.hid (below_call HB.out hb2))
            | (apply wpList_rowload Tryd.underlying22 rfl isz22; exact rfl; exact rfl; exact rfl; (with_reducible exact ra2); exact (by simp [go_sem, *]); simp only [Act.put, List.setIfInBounds_toArray, List.set_cons_zero, List.set_cons_succ])
            | (go_at_call 16; refine (hCut.out _).mono ?_; rintro e w3 ⟨rfl, hb3⟩; have ra3 := row_alloc (row_call hb3 ra2) (.cells (pv PB bits) 40); have x3 := row1 w3 (pv PB bits) 40; have c16 := (cell_row x3 16).trans (pv_bits PB bits hPl); have HB3 := Lib.hid (below_new (below_call HB2.out hb3) (.cells (pv PB bits) 40)))
            | (apply wpList_rowstore (vs := pv PB bits) isz40; exact rfl; exact rfl; exact rfl; exact rfl; (with_reducible exact row1 w3 _ _); exact (by simp [go_sem, *]); exact (by simp [go_sem, *]); exact (by simp [go_sem, *]); try simp only [Act.put, List.setIfInBounds_toArray, List.set_cons_zero, List.set_cons_succ]; try simp (disch := simp [go_sem]) only [setRow_alloc_at, setRow_alloc_past, setRow_drew])
            | (apply wpList_subload (cs := bv PB) Tryd.underlying25 rfl isz25; exact rfl; exact rfl; exact rfl; (with_reducible exact x3); exact pv_addr PB bits; exact (by simp [go_sem, *]); simp only [Act.put, List.setIfInBounds_toArray, List.set_cons_zero, List.set_cons_succ])
            | (apply wpList_build47; exact rfl; exact rfl; exact rfl; exact rfl; exact hPl; simp only [Act.put, List.setIfInBounds_toArray, List.set_cons_zero, List.set_cons_succ])
            | (apply wpList_rowload Tryd.underlying22 rfl isz22; exact rfl; exact rfl; exact rfl; (with_reducible exact ra3); exact (by simp [go_sem, *]); simp only [Act.put, List.setIfInBounds_toArray, List.set_cons_zero, List.set_cons_succ])
            | (go_at_call 27; refine (hRH.out _).mono ?_; rintro e w4 ⟨rfl, hb4⟩; have HB4 := Lib.hid (below_call HB3.out hb4))
            | (go_at_call 14; refine (HK.out _ (HGl.out.since HB4.out)).mono ?_; rintro e w7 ⟨rfl, hb7⟩; have B7 := Lib.hid (below_call HB4.out hb7)))
          go_ret
          exact ⟨rfl, B7.out⟩
        · have hCut := Lib.hid fun w => Cut_any a ha bits w
          rw [cutPS_no hbi] at hCut
          simp only at hCut
          have hPl : z16.length = 16 := rfl
          have ez := fun W => eq40 W z16 rfl 0
          have hbi2 : bits < 0 ∨ (¬ bits < 0 ∧ 128 < bits) := by omega
          clear hbi
          rcases hbi2 with hbi2 | ⟨hbi2, hbi3⟩
          all_goals
            go_wp2_with (first
              | (apply wpList_rowload Tryd.underlying22 rfl isz22; exact rfl; exact rfl; exact rfl; (with_reducible exact ra); exact (by simp [go_sem, *]); simp only [Act.put, List.setIfInBounds_toArray, List.set_cons_zero, List.set_cons_succ])
              | (go_at_call 28; refine (HLo.out _ HReads.out (by omega)).mono ?_; rintro e w2 ⟨rfl, hb2⟩; have ra2 := row_call hb2 ra; have HB2 := Lib.hid (below_call HB.out hb2))
              | (apply wpList_rowload Tryd.underlying22 rfl isz22; exact rfl; exact rfl; exact rfl; (with_reducible exact ra2); exact (by simp [go_sem, *]); simp only [Act.put, List.setIfInBounds_toArray, List.set_cons_zero, List.set_cons_succ])
              | (go_at_call 16; refine (hCut.out _).mono ?_; rintro e w3 ⟨rfl, hb3⟩; have ra3 := row_alloc (row_call hb3 ra2) (.cells (pv z16 0) 40); have x3 := row1 w3 (pv z16 0) 40; have c16 := (cell_row x3 16).trans (pv_bits z16 0 hPl); have HB3 := Lib.hid (below_new (below_call HB2.out hb3) (.cells (pv z16 0) 40)))
              | (apply wpList_rowstore (vs := pv z16 0) isz40; exact rfl; exact rfl; exact rfl; exact rfl; (with_reducible exact row1 w3 _ _); exact (by simp [go_sem, *]); exact (by simp [go_sem, *]); exact (by simp [go_sem, *]); try simp only [Act.put, List.setIfInBounds_toArray, List.set_cons_zero, List.set_cons_succ]; try simp (disch := simp [go_sem]) only [setRow_alloc_at, setRow_alloc_past, setRow_drew])
              | (apply wpList_rowload Tryd.underlying40 rfl isz40; exact rfl; exact rfl; exact rfl; (with_reducible exact x3); exact (by simp [go_sem, *]); simp only [Act.put, List.setIfInBounds_toArray, List.set_cons_zero, List.set_cons_succ])
              | (go_at_call 14; refine (HK.out _ (HGl.out.since HB3.out)).mono ?_; rintro e w7 ⟨rfl, hb7⟩; have B7 := Lib.hid (below_call HB3.out hb7)))
            go_ret
            exact ⟨rfl, B7.out⟩
      · rw [if_neg hneg] at HLs
        rw [HLs.out] at HLo
        by_cases hbi : 0 ≤ bits ∧ bits ≤ 128
        · have hCut := Lib.hid (Cut_yes ha hbi rfl)
          have hPl : (cutS bits a).length = 16 := (cutS_length _ _).trans ha
          have hPB : byt (cutS bits a) := fun q => by
            rcases Nat.lt_or_ge q 16 with h | h
            · rw [nth_cutS ha bits h]; exact cutB_range _ _ _
            · rw [nth_none (by omega)]; omega
          have hRH := Lib.hid fun w => rhas_any (cutS bits a) hPl hPB bits a ha hA w
          rw [has_eq hPl hPB ha hA bits, hasB_cut hA ha hbi] at hRH
          obtain ⟨b0, b1⟩ := hbi
          clear hPB
          generalize cutS bits a = PB at *
          go_wp2_with (first
            | (apply wpList_rowload Tryd.underlying22 rfl isz22; exact rfl; exact rfl; exact rfl; (with_reducible exact ra); exact (by simp [go_sem, *]); simp only [Act.put, List.setIfInBounds_toArray, List.set_cons_zero, List.set_cons_succ])
            | (go_at_call 28; refine (HLo.out _ HReads.out (by omega)).mono ?_; rintro e w2 ⟨rfl, hb2⟩; have ra2 := row_call hb2 ra; have HB2 := Lib.hid (below_call HB.out hb2))
            | (apply wpList_rowload Tryd.underlying22 rfl isz22; exact rfl; exact rfl; exact rfl; (with_reducible exact ra2); exact (by simp [go_sem, *]); simp only [Act.put, List.setIfInBounds_toArray, List.set_cons_zero, List.set_cons_succ])
            | (go_at_call 16; refine (hCut.out _).mono ?_; rintro e w3 ⟨rfl, hb3⟩; have ra3 := row_alloc (row_call hb3 ra2) (.cells (pv PB bits) 40); have x3 := row1 w3 (pv PB bits) 40; have c16 := (cell_row x3 16).trans (pv_bits PB bits hPl); have HB3 := Lib.hid (below_new (below_call HB2.out hb3) (.cells (pv PB bits) 40)))
            | (apply wpList_rowstore (vs := pv PB bits) isz40; exact rfl; exact rfl; exact rfl; exact rfl; (with_reducible exact row1 w3 _ _); exact (by simp [go_sem, *]); exact (by simp [go_sem, *]); exact (by simp [go_sem, *]); try simp only [Act.put, List.setIfInBounds_toArray, List.set_cons_zero, List.set_cons_succ]; try simp (disch := simp [go_sem]) only [setRow_alloc_at, setRow_alloc_past, setRow_drew])
            | (apply wpList_subload (cs := bv PB) Tryd.underlying25 rfl isz25; exact rfl; exact rfl; exact rfl; (with_reducible exact x3); exact pv_addr PB bits; exact (by simp [go_sem, *]); simp only [Act.put, List.setIfInBounds_toArray, List.set_cons_zero, List.set_cons_succ])
            | (apply wpList_build47; exact rfl; exact rfl; exact rfl; exact rfl; exact hPl; simp only [Act.put, List.setIfInBounds_toArray, List.set_cons_zero, List.set_cons_succ])
            | (apply wpList_rowload Tryd.underlying22 rfl isz22; exact rfl; exact rfl; exact rfl; (with_reducible exact ra3); exact (by simp [go_sem, *]); simp only [Act.put, List.setIfInBounds_toArray, List.set_cons_zero, List.set_cons_succ])
            | (go_at_call 27; refine (hRH.out _).mono ?_; rintro e w4 ⟨rfl, hb4⟩; have HB4 := Lib.hid (below_call HB3.out hb4))
            | (go_at_call 14; refine (HK.out _ (HGl.out.since HB4.out)).mono ?_; rintro e w7 ⟨rfl, hb7⟩; have B7 := Lib.hid (below_call HB4.out hb7)))
          go_ret
          exact ⟨rfl, B7.out⟩
        · have hCut := Lib.hid fun w => Cut_any a ha bits w
          rw [cutPS_no hbi] at hCut
          simp only at hCut
          have hPl : z16.length = 16 := rfl
          have ez := fun W => eq40 W z16 rfl 0
          have hbi2 : bits < 0 ∨ (¬ bits < 0 ∧ 128 < bits) := by omega
          clear hbi
          rcases hbi2 with hbi2 | ⟨hbi2, hbi3⟩
          all_goals
            go_wp2_with (first
              | (apply wpList_rowload Tryd.underlying22 rfl isz22; exact rfl; exact rfl; exact rfl; (with_reducible exact ra); exact (by simp [go_sem, *]); simp only [Act.put, List.setIfInBounds_toArray, List.set_cons_zero, List.set_cons_succ])
              | (go_at_call 28; refine (HLo.out _ HReads.out (by omega)).mono ?_; rintro e w2 ⟨rfl, hb2⟩; have ra2 := row_call hb2 ra; have HB2 := Lib.hid (below_call HB.out hb2))
              | (apply wpList_rowload Tryd.underlying22 rfl isz22; exact rfl; exact rfl; exact rfl; (with_reducible exact ra2); exact (by simp [go_sem, *]); simp only [Act.put, List.setIfInBounds_toArray, List.set_cons_zero, List.set_cons_succ])
              | (go_at_call 16; refine (hCut.out _).mono ?_; rintro e w3 ⟨rfl, hb3⟩; have ra3 := row_alloc (row_call hb3 ra2) (.cells (pv z16 0) 40); have x3 := row1 w3 (pv z16 0) 40; have c16 := (cell_row x3 16).trans (pv_bits z16 0 hPl); have HB3 := Lib.hid (below_new (below_call HB2.out hb3) (.cells (pv z16 0) 40)))
              | (apply wpList_rowstore (vs := pv z16 0) isz40; exact rfl; exact rfl; exact rfl; exact rfl; (with_reducible exact row1 w3 _ _); exact (by simp [go_sem, *]); exact (by simp [go_sem, *]); exact (by simp [go_sem, *]); try simp only [Act.put, List.setIfInBounds_toArray, List.set_cons_zero, List.set_cons_succ]; try simp (disch := simp [go_sem]) only [setRow_alloc_at, setRow_alloc_past, setRow_drew])
              | (apply wpList_rowload Tryd.underlying40 rfl isz40; exact rfl; exact rfl; exact rfl; (with_reducible exact x3); exact (by simp [go_sem, *]); simp only [Act.put, List.setIfInBounds_toArray, List.set_cons_zero, List.set_cons_succ])
              | (go_at_call 14; refine (HK.out _ (HGl.out.since HB3.out)).mono ?_; rintro e w7 ⟨rfl, hb7⟩; have B7 := Lib.hid (below_call HB3.out hb7)))
            go_ret
            exact ⟨rfl, B7.out⟩

set_option maxHeartbeats 8000000 in
set_option maxRecDepth 100000 in
theorem law_prefixes_none (a : List Int) (ha : a.length = 16) (hA : byt a) (A : Option Addr) (cap : Nat) (bits : Int) (w : World) (hgl : Glob w) :
    Calls Tryd.prog 7 #[.agg (bv a), .slice A 0 cap, .int .i64 bits] w fun e w' => e = .returned (.bool true) ∧ Below w.heap.size w w' := by
  have HB0 := Lib.hid (below1 w (.cells (bv a) 22))
  have r0 := row1 w (bv a) 22
  have HPre := Lib.hid (prefixes_none A cap (w.alloc (.cells (bv a) 22)))
  have HK := Lib.hid (fun w hg => known_any w hg)
  have HGl := Lib.hid hgl
  have HLo := Lib.hid (longest_none a none 0)
  clear hgl
  go_enter Tryd.func7, Tryd.ntmps7
  go_wp2_with (first
    | (go_at_call 26; refine (HPre.out).mono ?_; rintro e w1 ⟨rfl, rfl⟩))
  go_loopw [8, 9, 10] (fun x y t wr => t = .int .i64 0 ∧ x = .int .i64 (-1) ∧ y = .int .i64 0 ∧ Hid (Below w.heap.size w wr) ∧ rowAt wr w.heap.size = some (bv a)) (fun _ _ _ _ => 0)
  case atStart => exact ⟨rfl, rfl, rfl, HB0, r0⟩
  case round =>
    obtain ⟨rfl, rfl, rfl, HB, ra⟩ := hrel
    clear r0 HB0
    by_cases hbi : 0 ≤ bits ∧ bits ≤ 128
    · have hCut := Lib.hid (Cut_yes ha hbi rfl)
      have hPl : (cutS bits a).length = 16 := (cutS_length _ _).trans ha
      have hPB : byt (cutS bits a) := fun q => by
        rcases Nat.lt_or_ge q 16 with h | h
        · rw [nth_cutS ha bits h]; exact cutB_range _ _ _
        · rw [nth_none (by omega)]; omega
      have hRH := Lib.hid fun w => rhas_any (cutS bits a) hPl hPB bits a ha hA w
      rw [has_eq hPl hPB ha hA bits, hasB_cut hA ha hbi] at hRH
      obtain ⟨b0, b1⟩ := hbi
      clear hPB
      generalize cutS bits a = PB at *
      go_wp2_with (first
        | (apply wpList_rowload Tryd.underlying22 rfl isz22; exact rfl; exact rfl; exact rfl; (with_reducible exact ra); exact (by simp [go_sem, *]); simp only [Act.put, List.setIfInBounds_toArray, List.set_cons_zero, List.set_cons_succ])
        | (go_at_call 28; refine (HLo.out _).mono ?_; rintro e w2 ⟨rfl, hb2⟩; have ra2 := row_call hb2 ra; have HB2 := Lib.hid (below_call HB.out hb2))
        | (apply wpList_rowload Tryd.underlying22 rfl isz22; exact rfl; exact rfl; exact rfl; (with_reducible exact ra2); exact (by simp [go_sem, *]); simp only [Act.put, List.setIfInBounds_toArray, List.set_cons_zero, List.set_cons_succ])
        | (go_at_call 16; refine (hCut.out _).mono ?_; rintro e w3 ⟨rfl, hb3⟩; have ra3 := row_alloc (row_call hb3 ra2) (.cells (pv PB bits) 40); have x3 := row1 w3 (pv PB bits) 40; have c16 := (cell_row x3 16).trans (pv_bits PB bits hPl); have HB3 := Lib.hid (below_new (below_call HB2.out hb3) (.cells (pv PB bits) 40)))
        | (apply wpList_rowstore (vs := pv PB bits) isz40; exact rfl; exact rfl; exact rfl; exact rfl; (with_reducible exact row1 w3 _ _); exact (by simp [go_sem, *]); exact (by simp [go_sem, *]); exact (by simp [go_sem, *]); try simp only [Act.put, List.setIfInBounds_toArray, List.set_cons_zero, List.set_cons_succ]; try simp (disch := simp [go_sem]) only [setRow_alloc_at, setRow_alloc_past, setRow_drew])
        | (apply wpList_subload (cs := bv PB) Tryd.underlying25 rfl isz25; exact rfl; exact rfl; exact rfl; (with_reducible exact x3); exact pv_addr PB bits; exact (by simp [go_sem, *]); simp only [Act.put, List.setIfInBounds_toArray, List.set_cons_zero, List.set_cons_succ])
        | (apply wpList_build47; exact rfl; exact rfl; exact rfl; exact rfl; exact hPl; simp only [Act.put, List.setIfInBounds_toArray, List.set_cons_zero, List.set_cons_succ])
        | (apply wpList_rowload Tryd.underlying22 rfl isz22; exact rfl; exact rfl; exact rfl; (with_reducible exact ra3); exact (by simp [go_sem, *]); simp only [Act.put, List.setIfInBounds_toArray, List.set_cons_zero, List.set_cons_succ])
        | (go_at_call 27; refine (hRH.out _).mono ?_; rintro e w4 ⟨rfl, hb4⟩; have HB4 := Lib.hid (below_call HB3.out hb4))
        | (go_at_call 14; refine (HK.out _ (HGl.out.since HB4.out)).mono ?_; rintro e w7 ⟨rfl, hb7⟩; have B7 := Lib.hid (below_call HB4.out hb7)))
      go_ret
      exact ⟨rfl, B7.out⟩
    · have hCut := Lib.hid fun w => Cut_any a ha bits w
      rw [cutPS_no hbi] at hCut
      simp only at hCut
      have hPl : z16.length = 16 := rfl
      have ez := fun W => eq40 W z16 rfl 0
      have hbi2 : bits < 0 ∨ (¬ bits < 0 ∧ 128 < bits) := by omega
      clear hbi
      rcases hbi2 with hbi2 | ⟨hbi2, hbi3⟩
      all_goals
        go_wp2_with (first
          | (apply wpList_rowload Tryd.underlying22 rfl isz22; exact rfl; exact rfl; exact rfl; (with_reducible exact ra); exact (by simp [go_sem, *]); simp only [Act.put, List.setIfInBounds_toArray, List.set_cons_zero, List.set_cons_succ])
          | (go_at_call 28; refine (HLo.out _).mono ?_; rintro e w2 ⟨rfl, hb2⟩; have ra2 := row_call hb2 ra; have HB2 := Lib.hid (below_call HB.out hb2))
          | (apply wpList_rowload Tryd.underlying22 rfl isz22; exact rfl; exact rfl; exact rfl; (with_reducible exact ra2); exact (by simp [go_sem, *]); simp only [Act.put, List.setIfInBounds_toArray, List.set_cons_zero, List.set_cons_succ])
          | (go_at_call 16; refine (hCut.out _).mono ?_; rintro e w3 ⟨rfl, hb3⟩; have ra3 := row_alloc (row_call hb3 ra2) (.cells (pv z16 0) 40); have x3 := row1 w3 (pv z16 0) 40; have c16 := (cell_row x3 16).trans (pv_bits z16 0 hPl); have HB3 := Lib.hid (below_new (below_call HB2.out hb3) (.cells (pv z16 0) 40)))
          | (apply wpList_rowstore (vs := pv z16 0) isz40; exact rfl; exact rfl; exact rfl; exact rfl; (with_reducible exact row1 w3 _ _); exact (by simp [go_sem, *]); exact (by simp [go_sem, *]); exact (by simp [go_sem, *]); try simp only [Act.put, List.setIfInBounds_toArray, List.set_cons_zero, List.set_cons_succ]; try simp (disch := simp [go_sem]) only [setRow_alloc_at, setRow_alloc_past, setRow_drew])
          | (apply wpList_rowload Tryd.underlying40 rfl isz40; exact rfl; exact rfl; exact rfl; (with_reducible exact x3); exact (by simp [go_sem, *]); simp only [Act.put, List.setIfInBounds_toArray, List.set_cons_zero, List.set_cons_succ])
          | (go_at_call 14; refine (HK.out _ (HGl.out.since HB3.out)).mono ?_; rintro e w7 ⟨rfl, hb7⟩; have B7 := Lib.hid (below_call HB3.out hb7)))
        go_ret
        exact ⟨rfl, B7.out⟩

end Go.Proofs.YtodeiapaehlmfaaDoor
