import Derived.Test.YtodeiapaehlmfaaDoorAx
namespace Go.Proofs.YtodeiapaehlmfaaDoor
open Go Go.RowKit
set_option linter.unusedSimpArgs false

/-! ### hex, there and back -/
theorem hexB_ne : ∀ m : Fin 16, hexB m.val ≠ 58 := by decide +kernel
theorem hexU_mem (n : Nat) : ∀ k, ∀ c ∈ hexU n k, c ≠ 58
  | 0, c, h => by cases h
  | k + 1, c, h => by
    rw [hexU, List.mem_cons] at h
    rcases h with rfl | h
    · exact hexB_ne ⟨n / 16 ^ k % 16, Nat.mod_lt _ (by decide)⟩
    · exact hexU_mem n k c h
theorem hexS_mem {n : Nat} {c : UInt8} (h : c ∈ hexS n) : c ≠ 58 := hexU_mem n _ c h
theorem hexLen_pos (n : Nat) : 0 < hexLen n := by
  unfold hexLen; split <;> (try split) <;> (try split) <;> omega
theorem hexS_ne (n : Nat) : ∃ b t, hexS n = b :: t ∧ b ≠ 58 := by
  have h := hexU_length n (hexLen n)
  have hp := hexLen_pos n
  have hm := @hexS_mem n
  have e : (hexS n).length = hexLen n := h
  rcases hx : hexS n with _ | ⟨b, t⟩
  · rw [hx] at e; simp at e; omega
  · exact ⟨b, t, rfl, hm (by rw [hx]; exact List.mem_cons_self)⟩
theorem hexB_digit : ∀ m : Fin 16, (48 ≤ (hexB m.val).toNat ∧ (hexB m.val).toNat ≤ 57 ∧ (hexB m.val).toNat - 48 = m.val) ∨ (¬ (48 ≤ (hexB m.val).toNat ∧ (hexB m.val).toNat ≤ 57) ∧ 97 ≤ lowI (hexB m.val) ∧ lowI (hexB m.val) ≤ 102 ∧ (lowI (hexB m.val)).toNat - 87 = m.val) := by decide +kernel
theorem hexAcc_step (acc m : Nat) (hm : m < 16) (r : List UInt8) : hexAcc acc (hexB m :: r) = hexAcc (acc * 16 + m) r := by
  have h := hexB_digit ⟨m, hm⟩
  simp only at h
  rcases h with ⟨h1, h2, h3⟩ | ⟨h0, h1, h2, h3⟩
  · rw [hexAcc, if_pos ⟨h1, h2⟩, h3]
  · rw [hexAcc, if_neg h0, if_pos ⟨h1, h2⟩, h3]
theorem hexAcc_U (n : Nat) : ∀ (k acc : Nat), hexAcc acc (hexU n k) = some (acc * 16 ^ k + n % 16 ^ k)
  | 0, acc => by simp [hexU, hexAcc, Nat.mod_one]
  | k + 1, acc => by
    rw [hexU, hexAcc_step _ _ (Nat.mod_lt _ (by decide)), hexAcc_U n k]
    congr 1
    have h1 : n % 16 ^ (k + 1) = n % 16 ^ k + 16 ^ k * (n / 16 ^ k % 16) := Nat.mod_pow_succ
    rw [h1, Nat.pow_succ, Nat.add_mul, Nat.mul_assoc, Nat.mul_comm 16 (16 ^ k), Nat.mul_comm (n / 16 ^ k % 16)]
    omega
theorem hexLen_lt {n : Nat} (h : n < 65536) : n < 16 ^ hexLen n ∧ hexLen n ≤ 4 := by
  unfold hexLen
  split
  · simp; omega
  · split
    · simp; omega
    · split
      · simp; omega
      · simp; omega
theorem groupS_hex {n : Nat} (h : n < 65536) : groupS (hexS n) = some n := by
  obtain ⟨h1, h2⟩ := hexLen_lt h
  have hl : (hexS n).length = hexLen n := hexU_length _ _
  have hp := hexLen_pos n
  unfold groupS
  rw [if_neg]
  · rw [hexS, hexAcc_U, Nat.zero_mul, Nat.zero_add, Nat.mod_eq_of_lt h1]
  · rintro (h | h)
    · rw [h] at hl; simp at hl; omega
    · omega

/-! ### where two colons stand -/
def shI (i : Int) (k : Nat) : Int := if i = -1 then -1 else i + k
theorem shI_zero (i : Int) : shI i 0 = i := by unfold shI; split <;> omega
theorem shI_add (i : Int) (j k : Nat) (h : -1 ≤ i) : shI (shI i j) k = shI i (j + k) := by
  unfold shI
  by_cases h1 : i = -1
  · simp [h1]
  · rw [if_neg h1, if_neg (by omega), if_neg h1]; omega
theorem index_skip {b : UInt8} (hb : b ≠ 58) (R t : List UInt8) : Lib.index (b :: R) (58 :: t) = shI (Lib.index R (58 :: t)) 1 := by
  have hp : ((58 :: t : List UInt8)).isPrefixOf (b :: R) = false := by simp [List.isPrefixOf, Ne.symm hb]
  rw [Lib.index, hp]
  unfold shI
  by_cases h : Lib.index R (58 :: t) = -1 <;> simp [h]
theorem index_past {t : List UInt8} : ∀ (X R : List UInt8), (∀ c ∈ X, c ≠ 58) → Lib.index (X ++ R) (58 :: t) = shI (Lib.index R (58 :: t)) X.length
  | [], R, _ => by rw [List.nil_append, List.length_nil, shI_zero]
  | b :: X, R, h => by
    rw [List.cons_append, index_skip (h b List.mem_cons_self), index_past X R (fun c hc => h c (List.mem_cons_of_mem _ hc)), shI_add _ _ _ (Lib.index_ge _ _)]
    rfl
theorem index_one_colon {b : UInt8} (hb : b ≠ 58) (R : List UInt8) : Lib.index (58 :: b :: R) dcolon = shI (Lib.index (b :: R) dcolon) 1 := by
  have hp : (dcolon).isPrefixOf (58 :: b :: R) = false := by simp [dcolon, List.isPrefixOf, Ne.symm hb]
  rw [Lib.index, hp]
  unfold shI
  by_cases h : Lib.index (b :: R) dcolon = -1 <;> simp [h]
theorem joinTail_cons (sep x : List UInt8) (r : List (List UInt8)) : Lib.joinTail sep (x :: r) = sep ++ x ++ Lib.joinTail sep r := by simp [Lib.joinTail]
theorem joinTail_nil (sep : List UInt8) : Lib.joinTail sep [] = [] := by simp [Lib.joinTail]
theorem index_tail : ∀ (r : List Nat) (R : List UInt8), Lib.index (Lib.joinTail [58] (r.map hexS) ++ R) dcolon = shI (Lib.index R dcolon) (Lib.joinTail [58] (r.map hexS)).length
  | [], R => by rw [List.map_nil, joinTail_nil, List.nil_append, List.length_nil, shI_zero]
  | x :: r, R => by
    obtain ⟨b, t, hbt, hb⟩ := hexS_ne x
    have hm : ∀ c ∈ (b :: t), c ≠ 58 := fun c hc => hexS_mem (n := x) (by rw [hbt]; exact hc)
    rw [List.map_cons, joinTail_cons, hbt]
    have e : [58] ++ (b :: t) ++ Lib.joinTail [58] (r.map hexS) ++ R = 58 :: b :: (t ++ (Lib.joinTail [58] (r.map hexS) ++ R)) := by simp
    have e2 : b :: (t ++ (Lib.joinTail [58] (r.map hexS) ++ R)) = (b :: t) ++ (Lib.joinTail [58] (r.map hexS) ++ R) := by simp
    rw [e, index_one_colon hb, e2, dcolon, index_past _ _ hm, ← dcolon, index_tail r R, shI_add _ _ _ (Lib.index_ge _ _), shI_add _ _ _ (Lib.index_ge _ _)]
    congr 1
    simp
    omega
theorem index_join : ∀ (M : List Nat) (R : List UInt8), Lib.index (joinS M ++ R) dcolon = shI (Lib.index R dcolon) (joinS M).length
  | [], R => by
    have : joinS [] = [] := rfl
    rw [this, List.nil_append, List.length_nil, shI_zero]
  | x :: r, R => by
    rw [joinS, List.map_cons, Lib.join_cons, List.append_assoc, dcolon, index_past _ _ (fun c hc => hexS_mem hc), ← dcolon, index_tail r R, shI_add _ _ _ (Lib.index_ge _ _), List.length_append]
    congr 1
    omega
theorem cut_join (M : List Nat) (R : List UInt8) : Lib.cut (joinS M ++ [58, 58] ++ R) dcolon = (joinS M, R, true) := by
  have h0 : Lib.index (58 :: 58 :: R) dcolon = 0 := by
    rw [Lib.index]; simp [dcolon, List.isPrefixOf]
  have h := index_join M (58 :: 58 :: R)
  rw [h0] at h
  have h2 : Lib.index (joinS M ++ [58, 58] ++ R) dcolon = ((joinS M).length : Nat) := by
    rw [List.append_assoc]
    show Lib.index (joinS M ++ 58 :: 58 :: R) dcolon = _
    rw [h]; unfold shI; simp
  unfold Lib.cut
  rw [h2, if_pos (by omega)]
  have e3 : ((((joinS M).length : Nat) : Int)).toNat = (joinS M).length := by omega
  rw [e3]
  have e1 : (joinS M ++ [58, 58] ++ R).take (joinS M).length = joinS M := by
    rw [List.append_assoc]; exact List.take_left
  have e2 : (joinS M ++ [58, 58] ++ R).drop ((joinS M).length + dcolon.length) = R := by
    have : (joinS M).length + dcolon.length = (joinS M ++ [58, 58]).length := by simp [dcolon]
    rw [this]; exact List.drop_left
  rw [e1, e2]
theorem cut_join_none (M : List Nat) : Lib.cut (joinS M) dcolon = (joinS M, [], false) := by
  have h := index_join M []
  have h0 : Lib.index [] dcolon = -1 := rfl
  rw [List.append_nil, h0] at h
  unfold Lib.cut
  rw [h, if_neg (by simp [shI])]

/-! ### joined, and split again -/
theorem split_tail : ∀ (r : List Nat) (x : Nat), Lib.splitK [58] 0 r.length (hexS x ++ Lib.joinTail [58] (r.map hexS)) = hexS x :: r.map hexS
  | [], x => by rw [List.map_nil, joinTail_nil, List.append_nil]; rfl
  | y :: r, x => by
    have hi : Lib.index (hexS x ++ Lib.joinTail [58] ((y :: r).map hexS)) [58] = ((hexS x).length : Nat) := by
      rw [index_past _ _ (fun c hc => hexS_mem hc), List.map_cons, joinTail_cons]
      have : Lib.index ([58] ++ hexS y ++ Lib.joinTail [58] (r.map hexS)) [58] = 0 := by
        show Lib.index (58 :: (hexS y ++ Lib.joinTail [58] (r.map hexS))) [58] = 0
        rw [Lib.index]; simp [List.isPrefixOf]
      rw [this]; unfold shI; simp
    rw [List.length_cons, Lib.splitK, hi]
    have hne : ¬ ((((hexS x).length : Nat) : Int) == -1) = true := by
      rw [beq_iff_eq]; omega
    rw [if_neg hne]
    have e3 : ((((hexS x).length : Nat) : Int)).toNat = (hexS x).length := by omega
    rw [e3, Nat.add_zero]
    have e1 : (hexS x ++ Lib.joinTail [58] ((y :: r).map hexS)).take (hexS x).length = hexS x := List.take_left
    have e2 : (hexS x ++ Lib.joinTail [58] ((y :: r).map hexS)).drop ((hexS x).length + ([58] : List UInt8).length) = hexS y ++ Lib.joinTail [58] (r.map hexS) := by
      rw [List.map_cons, joinTail_cons]
      have : (hexS x).length + ([58] : List UInt8).length = (hexS x ++ [58]).length := by simp
      rw [this, List.append_assoc [58], ← List.append_assoc (hexS x)]
      exact List.drop_left
    rw [e1, e2, split_tail r y, List.map_cons]
theorem count_tail : ∀ (r : List Nat), (Lib.joinTail [58] (r.map hexS)).count 58 = r.length
  | [] => by rw [List.map_nil, joinTail_nil]; rfl
  | x :: r => by
    have h : (hexS x).count 58 = 0 := List.count_eq_zero.2 fun hc => hexS_mem hc rfl
    rw [List.map_cons, joinTail_cons, List.count_append, List.count_append, count_tail r, h]
    simp; omega
def gAllL : List (List UInt8) → Option (List Int)
  | [] => some []
  | p :: r => match groupS p with
    | none => none
    | some n => (gAllL r).map (fun l => (n : Int) :: l)
theorem gAll_L : ∀ ps : List ByteArray, gAll ps = gAllL (ps.map (·.data.toList))
  | [] => rfl
  | p :: r => by rw [gAll, List.map_cons, gAllL, gAll_L r]; cases groupS p.data.toList <;> rfl
theorem gAllL_hex : ∀ (M : List Nat), (∀ x ∈ M, x < 65536) → gAllL (M.map hexS) = some (M.map (fun x : Nat => (x : Int)))
  | [], _ => rfl
  | x :: r, h => by
    rw [List.map_cons, gAllL, groupS_hex (h x List.mem_cons_self), gAllL_hex r (fun y hy => h y (List.mem_cons_of_mem _ hy))]
    rfl
theorem listS_join (M : List Nat) (h : ∀ x ∈ M, x < 65536) : listS (bytesOf (joinS M)) = some (M.map (fun x : Nat => (x : Int))) := by
  rcases M with _ | ⟨x, r⟩
  · rfl
  · have hj : joinS (x :: r) = hexS x ++ Lib.joinTail [58] (r.map hexS) := by rw [joinS, List.map_cons, Lib.join_cons]
    obtain ⟨b, t, hbt, _⟩ := hexS_ne x
    have hs : (bytesOf (joinS (x :: r))).size ≠ 0 := by
      show (joinS (x :: r)).toArray.size ≠ 0
      rw [hj, hbt]; simp
    unfold listS
    rw [if_neg hs, gAll_L]
    have hd : (bytesOf (joinS (x :: r))).data.toList = joinS (x :: r) := by simp [bytesOf]
    have hc : Lib.countB (bytesOf (joinS (x :: r))) colon = r.length := by
      show Lib.count _ [58] = _
      rw [Lib.count_one, hd, hj, List.count_append, count_tail]
      have h0 : (hexS x).count 58 = 0 := List.count_eq_zero.2 fun hc => hexS_mem hc rfl
      omega
    unfold partsS
    rw [hc, Lib.splitB_data, hd, hj]
    show gAllL (Lib.splitK [58] 0 r.length _) = _
    rw [split_tail, ← List.map_cons (f := hexS)]
    exact gAllL_hex _ h

/-! ### the document's text, sign by sign -/
def putG (out : List UInt8) (x : Nat) : List UInt8 := (if 0 < out.length ∧ out.getLastD 58 ≠ 58 then out ++ [58] else out) ++ hexS x
theorem putG_nil (x : Nat) : putG [] x = joinS [x] := by
  unfold putG joinS
  rw [if_neg (by simp), List.map_cons, List.map_nil, Lib.join_one]; rfl
theorem last_hex (pre : List UInt8) (x : Nat) : (pre ++ hexS x).getLastD 58 ≠ 58 := by
  obtain ⟨b, t, hbt, _⟩ := hexS_ne x
  have hn : hexS x ≠ [] := by rw [hbt]; exact List.cons_ne_nil _ _
  rw [List.getLastD_eq_getLast?, List.getLast?_append, List.getLast?_eq_some_getLast hn, Option.some_or, Option.getD_some]
  exact hexS_mem (List.getLast_mem hn)
theorem joinS_snoc {M : List Nat} (hM : M ≠ []) (x : Nat) : joinS (M ++ [x]) = joinS M ++ [58] ++ hexS x := by
  rcases M with _ | ⟨y, r⟩
  · exact absurd rfl hM
  · rw [joinS, joinS, List.cons_append, List.map_cons, List.map_cons, Lib.join_cons, Lib.join_cons, List.map_append]
    simp [Lib.joinTail]
theorem joinS_last {M : List Nat} (hM : M ≠ []) : ∃ Q x, joinS M = Q ++ hexS x := by
  have e := List.dropLast_concat_getLast hM
  by_cases h : M.dropLast = []
  · refine ⟨[], M.getLast hM, ?_⟩
    rw [h, List.nil_append] at e
    exact (congrArg joinS e.symm).trans (by simp [joinS, Lib.join_one])
  · refine ⟨joinS M.dropLast ++ [58], M.getLast hM, ?_⟩
    rw [← joinS_snoc h, e]
theorem putG_more (pre : List UInt8) {M : List Nat} (hM : M ≠ []) (x : Nat) : putG (pre ++ joinS M) x = pre ++ joinS (M ++ [x]) := by
  obtain ⟨Q, y, hQ⟩ := joinS_last hM
  obtain ⟨b, t, hbt, _⟩ := hexS_ne y
  unfold putG
  rw [if_pos, joinS_snoc hM]
  · simp
  · refine ⟨?_, ?_⟩
    · rw [hQ, hbt]; simp; omega
    · rw [hQ, ← List.append_assoc]; exact last_hex _ _
theorem putG_colons (pre : List UInt8) (x : Nat) : putG (pre ++ [58, 58]) x = pre ++ [58, 58] ++ joinS [x] := by
  unfold putG
  rw [if_neg]
  · rw [joinS, List.map_cons, List.map_nil, Lib.join_one]
  · rintro ⟨_, h⟩
    apply h
    simp
/-- joined one by one, behind what ends in two colons or is not there -/
theorem rtext_plain (p : Nat × Nat) (hp : p.2 ≤ 1) (N : List Nat) : ∀ i, i ≤ N.length → rtextTo p N i = joinS (N.take i)
  | 0, _ => rfl
  | i + 1, h => by
    have ih := rtext_plain p hp N i (by omega)
    have hx : N.getD i 0 = N[i]'(by omega) := by simp [List.getD, List.getElem?_eq_getElem (show i < N.length by omega)]
    have hs : N.take (i + 1) = N.take i ++ [N.getD i 0] := by rw [hx]; exact List.take_succ_eq_append_getElem (by omega)
    rw [rtextTo, rstep, if_neg (by omega), ih, hs]
    show putG _ _ = _
    by_cases h0 : N.take i = []
    · rw [h0]; exact putG_nil _
    · exact putG_more [] h0 _
theorem rtext_run (p : Nat × Nat) (hp : 2 ≤ p.2) (N : List Nat) (hN : p.1 + p.2 ≤ N.length) : ∀ i, i ≤ N.length → rtextTo p N i = if i ≤ p.1 then joinS (N.take i) else joinS (N.take p.1) ++ [58, 58] ++ joinS ((N.take i).drop (p.1 + p.2))
  | 0, _ => by rw [if_pos (Nat.zero_le _)]; rfl
  | i + 1, h => by
    have ih := rtext_run p hp N hN i (by omega)
    have hx : N.getD i 0 = N[i]'(by omega) := by simp [List.getD, List.getElem?_eq_getElem (show i < N.length by omega)]
    have hs : N.take (i + 1) = N.take i ++ [N.getD i 0] := by rw [hx]; exact List.take_succ_eq_append_getElem (by omega)
    rw [rtextTo, rstep, ih]
    by_cases h1 : i < p.1
    · rw [if_neg (show ¬ (1 < p.2 ∧ p.1 ≤ i ∧ i < p.1 + p.2) by omega), if_pos (show i ≤ p.1 by omega), if_pos (show i + 1 ≤ p.1 by omega), hs]
      show putG _ _ = _
      by_cases h0 : N.take i = []
      · rw [h0]; exact putG_nil _
      · exact putG_more [] h0 _
    · by_cases h2 : i < p.1 + p.2
      · rw [if_pos (show 1 < p.2 ∧ p.1 ≤ i ∧ i < p.1 + p.2 by omega), if_neg (show ¬ i + 1 ≤ p.1 by omega)]
        have hd : (N.take (i + 1)).drop (p.1 + p.2) = [] := List.drop_eq_nil_of_le (by simp; omega)
        rw [hd]
        have hj : joinS [] = [] := rfl
        rw [hj, List.append_nil]
        by_cases h3 : i = p.1
        · rw [if_pos h3, if_pos (show i ≤ p.1 by omega), h3]
        · rw [if_neg h3, if_neg (show ¬ i ≤ p.1 by omega)]
          have hd : (N.take i).drop (p.1 + p.2) = [] := List.drop_eq_nil_of_le (by simp; omega)
          rw [hd, hj, List.append_nil]
      · rw [if_neg (show ¬ (1 < p.2 ∧ p.1 ≤ i ∧ i < p.1 + p.2) by omega), if_neg (show ¬ i ≤ p.1 by omega), if_neg (show ¬ i + 1 ≤ p.1 by omega), hs, List.drop_append_of_le_length (by simp; omega)]
        show putG _ _ = _
        by_cases h0 : (N.take i).drop (p.1 + p.2) = []
        · rw [h0]
          have hj : joinS [] = [] := rfl
          rw [hj, List.append_nil, putG_colons]
          rfl
        · exact putG_more _ h0 _

/-! ### the document's text is the program's, and is parsed as it was -/
theorem runs_zero : ∀ b0 b1 b2 b3 b4 b5 b6 b7 : Bool, (decide ((lookB [b0, b1, b2, b3, b4, b5, b6, b7] 9 0 0 0).2 < 2) || (List.range 8).all (fun j => !(decide ((lookB [b0, b1, b2, b3, b4, b5, b6, b7] 9 0 0 0).1 ≤ j) && decide (j < (lookB [b0, b1, b2, b3, b4, b5, b6, b7] 9 0 0 0).1 + (lookB [b0, b1, b2, b3, b4, b5, b6, b7] 9 0 0 0).2)) || [b0, b1, b2, b3, b4, b5, b6, b7].getD j false)) = true := by decide +kernel
theorem run_zero {g : List Int} (hg : g.length = 8) (h0 : (runS g).2 ≠ 0) {j : Nat} (hj : j < 8) (h1 : (runS g).1 ≤ j) (h2 : j < (runS g).1 + (runS g).2) : nth g j = 0 := by
  have h8 : ∃ b0 b1 b2 b3 b4 b5 b6 b7, zeroB g = [b0, b1, b2, b3, b4, b5, b6, b7] := by
    match g, hg with
    | [x0, x1, x2, x3, x4, x5, x6, x7], _ => exact ⟨_, _, _, _, _, _, _, _, rfl⟩
  obtain ⟨b0, b1, b2, b3, b4, b5, b6, b7, hb⟩ := h8
  have h := runs_zero b0 b1 b2 b3 b4 b5 b6 b7
  rw [← hb, lookB_eq] at h
  unfold runS at h0 h1 h2
  by_cases hs : (look g 9 0 0 0).2 < 2
  · rw [if_pos hs] at h0; exact absurd rfl h0
  · rw [if_neg hs] at h1 h2
    rw [decide_eq_false hs, Bool.false_or, List.all_eq_true] at h
    have := h j (List.mem_range.2 hj)
    rw [decide_eq_true h1, decide_eq_true h2] at this
    simp only [Bool.and_self, Bool.not_true, Bool.false_or] at this
    have hz : (zeroB g)[j]? = some true := by
      rw [List.getD_eq_getElem?_getD] at this
      cases hq : (zeroB g)[j]? with
      | none => rw [hq] at this; cases this
      | some b => rw [hq] at this; simp at this; rw [this]
    unfold zeroB at hz
    rw [List.getElem?_map, List.getElem?_eq_getElem (by omega)] at hz
    simp at hz
    simp [nth, List.getD, List.getElem?_eq_getElem (show j < g.length by omega), hz]

theorem rtext_eq {l : List Int} (hB : byt l) : rtextS l = textS l := by
  have hN := natG_length l
  have hG := groupsS_length l
  unfold rtextS textS
  rcases run_agree hG with ⟨h1, h2⟩ | ⟨h1, h2⟩
  · rw [rtext_plain _ h2 _ 8 (by omega), if_pos h1, List.take_of_length_le (by omega)]
  · have hle := runS_le _ hG
    rw [h2, rtext_run _ h1 _ (by omega) 8 (by omega), if_neg (by omega : ¬ (runS (groupsS l)).2 = 0), if_neg (by omega), List.take_of_length_le (by omega : (natG l).length ≤ 8)]

theorem natG_cast {l : List Int} (hB : byt l) : (natG l).map (fun x : Nat => (x : Int)) = groupsS l := by
  unfold natG
  rw [List.map_map]
  refine (List.map_congr_left fun x hx => ?_).trans (List.map_id _)
  obtain ⟨j, hj, rfl⟩ := List.mem_iff_getElem.1 hx
  have hb := groups_bound hB j
  have hn : nth (groupsS l) j = (groupsS l)[j] := by simp [nth, List.getD, hj]
  rw [hn] at hb
  simp only [Function.comp_apply, id_eq]
  omega
theorem natG_lt {l : List Int} (hB : byt l) : ∀ x ∈ natG l, x < 65536 := fun x hx => by
  obtain ⟨j, hj⟩ := List.mem_iff_getElem?.1 hx
  exact (natG_get hB hj).2

theorem parse_text {a : List Int} (ha : a.length = 16) (hB : byt a) : parseS (bytesOf (textS a)) = (a, 0) := by
  have hN := natG_length a
  have hG := groupsS_length a
  have hlt := natG_lt hB
  have hcast := natG_cast hB
  have hP : parseG (bytesOf (textS a)) = some (groupsS a) := by
    unfold parseG parseF parseB parseI
    have hd : (bytesOf (textS a)).data.toList = textS a := by simp [bytesOf]
    rw [hd]
    by_cases h0 : (runS (groupsS a)).2 = 0
    · have hT : textS a = joinS (natG a) := by unfold textS; rw [if_pos h0]
      rw [hT, cut_join_none]
      simp only
      rw [listS_join _ hlt, show listS (bytesOf []) = some [] from rfl, hcast]
      simp only [List.length_nil, List.append_nil, Nat.add_zero, hG]
      simp
    · have hT : textS a = joinS ((natG a).take (runS (groupsS a)).1) ++ [58, 58] ++ joinS ((natG a).drop ((runS (groupsS a)).1 + (runS (groupsS a)).2)) := by unfold textS; rw [if_neg h0]
      have hz := @run_zero _ hG h0
      have hle := runS_le _ hG
      rw [hT, cut_join]
      simp only
      rw [listS_join _ (fun x hx => hlt x (List.mem_of_mem_take hx)), listS_join _ (fun x hx => hlt x (List.mem_of_mem_drop hx)), List.map_take, List.map_drop, hcast]
      generalize (runS (groupsS a)).1 = A at *
      generalize (runS (groupsS a)).2 = S at *
      simp only [List.length_take, List.length_drop, hG]
      rw [if_neg (by omega), if_pos trivial]
      congr 1
      have e0 : 8 - min A 8 - (8 - (A + S)) = S := by omega
      rw [e0]
      have e1 : List.replicate S 0 = ((groupsS a).drop A).take S := by
        refine (List.eq_replicate_iff.2 ⟨by simp; omega, fun x hx => ?_⟩).symm
        obtain ⟨j, hj, rfl⟩ := List.mem_iff_getElem.1 hx
        simp only [List.length_take, List.length_drop, hG] at hj
        have := hz (j := A + j) (by omega) (by omega) (by omega)
        rw [List.getElem_take, List.getElem_drop]
        simpa [nth, List.getD, List.getElem?_eq_getElem (show A + j < (groupsS a).length by omega)] using this
      rw [e1, List.append_assoc, ← List.drop_drop, List.take_append_drop, List.take_append_drop]
  have hof := ofS_groups ha hB
  rw [parseS_ok hP ⟨by rw [hof], by rw [hof]⟩, hof]

end Go.Proofs.YtodeiapaehlmfaaDoor
