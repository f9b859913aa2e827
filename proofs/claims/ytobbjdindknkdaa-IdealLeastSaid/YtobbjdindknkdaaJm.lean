/- The plain law: the search and the document's rounds end at the one fixed point. -/
import Derived.Test.YtobbjdindknkdaaJl
namespace Go.Proofs.Ytobbjdindknkdaa
open Go Go.RowKit
set_option linter.unusedSimpArgs false
set_option linter.unusedVariables false

/-! ### the plain law: the search ends at the one fixed point, and so do the rounds -/
def at0 (l : List Int) (k : Nat) : Int := l.getD k 0
theorem at0_set {l : List Int} {k j : Nat} {v : Int} (hk : k < l.length) : at0 (l.set k v) j = if j = k then v else at0 l j := by
  unfold at0
  rw [List.getD_eq_getElem?_getD, List.getD_eq_getElem?_getD, List.getElem?_set]
  by_cases h : k = j
  · subst h; simp [hk]
  · rw [if_neg h, if_neg (fun e => h e.symm)]
theorem rankS_mono {f s c l r r' : Int} (h : r ≤ r') : rankS f s r c l ≤ rankS f s r' c l := by
  unfold rankS
  split <;> split <;> omega
theorem rbyS_mono (c : Nat → Nat → Int) (p : Pol) (i k : Nat) {d d' : Int} (h : d ≤ d') : rbyS c p i d k ≤ rbyS c p i d' k := by
  unfold rbyS
  split
  · omega
  · exact rankS_mono h
theorem byS_mono (n : Int) (E : List Link) (p : Pol) (i k : Int) {d d' : Int} (h : d ≤ d') : byS n E p i d k ≤ byS n E p i d' k := by
  unfold byS
  split
  · exact rankS_mono h
  · omega
theorem byS_top {n : Int} {E : List Link} {p : Pol} (hp : GoodP p) (i k : Int) : byS n E p i 65535 k = 65535 := by
  have := byS_range (n := n) (E := E) hp i 65535 k (by omega)
  omega
/-- the search's invariant: what is told is told by someone; whoever is not queued has told -/
structure SInv (N : Nat) (E : List Link) (p : Pol) (s : RS) : Prop where
  inv : RInv N s
  low : ∀ k, k < N → p.l ≤ at0 s.1 k
  root : at0 s.1 0 ≤ p.l
  job : ∀ j ∈ s.2.1, at0 s.1 j.2.1.toNat ≤ j.1 ∧ p.l ≤ j.1
  par : ∀ b, 0 < b → b < N → at0 s.1 b < 65535 → ∃ (i : Nat) (d : Int), i < N ∧ (at0 s.1 i ≤ d ∧ d ≤ 65535) ∧ at0 s.1 b = byS N E p i d b
/-- i has told all but those of ks -/
def told (N : Nat) (E : List Link) (p : Pol) (out : List Int) (i : Nat) (ks : List Int) : Prop := ∀ k : Nat, k < N → (k : Int) ∉ ks → at0 out k ≤ byS N E p i (at0 out i) k
def SOpen (N : Nat) (E : List Link) (p : Pol) (s : RS) (x : Nat) : Prop := ∀ i, i < N → i ≠ x → at0 s.1 i < 65535 → (∃ cn, (at0 s.1 i, (i : Int), cn) ∈ s.2.1) ∨ told N E p s.1 i []
theorem told_drop {N : Nat} {E : List Link} {p : Pol} {out : List Int} {i k : Nat} {v : Int} (hk : k < out.length) (hi : i ≠ k) {ks : List Int} (h : told N E p out i ks) (hv : v ≤ at0 out k) : told N E p (out.set k v) i ks := by
  intro j hj hjk
  rw [at0_set hk, at0_set hk, if_neg hi]
  have := h j hj hjk
  split
  · rename_i e; subst e; omega
  · exact this
theorem relax_inv {N : Nat} {E : List Link} {p : Pol} (hp : GoodP p) {i : Nat} {d : Int} (hi : i < N) (hd : p.l ≤ d ∧ d ≤ 65535) : ∀ (ks : List Int) (s : RS), SInv N E p s → SOpen N E p s i → at0 s.1 i = d → told N E p s.1 i ks → (∀ k ∈ ks, 0 ≤ k ∧ k < (N : Int)) →
    SInv N E p (relaxS N E p i d ks s) ∧ SOpen N E p (relaxS N E p i d ks s) i ∧ told N E p (relaxS N E p i d ks s).1 i []
  | [], s, h, ho, hd', ht, _ => ⟨h, ho, ht⟩
  | k :: ks, s, h, ho, hd', ht, hk => by
    have hl := hp.l
    obtain ⟨hk0, hkN⟩ := hk k (by simp)
    obtain ⟨m, rfl⟩ : ∃ m : Nat, k = m := ⟨k.toNat, by omega⟩
    have hmN : m < N := by omega
    have hml : m < s.1.length := by have := h.inv.len; omega
    have hks : ∀ x ∈ ks, 0 ≤ x ∧ x < (N : Int) := fun x hx => hk x (by simp [hx])
    have hr := byS_range (n := N) (E := E) hp i d m (by omega)
    rw [relaxS]
    simp only [Int.toNat_natCast]
    by_cases hlt : byS N E p i d m < s.1.getD m 0
    · rw [if_pos hlt]
      have hlt' : byS N E p i d m < at0 s.1 m := hlt
      have hadd := (h.inv.add (k := (m : Int)) ⟨hk0, hkN⟩ hr.1 (by simpa using hlt)).1
      simp only [Int.toNat_natCast] at hadd
      have him : i ≠ m := by
        intro e; subst e
        have := h.inv.out _ (getD_mem hml)
        have h9 : s.1.getD i 0 = d := hd'
        omega
      have hm0 : ¬ m = 0 := by
        intro e; subst e
        have := h.root
        omega
      refine relax_inv hp hi hd ks _ ⟨hadd, ?_, ?_, ?_, ?_⟩ ?_ ?_ ?_ hks
      · intro b hb
        simp only [at0_set hml]
        have := h.low b hb
        split <;> omega
      · simp only [at0_set hml]
        rw [if_neg (fun e => hm0 e.symm)]
        exact h.root
      · intro j hj
        have := (add_perm s.2.1 (byS N E p i d m, (m : Int), s.2.2)).mem_iff.1 hj
        rcases List.mem_append.1 this with h1 | h1
        · simp only [at0_set hml]
          have := h.job j h1
          split
          · rename_i e; rw [e] at this; omega
          · exact this
        · rw [List.mem_singleton.1 h1]
          simp only [at0_set hml, Int.toNat_natCast]
          simp only [if_true]
          omega
      · intro b hb0 hb hlb
        simp only [at0_set hml] at hlb ⊢
        by_cases e : b = m
        · subst e
          refine ⟨i, d, hi, ?_, by simp⟩
          rw [if_neg him]
          omega
        · rw [if_neg e] at hlb ⊢
          obtain ⟨i2, d2, h1, h2, h3⟩ := h.par b hb0 hb hlb
          refine ⟨i2, d2, h1, ?_, h3⟩
          split
          · rename_i e2; subst e2; omega
          · exact h2
      · intro x hx hxi hlx
        simp only [at0_set hml] at hlx ⊢
        by_cases e : x = m
        · subst e
          left
          refine ⟨s.2.2, ?_⟩
          simp only [if_true]
          exact (add_perm s.2.1 _).mem_iff.2 (by simp)
        · rw [if_neg e] at hlx ⊢
          rcases ho x hx hxi hlx with ⟨cn, h1⟩ | h1
          · exact .inl ⟨cn, (add_perm s.2.1 _).mem_iff.2 (by simp [h1])⟩
          · exact .inr (told_drop hml e h1 (by omega))
      · simp only [at0_set hml]
        rw [if_neg him]; exact hd'
      · intro j hj hjk
        simp only [at0_set hml]
        rw [if_neg him]
        by_cases e : j = m
        · subst e
          rw [if_pos rfl, hd']
          omega
        · rw [if_neg e]
          exact ht j hj (by simp; exact ⟨fun h => e (by omega), hjk⟩)
    · rw [if_neg hlt]
      have hlt' : ¬ byS N E p i d m < at0 s.1 m := hlt
      refine relax_inv hp hi hd ks s h ho hd' ?_ hks
      intro j hj hjk
      by_cases e : j = m
      · subst e; rw [hd']; omega
      · exact ht j hj (by simp; exact ⟨fun h => e (by omega), hjk⟩)
theorem relaxS_mu {n : Int} {E : List Link} {p : Pol} (hp : GoodP p) {i d : Int} (hd : 0 ≤ d ∧ d ≤ 65535) : ∀ (ks : List Int) (s : RS), RInv n s → (∀ k ∈ ks, 0 ≤ k ∧ k < n) → mu (relaxS n E p i d ks s) ≤ mu s
  | [], s, h, _ => Nat.le_refl _
  | k :: ks, s, h, hk => by
    rw [relaxS]
    split
    · rename_i hlt
      have := h.add (hk k (by simp)) (byS_range (n := n) (E := E) hp i d k hd).1 hlt
      exact Nat.le_trans (relaxS_mu hp hd ks _ this.1 (fun x hx => hk x (by simp [hx]))) this.2
    · exact relaxS_mu hp hd ks s h (fun x hx => hk x (by simp [hx]))
/-- a fixed point, told by someone -/
structure Fixed (N : Nat) (E : List Link) (p : Pol) (out : List Int) : Prop where
  len : out.length = N
  rng : ∀ x ∈ out, 0 ≤ x ∧ x ≤ 65535
  root : at0 out 0 = p.l
  fix : ∀ i k, i < N → k < N → at0 out k ≤ byS N E p i (at0 out i) k
  par : ∀ b, 0 < b → b < N → at0 out b < 65535 → ∃ i : Nat, i < N ∧ at0 out i < at0 out b ∧ at0 out b = byS N E p i (at0 out i) b
theorem look_fixed {N : Nat} {E : List Link} {p : Pol} (hp : GoodP p) (hN : 0 < N) : ∀ (f : Nat) (s : RS), mu s ≤ f → SInv N E p s → SOpen N E p s N → Fixed N E p (lookS N E p f s)
  | f, s, hm, h, ho => by
    have hl := hp.l
    cases hs : s.2.1[0]? with
    | none =>
      have hnil : s.2.1 = [] := by simpa using hs
      rw [lookS_end _ _ _ _ hnil]
      have hrng : ∀ k, k < N → 0 ≤ at0 s.1 k ∧ at0 s.1 k ≤ 65535 := fun k hk => h.inv.out _ (getD_mem (by have := h.inv.len; omega))
      have hfix : ∀ i k, i < N → k < N → at0 s.1 k ≤ byS N E p i (at0 s.1 i) k := by
        intro i k hi hk
        by_cases hlt : at0 s.1 i < 65535
        · rcases ho i hi (by omega) hlt with ⟨cn, h1⟩ | h1
          · rw [hnil] at h1; cases h1
          · exact h1 k hk (by simp)
        · have : at0 s.1 i = 65535 := by have := hrng i hi; omega
          rw [this, byS_top hp]
          exact (hrng k hk).2
      refine ⟨by have := h.inv.len; omega, h.inv.out, by have := h.root; have := h.low 0 hN; omega, hfix, ?_⟩
      intro b hb0 hb hlb
      obtain ⟨i, d, hi, hd, he⟩ := h.par b hb0 hb hlb
      have h1 := byS_mono N E p i b hd.1
      have h2 := hfix i b hi hb
      have h3 : at0 s.1 b = byS N E p i (at0 s.1 i) b := by omega
      have h4 := byS_range (n := N) (E := E) hp i (at0 s.1 i) b (hrng i hi)
      exact ⟨i, hi, by omega, h3⟩
    | some a =>
      obtain ⟨d, i, cn⟩ := a
      obtain ⟨hI1, hmu1, ⟨hi0, hi1⟩, hd0, hd1⟩ := h.inv.take hs
      simp only at hi0 hi1 hd0 hd1
      obtain ⟨i, rfl⟩ : ∃ m : Nat, i = m := ⟨i.toNat, by omega⟩
      have hiN : i < N := by omega
      obtain ⟨f, rfl⟩ : ∃ g, f = g + 1 := ⟨f - 1, by omega⟩
      have hperm := take_perm hs
      have hj := h.job _ (List.mem_of_getElem? hs)
      simp only [Int.toNat_natCast] at hj
      have h1 : SInv N E p (s.1, takeJ s.2.1, s.2.2) := ⟨hI1, h.low, h.root, fun j hj => h.job j (hperm.mem_iff.2 (by simp [hj])), h.par⟩
      have h2 : ∀ x, x < N → (x ≠ i ∨ at0 s.1 i ≠ d) → at0 s.1 x < 65535 → (∃ cn, (at0 s.1 x, (x : Int), cn) ∈ takeJ s.2.1) ∨ told N E p s.1 x [] := by
        intro x hx hne hlx
        rcases ho x hx (by omega) hlx with ⟨c2, h3⟩ | h3
        · rcases List.mem_cons.1 (hperm.mem_iff.1 h3) with h4 | h4
          · simp only [Prod.mk.injEq] at h4
            have : x = i := by omega
            subst this
            rcases hne with h5 | h5
            · exact absurd rfl h5
            · exact absurd h4.1 h5
          · exact .inl ⟨c2, h4⟩
        · exact .inr h3
      rw [lookS, hs]
      simp only [Int.toNat_natCast]
      by_cases hlt : s.1.getD i 0 < d
      · rw [if_pos hlt]
        have hlt' : at0 s.1 i < d := hlt
        exact look_fixed hp hN f _ (by omega) h1 (fun x hx _ hlx => h2 x hx (by by_cases e : x = i; exact .inr (by omega); exact .inl e) hlx)
      · rw [if_neg hlt]
        have hlt' : ¬ at0 s.1 i < d := hlt
        have hde : at0 s.1 i = d := by omega
        have hr := relax_inv (E := E) hp hiN (d := d) ⟨hj.2, hd1⟩ (nbS N E i) (s.1, takeJ s.2.1, s.2.2) h1 (fun x hx hxi hlx => h2 x hx (.inl hxi) hlx) hde (by
          intro k hk hkn
          have : ¬ (costS N E i k).2 = 0 := fun e => hkn ((nbS_mem (by omega)).2 ⟨by omega, by omega, e⟩)
          unfold byS
          rw [if_neg this]
          exact (h.inv.out _ (getD_mem (by have := h.inv.len; omega))).2) (fun k hk => by have := (nbS_mem (by omega)).1 hk; omega)
        have hmr : mu (relaxS N E p i d (nbS N E i) (s.1, takeJ s.2.1, s.2.2)) ≤ mu (s.1, takeJ s.2.1, s.2.2) := relaxS_mu hp ⟨by omega, hd1⟩ _ _ hI1 (fun k hk => by have := (nbS_mem (by omega)).1 hk; omega)
        refine look_fixed hp hN f _ (by omega) hr.1 (fun x hx _ hlx => ?_)
        by_cases e : x = i
        · subst e; exact .inr hr.2.2
        · exact hr.2.1 x hx e hlx

theorem at0_start {N : Nat} (hN : 0 < N) (x : Int) (k : Nat) (hk : k < N) : at0 ((List.replicate N (65535 : Int)).set 0 x) k = if k = 0 then x else 65535 := by
  rw [at0_set (by simpa using hN)]
  split
  · rfl
  · simp [at0, List.getD_eq_getElem?_getD, hk]
theorem ranks_fixed {N : Nat} {E : List Link} {p : Pol} (hp : GoodP p) (hN : 1 ≤ N ∧ N ≤ 8) : Fixed N E p (ranksS N E p) := by
  have hs := start_inv (n := (N : Int)) (p := p) ⟨by omega, by omega⟩ hp
  have hl := hp.l
  have hst : startS N p = ((List.replicate N (65535 : Int)).set 0 p.l, addJ [] (p.l, 0, 0), wrap64 (0 + 1)) := by unfold startS; rw [Int.toNat_natCast]
  have ha : ∀ k, k < N → at0 (startS N p).1 k = if k = 0 then p.l else 65535 := fun k hk => by rw [hst]; exact at0_start (by omega) p.l k hk
  unfold ranksS
  refine look_fixed hp (by omega) _ _ (by omega) ⟨hs.1, fun k hk => by rw [ha k hk]; split <;> omega, by rw [ha 0 (by omega)]; simp, ?_, fun b hb0 hb hlb => by rw [ha b hb, if_neg (by omega)] at hlb; omega⟩ ?_
  · intro j hj
    rw [hst] at hj
    have := (add_perm [] (p.l, 0, 0)).mem_iff.1 hj
    simp at this
    rw [this]
    show at0 (startS N p).1 0 ≤ p.l ∧ p.l ≤ p.l
    rw [ha 0 (by omega)]
    simp
  · intro x hx _ hlx
    rw [ha x hx] at hlx
    split at hlx
    · rename_i e
      subst e
      left
      refine ⟨0, ?_⟩
      rw [ha 0 hx, hst]
      exact (add_perm [] _).mem_iff.2 (by simp)
    · omega

/-! ### the rounds -/
section
variable {N : Nat} {E : List Link} {c : Nat → Nat → Int} {p : Pol} {F : List Int}
/-- what a round's state keeps against the fixed point -/
structure Over (N : Nat) (F out : List Int) : Prop where
  ok : OutOK N out
  over : ∀ k, k < N → at0 F k ≤ at0 out k
theorem relax1_over (hp : GoodP p) (hM : ∀ i k : Nat, i < N → k < N → ∀ d, byS N E p i d k = rbyS c p i d k) (hF : Fixed N E p F) {a b : Nat} (ha : a < N) (hb : b < N) {out : List Int} (h : Over N F out) :
    Over N F (relax1 c p a out b) ∧ (∀ k, k < N → at0 (relax1 c p a out b) k ≤ at0 out k) ∧ at0 (relax1 c p a out b) b ≤ rbyS c p a (at0 out a) b := by
  have hbl : b < out.length := by rw [h.ok.1]; exact hb
  have h1 : at0 F b ≤ rbyS c p a (at0 out a) b := by
    have h2 := hF.fix a b ha hb
    rw [hM a b ha hb] at h2
    have h3 := rbyS_mono c p a b (h.over a ha)
    omega
  have hok := relax1_ok (c := c) hp (b := b) ha h.ok
  unfold relax1 at *
  by_cases hlt : rbyS c p a (out.getD a 0) b < out.getD b 0
  · rw [if_pos hlt] at hok ⊢
    have hlt' : rbyS c p a (at0 out a) b < at0 out b := hlt
    refine ⟨⟨hok, fun k hk => ?_⟩, fun k hk => ?_, ?_⟩
    · rw [at0_set hbl]
      split
      · rename_i e; subst e; exact h1
      · exact h.over k hk
    · rw [at0_set hbl]
      split
      · rename_i e; subst e; exact Int.le_of_lt hlt'
      · exact Int.le_refl _
    · rw [at0_set hbl, if_pos rfl]; exact Int.le_refl _
  · rw [if_neg hlt] at hok ⊢
    have hlt' : ¬ rbyS c p a (at0 out a) b < at0 out b := hlt
    exact ⟨h, fun k hk => Int.le_refl _, by omega⟩
theorem bAcc_over (hp : GoodP p) (hM : ∀ i k : Nat, i < N → k < N → ∀ d, byS N E p i d k = rbyS c p i d k) (hF : Fixed N E p F) {a : Nat} (ha : a < N) {out : List Int} (h : Over N F out) : ∀ m, m < N →
    Over N F (bAcc c p a out m) ∧ (∀ k, k < N → at0 (bAcc c p a out m) k ≤ at0 out k) ∧ (at0 out a ≤ at0 F a → ∀ b, 0 < b → b ≤ m → at0 (bAcc c p a out m) b ≤ rbyS c p a (at0 F a) b)
  | 0, _ => ⟨h, fun k hk => Int.le_refl _, fun _ b h0 h1 => by omega⟩
  | m + 1, hm => by
    obtain ⟨h1, h2, h3⟩ := bAcc_over hp hM hF ha h m (by omega)
    obtain ⟨h4, h5, h6⟩ := relax1_over hp hM hF (b := m + 1) ha hm h1
    refine ⟨h4, fun k hk => Int.le_trans (h5 k hk) (h2 k hk), fun hle b hb0 hb => ?_⟩
    by_cases e : b = m + 1
    · subst e
      refine Int.le_trans h6 (rbyS_mono c p a (m + 1) ?_)
      exact Int.le_trans (h2 a ha) hle
    · exact Int.le_trans (h5 b (by omega)) (h3 hle b hb0 (by omega))
theorem aAcc_over (hp : GoodP p) (hM : ∀ i k : Nat, i < N → k < N → ∀ d, byS N E p i d k = rbyS c p i d k) (hF : Fixed N E p F) {out : List Int} (h : Over N F out) : ∀ m, m ≤ N →
    Over N F (aAcc N c p out m) ∧ (∀ k, k < N → at0 (aAcc N c p out m) k ≤ at0 out k) ∧ (∀ a, a < m → at0 out a ≤ at0 F a → ∀ b, 0 < b → b < N → at0 (aAcc N c p out m) b ≤ rbyS c p a (at0 F a) b)
  | 0, _ => ⟨h, fun k hk => Int.le_refl _, fun a h0 => by omega⟩
  | m + 1, hm => by
    obtain ⟨h1, h2, h3⟩ := aAcc_over hp hM hF h m (by omega)
    obtain ⟨h4, h5, h6⟩ := bAcc_over hp hM hF (a := m) (by omega) h1 (N - 1) (by omega)
    refine ⟨h4, fun k hk => Int.le_trans (h5 k hk) (h2 k hk), fun a ha hle b hb0 hb => ?_⟩
    by_cases e : a = m
    · subst e
      exact h6 (Int.le_trans (h2 a (by omega)) hle) b hb0 (by omega)
    · exact Int.le_trans (h5 b hb) (h3 a (by omega) hle b hb0 hb)
/-- how many lie below a node's value -/
def below (N : Nat) (F : List Int) (b : Nat) : Nat := ((List.range N).filter fun a => decide (at0 F a < at0 F b)).length
theorem below_lt {a b : Nat} (ha : a < N) (h : at0 F a < at0 F b) : below N F a < below N F b := by
  unfold below
  have hsub : ∀ l : List Nat, a ∈ l → l.Nodup → ((l.filter fun x => decide (at0 F x < at0 F a)).length < (l.filter fun x => decide (at0 F x < at0 F b)).length) := by
    intro l hal hnd
    have h1 : ∀ l : List Nat, (l.filter fun x => decide (at0 F x < at0 F a)).length ≤ (l.filter fun x => decide (at0 F x < at0 F b)).length := by
      intro l
      induction l with
      | nil => simp
      | cons y l ih =>
        simp only [List.filter_cons]
        by_cases hy : at0 F y < at0 F a
        · simp [hy, show at0 F y < at0 F b by omega]; exact ih
        · by_cases hy2 : at0 F y < at0 F b
          · simp [hy, hy2]; omega
          · simp [hy, hy2]; exact ih
    induction l with
    | nil => cases hal
    | cons y l ih =>
      simp only [List.filter_cons]
      by_cases e : y = a
      · subst e
        simp [h]
        exact Nat.lt_succ_of_le (h1 l)
      · have hal' : a ∈ l := by
          rcases List.mem_cons.1 hal with h2 | h2
          · exact absurd h2.symm e
          · exact h2
        have := ih hal' (List.nodup_cons.1 hnd).2
        by_cases hy : at0 F y < at0 F a
        · simp [hy, show at0 F y < at0 F b by omega]; exact this
        · by_cases hy2 : at0 F y < at0 F b
          · simp [hy, hy2]; omega
          · simp [hy, hy2]; exact this
  exact hsub (List.range N) (List.mem_range.2 ha) List.nodup_range
theorem below_N {b : Nat} (hb : b < N) : below N F b < N := by
  unfold below
  have h1 : ((List.range N).filter fun a => decide (at0 F a < at0 F b)).length < (List.range N).length := by
    have hle := List.length_filter_le (fun a => decide (at0 F a < at0 F b)) (List.range N)
    rcases Nat.lt_or_eq_of_le hle with h | h
    · exact h
    · have := List.length_filter_eq_length_iff.1 h b (List.mem_range.2 hb)
      simp at this
  simpa using h1
theorem rAcc_over (hp : GoodP p) (hM : ∀ i k : Nat, i < N → k < N → ∀ d, byS N E p i d k = rbyS c p i d k) (hF : Fixed N E p F) (hN : 0 < N) : ∀ m,
    Over N F (rAcc N c p ((List.replicate N (65535 : Int)).set 0 p.l) m) ∧ at0 (rAcc N c p ((List.replicate N (65535 : Int)).set 0 p.l) m) 0 ≤ p.l ∧ ∀ b, b < N → below N F b ≤ m → at0 (rAcc N c p ((List.replicate N (65535 : Int)).set 0 p.l) m) b ≤ at0 F b
  | 0 => by
    have hl := hp.l
    have hs := start_ok (N := N) hp
    have hat := fun k hk => at0_start hN p.l k hk
    refine ⟨⟨hs, fun k hk => ?_⟩, by show at0 ((List.replicate N (65535 : Int)).set 0 p.l) 0 ≤ p.l; rw [hat 0 hN]; simp, fun b hb hbl => ?_⟩
    · show at0 F k ≤ at0 ((List.replicate N (65535 : Int)).set 0 p.l) k
      rw [hat k hk]
      split
      · rename_i e; subst e; rw [hF.root]; exact Int.le_refl _
      · exact (hF.rng _ (getD_mem (by rw [hF.len]; exact hk))).2
    · show at0 ((List.replicate N (65535 : Int)).set 0 p.l) b ≤ at0 F b
      rw [hat b hb]
      split
      · rename_i e; subst e; rw [hF.root]; exact Int.le_refl _
      · rename_i e
        by_cases hlb : at0 F b < 65535
        · obtain ⟨i, hi, h1, -⟩ := hF.par b (by omega) hb hlb
          have := below_lt hi h1
          omega
        · omega
  | m + 1 => by
    obtain ⟨h1, h2, h3⟩ := rAcc_over hp hM hF hN m
    obtain ⟨h4, h5, h6⟩ := aAcc_over hp hM hF h1 N (Nat.le_refl _)
    refine ⟨h4, Int.le_trans (h5 0 hN) h2, fun b hb hbl => ?_⟩
    show at0 (aAcc N c p (rAcc N c p _ m) N) b ≤ at0 F b
    by_cases hb0 : b = 0
    · subst hb0
      rw [hF.root]
      exact Int.le_trans (h5 0 hN) h2
    · by_cases hlb : at0 F b < 65535
      · obtain ⟨i, hi, hlt, he⟩ := hF.par b (by omega) hb hlb
        have := below_lt hi hlt
        have h7 := h6 i hi (h3 i hi (by omega)) b (by omega) hb
        rw [he, hM i b hi hb]
        exact h7
      · have := h4.ok.at hb
        unfold at0 at *
        omega
/-- the two answers are one -/
theorem ranks_eq (hp : GoodP p) (hN : 1 ≤ N ∧ N ≤ 8) (hM : ∀ i k : Nat, i < N → k < N → ∀ d, byS N E p i d k = rbyS c p i d k) : ranksS N E p = ranksR N c p := by
  have hF := ranks_fixed (E := E) hp hN
  obtain ⟨h1, h2, h3⟩ := rAcc_over (F := ranksS N E p) hp hM hF (by omega) N
  apply List.ext_getElem
  · rw [hF.len]; exact h1.ok.1.symm
  · intro k hk hk2
    have hkN : k < N := by rw [hF.len] at hk; exact hk
    have h4 := h1.over k hkN
    have h5 := h3 k hkN (Nat.le_of_lt (below_N hkN))
    have h6 : at0 (ranksS N E p) k = at0 (ranksR N c p) k := by unfold ranksR; omega
    unfold at0 at h6
    simpa [List.getD_eq_getElem?_getD, hk, hk2] using h6
end

end Go.Proofs.Ytobbjdindknkdaa
