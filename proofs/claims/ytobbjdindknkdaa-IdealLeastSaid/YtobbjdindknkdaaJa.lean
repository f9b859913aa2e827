/- The search in plain words, and what its state keeps. -/
import Derived.Test.YtobbjdindknkdaaJ9
import Derived.Test.YtobbjdindknkdaaI6
namespace Go.Proofs.Ytobbjdindknkdaa
open Go Go.RowKit
set_option linter.unusedSimpArgs false
set_option linter.unusedVariables false

/-! ### the search, in plain words -/
abbrev RS := List Int × List Job × Int
def relaxS (n : Int) (E : List Link) (p : Pol) (i d : Int) : List Int → RS → RS
  | [], s => s
  | k :: ks, s => if byS n E p i d k < s.1.getD k.toNat 0 then relaxS n E p i d ks (s.1.set k.toNat (byS n E p i d k), addJ s.2.1 (byS n E p i d k, k, s.2.2), wrap64 (s.2.2 + 1)) else relaxS n E p i d ks s
def lookS (n : Int) (E : List Link) (p : Pol) : Nat → RS → List Int
  | 0, s => s.1
  | f + 1, s => match s.2.1[0]? with
    | none => s.1
    | some a => if s.1.getD a.2.1.toNat 0 < a.1 then lookS n E p f (s.1, takeJ s.2.1, s.2.2) else lookS n E p f (relaxS n E p a.2.1 a.1 (nbS n E a.2.1) (s.1, takeJ s.2.1, s.2.2))
theorem lookS_end (n : Int) (E : List Link) (p : Pol) (f : Nat) {s : RS} (h : s.2.1 = []) : lookS n E p f s = s.1 := by
  cases f with
  | zero => rfl
  | succ f => rw [lookS, h]; rfl
/-- what a state keeps -/
structure RInv (n : Int) (s : RS) : Prop where
  len : s.1.length = n.toNat
  out : ∀ x ∈ s.1, 0 ≤ x ∧ x ≤ 65535
  job : ∀ j ∈ s.2.1, (0 ≤ j.2.1 ∧ j.2.1 < n) ∧ 0 ≤ j.1 ∧ j.1 ≤ 65535
def mu (s : RS) : Nat := s.2.1.length + s.1.sum.toNat
theorem sum_set : ∀ (l : List Int) (k : Nat) (v : Int), k < l.length → (l.set k v).sum = l.sum - l.getD k 0 + v
  | [], k, v, h => by simp at h
  | x :: l, 0, v, h => by simp [List.sum_cons]; omega
  | x :: l, k + 1, v, h => by
    have := sum_set l k v (by simpa using h)
    simp only [List.set_cons_succ, List.sum_cons, List.getD_cons_succ, this]
    omega
theorem sum_nonneg : ∀ (l : List Int), (∀ x ∈ l, 0 ≤ x) → 0 ≤ l.sum
  | [], _ => by simp
  | x :: l, h => by
    have h1 := h x (by simp)
    have h2 := sum_nonneg l (fun y hy => h y (by simp [hy]))
    rw [List.sum_cons]; omega
theorem sum_le : ∀ (l : List Int), (∀ x ∈ l, x ≤ 65535) → l.sum ≤ 65535 * l.length
  | [], _ => by simp
  | x :: l, h => by
    have h1 := h x (by simp)
    have h2 := sum_le l (fun y hy => h y (by simp [hy]))
    rw [List.sum_cons, List.length_cons]; omega
theorem addJ_length (js : List Job) (j : Job) : (addJ js j).length = js.length + 1 := by simpa using (add_perm js j).length_eq
theorem takeJ_length {js : List Job} {a : Job} (ha : js[0]? = some a) : js.length = (takeJ js).length + 1 := by simpa using (take_perm ha).length_eq
theorem getD_mem {l : List Int} {k : Nat} (h : k < l.length) : l.getD k 0 ∈ l := by
  rw [List.getD_eq_getElem?_getD, List.getElem?_eq_getElem h]
  exact List.getElem_mem h
theorem RInv.take {n : Int} {s : RS} (h : RInv n s) {a : Job} (ha : s.2.1[0]? = some a) : RInv n (s.1, takeJ s.2.1, s.2.2) ∧ mu (s.1, takeJ s.2.1, s.2.2) + 1 = mu s ∧ ((0 ≤ a.2.1 ∧ a.2.1 < n) ∧ 0 ≤ a.1 ∧ a.1 ≤ 65535) := by
  have hp := take_perm ha
  have hl := takeJ_length ha
  refine ⟨⟨h.len, h.out, fun j hj => h.job j (hp.mem_iff.2 (by simp [hj]))⟩, ?_, h.job a (List.mem_of_getElem? ha)⟩
  unfold mu
  simp only
  omega
theorem RInv.add {n : Int} {s : RS} (h : RInv n s) {k v : Int} (hk : 0 ≤ k ∧ k < n) (hv : 0 ≤ v ∧ v ≤ 65535) (hlt : v < s.1.getD k.toNat 0) :
    RInv n (s.1.set k.toNat v, addJ s.2.1 (v, k, s.2.2), wrap64 (s.2.2 + 1)) ∧ mu (s.1.set k.toNat v, addJ s.2.1 (v, k, s.2.2), wrap64 (s.2.2 + 1)) ≤ mu s := by
  have hkl : k.toNat < s.1.length := by rw [h.len]; omega
  refine ⟨⟨by simpa using h.len, ?_, ?_⟩, ?_⟩
  · intro x hx
    rcases List.mem_or_eq_of_mem_set hx with h1 | h1
    · exact h.out x h1
    · rw [h1]; exact hv
  · intro j hj
    have := (add_perm s.2.1 (v, k, s.2.2)).mem_iff.1 hj
    rcases List.mem_append.1 this with h1 | h1
    · exact h.job j h1
    · rw [List.mem_singleton.1 h1]; exact ⟨hk, hv⟩
  · have hs := sum_set s.1 k.toNat v hkl
    have h0 := sum_nonneg (s.1.set k.toNat v) (fun x hx => by
      rcases List.mem_or_eq_of_mem_set hx with h1 | h1
      · exact (h.out x h1).1
      · rw [h1]; exact hv.1)
    unfold mu
    simp only [addJ_length]
    omega
theorem RInv.bound {n : Int} {s : RS} (h : RInv n s) {m : Nat} (hm : mu s ≤ m) : s.2.1.length ≤ m := by unfold mu at hm; omega
theorem byS_range {n : Int} {E : List Link} {p : Pol} (hp : GoodP p) (i d k : Int) (hd : 0 ≤ d ∧ d ≤ 65535) : (0 ≤ byS n E p i d k ∧ byS n E p i d k ≤ 65535) ∧ (d < byS n E p i d k ∨ byS n E p i d k = 65535) := by
  unfold byS
  split
  · have := rank_range (c := (costS n E i k).1) hp.f hp.s hp.l hd
    omega
  · omega
theorem nbTo_mem (n : Int) (E : List Link) (i : Int) (x : Int) : ∀ k : Nat, x ∈ nbTo n E i k ↔ (0 ≤ x ∧ x < k ∧ (costS n E i x).2 = 0)
  | 0 => by simp [nbTo]; omega
  | k + 1 => by
    rw [nbTo, List.mem_append, nbTo_mem n E i x k]
    by_cases hx : x = k
    · subst hx
      split <;> simp [*] <;> omega
    · split <;> simp [hx] <;> omega
theorem nbS_mem {n : Int} {E : List Link} {i x : Int} (hn : 0 ≤ n) : x ∈ nbS n E i ↔ (0 ≤ x ∧ x < n ∧ (costS n E i x).2 = 0) := by
  rw [nbS, nbTo_mem]
  omega
/-- nodes are told as they are reached -/
def startS (n : Int) (p : Pol) : RS := ((List.replicate n.toNat (65535 : Int)).set 0 p.l, addJ [] (p.l, 0, 0), wrap64 (0 + 1))
def ranksS (n : Int) (E : List Link) (p : Pol) : List Int := lookS n E p 1000000 (startS n p)
theorem start_inv {n : Int} {p : Pol} (hn : 1 ≤ n ∧ n ≤ 8) (hp : GoodP p) : RInv n (startS n p) ∧ mu (startS n p) ≤ 600000 := by
  have h1 : RInv n (List.replicate n.toNat (65535 : Int), [], 0) := ⟨by simp, fun x hx => by rw [(List.mem_replicate.1 hx).2]; omega, fun j hj => by cases hj⟩
  have hs := sum_le (List.replicate n.toNat (65535 : Int)) (fun x hx => by rw [(List.mem_replicate.1 hx).2]; omega)
  have hl := hp.l
  have hout : ∀ x ∈ (startS n p).1, 0 ≤ x ∧ x ≤ 65535 := fun x hx => by
    rcases List.mem_or_eq_of_mem_set hx with h2 | h2
    · exact h1.out x h2
    · rw [h2]; omega
  have hs := sum_le (startS n p).1 (fun x hx => (hout x hx).2)
  have hlen : (startS n p).1.length = n.toNat := by simp [startS]
  refine ⟨⟨hlen, hout, ?_⟩, ?_⟩
  · intro j hj
    have := (add_perm [] (p.l, 0, 0)).mem_iff.1 hj
    simp at this
    rw [this]
    show (0 ≤ (0 : Int) ∧ (0 : Int) < n) ∧ 0 ≤ p.l ∧ p.l ≤ 65535
    omega
  · have h3 : (startS n p).2.1.length = 1 := addJ_length [] _
    unfold mu
    omega

end Go.Proofs.Ytobbjdindknkdaa
