/- Part of a proof by symbolic walks on plain data. -/
import Derived.Test.YtpnpnldabhmojaaWM
import Derived.Test.YtpnpnldabhmojaaW10
set_option linter.unusedVariables false
set_option linter.unusedSimpArgs false
namespace Go.Av
open Go Go.RowKit Go.Proofs

def restOf (H : List (List Ev)) (A : List Nat) : List (List Ev) := (List.range H.length).map fun i => (H[i]?.getD []).drop (A[i]?.getD 0)

theorem restOf_len (H : List (List Ev)) (A : List Nat) : (restOf H A).length = H.length := by simp [restOf]
theorem restOf_get {H : List (List Ev)} {A : List Nat} (hA : A.length = H.length) {i : Nat} (hi : i < H.length) : (restOf H A)[i]'(by rw [restOf_len]; exact hi) = H[i].drop (A[i]'(by omega)) := by
  simp [restOf, hi, hA]

theorem restOf_zero (H : List (List Ev)) : restOf H (List.replicate H.length 0) = H := by
  apply List.ext_getElem
  · simp [restOf]
  · intro i h1 h2
    simp [restOf, h2]

def bump (A : List Nat) (i : Nat) : List Nat := A.set i (A[i]?.getD 0 + 1)
theorem bump_len (A : List Nat) (i : Nat) : (bump A i).length = A.length := by simp [bump]

theorem bump_get {A : List Nat} {i p : Nat} (hi : i < A.length) (hp : p < A.length) (hne : i ≠ p) {j : Nat} (hj : j < A.length) (hj' : j < (bump (bump A i) p).length) : (bump (bump A i) p)[j] = if p = j then A[p] + 1 else if i = j then A[i] + 1 else A[j] := by
  have e2 : A[i]?.getD 0 = A[i] := by rw [List.getElem?_eq_getElem hi]; rfl
  have e1 : (bump A i)[p]?.getD 0 = A[p] := by
    unfold bump
    rw [List.getElem?_set_ne hne, List.getElem?_eq_getElem hp]
    rfl
  have h : (bump (bump A i) p)[j]? = some (if p = j then A[p] + 1 else if i = j then A[i] + 1 else A[j]) := by
    have eb : bump (bump A i) p = (bump A i).set p (A[p] + 1) := by
      conv => lhs; unfold bump
      rw [← e1]
      rfl
    have eb2 : bump A i = A.set i (A[i] + 1) := by unfold bump; rw [e2]
    rw [eb, eb2]
    by_cases h1 : p = j
    · subst h1
      rw [if_pos rfl, List.getElem?_set_self (by simpa using hp)]
    · rw [if_neg h1, List.getElem?_set_ne h1]
      by_cases h2 : i = j
      · subst h2
        rw [if_pos rfl, List.getElem?_set_self hi]
      · rw [if_neg h2, List.getElem?_set_ne h2, List.getElem?_eq_getElem hj]
  have h3 := List.getElem?_eq_getElem hj'
  rw [h] at h3
  injection h3 with h3
  exact h3.symm

theorem restOf_bump {H : List (List Ev)} {A : List Nat} (hA : A.length = H.length) {a : Inter} {i p : Nat} {x y : Ev} {tx ty : List Ev} (hi : i < (restOf H A).length) (hp : p < (restOf H A).length) (hne : i ≠ p) (h1 : a.from_ = i) (h2 : a.to = p) (hx : (restOf H A)[i] = x :: tx) (hy : (restOf H A)[p] = y :: ty) :
    stepM (restOf H A) a = restOf H (bump (bump A i) p) := by
  rw [stepM_eq hi hp h1 h2 hx hy]
  rw [restOf_len] at hi hp
  rw [restOf_get hA hi] at hx
  rw [restOf_get hA hp] at hy
  have hb : (bump (bump A i) p).length = H.length := by rw [bump_len, bump_len, hA]
  apply List.ext_getElem
  · simp [restOf_len]
  · intro j g1 g2
    rw [restOf_len] at g2
    rw [List.getElem_set, List.getElem_set, restOf_get hb g2]
    have hbj : (bump (bump A i) p)[j]'(by omega) = if p = j then A[p]'(by omega) + 1 else if i = j then A[i]'(by omega) + 1 else A[j]'(by omega) := by
      have e1 : (bump A i)[p]?.getD 0 = A[p]'(by omega) := by
        unfold bump
        rw [List.getElem?_set_ne hne, List.getElem?_eq_getElem (by omega)]
        rfl
      have e2 : A[i]?.getD 0 = A[i]'(by omega) := by rw [List.getElem?_eq_getElem (by omega)]; rfl
      unfold bump at e1 ⊢
      rw [List.getElem_set, List.getElem_set]
      rw [e2] at e1
      simp only [e2, e1]
    rw [hbj]
    by_cases e : p = j
    · subst e
      rw [if_pos rfl, if_pos rfl, ← List.tail_drop, hy]
      rfl
    · rw [if_neg e, if_neg e]
      by_cases e2 : i = j
      · subst e2
        rw [if_pos rfl, if_pos rfl, ← List.tail_drop, hx]
        rfl
      · rw [if_neg e2, if_neg e2, restOf_get hA g2]

theorem drop_cons {l : List Ev} {k : Nat} (h : k < l.length) : l.drop k = l[k] :: l.drop (k + 1) := List.drop_eq_getElem_cons h

def encA (k : Nat) : List DV := [.int .i64 (k : Int)]
theorem encA_len (k : Nat) : (encA k).length = 1 := rfl

theorem total_zero {R : List (List Ev)} (h : total R = 0) : ∀ i (hi : i < R.length), R[i] = [] := by
  intro i hi
  have hm : R[i].length ∈ R.map List.length := List.mem_map.2 ⟨_, List.getElem_mem hi, rfl⟩
  have : ∀ (l : List Nat), l.sum = 0 → ∀ x ∈ l, x = 0 := by
    intro l
    induction l with
    | nil => intro _ x hx; cases hx
    | cons y l ih =>
      intro hs x hx
      rw [List.sum_cons] at hs
      rcases List.mem_cons.1 hx with rfl | hx
      · omega
      · exact ih (by omega) x hx
  exact List.eq_nil_of_length_eq_zero (this _ h _ hm)

theorem total_pos {R : List (List Ev)} {i : Nat} (hi : i < R.length) (h : R[i] ≠ []) : total R ≠ 0 := fun h0 => h (total_zero h0 i hi)

theorem total_nil {R : List (List Ev)} (h : ∀ i (hi : i < R.length), R[i] = []) : total R = 0 := by
  unfold total
  have : R.map List.length = List.replicate R.length 0 := by
    apply List.ext_getElem
    · simp
    · intro i h1 h2
      simp only [List.length_map] at h1
      simp [h i h1]
  rw [this]
  simp
end Go.Av
