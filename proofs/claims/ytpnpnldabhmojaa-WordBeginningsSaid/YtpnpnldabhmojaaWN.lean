/- Part of a proof by symbolic walks on plain data. -/
import Derived.Test.YtpnpnldabhmojaaW3
import Derived.Test.YtpnpnldabhmojaaW1
set_option linter.unusedVariables false
set_option linter.unusedSimpArgs false
namespace Go.Av
open Go Go.RowKit Go.Proofs

def lt (a b : Inter) : Bool := decide (cmpL (key a) (key b) < 0)

theorem lt_less (a b : Inter) : lt a b = less a b := by
  unfold lt less key
  simp only [cmpL, cmpI]
  by_cases h1 : a.from_ = b.from_
  · by_cases h2 : a.to = b.to
    · simp only [h1, h2]
      by_cases h3 : a.label < b.label
      · simp [h3]
      · by_cases h4 : b.label < a.label <;> simp [h3, h4]
    · simp only [h1]
      by_cases h3 : a.to < b.to
      · simp [h2, h3]
      · have h4 : b.to < a.to := by omega
        simp [h2, h3, h4]
  · by_cases h3 : a.from_ < b.from_
    · simp [h1, h3]
    · have h4 : b.from_ < a.from_ := by omega
      simp [h1, h3, h4]

theorem indep_comm (a b : Inter) : indep a b = indep b a := by
  unfold indep
  rw [Bool.eq_iff_iff]
  simp
  omega

def freeAt (l : List Inter) (i : Nat) : Bool :=
  match l[i]? with
  | some x => (l.take i).all (indep x)
  | none => false

def bestStep (l : List Inter) (b i : Nat) : Nat :=
  match l[i]?, l[b]? with
  | some x, some y => if freeAt l i && lt x y then i else b
  | _, _ => b

def bestTo (l : List Inter) (k : Nat) : Nat := (List.range k).foldl (bestStep l) 0

theorem bestTo_succ (l : List Inter) (k : Nat) : bestTo l (k + 1) = bestStep l (bestTo l k) k := by
  simp [bestTo, List.range_succ, List.foldl_append]

theorem bestStep_lt {l : List Inter} {b i : Nat} (hb : b < l.length) : bestStep l b i < l.length := by
  unfold bestStep
  split
  · rename_i h1 h2
    split
    · exact (List.getElem?_eq_some_iff.1 h1).1
    · exact hb
  · exact hb

theorem bestTo_lt {l : List Inter} (hl : 0 < l.length) : ∀ k, bestTo l k < l.length
  | 0 => hl
  | k + 1 => by rw [bestTo_succ]; exact bestStep_lt (bestTo_lt hl k)

def best (l : List Inter) : Nat := bestTo l l.length

def normalN : Nat → List Inter → List Inter
  | 0, _ => []
  | n + 1, l => match l[best l]? with
    | some x => x :: normalN n (l.eraseIdx (best l))
    | none => []

def normal (l : List Inter) : List Inter := normalN l.length l

theorem normal_nil : normal [] = [] := rfl
theorem normal_cons {l : List Inter} (hl : best l < l.length) : normal l = l[best l] :: normal (l.eraseIdx (best l)) := by
  obtain ⟨n, hn⟩ : ∃ n, l.length = n + 1 := ⟨l.length - 1, by omega⟩
  have h2 : (l.eraseIdx (best l)).length = n := by rw [List.length_eraseIdx, if_pos hl]; omega
  have h3 : l[best l]? = some l[best l] := List.getElem?_eq_getElem hl
  unfold normal
  rw [hn, h2]
  simp only [normalN, h3]

theorem normal_len : ∀ (n : Nat) (l : List Inter), l.length = n → (normal l).length = n
  | 0, l, h => by
    have : l = [] := List.eq_nil_of_length_eq_zero h
    subst this
    rfl
  | n + 1, l, h => by
    have hb : best l < l.length := bestTo_lt (by omega) _
    rw [normal_cons hb, List.length_cons, normal_len n _ (by rw [List.length_eraseIdx, if_pos hb]; omega)]

theorem eraseIdx_eq (l : List Inter) (b : Nat) : l.eraseIdx b = l.take b ++ l.drop (b + 1) := by
  rw [List.eraseIdx_eq_take_drop_succ]

end Go.Av
