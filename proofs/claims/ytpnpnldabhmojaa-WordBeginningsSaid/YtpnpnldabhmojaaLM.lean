/- Part of a proof by symbolic walks on plain data. -/
import Derived.Test.YtpnpnldabhmojaaMM
import Derived.Test.YtpnpnldabhmojaaW12
set_option linter.unusedVariables false
set_option linter.unusedSimpArgs false
namespace Go.Av
open Go

/-- The labels of what one role sends to another. -/
def chan (l : List Inter) (p q : Int) : List Int := l.flatMap fun x => if x.from_ = p ∧ x.to = q then [x.label] else []

theorem labels_append (a b : List Ev) (s : Bool) (p : Int) : labelsOf (a ++ b) s p = labelsOf a s p ++ labelsOf b s p := by
  simp [labelsOf]

theorem labels_ev1_send (x : Inter) (p q : Int) : labelsOf (ev1 p x) true q = if x.from_ = p ∧ x.to = q then [x.label] else [] := by
  unfold ev1 labelsOf
  by_cases h1 : x.from_ = p
  · by_cases h2 : x.to = p
    · simp [h1, h2, lab]
    · simp [h1, h2, lab]
  · by_cases h2 : x.to = p
    · simp [h1, h2, lab]
    · simp [h1, h2]

theorem labels_ev1_recv (x : Inter) (p q : Int) : labelsOf (ev1 q x) false p = if x.from_ = p ∧ x.to = q then [x.label] else [] := by
  unfold ev1 labelsOf
  by_cases h1 : x.from_ = q
  · by_cases h2 : x.to = q
    · simp [h1, h2, lab]
    · simp [h1, h2, lab]
  · by_cases h2 : x.to = q
    · by_cases h3 : x.from_ = p <;> simp [h1, h2, h3, lab]
    · simp [h1, h2]

theorem labels_project_send (l : List Inter) (p q : Int) : labelsOf (project l p) true q = chan l p q := by
  induction l with
  | nil => rfl
  | cons x l ih =>
    rw [project_cons, labels_append, ih, labels_ev1_send]
    rfl

theorem labels_project_recv (l : List Inter) (p q : Int) : labelsOf (project l q) false p = chan l p q := by
  induction l with
  | nil => rfl
  | cons x l ih =>
    rw [project_cons, labels_append, ih, labels_ev1_recv]
    rfl

theorem sum_map_add {α : Type} (f g : α → Nat) : ∀ (l : List α), (l.map fun x => f x + g x).sum = (l.map f).sum + (l.map g).sum
  | [] => rfl
  | x :: l => by
    simp only [List.map_cons, List.sum_cons, sum_map_add f g l]
    omega

theorem one_pair (a b : Int) (h1 : 0 ≤ a) (h2 : a < 6) (h3 : 0 ≤ b) (h4 : b < 6) : (((List.range 6).map fun (p : Nat) => ((List.range 6).map fun (q : Nat) => if a = p ∧ b = q then 1 else 0).sum).sum) = 1 := by
  have g1 := six _ h1 h2
  have g2 := six _ h3 h4
  rcases g1 with rfl | rfl | rfl | rfl | rfl | rfl <;> rcases g2 with rfl | rfl | rfl | rfl | rfl | rfl <;> decide

theorem chan_total : ∀ {l : List Inter}, (∀ x ∈ l, okI x = true) → ((List.range 6).map fun (p : Nat) => ((List.range 6).map fun (q : Nat) => (chan l p q).length).sum).sum = l.length
  | [], _ => by decide
  | x :: l, h => by
    obtain ⟨h1, h2, h3, h4, _⟩ := (okI_iff x).1 (h x (by simp))
    have ih := chan_total (l := l) fun y hy => h y (by simp [hy])
    have e : ∀ (p q : Nat), (chan (x :: l) p q).length = (if x.from_ = p ∧ x.to = q then 1 else 0) + (chan l p q).length := by
      intro p q
      simp only [chan, List.flatMap_cons, List.length_append]
      split <;> rfl
    simp only [e, sum_map_add, ih, one_pair _ _ h1 h2 h3 h4, List.length_cons]
    omega

theorem total_mem {H : List (List Ev)} {l : List Ev} (h : l ∈ H) : l.length ≤ total H := by
  induction H with
  | nil => cases h
  | cons x H ih =>
    simp only [total, List.map_cons, List.sum_cons] at ih ⊢
    rcases List.mem_cons.1 h with rfl | h
    · omega
    · have := ih h
      omega

/-- The histories with a further event. -/
def opened (l : List Inter) (r p : Nat) : List (List Ev) := (hists l 6).set r (project l r ++ [⟨r, true, p, 3, none⟩])

theorem opened_len (l : List Inter) (r p : Nat) : (opened l r p).length = 6 := by simp [opened, hists_len]

theorem opened_get (l : List Inter) (r p : Nat) {i : Nat} (hi : i < 6) : (opened l r p)[i]? = some (if r = i then project l i ++ [⟨i, true, p, 3, none⟩] else project l i) := by
  unfold opened
  rw [List.getElem?_set]
  split
  · rename_i e
    subst e
    rw [if_pos (by rw [hists_len]; exact hi)]
  · exact hists_get l hi

theorem opened_got (l : List Inter) (r p : Nat) {a b : Nat} (hb : b < 6) : gotOf (opened l r p) a b = chan l a b := by
  unfold gotOf
  rw [opened_get l r p hb, Option.getD_some]
  split
  · rw [labels_append, labels_project_recv]
    simp [labelsOf, lab]
  · exact labels_project_recv _ _ _

theorem opened_sent (l : List Inter) (r p : Nat) {a b : Nat} (ha : a < 6) : ∃ t, sentOf (opened l r p) a b = chan l a b ++ t := by
  unfold sentOf
  rw [opened_get l r p ha, Option.getD_some]
  split
  · rw [labels_append, labels_project_send]
    exact ⟨_, rfl⟩
  · exact ⟨[], by rw [labels_project_send]; simp⟩

theorem opened_proper {l : List Inter} (h : ∀ x ∈ l, okI x = true) {r p : Nat} (hr : r < 6) (hp : p < 6) (hne : r ≠ p) : properH (opened l r p) = true := by
  unfold properH
  rw [opened_len]
  simp only [Bool.and_eq_true, List.all_eq_true, List.mem_range]
  refine ⟨fun i hi => ?_, by decide⟩
  rw [opened_get l r p hi, Option.getD_some]
  have h0 : okH 6 i (project l i) = true := by
    have := hists_ok h i (by rw [hists_len]; exact hi)
    rw [hists_getE, hists_len] at this
    exact this
  split
  · rename_i e
    subst e
    unfold okH at h0 ⊢
    rw [List.all_append, h0]
    simp [okE]
    omega
  · exact h0

theorem opened_matched {l : List Inter} (h : ∀ x ∈ l, okI x = true) {r p : Nat} (hr : r < 6) (hp : p < 6) (hne : r ≠ p) : matched (opened l r p) = some l.length := by
  unfold matched
  rw [opened_proper h hr hp hne, pairs_yes, sumGot]
  · simp only [rowGot, opened_len, Bool.and_true, if_true, Option.some.injEq]
    have e : ((List.range 6).map fun (a : Nat) => ((List.range 6).map fun (b : Nat) => (gotOf (opened l r p) a b).length).sum) = ((List.range 6).map fun (a : Nat) => ((List.range 6).map fun (b : Nat) => (chan l a b).length).sum) := by
      refine List.map_congr_left fun a _ => ?_
      congr 1
      refine List.map_congr_left fun b hb => ?_
      rw [opened_got l r p (by simpa using hb)]
    rw [e, chan_total h]
  · intro a b ha hb
    rw [opened_len] at ha hb
    unfold okPair
    obtain ⟨t, ht⟩ := opened_sent l r p (b := b) ha
    rw [opened_got l r p hb, ht, List.take_left]
    simp

theorem mergeN_len : ∀ (n : Nat) (R : List (List Ev)) (m : List Inter), okR R → mergeN n R = some m → 2 * m.length = total R
  | 0, R, m, _, h => by
    simp only [mergeN] at h
    split at h
    · rename_i h0
      injection h with h; subst h; simp [h0]
    · cases h
  | n + 1, R, m, hR, h => by
    simp only [mergeN] at h
    split at h
    · rename_i h0
      injection h with h; subst h; simp [h0]
    · split at h
      · rename_i a hb
        have ht := step_total hR hb
        cases hm : mergeN n (stepM R a) with
        | none => rw [hm] at h; cases h
        | some m' =>
          rw [hm] at h
          simp only [Option.map_some, Option.some.injEq] at h
          subst h
          have := mergeN_len n _ _ (okR_step hR hb) hm
          simp only [List.length_cons]
          omega
      · cases h

theorem properH_ok {H : List (List Ev)} (hp : properH H = true) : okR H := by
  intro i hi
  unfold properH at hp
  simp only [Bool.and_eq_true, List.all_eq_true] at hp
  have := hp.1 i (by simp [hi])
  simpa [hi] using this

theorem merge_len2 {H : List (List Ev)} {m : List Inter} (h : merge H = some m) : 2 * m.length = total H := by
  unfold merge at h
  split at h
  · rename_i hp
    exact mergeN_len _ _ _ (properH_ok hp) h
  · cases h

theorem opened_total {l : List Inter} (h : ∀ x ∈ l, okI x = true) {r p : Nat} (hr : r < 6) : total (opened l r p) = 2 * l.length + 1 := by
  have h0 := hists_total h
  have hr' : r < (hists l 6).length := by rw [hists_len]; exact hr
  have := total_set (R := hists l 6) (i := r) (l := project l r ++ [⟨r, true, p, 3, none⟩]) hr'
  rw [hists_getE, List.length_append, List.length_singleton] at this
  unfold opened
  omega

theorem opened_merge {l : List Inter} (h : ∀ x ∈ l, okI x = true) {r p : Nat} (hr : r < 6) : merge (opened l r p) = none := by
  cases hm : merge (opened l r p) with
  | none => rfl
  | some m =>
    have h1 := merge_len2 hm
    have h2 := opened_total h (p := p) hr
    omega
end Go.Av
