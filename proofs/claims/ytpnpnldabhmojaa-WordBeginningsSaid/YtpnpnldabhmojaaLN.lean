/- Part of a proof by symbolic walks on plain data. -/
import Derived.Test.YtpnpnldabhmojaaLM
set_option linter.unusedVariables false
set_option linter.unusedSimpArgs false
namespace Go.Av
open Go

/-- The histories, the first k of them cut. -/
def cutTo (l : List Inter) (m : Nat → Nat) (k : Nat) : List (List Ev) := (List.range 6).map fun i => if i < k then (project l i).take (m i) else project l i

theorem cutTo_len (l : List Inter) (m : Nat → Nat) (k : Nat) : (cutTo l m k).length = 6 := by simp [cutTo]
theorem cutTo_zero (l : List Inter) (m : Nat → Nat) : cutTo l m 0 = hists l 6 := by simp [cutTo, hists]
theorem cutTo_get (l : List Inter) (m : Nat → Nat) (k : Nat) {i : Nat} (hi : i < 6) : (cutTo l m k)[i]? = some (if i < k then (project l i).take (m i) else project l i) := by simp [cutTo, hi]
theorem cutTo_set {l : List Inter} {m : Nat → Nat} {k : Nat} (hk : k < 6) : (cutTo l m k).set k ((project l k).take (m k)) = cutTo l m (k + 1) := by
  apply List.ext_getElem?
  intro i
  rw [List.getElem?_set]
  by_cases hi : i < 6
  · rw [cutTo_get _ _ _ hi, cutTo_get _ _ _ hi]
    by_cases e : k = i
    · subst e
      rw [if_pos rfl, if_pos (by rw [cutTo_len]; exact hk), if_pos (by omega)]
    · rw [if_neg e]
      by_cases h : i < k
      · rw [if_pos h, if_pos (by omega)]
      · rw [if_neg h, if_neg (by omega)]
  · have h1 : (cutTo l m k)[i]? = none := by rw [List.getElem?_eq_none]; rw [cutTo_len]; omega
    have h2 : (cutTo l m (k + 1))[i]? = none := by rw [List.getElem?_eq_none]; rw [cutTo_len]; omega
    rw [h1, h2, if_neg (by omega)]

def pairLe (H : List (List Ev)) (p r : Nat) : Bool := decide ((gotOf H p r).length ≤ (sentOf H p r).length)
def wRow (H : List (List Ev)) (r k : Nat) : Bool := (List.range k).all fun p => pairLe H p r
def wAll (H : List (List Ev)) (k : Nat) : Bool := (List.range k).all fun r => wRow H r 6
def gRow (H : List (List Ev)) (r k : Nat) : Nat := ((List.range k).map fun p => (gotOf H p r).length).sum
def gAll (H : List (List Ev)) (k : Nat) : Nat := ((List.range k).map fun r => gRow H r 6).sum

theorem wRow_succ (H : List (List Ev)) (r k : Nat) : wRow H r (k + 1) = (wRow H r k && pairLe H k r) := by simp [wRow, List.range_succ]
theorem wAll_succ (H : List (List Ev)) (k : Nat) : wAll H (k + 1) = (wAll H k && wRow H k 6) := by simp [wAll, List.range_succ]
theorem gRow_succ (H : List (List Ev)) (r k : Nat) : gRow H r (k + 1) = gRow H r k + (gotOf H k r).length := by simp [gRow, List.range_succ, List.sum_append]
theorem gAll_succ (H : List (List Ev)) (k : Nat) : gAll H (k + 1) = gAll H k + gRow H k 6 := by simp [gAll, List.range_succ, List.sum_append]

theorem sum_zero {α : Type} (l : List α) : (l.map fun _ => 0).sum = 0 := by
  induction l with
  | nil => rfl
  | cons x l ih => simpa using ih

theorem sum_swap {α β : Type} (f : α → β → Nat) : ∀ (l : List α) (m : List β), (l.map fun a => (m.map fun b => f a b).sum).sum = (m.map fun b => (l.map fun a => f a b).sum).sum
  | [], m => by simpa using (sum_zero m).symm
  | a :: l, m => by
    simp only [List.map_cons, List.sum_cons, sum_map_add, sum_swap f l m]

theorem labels_take (l : List Ev) (k : Nat) (s : Bool) (p : Int) : ∃ t, labelsOf l s p = labelsOf (l.take k) s p ++ t := by
  refine ⟨labelsOf (l.drop k) s p, ?_⟩
  rw [← labels_append, List.take_append_drop]

theorem cut_got (l : List Inter) (m : Nat → Nat) {a b : Nat} (hb : b < 6) : ∃ t, chan l a b = gotOf (cutTo l m 6) a b ++ t := by
  unfold gotOf
  rw [cutTo_get _ _ _ hb, Option.getD_some, if_pos hb, ← labels_project_recv]
  exact labels_take _ _ _ _

theorem cut_sent (l : List Inter) (m : Nat → Nat) {a b : Nat} (ha : a < 6) : ∃ t, chan l a b = sentOf (cutTo l m 6) a b ++ t := by
  unfold sentOf
  rw [cutTo_get _ _ _ ha, Option.getD_some, if_pos ha, ← labels_project_send]
  exact labels_take _ _ _ _

theorem prefix_take {α : Type} {c a b s t : List α} (h1 : c = a ++ s) (h2 : c = b ++ t) (h : a.length ≤ b.length) : a = b.take a.length := by
  have h3 : (a ++ s).take a.length = (b ++ t).take a.length := by rw [← h1, ← h2]
  rw [List.take_left, List.take_append_of_le_length h] at h3
  exact h3

theorem cut_pair (l : List Inter) (m : Nat → Nat) {a b : Nat} (ha : a < 6) (hb : b < 6) : okPair (cutTo l m 6) a b = pairLe (cutTo l m 6) a b := by
  obtain ⟨s, h1⟩ := cut_got l m (a := a) hb
  obtain ⟨t, h2⟩ := cut_sent l m (b := b) ha
  unfold okPair pairLe
  by_cases h : (gotOf (cutTo l m 6) a b).length ≤ (sentOf (cutTo l m 6) a b).length
  · have := prefix_take h1 h2 h
    simp only [h, decide_true]
    rw [decide_eq_true_eq]
    exact this
  · simp only [h, decide_false]
    rw [decide_eq_false_iff_not]
    intro e
    apply h
    have := congrArg List.length e
    rw [List.length_take] at this
    omega

theorem cut_proper {l : List Inter} (h : ∀ x ∈ l, okI x = true) (m : Nat → Nat) : properH (cutTo l m 6) = true := by
  unfold properH
  rw [cutTo_len]
  simp only [Bool.and_eq_true, List.all_eq_true, List.mem_range]
  refine ⟨fun i hi => ?_, by decide⟩
  rw [cutTo_get _ _ _ hi, Option.getD_some, if_pos hi]
  have h0 : okH 6 i (project l i) = true := by
    have := hists_ok h i (by rw [hists_len]; exact hi)
    rw [hists_getE, hists_len] at this
    exact this
  unfold okH at h0 ⊢
  rw [List.all_eq_true] at h0 ⊢
  exact fun x hx => h0 x (List.mem_of_mem_take hx)

theorem cut_matched {l : List Inter} (h : ∀ x ∈ l, okI x = true) (m : Nat → Nat) : matched (cutTo l m 6) = if wAll (cutTo l m 6) 6 then some (gAll (cutTo l m 6) 6) else none := by
  unfold matched
  rw [cut_proper h m, Bool.true_and]
  have e1 : pairsOk (cutTo l m 6) = wAll (cutTo l m 6) 6 := by
    rw [Bool.eq_iff_iff]
    simp only [pairsOk, wAll, wRow, cutTo_len, List.all_eq_true, List.mem_range]
    constructor
    · intro h r hr p hp
      rw [← cut_pair l m hp hr]
      exact h p hp r hr
    · intro h p hp r hr
      rw [cut_pair l m hp hr]
      exact h r hr p hp
  have e2 : sumGot (cutTo l m 6) (cutTo l m 6).length = gAll (cutTo l m 6) 6 := by
    simp only [sumGot, rowGot, gAll, gRow, cutTo_len]
    exact sum_swap _ _ _
  rw [e1, e2]

theorem got_le {H : List (List Ev)} {B : Nat} (hh : ∀ (i : Nat) (h : i < H.length), H[i].length ≤ B) (p r : Nat) : (gotOf H p r).length ≤ B := by
  unfold gotOf
  refine Nat.le_trans (labels_len _ _ _) ?_
  by_cases hq : r < H.length
  · simpa [hq] using hh r hq
  · simp [hq]
theorem gRow_le {H : List (List Ev)} {B : Nat} (hh : ∀ (i : Nat) (h : i < H.length), H[i].length ≤ B) (r : Nat) : ∀ k, gRow H r k ≤ k * B
  | 0 => by simp [gRow]
  | k + 1 => by
    have h1 := gRow_le hh r k
    have h2 := got_le hh k r
    rw [gRow_succ, Nat.succ_mul]
    omega
theorem gAll_le {H : List (List Ev)} {B : Nat} (hh : ∀ (i : Nat) (h : i < H.length), H[i].length ≤ B) : ∀ k, gAll H k ≤ k * (6 * B)
  | 0 => by simp [gAll]
  | k + 1 => by
    have h1 := gAll_le hh k
    have h2 := gRow_le hh k 6
    rw [gAll_succ, Nat.succ_mul]
    omega

theorem lab_count (s : Bool) (p : Int) (e : Ev) : (lab s p e).length = if e.send = s ∧ e.peer = p then 1 else 0 := by
  unfold lab
  split <;> rfl

theorem cut_short (l : List Inter) (m : Nat → Nat) {k i : Nat} {h : List Ev} (hh : (cutTo l m k)[i]? = some h) : h.length ≤ 2 * l.length := by
  have hi : i < 6 := by
    have := (List.getElem?_eq_some_iff.1 hh).1
    rwa [cutTo_len] at this
  rw [cutTo_get _ _ _ hi] at hh
  injection hh with hh
  subst hh
  have := project_len i l
  split
  · rw [List.length_take]; omega
  · exact this

theorem cut_vals (l : List Inter) (m : Nat → Nat) (k : Nat) : ∀ h ∈ cutTo l m k, ∀ x ∈ h, x.vals = none := by
  intro h hh x hx
  simp only [cutTo, List.mem_map] at hh
  obtain ⟨i, _, rfl⟩ := hh
  split at hx
  · exact project_vals l i x (List.mem_of_mem_take hx)
  · exact project_vals l i x hx
end Go.Av
