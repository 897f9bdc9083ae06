/- Part of a proof by symbolic walks on plain data. -/
import Derived.Test.YtpnpnldabhmojaaWN
set_option linter.unusedVariables false
set_option linter.unusedSimpArgs false
namespace Go.Av
open Go

def roles (x : Inter) (r : Int) : Prop := x.from_ = r ∨ x.to = r

theorem ev1_none {x : Inter} {r : Int} (h : ¬ roles x r) : ev1 r x = [] := by
  unfold roles at h
  unfold ev1
  rw [if_neg (fun e => h (.inl e)), if_neg (fun e => h (.inr e))]
  rfl

theorem indep_roles {x y : Inter} : indep x y = true ↔ ∀ r, roles x r → ¬ roles y r := by
  unfold indep roles
  constructor
  · intro h r hr hy
    simp at h
    rcases hr with rfl | rfl <;> rcases hy with hy | hy <;> omega
  · intro h
    have h1 := h x.from_ (.inl rfl)
    have h2 := h x.to (.inr rfl)
    simp
    omega

theorem project_nil_of {l : List Inter} {r : Int} (h : ∀ y ∈ l, ¬ roles y r) : project l r = [] := by
  unfold project
  rw [List.flatMap_eq_nil_iff]
  exact fun y hy => ev1_none (h y hy)

theorem project_app (a b : List Inter) (r : Int) : project (a ++ b) r = project a r ++ project b r := by simp [project]
theorem project_one (x : Inter) (r : Int) : project [x] r = ev1 r x := by simp [project]
theorem project_cons (x : Inter) (l : List Inter) (r : Int) : project (x :: l) r = ev1 r x ++ project l r := by simp [project]

/-- A free letter may come first. -/
theorem project_free {l : List Inter} {i : Nat} (hi : i < l.length) (hf : (l.take i).all (indep l[i]) = true) (r : Int) : project l r = ev1 r l[i] ++ project (l.eraseIdx i) r := by
  have hl : l = l.take i ++ (l[i] :: l.drop (i + 1)) := by
    conv => lhs; rw [← List.take_append_drop i l, List.drop_eq_getElem_cons hi]
  have h1 : project l r = project (l.take i) r ++ (ev1 r l[i] ++ project (l.drop (i + 1)) r) := by
    conv => lhs; rw [hl, project_app, project_cons]
  rw [h1, eraseIdx_eq, project_app]
  by_cases hr : roles l[i] r
  · have : project (l.take i) r = [] := by
      refine project_nil_of fun y hy => ?_
      have := List.all_eq_true.1 hf y hy
      exact indep_roles.1 this r hr
    rw [this]
    simp
  · rw [ev1_none hr]
    simp

/-- A letter that may come first, by the projections alone. -/
def First (P : Int → List Ev) (x : Inter) : Prop := ∀ r, ∃ t, P r = ev1 r x ++ t

theorem first_of_free {l : List Inter} {i : Nat} (hi : i < l.length) (hf : (l.take i).all (indep l[i]) = true) : First (project l) l[i] := fun r => ⟨_, project_free hi hf r⟩

theorem ev1_from (x : Inter) : ∃ t, ev1 x.from_ x = ⟨x.from_, true, x.to, x.label, none⟩ :: t := by
  unfold ev1
  simp

/-- The first letter with a role. -/
theorem head_role : ∀ (l : List Inter) (r : Int) {e : Ev} {t : List Ev}, project l r = e :: t → ∃ (i : Nat) (h : i < l.length), roles l[i] r ∧ (∀ y ∈ l.take i, ¬ roles y r) ∧ ∃ u, ev1 r l[i] = e :: u
  | [], r, e, t, h => by simp [project] at h
  | x :: l, r, e, t, h => by
    by_cases hr : roles x r
    · refine ⟨0, by simp, hr, by simp, ?_⟩
      rw [project_cons] at h
      have : ∃ e' u, ev1 r x = e' :: u := by
        unfold ev1
        rcases hr with hr | hr
        · rw [if_pos hr]; exact ⟨_, _, rfl⟩
        · rw [if_pos hr]
          split
          · exact ⟨_, _, rfl⟩
          · exact ⟨_, _, rfl⟩
      obtain ⟨e', u, hu⟩ := this
      rw [hu] at h
      simp only [List.cons_append, List.cons.injEq] at h
      exact ⟨u, by rw [List.getElem_cons_zero, hu, h.1]⟩
    · rw [project_cons, ev1_none hr, List.nil_append] at h
      obtain ⟨i, hi, h1, h2, h3⟩ := head_role l r h
      refine ⟨i + 1, by simpa using hi, by simpa using h1, ?_, by simpa using h3⟩
      intro y hy
      rw [List.take_succ_cons, List.mem_cons] at hy
      rcases hy with rfl | hy
      · exact hr
      · exact h2 y hy

theorem ev1_send {x : Inter} {r p q : Int} {u : List Ev} (h : ev1 r x = ⟨r, true, p, q, none⟩ :: u) : x.from_ = r ∧ x.to = p ∧ x.label = q := by
  unfold ev1 at h
  by_cases h1 : x.from_ = r
  · rw [if_pos h1] at h
    simp at h
    exact ⟨h1, h.1.1, h.1.2⟩
  · rw [if_neg h1] at h
    split at h
    · simp at h
    · simp at h

theorem ev1_recv {x : Inter} {r p q : Int} {u : List Ev} (h : ev1 r x = ⟨r, false, p, q, none⟩ :: u) : x.from_ ≠ r ∧ x.to = r ∧ x.from_ = p ∧ x.label = q := by
  unfold ev1 at h
  by_cases h1 : x.from_ = r
  · rw [if_pos h1] at h
    simp at h
  · rw [if_neg h1] at h
    split at h
    · rename_i h2
      simp at h
      exact ⟨h1, h2, h.1.1, h.1.2⟩
    · simp at h

theorem free_of_first {l : List Inter} {x : Inter} (h : First (project l) x) : ∃ (i : Nat) (hi : i < l.length), l[i] = x ∧ (l.take i).all (indep l[i]) = true := by
  obtain ⟨t0, ht0⟩ := ev1_from x
  obtain ⟨t, ht⟩ := h x.from_
  rw [ht0, List.cons_append] at ht
  obtain ⟨i, hi, h1, h2, u, hu⟩ := head_role l x.from_ ht
  obtain ⟨g1, g2, g3⟩ := ev1_send hu
  have hx : l[i] = x := by cases hl : l[i]; cases x; simp_all
  refine ⟨i, hi, hx, ?_⟩
  rw [List.all_eq_true]
  intro y hy
  rw [hx, indep_roles]
  rintro r (rfl | rfl) hry
  · exact h2 y hy hry
  · -- the receiver
    by_cases hft : x.from_ = x.to
    · exact h2 y hy (hft ▸ hry)
    · obtain ⟨t2, ht2⟩ := h x.to
      have hev : ev1 x.to x = [⟨x.to, false, x.from_, x.label, none⟩] := by
        unfold ev1
        rw [if_neg hft, if_pos rfl]
        rfl
      rw [hev] at ht2
      obtain ⟨j, hj, k1, k2, u2, hu2⟩ := head_role l x.to ht2
      obtain ⟨g4, g5, g6, g7⟩ := ev1_recv hu2
      have hij : ¬ j < i := fun hlt => by
        have hm : l[j] ∈ l.take i := by
          rw [List.mem_iff_getElem]
          exact ⟨j, by simp; omega, by simp⟩
        exact h2 _ hm (.inl g6)
      have hm : y ∈ l.take j := by
        obtain ⟨k, hk, hky⟩ := List.mem_iff_getElem.1 hy
        simp only [List.length_take] at hk
        rw [List.mem_iff_getElem]
        refine ⟨k, by simp; omega, ?_⟩
        rw [← hky]
        simp
      exact k2 y hm hry

/-! The order. -/
theorem less_irrefl (x : Inter) : less x x = false := by simp [less]
/-- The order, in words. -/
theorem less_iff (x y : Inter) : less x y = true ↔ x.from_ < y.from_ ∨ (x.from_ = y.from_ ∧ (x.to < y.to ∨ (x.to = y.to ∧ x.label < y.label))) := by
  unfold less
  split
  · simp; omega
  · split
    · simp; omega
    · simp; omega
theorem less_total {x y : Inter} (h : x ≠ y) : less x y = true ∨ less y x = true := by
  rw [less_iff, less_iff]
  have : ¬ (x.from_ = y.from_ ∧ x.to = y.to ∧ x.label = y.label) := by
    rintro ⟨h1, h2, h3⟩
    exact h (by cases x; cases y; simp_all)
  omega
theorem less_asymm {x y : Inter} (h : less x y = true) : less y x = false := by
  rw [Bool.eq_false_iff, ne_eq, less_iff]
  rw [less_iff] at h
  omega
theorem less_trans {x y z : Inter} (h : less x y = true) (g : less y z = true) : less x z = true := by
  rw [less_iff] at *
  omega

/-! The best free letter. -/
theorem bestStep_eqT {l : List Inter} {b i : Nat} (hi : i < l.length) (hb : b < l.length) : bestStep l b i = if (l.take i).all (indep l[i]) && less l[i] l[b] then i else b := by
  unfold bestStep freeAt
  rw [List.getElem?_eq_getElem hi, List.getElem?_eq_getElem hb]
  simp only [lt_less]

/-- What the search holds behind k steps: a free letter, of the letters so far the least that is free. -/
theorem bestTo_inv {l : List Inter} (hl : 0 < l.length) : ∀ (k : Nat), k ≤ l.length → (l.take (bestTo l k)).all (indep (l[bestTo l k]'(bestTo_lt hl k))) = true ∧
    ∀ (j : Nat) (h : j < l.length), j < k → (l.take j).all (indep l[j]) = true → less l[j] (l[bestTo l k]'(bestTo_lt hl k)) = false
  | 0, _ => by
    have : bestTo l 0 = 0 := rfl
    simp [this]
  | k + 1, hk => by
    obtain ⟨h1, h2⟩ := bestTo_inv hl k (by omega)
    have hb := bestTo_lt hl k
    have hs := bestTo_succ l k
    rw [bestStep_eqT (by omega) hb] at hs
    by_cases hc : ((l.take k).all (indep (l[k]'(by omega))) && less (l[k]'(by omega)) l[bestTo l k]) = true
    · rw [if_pos hc] at hs
      simp only [Bool.and_eq_true] at hc
      have e : l[bestTo l (k + 1)]'(bestTo_lt hl (k + 1)) = l[k]'(by omega) := by simp only [hs]
      rw [e]
      refine ⟨by rw [hs]; exact hc.1, fun j hj hjk hf => ?_⟩
      by_cases hjk' : j = k
      · subst hjk'; exact less_irrefl _
      · have h3 := h2 j hj (by omega) hf
        rw [Bool.eq_false_iff]
        intro h4
        have := less_trans h4 hc.2
        rw [h3] at this
        cases this
    · rw [if_neg hc] at hs
      have e : l[bestTo l (k + 1)]'(bestTo_lt hl (k + 1)) = l[bestTo l k] := by simp only [hs]
      rw [e]
      refine ⟨by rw [hs]; exact h1, fun j hj hjk hf => ?_⟩
      by_cases hjk' : j = k
      · subst hjk'
        rw [hf, Bool.true_and, Bool.not_eq_true] at hc
        exact hc
      · exact h2 j hj (by omega) hf

theorem best_lt {l : List Inter} (hl : 0 < l.length) : best l < l.length := bestTo_lt hl _

/-- The best letter: it may come first, and none that may is less. -/
theorem best_first {l : List Inter} (hl : 0 < l.length) : First (project l) (l[best l]'(best_lt hl)) ∧ ∀ y, First (project l) y → less y (l[best l]'(best_lt hl)) = false := by
  obtain ⟨h1, h2⟩ := bestTo_inv hl l.length (Nat.le_refl _)
  refine ⟨first_of_free _ h1, fun y hy => ?_⟩
  obtain ⟨i, hi, hx, hf⟩ := free_of_first hy
  have := h2 i hi hi hf
  rw [hx] at this
  exact this

theorem best_unique {P : Int → List Ev} {x y : Inter} (hx : First P x) (hy : First P y) (h1 : ∀ z, First P z → less z x = false) (h2 : ∀ z, First P z → less z y = false) : x = y := by
  by_cases e : x = y
  · exact e
  · rcases less_total e with h | h
    · rw [h2 x hx] at h; cases h
    · rw [h1 y hy] at h; cases h

theorem project_best {l : List Inter} (hl : 0 < l.length) (r : Int) : project l r = ev1 r (l[best l]'(best_lt hl)) ++ project (l.eraseIdx (best l)) r :=
  project_free (best_lt hl) (bestTo_inv hl l.length (Nat.le_refl _)).1 r

theorem erase_len {l : List Inter} (hl : 0 < l.length) : (l.eraseIdx (best l)).length + 1 = l.length := by
  rw [List.length_eraseIdx, if_pos (best_lt hl)]
  omega

/-- The normal sequence has the same events. -/
theorem project_normal (r : Int) : ∀ (n : Nat) (l : List Inter), l.length = n → project (normal l) r = project l r
  | 0, l, h => by
    have : l = [] := List.eq_nil_of_length_eq_zero h
    subst this
    rfl
  | n + 1, l, h => by
    have hl : 0 < l.length := by omega
    have he := erase_len hl
    rw [normal_cons (best_lt hl), project_cons, project_normal r n _ (by omega), ← project_best hl]

theorem project_empty {l : List Inter} (h : ∀ r, project l r = []) : l = [] := by
  cases l with
  | nil => rfl
  | cons x l =>
    have := h x.from_
    rw [project_cons] at this
    obtain ⟨t, ht⟩ := ev1_from x
    rw [ht] at this
    simp at this

/-- SEQUENCES WITH THE SAME EVENTS HAVE THE SAME NORMAL SEQUENCE. -/
theorem normal_of_project : ∀ (n : Nat) (a b : List Inter), a.length = n → (∀ r, project a r = project b r) → normal a = normal b
  | 0, a, b, h, hp => by
    have ha : a = [] := List.eq_nil_of_length_eq_zero h
    subst ha
    have hb : b = [] := project_empty fun r => (hp r).symm
    rw [hb]
  | n + 1, a, b, h, hp => by
    have hla : 0 < a.length := by omega
    have hlb : 0 < b.length := by
      rcases Nat.eq_zero_or_pos b.length with hb | hb
      · have hb : b = [] := List.eq_nil_of_length_eq_zero hb
        subst hb
        have : a = [] := project_empty fun r => hp r
        rw [this] at h
        simp at h
      · exact hb
    have hP : project a = project b := funext hp
    obtain ⟨a1, a2⟩ := best_first hla
    obtain ⟨b1, b2⟩ := best_first hlb
    rw [hP] at a1 a2
    have hx := best_unique a1 b1 a2 b2
    have he := erase_len hla
    rw [normal_cons (best_lt hla), normal_cons (best_lt hlb), hx]
    congr 1
    refine normal_of_project n _ _ (by omega) fun r => ?_
    have h1 := project_best hla r
    have h2 := project_best hlb r
    rw [hp r, h2, hx] at h1
    exact (List.append_cancel_left h1).symm

/-- SAME EVENTS, EXACTLY IF THE SAME NORMAL SEQUENCE. -/
theorem normal_iff (a b : List Inter) : normal a = normal b ↔ ∀ r, project a r = project b r :=
  ⟨fun h r => by rw [← project_normal r _ a rfl, ← project_normal r _ b rfl, h], normal_of_project _ a b rfl⟩

theorem normal_idem (l : List Inter) : normal (normal l) = normal l := (normal_iff _ _).2 fun r => project_normal r _ l rfl

/-- NO EXCHANGE OF INDEPENDENT NEIGHBOURS MAKES THE NORMAL SEQUENCE SMALLER. -/
theorem normal_least : ∀ (n : Nat) (l : List Inter), l.length = n → ∀ (i : Nat) (h : i + 1 < (normal l).length), indep (normal l)[i] (normal l)[i + 1] = true → less (normal l)[i + 1] (normal l)[i] = false
  | 0, l, hn, i, h, _ => by
    rw [normal_len 0 l hn] at h
    omega
  | n + 1, l, hn, i, h, hi => by
    have hl : 0 < l.length := by omega
    have he := erase_len hl
    have hc := normal_cons (best_lt hl)
    cases i with
    | zero =>
      have hl2 : 0 < (l.eraseIdx (best l)).length := by
        have := normal_len _ l rfl
        rw [this] at h
        omega
      have hc2 := normal_cons (best_lt hl2)
      rw [hc2] at hc
      have e0 : (normal l)[0] = l[best l]'(best_lt hl) := by simp [hc]
      have e1 : (normal l)[0 + 1] = (l.eraseIdx (best l))[best (l.eraseIdx (best l))]'(best_lt hl2) := by simp [hc]
      rw [e0, e1] at hi ⊢
      obtain ⟨a1, a2⟩ := best_first hl
      obtain ⟨b1, _⟩ := best_first hl2
      refine a2 _ fun r => ?_
      obtain ⟨t, ht⟩ := b1 r
      rw [project_best hl r]
      by_cases hr : roles ((l.eraseIdx (best l))[best (l.eraseIdx (best l))]'(best_lt hl2)) r
      · rw [indep_comm] at hi
        rw [ev1_none (indep_roles.1 hi r hr), List.nil_append]
        exact ⟨t, ht⟩
      · rw [ev1_none hr]
        exact ⟨_, rfl⟩
    | succ i =>
      have hlen : i + 1 < (normal (l.eraseIdx (best l))).length := by
        rw [hc] at h
        simpa using h
      have e1 : (normal l)[i + 1] = (normal (l.eraseIdx (best l)))[i] := by simp [hc]
      have e2 : (normal l)[i + 1 + 1] = (normal (l.eraseIdx (best l)))[i + 1] := by simp [hc]
      rw [e1, e2] at hi ⊢
      exact normal_least n _ (by omega) i hlen hi
end Go.Av
