/- Part of a proof by symbolic walks on plain data. -/
import Derived.Test.YtpnpnldabhmojaaWN
import Derived.Test.YtpnpnldabhmojaaW6
import Derived.Test.YtpnpnldabhmojaaW7
set_option linter.unusedVariables false
set_option linter.unusedSimpArgs false
namespace Go.Av
open Go Go.RowKit Go.Proofs

/-- The interaction that a history's first event may begin. -/
def cand (R : List (List Ev)) (i : Nat) : Option Inter :=
  match R[i]? with
  | some (x :: _) => if x.send then
      match R[x.peer.toNat]? with
      | some (y :: _) => if y.send = false ∧ y.peer = x.role ∧ y.label = x.label then some ⟨x.role, x.peer, x.label⟩ else none
      | _ => none
    else none
  | _ => none

def better (o : Option Inter) (a : Inter) : Option Inter :=
  match o with
  | none => some a
  | some b => if lt a b then some a else some b

def bestM (R : List (List Ev)) : Nat → Option Inter
  | 0 => none
  | k + 1 => match cand R k with
    | some a => better (bestM R k) a
    | none => bestM R k

def stepM (R : List (List Ev)) (a : Inter) : List (List Ev) :=
  (R.set a.from_.toNat (R[a.from_.toNat]?.getD []).tail).set a.to.toNat (R[a.to.toNat]?.getD []).tail

def mergeN : Nat → List (List Ev) → Option (List Inter)
  | 0, R => if total R = 0 then some [] else none
  | n + 1, R => if total R = 0 then some [] else
    match bestM R R.length with
    | some a => (mergeN n (stepM R a)).map (a :: ·)
    | none => none

def merge (H : List (List Ev)) : Option (List Inter) := if properH H then mergeN (total H) H else none

/-- All events are proper. -/
def okR (R : List (List Ev)) : Prop := ∀ i (h : i < R.length), okH R.length i R[i] = true

theorem okR_head {R : List (List Ev)} (h : okR R) {i : Nat} (hi : i < R.length) {x : Ev} {tl : List Ev} (hx : R[i] = x :: tl) : x.role = i ∧ x.peer ≠ i ∧ 0 ≤ x.peer ∧ x.peer < R.length := by
  have := h i hi
  rw [hx] at this
  simp only [okH, List.all_cons, okE, Bool.and_eq_true, decide_eq_true_eq] at this
  obtain ⟨⟨⟨⟨h1, h2⟩, h3⟩, h4⟩, _⟩ := this
  exact ⟨h1, h2, h3, h4⟩

/-- What is known where an interaction may begin. -/
theorem cand_some {R : List (List Ev)} (h : okR R) {i : Nat} {a : Inter} (hc : cand R i = some a) : ∃ (p : Nat) (x y : Ev) (tx ty : List Ev) (_ : i < R.length) (_ : p < R.length), i ≠ p ∧ a.from_ = i ∧ a.to = p ∧ R[i] = x :: tx ∧ R[p] = y :: ty := by
  unfold cand at hc
  split at hc
  · rename_i x tx hx
    have hi : i < R.length := (List.getElem?_eq_some_iff.1 hx).1
    have hx' : R[i] = x :: tx := (List.getElem?_eq_some_iff.1 hx).2
    obtain ⟨h1, h2, h3, h4⟩ := okR_head h hi hx'
    split at hc
    · split at hc
      · rename_i y ty hy
        have hp : x.peer.toNat < R.length := (List.getElem?_eq_some_iff.1 hy).1
        have hy' : R[x.peer.toNat] = y :: ty := (List.getElem?_eq_some_iff.1 hy).2
        split at hc
        · injection hc with hc
          subst hc
          exact ⟨x.peer.toNat, x, y, tx, ty, hi, hp, by omega, h1, by simp; omega, hx', hy'⟩
        · cases hc
      · cases hc
    · cases hc
  · cases hc

theorem bestM_some {R : List (List Ev)} : ∀ {k : Nat} {a : Inter}, bestM R k = some a → ∃ i, i < k ∧ cand R i = some a
  | 0, a, h => by simp [bestM] at h
  | k + 1, a, h => by
    simp only [bestM] at h
    split at h
    · rename_i c hc
      unfold better at h
      split at h
      · injection h with h
        subst h
        exact ⟨k, by omega, hc⟩
      · rename_i b hb
        split at h
        · injection h with h
          subst h
          exact ⟨k, by omega, hc⟩
        · injection h with h
          subst h
          obtain ⟨i, hi, hci⟩ := bestM_some hb
          exact ⟨i, by omega, hci⟩
    · obtain ⟨i, hi, hci⟩ := bestM_some h
      exact ⟨i, by omega, hci⟩

theorem total_set : ∀ {R : List (List Ev)} {i : Nat} {l : List Ev} (hi : i < R.length), total (R.set i l) + R[i].length = total R + l.length
  | x :: R, 0, l, _ => by simp [total]; omega
  | x :: R, i + 1, l, hi => by
    have := total_set (R := R) (i := i) (l := l) (by simpa using hi)
    simp only [total, List.set_cons_succ, List.map_cons, List.sum_cons, List.getElem_cons_succ] at *
    omega

theorem stepM_eq {R : List (List Ev)} {a : Inter} {i p : Nat} {x y : Ev} {tx ty : List Ev} (hi : i < R.length) (hp : p < R.length) (h1 : a.from_ = i) (h2 : a.to = p) (hx : R[i] = x :: tx) (hy : R[p] = y :: ty) : stepM R a = (R.set i tx).set p ty := by
  unfold stepM
  rw [h1, h2]
  simp [hi, hp, hx, hy]

theorem step_total {R : List (List Ev)} (h : okR R) {k : Nat} {a : Inter} (hb : bestM R k = some a) : total (stepM R a) + 2 = total R := by
  obtain ⟨i, _, hc⟩ := bestM_some hb
  obtain ⟨p, x, y, tx, ty, hi, hp, hne, h1, h2, hx, hy⟩ := cand_some h hc
  rw [stepM_eq hi hp h1 h2 hx hy]
  have t1 := total_set (R := R) (i := i) (l := tx) hi
  have hp' : p < (R.set i tx).length := by simpa using hp
  have t2 := total_set (R := R.set i tx) (i := p) (l := ty) hp'
  rw [List.getElem_set_ne hne, hy] at t2
  rw [hx] at t1
  simp only [List.length_cons] at t1 t2
  omega

theorem stepM_len (R : List (List Ev)) (a : Inter) : (stepM R a).length = R.length := by simp [stepM]

theorem okR_step {R : List (List Ev)} (h : okR R) {k : Nat} {a : Inter} (hb : bestM R k = some a) : okR (stepM R a) := by
  obtain ⟨i, _, hc⟩ := bestM_some hb
  obtain ⟨p, x, y, tx, ty, hi, hp, hne, h1, h2, hx, hy⟩ := cand_some h hc
  rw [stepM_eq hi hp h1 h2 hx hy]
  have ht : ∀ {q : Nat} {z : Ev} {tz : List Ev} (hq : q < R.length), R[q] = z :: tz → okH R.length q tz = true := by
    intro q z tz hq hz
    have := h q hq
    rw [hz] at this
    simp only [okH, List.all_cons, Bool.and_eq_true] at this
    exact this.2
  intro j hj
  simp only [List.length_set] at hj ⊢
  rw [List.getElem_set]
  split
  · rename_i e
    subst e
    exact ht hp hy
  · rw [List.getElem_set]
    split
    · rename_i e
      subst e
      exact ht hi hx
    · exact h j hj

theorem mergeN_zero {n : Nat} {R : List (List Ev)} (h : total R = 0) : mergeN n R = some [] := by
  cases n <;> simp [mergeN, h]
theorem mergeN_none {n : Nat} {R : List (List Ev)} (h : total R ≠ 0) (hb : bestM R R.length = none) : mergeN n R = none := by
  cases n <;> simp [mergeN, h, hb]
theorem mergeN_some {n : Nat} {R : List (List Ev)} (h : total R ≠ 0) (hn : total R ≤ n) {a : Inter} (hb : bestM R R.length = some a) (ho : okR R) : mergeN n R = (mergeN (n - 2) (stepM R a)).map (a :: ·) := by
  have ht := step_total ho hb
  obtain ⟨m, rfl⟩ : ∃ m, n = m + 2 := ⟨n - 2, by omega⟩
  have hmono : ∀ (n : Nat) (R : List (List Ev)), okR R → total R ≤ n → mergeN (n + 1) R = mergeN n R := by
    intro n
    induction n with
    | zero =>
      intro R _ h0
      have : total R = 0 := by omega
      rw [mergeN_zero this, mergeN_zero this]
    | succ n ih =>
      intro R ho h0
      by_cases hz : total R = 0
      · rw [mergeN_zero hz, mergeN_zero hz]
      · cases hb : bestM R R.length with
        | none => rw [mergeN_none hz hb, mergeN_none hz hb]
        | some a =>
          have := step_total ho hb
          rw [mergeN, mergeN, if_neg hz, if_neg hz, hb]
          simp only
          rw [ih _ (okR_step ho hb) (by omega)]
  rw [mergeN, if_neg h, hb]
  simp only
  rw [hmono m _ (okR_step ho hb) (by omega)]
  rfl
end Go.Av
