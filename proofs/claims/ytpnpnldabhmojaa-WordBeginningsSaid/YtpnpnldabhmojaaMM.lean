/- Part of a proof by symbolic walks on plain data. -/
import Derived.Test.YtpnpnldabhmojaaWM
import Derived.Test.YtpnpnldabhmojaaMT
set_option linter.unusedVariables false
set_option linter.unusedSimpArgs false
namespace Go.Av
open Go

theorem project_role {l : List Inter} {r : Int} : ∀ e ∈ project l r, e.role = r := by
  intro e he
  unfold project at he
  obtain ⟨y, _, hy⟩ := List.mem_flatMap.1 he
  unfold ev1 at hy
  rcases List.mem_append.1 hy with hy | hy
  · split at hy
    · simp only [List.mem_singleton] at hy; rw [hy]
    · cases hy
  · split at hy
    · simp only [List.mem_singleton] at hy; rw [hy]
    · cases hy

theorem okI_iff (x : Inter) : okI x = true ↔ 0 ≤ x.from_ ∧ x.from_ < 6 ∧ 0 ≤ x.to ∧ x.to < 6 ∧ x.from_ ≠ x.to := by
  simp only [okI, Bool.and_eq_true, decide_eq_true_eq]
  constructor
  · rintro ⟨⟨⟨⟨h1, h2⟩, h3⟩, h4⟩, h5⟩; exact ⟨h1, h2, h3, h4, h5⟩
  · rintro ⟨h1, h2, h3, h4, h5⟩; exact ⟨⟨⟨⟨h1, h2⟩, h3⟩, h4⟩, h5⟩

theorem hists_get (l : List Inter) {i n : Nat} (h : i < n) : (hists l n)[i]? = some (project l i) := by
  simp [hists, h]

theorem hists_getE (l : List Inter) {i n : Nat} (h : i < (hists l n).length) : (hists l n)[i] = project l i := by
  simp [hists]

theorem hists_ok {l : List Inter} (h : ∀ x ∈ l, okI x = true) : okR (hists l 6) := by
  intro i hi
  rw [hists_getE, hists_len]
  rw [hists_len] at hi
  unfold okH
  rw [List.all_eq_true]
  intro e he
  have hr := project_role e he
  unfold project at he
  obtain ⟨y, hy, he⟩ := List.mem_flatMap.1 he
  have hok := (okI_iff y).1 (h y hy)
  unfold ev1 at he
  simp only [okE, Bool.and_eq_true, decide_eq_true_eq]
  rcases List.mem_append.1 he with he | he
  · split at he
    · rename_i h1
      simp only [List.mem_singleton] at he
      subst he
      simp only at *
      refine ⟨⟨⟨?_, ?_⟩, ?_⟩, ?_⟩ <;> first | trivial | omega
    · cases he
  · split at he
    · rename_i h1
      simp only [List.mem_singleton] at he
      subst he
      simp only at *
      refine ⟨⟨⟨?_, ?_⟩, ?_⟩, ?_⟩ <;> first | trivial | omega
    · cases he

theorem ev1_len2 (x : Inter) (r : Int) : (ev1 r x).length = (if x.from_ = r then 1 else 0) + (if x.to = r then 1 else 0) := by
  unfold ev1
  split <;> split <;> rfl

theorem six (a : Int) (h0 : 0 ≤ a) (h6 : a < 6) : a = 0 ∨ a = 1 ∨ a = 2 ∨ a = 3 ∨ a = 4 ∨ a = 5 := by omega

theorem hists_total : ∀ {l : List Inter}, (∀ x ∈ l, okI x = true) → total (hists l 6) = 2 * l.length
  | [], _ => by simp [hists, total, project, List.range_succ]
  | x :: l, h => by
    have ih := hists_total (l := l) fun y hy => h y (by simp [hy])
    obtain ⟨h1, h2, h3, h4, _⟩ := (okI_iff x).1 (h x (by simp))
    simp only [hists, total, List.range_succ, List.range_zero, List.nil_append, List.cons_append, List.map_cons, List.map_nil, List.sum_cons, List.sum_nil, project_cons, List.length_append, ev1_len2, List.length_cons] at ih ⊢
    have g1 := six _ h1 h2
    have g2 := six _ h3 h4
    simp only [show ((0 : Nat) : Int) = 0 from rfl, show ((1 : Nat) : Int) = 1 from rfl, show ((2 : Nat) : Int) = 2 from rfl, show ((3 : Nat) : Int) = 3 from rfl, show ((4 : Nat) : Int) = 4 from rfl, show ((5 : Nat) : Int) = 5 from rfl] at ih ⊢
    rcases g1 with g | g | g | g | g | g <;> rw [g] <;> rcases g2 with k | k | k | k | k | k <;> rw [k] <;> simp <;> omega

theorem ev1_send_eq {x : Inter} (h : x.from_ ≠ x.to) : ev1 x.from_ x = [⟨x.from_, true, x.to, x.label, none⟩] := by
  unfold ev1
  rw [if_pos rfl, if_neg (fun e => h e.symm)]
  rfl
theorem ev1_recv_eq {x : Inter} (h : x.from_ ≠ x.to) : ev1 x.to x = [⟨x.to, false, x.from_, x.label, none⟩] := by
  unfold ev1
  rw [if_neg h, if_pos rfl]
  rfl

theorem ev_eta (e : Ev) {r : Int} {s : Bool} {p q : Int} (h1 : e.role = r) (h2 : e.send = s) (h3 : e.peer = p) (h4 : e.label = q) (h5 : e.vals = none) : e = ⟨r, s, p, q, none⟩ := by
  cases e
  simp_all

/-- A candidate is a letter that may come first. -/
theorem cand_first {l : List Inter} (h : ∀ x ∈ l, okI x = true) {i : Nat} (hi : i < 6) {a : Inter} : cand (hists l 6) i = some a ↔ First (project l) a ∧ a.from_ = i := by
  have hR := hists_ok h
  constructor
  · intro hc
    unfold cand at hc
    rw [hists_get l hi] at hc
    split at hc
    · rename_i x tx hx
      injection hx with hx
      have hxm : x ∈ project l i := by rw [hx]; simp
      have hxr := project_role x hxm
      have hxv := project_vals l i x hxm
      have hiR : i < (hists l 6).length := by rw [hists_len]; exact hi
      have hxe : (hists l 6)[i] = x :: tx := by rw [hists_getE]; exact hx
      obtain ⟨k1, k2, k3, k4⟩ := okR_head hR hiR hxe
      rw [hists_len] at k4
      split at hc
      · rename_i hs
        have hp6 : x.peer.toNat < 6 := by omega
        rw [hists_get l hp6] at hc
        split at hc
        · rename_i y ty hy
          injection hy with hy
          have hpp : ((x.peer.toNat : Nat) : Int) = x.peer := by omega
          rw [hpp] at hy
          have hym : y ∈ project l x.peer := by rw [hy]; simp
          have hyr := project_role y hym
          have hyv := project_vals l x.peer y hym
          split at hc
          · rename_i hcond
            injection hc with hc
            subst hc
            have hne : x.role ≠ x.peer := by omega
            have ex : x = ⟨x.role, true, x.peer, x.label, none⟩ := ev_eta x rfl hs rfl rfl hxv
            have ey : y = ⟨x.peer, false, x.role, x.label, none⟩ := ev_eta y hyr hcond.1 hcond.2.1 hcond.2.2 hyv
            refine ⟨fun r => ?_, by simp only; omega⟩
            by_cases h1 : r = x.role
            · subst h1
              have := ev1_send_eq (x := ⟨x.role, x.peer, x.label⟩) hne
              simp only at this
              rw [this]
              refine ⟨tx, ?_⟩
              rw [← ex, hxr]
              exact hx
            · by_cases h2 : r = x.peer
              · subst h2
                have := ev1_recv_eq (x := ⟨x.role, x.peer, x.label⟩) hne
                simp only at this
                rw [this]
                refine ⟨ty, ?_⟩
                rw [← ey]
                exact hy
              · rw [ev1_none (fun hr => hr.elim (fun e => h1 e.symm) (fun e => h2 e.symm))]
                exact ⟨_, rfl⟩
          · cases hc
        · cases hc
      · cases hc
    · cases hc
  · rintro ⟨hf, ha⟩
    obtain ⟨j, hj, hjx, _⟩ := free_of_first hf
    have hok := (okI_iff a).1 (h a (by rw [← hjx]; exact List.getElem_mem hj))
    obtain ⟨tx, hx⟩ := hf a.from_
    obtain ⟨ty, hy⟩ := hf a.to
    rw [ev1_send_eq hok.2.2.2.2] at hx
    rw [ev1_recv_eq hok.2.2.2.2] at hy
    have hp6 : a.to.toNat < 6 := by omega
    have hpp : ((a.to.toNat : Nat) : Int) = a.to := by omega
    unfold cand
    rw [hists_get l hi, ← ha, hx]
    simp only [List.cons_append, List.nil_append, if_true]
    rw [hists_get l hp6, hpp, hy]
    simp

/-- The best candidate: none is less; there is one if there is any. -/
theorem bestM_inv {R : List (List Ev)} : ∀ (k : Nat), (∀ a, bestM R k = some a → (∃ i, i < k ∧ cand R i = some a) ∧ ∀ j b, j < k → cand R j = some b → less b a = false) ∧ (bestM R k = none → ∀ j, j < k → cand R j = none)
  | 0 => ⟨fun a h => by simp [bestM] at h, fun _ j hj => by omega⟩
  | k + 1 => by
    obtain ⟨h1, h2⟩ := bestM_inv (R := R) k
    cases hc : cand R k with
    | none =>
      have e : bestM R (k + 1) = bestM R k := by simp [bestM, hc]
      rw [e]
      refine ⟨fun a ha => ?_, fun hn j hj => ?_⟩
      · obtain ⟨⟨i, hi, hci⟩, g⟩ := h1 a ha
        refine ⟨⟨i, by omega, hci⟩, fun j b hj hb => ?_⟩
        by_cases hjk : j = k
        · subst hjk; rw [hc] at hb; cases hb
        · exact g j b (by omega) hb
      · by_cases hjk : j = k
        · subst hjk; exact hc
        · exact h2 hn j (by omega)
    | some c =>
      have e : bestM R (k + 1) = better (bestM R k) c := by simp [bestM, hc]
      rw [e]
      cases hb : bestM R k with
      | none =>
        simp only [better]
        refine ⟨fun a ha => ?_, fun hn => by cases hn⟩
        injection ha with ha
        subst ha
        refine ⟨⟨k, by omega, hc⟩, fun j b hj hcb => ?_⟩
        by_cases hjk : j = k
        · subst hjk; rw [hc] at hcb; injection hcb with hcb; rw [hcb]; exact less_irrefl _
        · rw [h2 hb j (by omega)] at hcb; cases hcb
      | some b0 =>
        obtain ⟨⟨i, hi, hci⟩, g⟩ := h1 b0 hb
        simp only [better, lt_less]
        by_cases hl : less c b0 = true
        · rw [if_pos hl]
          refine ⟨fun a ha => ?_, fun hn => by cases hn⟩
          injection ha with ha
          subst ha
          refine ⟨⟨k, by omega, hc⟩, fun j b hj hcb => ?_⟩
          by_cases hjk : j = k
          · subst hjk; rw [hc] at hcb; injection hcb with hcb; rw [hcb]; exact less_irrefl _
          · rw [Bool.eq_false_iff]
            intro h3
            have := less_trans h3 hl
            rw [g j b (by omega) hcb] at this
            cases this
        · rw [if_neg hl]
          refine ⟨fun a ha => ?_, fun hn => by cases hn⟩
          injection ha with ha
          subst ha
          refine ⟨⟨i, by omega, hci⟩, fun j b hj hcb => ?_⟩
          by_cases hjk : j = k
          · subst hjk; rw [hc] at hcb; injection hcb with hcb; rw [← hcb]; simpa using hl
          · exact g j b (by omega) hcb

theorem bestM_best {l : List Inter} (h : ∀ x ∈ l, okI x = true) (hl : 0 < l.length) : bestM (hists l 6) 6 = some (l[best l]'(best_lt hl)) := by
  obtain ⟨b1, b2⟩ := best_first hl
  have hok := (okI_iff _).1 (h _ (List.getElem_mem (best_lt hl)))
  obtain ⟨g1, g2⟩ := bestM_inv (R := hists l 6) 6
  have hi : (l[best l]'(best_lt hl)).from_.toNat < 6 := by omega
  have hc : cand (hists l 6) (l[best l]'(best_lt hl)).from_.toNat = some (l[best l]'(best_lt hl)) := (cand_first h hi).2 ⟨b1, by omega⟩
  cases hb : bestM (hists l 6) 6 with
  | none => rw [g2 hb _ hi] at hc; cases hc
  | some a =>
    obtain ⟨⟨i, hi', hci⟩, g⟩ := g1 a hb
    obtain ⟨a1, _⟩ := (cand_first h hi').1 hci
    congr 1
    refine best_unique a1 b1 (fun z hz => ?_) b2
    obtain ⟨j, hj, hjz, _⟩ := free_of_first hz
    have hzok := (okI_iff z).1 (h z (by rw [← hjz]; exact List.getElem_mem hj))
    have hzi : z.from_.toNat < 6 := by omega
    exact g z.from_.toNat z hzi ((cand_first h hzi).2 ⟨hz, by omega⟩)

theorem stepM_hists {l : List Inter} (h : ∀ x ∈ l, okI x = true) (hl : 0 < l.length) : stepM (hists l 6) (l[best l]'(best_lt hl)) = hists (l.eraseIdx (best l)) 6 := by
  have hok := (okI_iff _).1 (h _ (List.getElem_mem (best_lt hl)))
  have hpb := project_best hl
  generalize l[best l]'(best_lt hl) = x at *
  obtain ⟨h1, h2, h3, h4, h5⟩ := hok
  have hf : ((x.from_.toNat : Nat) : Int) = x.from_ := by omega
  have ht : ((x.to.toNat : Nat) : Int) = x.to := by omega
  unfold stepM
  rw [hists_get l (by omega : x.from_.toNat < 6), hists_get l (by omega : x.to.toNat < 6), hf, ht]
  apply List.ext_getElem
  · simp [hists]
  · intro i g1 g2
    rw [hists_len] at g2
    rw [hists_getE, List.getElem_set, List.getElem_set]
    split
    · rename_i e
      subst e
      rw [ht, Option.getD_some, hpb x.to, ev1_recv_eq h5]
      rfl
    · rename_i e
      split
      · rename_i e2
        subst e2
        rw [hf, Option.getD_some, hpb x.from_, ev1_send_eq h5]
        rfl
      · rename_i e2
        rw [hists_getE, hpb i, ev1_none]
        · rfl
        · rintro (e3 | e3)
          · exact e2 (by omega)
          · exact e (by omega)

theorem merge_hists : ∀ (n : Nat) (l : List Inter), (∀ x ∈ l, okI x = true) → l.length = n → ∀ m, 2 * n ≤ m → mergeN m (hists l 6) = some (normal l)
  | 0, l, h, hn, m, _ => by
    have : l = [] := List.eq_nil_of_length_eq_zero hn
    subst this
    have := hists_total h
    rw [mergeN_zero (by simpa using this)]
    rfl
  | n + 1, l, h, hn, m, hm => by
    have hl : 0 < l.length := by omega
    have ht := hists_total h
    have he := erase_len hl
    have hb := bestM_best h hl
    have hlen : (hists l 6).length = 6 := hists_len _ _
    have hb' : bestM (hists l 6) (hists l 6).length = some (l[best l]'(best_lt hl)) := by rw [hlen]; exact hb
    rw [mergeN_some (by omega) (by omega) hb' (hists_ok h), stepM_hists h hl, merge_hists n _ (fun x hx => h x (List.mem_of_mem_eraseIdx hx)) (by omega) _ (by omega), normal_cons (best_lt hl)]
    rfl

/-- THE HISTORIES ARE MERGED TO THE NORMAL SEQUENCE. -/
theorem merge_histories {l : List Inter} (h : l.all okI = true) : merge (histories l 6) = some (normal l) := by
  have h' : ∀ x ∈ l, okI x = true := List.all_eq_true.1 h
  have e : histories l 6 = hists l 6 := by
    unfold histories
    rw [if_neg (by omega)]
    rfl
  rw [e]
  unfold merge
  have hp : properH (hists l 6) = true := by
    rw [properH_yes (hists_ok h'), hists_len]
    rfl
  rw [if_pos hp, merge_hists _ l h' rfl _ (by rw [hists_total h']; exact Nat.le_refl _)]
end Go.Av
