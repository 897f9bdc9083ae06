/- Part of a proof by symbolic walks on plain data. -/
import Derived.Test.YtpdfolkoejbbgaaGreatDoorB08
import Derived.Test.YtpdfolkoejbbgaaGreatDoorB00
set_option linter.unusedVariables false
set_option linter.unusedSimpArgs false
set_option maxHeartbeats 4000000
namespace Go.Av
open Go Go.RowKit Go.Proofs
set_option maxRecDepth 8000
def total (H : List (List Ev)) : Nat := (H.map List.length).sum
theorem total_succ {H : List (List Ev)} {k : Nat} (h : k < H.length) : total (H.take (k + 1)) = total (H.take k) + H[k].length := by
  unfold total
  rw [List.take_succ_eq_append_getElem h, List.map_append, List.sum_append]
  simp
theorem total_le : ∀ (H : List (List Ev)), (∀ l ∈ H, l.length ≤ 1000000) → total H ≤ H.length * 1000000
  | [], _ => by simp [total]
  | l :: H, h => by
    have h1 := total_le H fun x hx => h x (by simp [hx])
    have h2 := h l (by simp)
    simp only [total, List.map_cons, List.sum_cons, List.length_cons] at *
    omega
def okI (x : Inter) : Bool := decide (0 ≤ x.from_) && decide (x.from_ < 6) && decide (0 ≤ x.to) && decide (x.to < 6) && decide (x.from_ ≠ x.to)
def hists (l : List Inter) (n : Nat) : List (List Ev) := (List.range n).map fun (i : Nat) => project l i
def encO (x : List Ev) : List DV := [.ow 5 (x.map encE)]
def histories (l : List Inter) (n : Int) : List (List Ev) := if n < 0 ∨ 6 < n then [] else hists l n.toNat
theorem hists_succ (l : List Inter) (n : Nat) : hists l (n + 1) = hists l n ++ [project l n] := by
  simp [hists, List.range_succ]
theorem hists_len (l : List Inter) (n : Nat) : (hists l n).length = n := by simp [hists]
def fillH (l : List Inter) (m k : Nat) : List (List DV) := (hists l k).map encO ++ List.replicate (m - k) [DV.nil]
theorem fillH_get {l : List Inter} {m k : Nat} (h : k < m) : (fillH l m k)[k]? = some [DV.nil] := by
  unfold fillH
  rw [List.getElem?_append_right (by simp [hists_len])]
  obtain ⟨j, hj⟩ : ∃ j, m - k = j + 1 := ⟨m - k - 1, by omega⟩
  simp [hists_len, hj, List.replicate_succ]
theorem fillH_set {l : List Inter} {m k : Nat} (h : k < m) : (fillH l m k).set k [.ow 5 ((project l k).map encE)] = fillH l m (k + 1) := by
  unfold fillH
  rw [List.set_append_right _ _ (by simp [hists_len]), hists_succ]
  obtain ⟨j, hj⟩ : ∃ j, m - k = j + 1 := ⟨m - k - 1, by omega⟩
  have : m - (k + 1) = j := by omega
  rw [hj, this]
  simp [hists_len, List.replicate_succ, encO]
theorem fillH_len (l : List Inter) (m k : Nat) (h : k ≤ m) : (fillH l m k).length = m := by
  simp [fillH, hists_len]; omega
theorem f35 (l : List Inter) (n : Int) (hl : l.length ≤ 1000000) : Impl Tryz.prog 35 [.one (.sl (l.map encI)), .one (.int .i64 n)] (.one (.one (.ow 1 ((histories l n).map encO)))) := by
  refine impl_z Tryz.func35 z35 Tryz.ntmps35 (by simp) ?_
  simp only [c35, slotsOf]
  repeat' first | (with_reducible first | refine zA ?_ | refine zB ?_ | refine zC ?_ | refine zD ?_ | refine zE ?_ | refine zF ?_ | refine zK ?_ | refine zL ?_ | refine zM ?_ | refine zN ?_ | refine zO ?_ | refine zP ?_ | refine zQ (by decide) ?_ | refine zR ?_ | refine zS ?_ | refine zT ?_ | refine zX ?_) | ((with_reducible refine zY (t := ?_) ?hc (fun h => ?_) (fun h => ?_)); (case hc => rfl); all_goals (try simp [go_sem] at h); all_goals try omega) | ((with_reducible first | refine zZ ?_ | refine zd ?_ | refine ze ?_); intro K hK; simp [go_sem]; (try simp (disch := omega) only [wrap_i64, okRefs, eq_self, true_and]); (first | apply hK | refine ⟨by first | omega | (simp [appendOk, flatEls]; first | done | omega), ?_⟩ | refine ⟨hK _ ?_, fun h => ?_⟩ | refine ⟨?_, ?_⟩); all_goals ((try apply hK); clear hK K))
  · simp [go_sem, histories, h]
  · obtain ⟨m, rfl⟩ : ∃ m : Nat, n = m := ⟨n.toNat, by omega⟩
    refine awp_loop (fun q e => ∃ k, k + q = m ∧ e = [(16, .sv (.one (.int .i64 (k : Nat)))), (15, .sv (.one (.int .i64 m))), (5, .sv (.one (.ow 1 (fillH l m k)))), (0, .sv (.one (.sl (l.map encI))))]) m _ ⟨0, by simp, rfl⟩ (by simp [go_sem, fillH, hists]) ?_
    rintro q e ⟨k, hk, rfl⟩
    by_cases hlt : k < m
    · have h1 := fillH_get (l := l) hlt
      have h2 := fillH_set (l := l) hlt
      repeat' first | (with_reducible first | refine zA ?_ | refine zB ?_ | refine zC ?_ | refine zD ?_ | refine zE ?_ | refine zF ?_ | refine zK ?_ | refine zL ?_ | refine zM ?_ | refine zN ?_ | refine zO ?_ | refine zP ?_ | refine zQ (by decide) ?_ | refine zR ?_ | refine zS ?_ | refine zT ?_ | refine zX ?_) | ((with_reducible refine zY (t := ?_) ?hc (fun h => ?_) (fun h => ?_)); (case hc => rfl); all_goals (try simp [go_sem, hlt, h1] at h); all_goals try omega) | ((with_reducible first | refine zZ ?_ | refine zd ?_ | refine ze ?_); intro K hK; simp [go_sem, hlt, h1]; (try simp (disch := omega) only [wrap_i64, okRefs, eq_self, true_and]); (first | apply hK | ((first | ((try refine .inl ?_); refine ⟨_, by (try intro hc); (repeat' first | exact f14 l _ hl | exact hc | with_reducible refine And.intro ?_ ?_ | simp [go_sem, hlt, h1]); first | done | omega, ?_⟩) | refine .inr ⟨_, by (try intro hc); (repeat' first | exact f14 l _ hl | exact hc | with_reducible refine And.intro ?_ ?_ | simp [go_sem, hlt, h1]); first | done | omega, ?_⟩); (first | refine hK _ ?_ | refine hK _ _ ?_ | (refine ⟨by simp [go_sem, hlt, h1], ?_⟩; first | refine hK _ ?_ | refine hK _ _ ?_ | refine ⟨by simp [go_sem, hlt, h1], hK _ _ ?_⟩))) | refine ⟨.one (.one (.bool false)), by simp [go_sem, hlt, h1], hK _ _ ?_⟩ | refine ⟨by first | omega | (simp [appendOk, flatEls, hlt, h1]; first | done | omega), ?_⟩ | refine ⟨hK _ ?_, fun h => ?_⟩ | refine ⟨?_, ?_⟩); all_goals ((try apply hK); clear hK K))
      refine loopQ_normal (q - 1) _ (by omega) ⟨k + 1, by omega, rfl⟩ ?_
      simp [go_sem, h2]
    · skip
      repeat' first | (with_reducible first | refine zA ?_ | refine zB ?_ | refine zC ?_ | refine zD ?_ | refine zE ?_ | refine zF ?_ | refine zK ?_ | refine zL ?_ | refine zM ?_ | refine zN ?_ | refine zO ?_ | refine zP ?_ | refine zQ (by decide) ?_ | refine zR ?_ | refine zS ?_ | refine zT ?_ | refine zX ?_) | ((with_reducible refine zY (t := ?_) ?hc (fun h => ?_) (fun h => ?_)); (case hc => rfl); all_goals (try simp [go_sem, hlt] at h); all_goals try omega) | ((with_reducible first | refine zZ ?_ | refine zd ?_ | refine ze ?_); intro K hK; simp [go_sem, hlt]; (try simp (disch := omega) only [wrap_i64, okRefs, eq_self, true_and]); (first | apply hK | refine ⟨by first | omega | (simp [appendOk, flatEls, hlt]; first | done | omega), ?_⟩ | refine ⟨hK _ ?_, fun h => ?_⟩ | refine ⟨?_, ?_⟩); all_goals ((try apply hK); clear hK K))
      have hkm : k = m := by omega
      subst hkm
      have : histories l (k : Int) = hists l k := by
        unfold histories
        rw [if_neg (by omega)]
        simp
      simp [go_sem, this, fillH]
end Go.Av
namespace Go.Av
open Go Go.RowKit Go.Proofs
set_option maxRecDepth 8000
def cand (R : List (List Ev)) (i : Nat) : Option Inter :=
  match R[i]? with
  | some (x :: _) => if x.send then
      match R[x.peer.toNat]? with
      | some (y :: _) => if y.send = false ∧ y.peer = x.role ∧ y.label = x.label then some ⟨x.role, x.peer, x.label⟩ else none
      | _ => none
    else none
  | _ => none
def better (o : Option Inter) (a : Inter) : Option Inter :=
  match o with
  | none => some a
  | some b => if lt a b then some a else some b
def bestM (R : List (List Ev)) : Nat → Option Inter
  | 0 => none
  | k + 1 => match cand R k with
    | some a => better (bestM R k) a
    | none => bestM R k
def stepM (R : List (List Ev)) (a : Inter) : List (List Ev) :=
  (R.set a.from_.toNat (R[a.from_.toNat]?.getD []).tail).set a.to.toNat (R[a.to.toNat]?.getD []).tail
def mergeN : Nat → List (List Ev) → Option (List Inter)
  | 0, R => if total R = 0 then some [] else none
  | n + 1, R => if total R = 0 then some [] else
    match bestM R R.length with
    | some a => (mergeN n (stepM R a)).map (a :: ·)
    | none => none
def merge (H : List (List Ev)) : Option (List Inter) := if properH H then mergeN (total H) H else none
def okR (R : List (List Ev)) : Prop := ∀ i (h : i < R.length), okH R.length i R[i] = true
theorem okR_head {R : List (List Ev)} (h : okR R) {i : Nat} (hi : i < R.length) {x : Ev} {tl : List Ev} (hx : R[i] = x :: tl) : x.role = i ∧ x.peer ≠ i ∧ 0 ≤ x.peer ∧ x.peer < R.length := by
  have := h i hi
  rw [hx] at this
  simp only [okH, List.all_cons, okE, Bool.and_eq_true, decide_eq_true_eq] at this
  obtain ⟨⟨⟨⟨h1, h2⟩, h3⟩, h4⟩, _⟩ := this
  exact ⟨h1, h2, h3, h4⟩
theorem cand_some {R : List (List Ev)} (h : okR R) {i : Nat} {a : Inter} (hc : cand R i = some a) : ∃ (p : Nat) (x y : Ev) (tx ty : List Ev) (_ : i < R.length) (_ : p < R.length), i ≠ p ∧ a.from_ = i ∧ a.to = p ∧ R[i] = x :: tx ∧ R[p] = y :: ty := by
  unfold cand at hc
  split at hc
  · rename_i x tx hx
    have hi : i < R.length := (List.getElem?_eq_some_iff.1 hx).1
    have hx' : R[i] = x :: tx := (List.getElem?_eq_some_iff.1 hx).2
    obtain ⟨h1, h2, h3, h4⟩ := okR_head h hi hx'
    split at hc
    · split at hc
      · rename_i y ty hy
        have hp : x.peer.toNat < R.length := (List.getElem?_eq_some_iff.1 hy).1
        have hy' : R[x.peer.toNat] = y :: ty := (List.getElem?_eq_some_iff.1 hy).2
        split at hc
        · injection hc with hc
          subst hc
          exact ⟨x.peer.toNat, x, y, tx, ty, hi, hp, by omega, h1, by simp; omega, hx', hy'⟩
        · cases hc
      · cases hc
    · cases hc
  · cases hc
theorem bestM_some {R : List (List Ev)} : ∀ {k : Nat} {a : Inter}, bestM R k = some a → ∃ i, i < k ∧ cand R i = some a
  | 0, a, h => by simp [bestM] at h
  | k + 1, a, h => by
    simp only [bestM] at h
    split at h
    · rename_i c hc
      unfold better at h
      split at h
      · injection h with h
        subst h
        exact ⟨k, by omega, hc⟩
      · rename_i b hb
        split at h
        · injection h with h
          subst h
          exact ⟨k, by omega, hc⟩
        · injection h with h
          subst h
          obtain ⟨i, hi, hci⟩ := bestM_some hb
          exact ⟨i, by omega, hci⟩
    · obtain ⟨i, hi, hci⟩ := bestM_some h
      exact ⟨i, by omega, hci⟩
theorem total_set : ∀ {R : List (List Ev)} {i : Nat} {l : List Ev} (hi : i < R.length), total (R.set i l) + R[i].length = total R + l.length
  | x :: R, 0, l, _ => by simp [total]; omega
  | x :: R, i + 1, l, hi => by
    have := total_set (R := R) (i := i) (l := l) (by simpa using hi)
    simp only [total, List.set_cons_succ, List.map_cons, List.sum_cons, List.getElem_cons_succ] at *
    omega
theorem stepM_eq {R : List (List Ev)} {a : Inter} {i p : Nat} {x y : Ev} {tx ty : List Ev} (hi : i < R.length) (hp : p < R.length) (h1 : a.from_ = i) (h2 : a.to = p) (hx : R[i] = x :: tx) (hy : R[p] = y :: ty) : stepM R a = (R.set i tx).set p ty := by
  unfold stepM
  rw [h1, h2]
  simp [hi, hp, hx, hy]
theorem step_total {R : List (List Ev)} (h : okR R) {k : Nat} {a : Inter} (hb : bestM R k = some a) : total (stepM R a) + 2 = total R := by
  obtain ⟨i, _, hc⟩ := bestM_some hb
  obtain ⟨p, x, y, tx, ty, hi, hp, hne, h1, h2, hx, hy⟩ := cand_some h hc
  rw [stepM_eq hi hp h1 h2 hx hy]
  have t1 := total_set (R := R) (i := i) (l := tx) hi
  have hp' : p < (R.set i tx).length := by simpa using hp
  have t2 := total_set (R := R.set i tx) (i := p) (l := ty) hp'
  rw [List.getElem_set_ne hne, hy] at t2
  rw [hx] at t1
  simp only [List.length_cons] at t1 t2
  omega
theorem stepM_len (R : List (List Ev)) (a : Inter) : (stepM R a).length = R.length := by simp [stepM]
theorem okR_step {R : List (List Ev)} (h : okR R) {k : Nat} {a : Inter} (hb : bestM R k = some a) : okR (stepM R a) := by
  obtain ⟨i, _, hc⟩ := bestM_some hb
  obtain ⟨p, x, y, tx, ty, hi, hp, hne, h1, h2, hx, hy⟩ := cand_some h hc
  rw [stepM_eq hi hp h1 h2 hx hy]
  have ht : ∀ {q : Nat} {z : Ev} {tz : List Ev} (hq : q < R.length), R[q] = z :: tz → okH R.length q tz = true := by
    intro q z tz hq hz
    have := h q hq
    rw [hz] at this
    simp only [okH, List.all_cons, Bool.and_eq_true] at this
    exact this.2
  intro j hj
  simp only [List.length_set] at hj ⊢
  rw [List.getElem_set]
  split
  · rename_i e
    subst e
    exact ht hp hy
  · rw [List.getElem_set]
    split
    · rename_i e
      subst e
      exact ht hi hx
    · exact h j hj
theorem mergeN_zero {n : Nat} {R : List (List Ev)} (h : total R = 0) : mergeN n R = some [] := by
  cases n <;> simp [mergeN, h]
theorem mergeN_none {n : Nat} {R : List (List Ev)} (h : total R ≠ 0) (hb : bestM R R.length = none) : mergeN n R = none := by
  cases n <;> simp [mergeN, h, hb]
theorem mergeN_some {n : Nat} {R : List (List Ev)} (h : total R ≠ 0) (hn : total R ≤ n) {a : Inter} (hb : bestM R R.length = some a) (ho : okR R) : mergeN n R = (mergeN (n - 2) (stepM R a)).map (a :: ·) := by
  have ht := step_total ho hb
  obtain ⟨m, rfl⟩ : ∃ m, n = m + 2 := ⟨n - 2, by omega⟩
  have hmono : ∀ (n : Nat) (R : List (List Ev)), okR R → total R ≤ n → mergeN (n + 1) R = mergeN n R := by
    intro n
    induction n with
    | zero =>
      intro R _ h0
      have : total R = 0 := by omega
      rw [mergeN_zero this, mergeN_zero this]
    | succ n ih =>
      intro R ho h0
      by_cases hz : total R = 0
      · rw [mergeN_zero hz, mergeN_zero hz]
      · cases hb : bestM R R.length with
        | none => rw [mergeN_none hz hb, mergeN_none hz hb]
        | some a =>
          have := step_total ho hb
          rw [mergeN, mergeN, if_neg hz, if_neg hz, hb]
          simp only
          rw [ih _ (okR_step ho hb) (by omega)]
  rw [mergeN, if_neg h, hb]
  simp only
  rw [hmono m _ (okR_step ho hb) (by omega)]
  rfl
end Go.Av
namespace Go.Av
open Go Go.RowKit Go.Proofs
set_option maxRecDepth 8000
def mResult (o : Option (List Inter)) : RV := .tup [.one (.ow 3 ((o.getD []).map encI)), .one (.bool o.isSome)]
def encB (o : Option Inter) : List DV := encI (o.getD ⟨0, 0, 0⟩)
set_option maxHeartbeats 8000000 in
theorem f34 (H : List (List Ev)) (hl : H.length ≤ 1000000) (hh : ∀ l ∈ H, l.length ≤ 1000000) : Impl Tryz.prog 34 [.one (.sl (H.map encH))] (mResult (merge H)) := by
  refine impl_z Tryz.func34 z34 Tryz.ntmps34 (by simp) ?_
  simp only [c34, slotsOf]
  by_cases hp : properH H = true
  · skip
    repeat' first | (with_reducible first | refine zA ?_ | refine zB ?_ | refine zC ?_ | refine zD ?_ | refine zE ?_ | refine zF ?_ | refine zK ?_ | refine zL ?_ | refine zM ?_ | refine zN ?_ | refine zO ?_ | refine zP ?_ | refine zQ (by decide) ?_ | refine zR ?_ | refine zS ?_ | refine zT ?_ | refine zU ?_ | refine zV ?_ | refine zW ?_ | refine zX ?_) | ((with_reducible refine zY (t := ?_) ?hc (fun h => ?_) (fun h => ?_)); (case hc => rfl); all_goals (try simp [go_sem, hp, encH] at h); all_goals try omega) | ((with_reducible first | refine zZ ?_ | refine za ?_ | refine zb ?_ | refine zc ?_ | refine zd ?_ | refine ze ?_); intro K hK; simp [go_sem, hp, encH]; (try simp (disch := omega) only [wrap_i64, okRefs, eq_self, true_and]); (first | apply hK | ((first | ((try refine .inl ?_); refine ⟨_, by (try intro hc); (repeat' first | exact f77 H hl hh | exact f78 H hl | exact hc | with_reducible refine And.intro ?_ ?_ | simp [go_sem, hp, encH]); first | done | omega, ?_⟩) | refine .inr ⟨_, by (try intro hc); (repeat' first | exact f77 H hl hh | exact f78 H hl | exact hc | with_reducible refine And.intro ?_ ?_ | simp [go_sem, hp, encH]); first | done | omega, ?_⟩); (first | refine hK _ ?_ | refine hK _ _ ?_ | (refine ⟨by simp [go_sem, hp, encH], ?_⟩; first | refine hK _ ?_ | refine hK _ _ ?_ | refine ⟨by simp [go_sem, hp, encH], hK _ _ ?_⟩))) | refine ⟨.one (.one (.bool false)), by simp [go_sem, hp, encH], hK _ _ ?_⟩ | refine ⟨by first | omega | (simp [appendOk, flatEls, hp, encH]; first | done | omega), ?_⟩ | refine ⟨hK _ ?_, fun h => ?_⟩ | refine ⟨?_, ?_⟩); all_goals ((try apply hK); clear hK K))
    refine awp_loop (fun n e => ∃ k, k + n = H.length ∧ e = [(23, .sv (.one (.int .i64 (k : Nat)))), (22, .sv (.one (.int .i64 H.length))), (21, .al 4 []), (5, .sv (.one (.int .i64 (total (H.take k) : Nat)))), (4, .sv (.one (.ow 1 (H.map encH)))), (2, .sv (.one .nil)), (3, .sv (.one (.bool false)))]) H.length _ ⟨0, by simp, rfl⟩ (by simp [go_sem, total]) ?_
    rintro n e ⟨k, hk, rfl⟩
    have ht := total_le (H.take k) fun l hl => hh l (List.mem_of_mem_take hl)
    have hlk : (H.take k).length ≤ k := List.length_take_le _ _
    have htk : total (H.take k) ≤ 1000000000000 := by omega
    clear ht hlk
    by_cases hlt : k < H.length
    · have hh' := hh H[k] (List.getElem_mem hlt)
      repeat' first | (with_reducible first | refine zA ?_ | refine zB ?_ | refine zC ?_ | refine zD ?_ | refine zE ?_ | refine zF ?_ | refine zK ?_ | refine zL ?_ | refine zM ?_ | refine zN ?_ | refine zO ?_ | refine zP ?_ | refine zQ (by decide) ?_ | refine zR ?_ | refine zS ?_ | refine zT ?_ | refine zU ?_ | refine zV ?_ | refine zW ?_ | refine zX ?_) | ((with_reducible refine zY (t := ?_) ?hc (fun h => ?_) (fun h => ?_)); (case hc => rfl); all_goals (try simp [go_sem, hlt, encH] at h); all_goals try omega) | ((with_reducible first | refine zZ ?_ | refine za ?_ | refine zb ?_ | refine zc ?_ | refine zd ?_ | refine ze ?_); intro K hK; simp [go_sem, hlt, encH]; (try simp (disch := omega) only [wrap_i64, okRefs, eq_self, true_and]); (first | apply hK | refine ⟨by first | omega | (simp [appendOk, flatEls, hlt, encH]; first | done | omega), ?_⟩ | refine ⟨hK _ ?_, fun h => ?_⟩ | refine ⟨?_, ?_⟩); all_goals ((try apply hK); clear hK K))
      refine loopQ_normal (n - 1) _ (by omega) ⟨k + 1, by omega, rfl⟩ ?_
      simp [go_sem, total_succ hlt, encH]
    · have hkl : H.take k = H := List.take_of_length_le (by omega)
      have hok : okR H := by
        intro i hi
        unfold properH at hp
        simp only [Bool.and_eq_true, List.all_eq_true] at hp
        have := hp.1 i (by simp [hi])
        simpa [hi] using this
      repeat' first | (with_reducible first | refine zA ?_ | refine zB ?_ | refine zC ?_ | refine zD ?_ | refine zE ?_ | refine zF ?_ | refine zK ?_ | refine zL ?_ | refine zM ?_ | refine zN ?_ | refine zO ?_ | refine zP ?_ | refine zQ (by decide) ?_ | refine zR ?_ | refine zS ?_ | refine zT ?_ | refine zU ?_ | refine zV ?_ | refine zW ?_ | refine zX ?_) | ((with_reducible refine zY (t := ?_) ?hc (fun h => ?_) (fun h => ?_)); (case hc => rfl); all_goals (try simp [go_sem, hlt, hkl] at h); all_goals try omega) | ((with_reducible first | refine zZ ?_ | refine za ?_ | refine zb ?_ | refine zc ?_ | refine zd ?_ | refine ze ?_); intro K hK; simp [go_sem, hlt, hkl]; (try simp (disch := omega) only [wrap_i64, okRefs, eq_self, true_and]); (first | apply hK | refine ⟨by first | omega | (simp [appendOk, flatEls, hlt, hkl]; first | done | omega), ?_⟩ | refine ⟨hK _ ?_, fun h => ?_⟩ | refine ⟨?_, ?_⟩); all_goals ((try apply hK); clear hK K))
      rw [hkl] at htk
      refine awp_loop (fun m e => ∃ (R : List (List Ev)) (out : List Inter), m = total R ∧ total R ≤ 1000000000000 ∧ 2 * out.length ≤ 1000000000000 - total R ∧ okR R ∧ R.length = H.length ∧ (mergeN m R).map (out ++ ·) = merge H ∧ e = [(8, .sv (.one (.ow 3 (out.map encI)))), (5, .sv (.one (.int .i64 (total R : Nat)))), (4, .sv (.one (.ow 1 (R.map encH))))]) (total H) _ ⟨H, [], rfl, htk, by simp, hok, rfl, by simp [merge, hp], rfl⟩ (by simp [go_sem]) ?_
      clear hlt hkl hk htk
      rintro m e ⟨R, out, rfl, htot, hout, hR, hRl, hm, rfl⟩
      by_cases hpos : total R = 0
      · skip
        repeat' first | (with_reducible first | refine zA ?_ | refine zB ?_ | refine zC ?_ | refine zD ?_ | refine zE ?_ | refine zF ?_ | refine zK ?_ | refine zL ?_ | refine zM ?_ | refine zN ?_ | refine zO ?_ | refine zP ?_ | refine zQ (by decide) ?_ | refine zR ?_ | refine zS ?_ | refine zT ?_ | refine zU ?_ | refine zV ?_ | refine zW ?_ | refine zX ?_) | ((with_reducible refine zY (t := ?_) ?hc (fun h => ?_) (fun h => ?_)); (case hc => rfl); all_goals (try simp [go_sem, hpos] at h); all_goals try omega) | ((with_reducible first | refine zZ ?_ | refine za ?_ | refine zb ?_ | refine zc ?_ | refine zd ?_ | refine ze ?_); intro K hK; simp [go_sem, hpos]; (try simp (disch := omega) only [wrap_i64, okRefs, eq_self, true_and]); (first | apply hK | refine ⟨by first | omega | (simp [appendOk, flatEls, hpos]; first | done | omega), ?_⟩ | refine ⟨hK _ ?_, fun h => ?_⟩ | refine ⟨?_, ?_⟩); all_goals ((try apply hK); clear hK K))
        rw [← hm, mergeN_zero hpos]
        simp [go_sem, mResult]
      · have hpos' : 0 < total R := by omega
        repeat' first | (with_reducible first | refine zA ?_ | refine zB ?_ | refine zC ?_ | refine zD ?_ | refine zE ?_ | refine zF ?_ | refine zK ?_ | refine zL ?_ | refine zM ?_ | refine zN ?_ | refine zO ?_ | refine zP ?_ | refine zQ (by decide) ?_ | refine zR ?_ | refine zS ?_ | refine zT ?_ | refine zU ?_ | refine zV ?_ | refine zW ?_ | refine zX ?_) | ((with_reducible refine zY (t := ?_) ?hc (fun h => ?_) (fun h => ?_)); (case hc => rfl); all_goals (try simp [go_sem, hpos'] at h); all_goals try omega) | ((with_reducible first | refine zZ ?_ | refine za ?_ | refine zb ?_ | refine zc ?_ | refine zd ?_ | refine ze ?_); intro K hK; simp [go_sem, hpos']; (try simp (disch := omega) only [wrap_i64, okRefs, eq_self, true_and]); (first | apply hK | refine ⟨by first | omega | (simp [appendOk, flatEls, hpos']; first | done | omega), ?_⟩ | refine ⟨hK _ ?_, fun h => ?_⟩ | refine ⟨?_, ?_⟩); all_goals ((try apply hK); clear hK K))
        refine awp_loop (fun q e => ∃ k, k + q = R.length ∧ e = [(39, .sv (.one (.int .i64 (k : Nat)))), (38, .sv (.one (.int .i64 R.length))), (37, .al 4 []), (10, .sv (.one (.bool (bestM R k).isSome))), (9, .sv (.one (.bx (encB (bestM R k))))), (8, .sv (.one (.ow 3 (out.map encI)))), (5, .sv (.one (.int .i64 (total R : Nat)))), (4, .sv (.one (.ow 1 (R.map encH))))]) R.length _ ⟨0, by simp, rfl⟩ (by simp [go_sem, bestM, encB, encI]) ?_
        rintro q e ⟨k, hk, rfl⟩
        have hnone : cand R k = none → bestM R (k + 1) = bestM R k := fun h => by simp [bestM, h]
        by_cases hlt : k < R.length
        · cases hx : R[k] with
          | nil =>
            have hc : cand R k = none := by simp [cand, hlt, hx]
            repeat' first | (with_reducible first | refine zA ?_ | refine zB ?_ | refine zC ?_ | refine zD ?_ | refine zE ?_ | refine zF ?_ | refine zK ?_ | refine zL ?_ | refine zM ?_ | refine zN ?_ | refine zO ?_ | refine zP ?_ | refine zQ (by decide) ?_ | refine zR ?_ | refine zS ?_ | refine zT ?_ | refine zU ?_ | refine zV ?_ | refine zW ?_ | refine zX ?_) | ((with_reducible refine zY (t := ?_) ?hc (fun h => ?_) (fun h => ?_)); (case hc => rfl); all_goals (try simp [go_sem, hlt, hx, encH] at h); all_goals try omega) | ((with_reducible first | refine zZ ?_ | refine za ?_ | refine zb ?_ | refine zc ?_ | refine zd ?_ | refine ze ?_); intro K hK; simp [go_sem, hlt, hx, encH]; (try simp (disch := omega) only [wrap_i64, okRefs, eq_self, true_and]); (first | apply hK | refine ⟨by first | omega | (simp [appendOk, flatEls, hlt, hx, encH]; first | done | omega), ?_⟩ | refine ⟨hK _ ?_, fun h => ?_⟩ | refine ⟨?_, ?_⟩); all_goals ((try apply hK); clear hK K))
            refine loopQ_normal (q - 1) _ (by omega) ⟨k + 1, by omega, rfl⟩ ?_
            simp [go_sem, hnone hc]
          | cons x tx =>
            obtain ⟨h1, h2, h3, h4⟩ := okR_head hR hlt hx
            cases hsend : x.send with
            | false =>
              have hc : cand R k = none := by simp [cand, hlt, hx, hsend]
              have hpl : x.peer.toNat < R.length := by omega
              repeat' first | (with_reducible first | refine zA ?_ | refine zB ?_ | refine zC ?_ | refine zD ?_ | refine zE ?_ | refine zF ?_ | refine zK ?_ | refine zL ?_ | refine zM ?_ | refine zN ?_ | refine zO ?_ | refine zP ?_ | refine zQ (by decide) ?_ | refine zR ?_ | refine zS ?_ | refine zT ?_ | refine zU ?_ | refine zV ?_ | refine zW ?_ | refine zX ?_) | ((with_reducible refine zY (t := ?_) ?hc (fun h => ?_) (fun h => ?_)); (case hc => rfl); all_goals (try simp [go_sem, hlt, hx, hsend, hpl, encH, encE] at h); all_goals try omega) | ((with_reducible first | refine zZ ?_ | refine za ?_ | refine zb ?_ | refine zc ?_ | refine zd ?_ | refine ze ?_); intro K hK; simp [go_sem, hlt, hx, hsend, hpl, encH, encE]; (try simp (disch := omega) only [wrap_i64, okRefs, eq_self, true_and]); (first | apply hK | refine ⟨by first | omega | (simp [appendOk, flatEls, hlt, hx, hsend, hpl, encH, encE]; first | done | omega), ?_⟩ | refine ⟨hK _ ?_, fun h => ?_⟩ | refine ⟨?_, ?_⟩); all_goals ((try apply hK); clear hK K))
              refine loopQ_normal (q - 1) _ (by omega) ⟨k + 1, by omega, rfl⟩ ?_
              simp [go_sem, hnone hc]
            | true =>
              have hpl : x.peer.toNat < R.length := by omega
              cases hy : R[x.peer.toNat] with
              | nil =>
                have hc : cand R k = none := by simp [cand, hlt, hx, hsend, hpl, hy]
                repeat' first | (with_reducible first | refine zA ?_ | refine zB ?_ | refine zC ?_ | refine zD ?_ | refine zE ?_ | refine zF ?_ | refine zK ?_ | refine zL ?_ | refine zM ?_ | refine zN ?_ | refine zO ?_ | refine zP ?_ | refine zQ (by decide) ?_ | refine zR ?_ | refine zS ?_ | refine zT ?_ | refine zU ?_ | refine zV ?_ | refine zW ?_ | refine zX ?_) | ((with_reducible refine zY (t := ?_) ?hc (fun h => ?_) (fun h => ?_)); (case hc => rfl); all_goals (try simp [go_sem, hlt, hx, hsend, hpl, hy, encH, encE] at h); all_goals try omega) | ((with_reducible first | refine zZ ?_ | refine za ?_ | refine zb ?_ | refine zc ?_ | refine zd ?_ | refine ze ?_); intro K hK; simp [go_sem, hlt, hx, hsend, hpl, hy, encH, encE]; (try simp (disch := omega) only [wrap_i64, okRefs, eq_self, true_and]); (first | apply hK | refine ⟨by first | omega | (simp [appendOk, flatEls, hlt, hx, hsend, hpl, hy, encH, encE]; first | done | omega), ?_⟩ | refine ⟨hK _ ?_, fun h => ?_⟩ | refine ⟨?_, ?_⟩); all_goals ((try apply hK); clear hK K))
                refine loopQ_normal (q - 1) _ (by omega) ⟨k + 1, by omega, rfl⟩ ?_
                simp [go_sem, hnone hc]
              | cons y ty =>
                cases hbk : bestM R k with
                | none =>
                  repeat' first | (with_reducible first | refine zA ?_ | refine zB ?_ | refine zC ?_ | refine zD ?_ | refine zE ?_ | refine zF ?_ | refine zK ?_ | refine zL ?_ | refine zM ?_ | refine zN ?_ | refine zO ?_ | refine zP ?_ | refine zQ (by decide) ?_ | refine zR ?_ | refine zS ?_ | refine zT ?_ | refine zU ?_ | refine zV ?_ | refine zW ?_ | refine zX ?_) | ((with_reducible refine zY (t := ?_) ?hc (fun h => ?_) (fun h => ?_)); (case hc => rfl); all_goals (try simp [go_sem, hlt, hx, hsend, hpl, hy, encH, encE, encB, encI] at h); all_goals try omega) | ((with_reducible first | refine zZ ?_ | refine za ?_ | refine zb ?_ | refine zc ?_ | refine zd ?_ | refine ze ?_); intro K hK; simp [go_sem, hlt, hx, hsend, hpl, hy, encH, encE, encB, encI]; (try simp (disch := omega) only [wrap_i64, okRefs, eq_self, true_and]); (first | apply hK | ((first | ((try refine .inl ?_); refine ⟨_, by (try intro hc); (repeat' first | exact f75 _ _ | exact hc | with_reducible refine And.intro ?_ ?_ | simp [go_sem, hlt, hx, hsend, hpl, hy, encH, encE, encB, encI]); first | done | omega, ?_⟩) | refine .inr ⟨_, by (try intro hc); (repeat' first | exact f75 _ _ | exact hc | with_reducible refine And.intro ?_ ?_ | simp [go_sem, hlt, hx, hsend, hpl, hy, encH, encE, encB, encI]); first | done | omega, ?_⟩); (first | refine hK _ ?_ | refine hK _ _ ?_ | (refine ⟨by simp [go_sem, hlt, hx, hsend, hpl, hy, encH, encE, encB, encI], ?_⟩; first | refine hK _ ?_ | refine hK _ _ ?_ | refine ⟨by simp [go_sem, hlt, hx, hsend, hpl, hy, encH, encE, encB, encI], hK _ _ ?_⟩))) | refine ⟨.one (.one (.bool false)), by simp [go_sem, hlt, hx, hsend, hpl, hy, encH, encE, encB, encI], hK _ _ ?_⟩ | refine ⟨by first | omega | (simp [appendOk, flatEls, hlt, hx, hsend, hpl, hy, encH, encE, encB, encI]; first | done | omega), ?_⟩ | refine ⟨hK _ ?_, fun h => ?_⟩ | refine ⟨?_, ?_⟩); all_goals ((try apply hK); clear hK K))
                  · have hc : cand R k = none := by
                      simp only [cand, hlt, hx, hsend, hpl, hy, List.getElem?_eq_getElem]
                      simp only [if_true]
                      rw [if_neg]
                      rintro ⟨g1, g2, g3⟩
                      simp [g1, g2, g3] at h
                    have hb := hnone hc
                    rw [hbk] at hb
                    refine loopQ_normal (q - 1) _ (by omega) ⟨k + 1, by omega, rfl⟩ ?_
                    simp [go_sem, hb, encB, encI]
                  · have hc : cand R k = some ⟨x.role, x.peer, x.label⟩ := by
                      simp only [cand, hlt, hx, hsend, hpl, hy, List.getElem?_eq_getElem]
                      simp only [if_true]
                      rename_i g
                      rw [if_pos ⟨g.1.1, g.1.2, g.2⟩]
                    have hb : bestM R (k + 1) = some ⟨x.role, x.peer, x.label⟩ := by simp [bestM, hc, hbk, better]
                    refine loopQ_normal (q - 1) _ (by omega) ⟨k + 1, by omega, rfl⟩ ?_
                    simp [go_sem, hb, encB, encI]
                | some b =>
                  repeat' first | (with_reducible first | refine zA ?_ | refine zB ?_ | refine zC ?_ | refine zD ?_ | refine zE ?_ | refine zF ?_ | refine zK ?_ | refine zL ?_ | refine zM ?_ | refine zN ?_ | refine zO ?_ | refine zP ?_ | refine zQ (by decide) ?_ | refine zR ?_ | refine zS ?_ | refine zT ?_ | refine zU ?_ | refine zV ?_ | refine zW ?_ | refine zX ?_) | ((with_reducible refine zY (t := ?_) ?hc (fun h => ?_) (fun h => ?_)); (case hc => rfl); all_goals (try simp [go_sem, hlt, hx, hsend, hpl, hy, encH, encE, encB, encI] at h); all_goals try omega) | ((with_reducible first | refine zZ ?_ | refine za ?_ | refine zb ?_ | refine zc ?_ | refine zd ?_ | refine ze ?_); intro K hK; simp [go_sem, hlt, hx, hsend, hpl, hy, encH, encE, encB, encI]; (try simp (disch := omega) only [wrap_i64, okRefs, eq_self, true_and]); (first | apply hK | ((first | ((try refine .inl ?_); refine ⟨_, by (try intro hc); (repeat' first | exact f75 ⟨x.role, x.peer, x.label⟩ b | exact hc | with_reducible refine And.intro ?_ ?_ | simp [go_sem, hlt, hx, hsend, hpl, hy, encH, encE, encB, encI]); first | done | omega, ?_⟩) | refine .inr ⟨_, by (try intro hc); (repeat' first | exact f75 ⟨x.role, x.peer, x.label⟩ b | exact hc | with_reducible refine And.intro ?_ ?_ | simp [go_sem, hlt, hx, hsend, hpl, hy, encH, encE, encB, encI]); first | done | omega, ?_⟩); (first | refine hK _ ?_ | refine hK _ _ ?_ | (refine ⟨by simp [go_sem, hlt, hx, hsend, hpl, hy, encH, encE, encB, encI], ?_⟩; first | refine hK _ ?_ | refine hK _ _ ?_ | refine ⟨by simp [go_sem, hlt, hx, hsend, hpl, hy, encH, encE, encB, encI], hK _ _ ?_⟩))) | refine ⟨.one (.one (.bool false)), by simp [go_sem, hlt, hx, hsend, hpl, hy, encH, encE, encB, encI], hK _ _ ?_⟩ | refine ⟨by first | omega | (simp [appendOk, flatEls, hlt, hx, hsend, hpl, hy, encH, encE, encB, encI]; first | done | omega), ?_⟩ | refine ⟨hK _ ?_, fun h => ?_⟩ | refine ⟨?_, ?_⟩); all_goals ((try apply hK); clear hK K))
                  · have hc : cand R k = none := by
                      simp only [cand, hlt, hx, hsend, hpl, hy, List.getElem?_eq_getElem]
                      simp only [if_true]
                      rw [if_neg]
                      rintro ⟨g1, g2, g3⟩
                      simp [g1, g2, g3] at h
                    have hb := hnone hc
                    rw [hbk] at hb
                    refine loopQ_normal (q - 1) _ (by omega) ⟨k + 1, by omega, rfl⟩ ?_
                    simp [go_sem, hb, encB, encI]
                  · have hc : cand R k = some ⟨x.role, x.peer, x.label⟩ := by
                      simp only [cand, hlt, hx, hsend, hpl, hy, List.getElem?_eq_getElem]
                      simp only [if_true]
                      rename_i g
                      rw [if_pos ⟨g.1.1, g.1.2, g.2⟩]
                    have hb : bestM R (k + 1) = some ⟨x.role, x.peer, x.label⟩ := by simp [bestM, hc, hbk, better, lt, h]
                    refine loopQ_normal (q - 1) _ (by omega) ⟨k + 1, by omega, rfl⟩ ?_
                    simp [go_sem, hb, encB, encI]
                  · have hc : cand R k = some ⟨x.role, x.peer, x.label⟩ := by
                      simp only [cand, hlt, hx, hsend, hpl, hy, List.getElem?_eq_getElem]
                      simp only [if_true]
                      rename_i g
                      rw [if_pos ⟨g.1.1, g.1.2, g.2⟩]
                    have hlt' : ¬ cmpL (key ⟨x.role, x.peer, x.label⟩) (key b) < 0 := by omega
                    have hb : bestM R (k + 1) = some b := by simp [bestM, hc, hbk, better, lt, hlt']
                    refine loopQ_normal (q - 1) _ (by omega) ⟨k + 1, by omega, rfl⟩ ?_
                    simp [go_sem, hb, encB, encI]
        · have hke : k = R.length := by omega
          subst hke
          cases hb : bestM R R.length with
          | none =>
            repeat' first | (with_reducible first | refine zA ?_ | refine zB ?_ | refine zC ?_ | refine zD ?_ | refine zE ?_ | refine zF ?_ | refine zK ?_ | refine zL ?_ | refine zM ?_ | refine zN ?_ | refine zO ?_ | refine zP ?_ | refine zQ (by decide) ?_ | refine zR ?_ | refine zS ?_ | refine zT ?_ | refine zU ?_ | refine zV ?_ | refine zW ?_ | refine zX ?_) | ((with_reducible refine zY (t := ?_) ?hc (fun h => ?_) (fun h => ?_)); (case hc => rfl); all_goals (try simp [go_sem, hb] at h); all_goals try omega) | ((with_reducible first | refine zZ ?_ | refine za ?_ | refine zb ?_ | refine zc ?_ | refine zd ?_ | refine ze ?_); intro K hK; simp [go_sem, hb]; (try simp (disch := omega) only [wrap_i64, okRefs, eq_self, true_and]); (first | apply hK | refine ⟨by first | omega | (simp [appendOk, flatEls, hb]; first | done | omega), ?_⟩ | refine ⟨hK _ ?_, fun h => ?_⟩ | refine ⟨?_, ?_⟩); all_goals ((try apply hK); clear hK K))
            rw [← hm, mergeN_none hpos hb]
            simp [go_sem, mResult]
          | some a =>
            obtain ⟨i0, _, hc0⟩ := bestM_some hb
            obtain ⟨p, x, y, tx, ty, hi, hp', hne, h1, h2, hx, hy⟩ := cand_some hR hc0
            have ht := step_total hR hb
            repeat' first | (with_reducible first | refine zA ?_ | refine zB ?_ | refine zC ?_ | refine zD ?_ | refine zE ?_ | refine zF ?_ | refine zK ?_ | refine zL ?_ | refine zM ?_ | refine zN ?_ | refine zO ?_ | refine zP ?_ | refine zQ (by decide) ?_ | refine zR ?_ | refine zS ?_ | refine zT ?_ | refine zU ?_ | refine zV ?_ | refine zW ?_ | refine zX ?_) | ((with_reducible refine zY (t := ?_) ?hc (fun h => ?_) (fun h => ?_)); (case hc => rfl); all_goals (try simp [go_sem, hb, encB, encI, encH, h1, h2, hi, hp', hx, hy, hne, hne.symm, encE] at h); all_goals try omega) | ((with_reducible first | refine zZ ?_ | refine za ?_ | refine zb ?_ | refine zc ?_ | refine zd ?_ | refine ze ?_); intro K hK; simp [go_sem, hb, encB, encI, encH, h1, h2, hi, hp', hx, hy, hne, hne.symm, encE]; (try simp (disch := omega) only [wrap_i64, okRefs, eq_self, true_and]); (first | apply hK | refine ⟨by first | omega | (simp [appendOk, flatEls, hb, encB, encI, encH, h1, h2, hi, hp', hx, hy, hne, hne.symm, encE, maxLen, DV.flat]; first | done | omega), ?_⟩ | refine ⟨hK _ ?_, fun h => ?_⟩ | refine ⟨?_, ?_⟩); all_goals ((try apply hK); clear hK K))
            have hst := stepM_eq hi hp' h1 h2 hx hy
            have t1 : List.take tx.length (tx.map encE) = tx.map encE := List.take_of_length_le (by simp)
            have t2 : List.take ty.length (ty.map encE) = ty.map encE := List.take_of_length_le (by simp)
            have hmap : ((R.map encH).set i0 [DV.sl (tx.map encE)]).set p [DV.sl (ty.map encE)] = (stepM R a).map encH := by rw [hst, List.map_set, List.map_set]; rfl
            rw [t1, t2, hmap]
            refine loopQ_normal (total (stepM R a)) _ (by omega) ⟨stepM R a, out ++ [a], rfl, by omega, by simp; omega, okR_step hR hb, by rw [stepM_len, hRl], ?_, rfl⟩ ?_
            · have h0 : total R - 2 = total (stepM R a) := by omega
              rw [← hm, mergeN_some hpos (Nat.le_refl _) hb hR, h0]
              cases mergeN (total (stepM R a)) (stepM R a) <;> simp
            · simp [go_sem, encI, h1, h2]
              omega
  · have hp : properH H = false := by simpa using hp
    repeat' first | (with_reducible first | refine zA ?_ | refine zB ?_ | refine zC ?_ | refine zD ?_ | refine zE ?_ | refine zF ?_ | refine zK ?_ | refine zL ?_ | refine zM ?_ | refine zN ?_ | refine zO ?_ | refine zP ?_ | refine zQ (by decide) ?_ | refine zR ?_ | refine zS ?_ | refine zT ?_ | refine zU ?_ | refine zV ?_ | refine zW ?_ | refine zX ?_) | ((with_reducible refine zY (t := ?_) ?hc (fun h => ?_) (fun h => ?_)); (case hc => rfl); all_goals (try simp [go_sem, hp, encH] at h); all_goals try omega) | ((with_reducible first | refine zZ ?_ | refine za ?_ | refine zb ?_ | refine zc ?_ | refine zd ?_ | refine ze ?_); intro K hK; simp [go_sem, hp, encH]; (try simp (disch := omega) only [wrap_i64, okRefs, eq_self, true_and]); (first | apply hK | ((first | ((try refine .inl ?_); refine ⟨_, by (try intro hc); (repeat' first | exact f77 H hl hh | exact hc | with_reducible refine And.intro ?_ ?_ | simp [go_sem, hp, encH]); first | done | omega, ?_⟩) | refine .inr ⟨_, by (try intro hc); (repeat' first | exact f77 H hl hh | exact hc | with_reducible refine And.intro ?_ ?_ | simp [go_sem, hp, encH]); first | done | omega, ?_⟩); (first | refine hK _ ?_ | refine hK _ _ ?_ | (refine ⟨by simp [go_sem, hp, encH], ?_⟩; first | refine hK _ ?_ | refine hK _ _ ?_ | refine ⟨by simp [go_sem, hp, encH], hK _ _ ?_⟩))) | refine ⟨.one (.one (.bool false)), by simp [go_sem, hp, encH], hK _ _ ?_⟩ | refine ⟨by first | omega | (simp [appendOk, flatEls, hp, encH]; first | done | omega), ?_⟩ | refine ⟨hK _ ?_, fun h => ?_⟩ | refine ⟨?_, ?_⟩); all_goals ((try apply hK); clear hK K))
    simp [go_sem, merge, hp, mResult]
end Go.Av
namespace Go.Av
open Go Go.RowKit Go.Proofs
set_option maxRecDepth 8000
theorem f79 (a b : List Inter) (ha : a.length ≤ 1000000) (hb : b.length ≤ 1000000) : Impl Tryz.prog 79 [.one (.sl (a.map encI)), .one (.sl (b.map encI))] (.one (.one (.bool (decide (a = b))))) := by
  refine impl_z Tryz.func79 z79 Tryz.ntmps79 (by simp) ?_
  simp only [c79, slotsOf]
  repeat' first | (with_reducible first | refine zA ?_ | refine zB ?_ | refine zC ?_ | refine zD ?_ | refine zE ?_ | refine zF ?_ | refine zK ?_ | refine zL ?_ | refine zM ?_ | refine zN ?_ | refine zO ?_ | refine zP ?_ | refine zQ (by decide) ?_ | refine zR ?_ | refine zS ?_ | refine zT ?_ | refine zU ?_ | refine zV ?_ | refine zW ?_ | refine zX ?_) | ((with_reducible refine zY (t := ?_) ?hc (fun h => ?_) (fun h => ?_)); (case hc => rfl); all_goals (try simp [go_sem] at h); all_goals try omega) | ((with_reducible first | refine zZ ?_ | refine za ?_ | refine zb ?_ | refine zc ?_ | refine zd ?_ | refine ze ?_); intro K hK; simp [go_sem]; (try simp (disch := omega) only [wrap_i64, okRefs, eq_self, true_and]); (first | apply hK | refine ⟨by first | omega | (simp [appendOk, flatEls]; first | done | omega), ?_⟩ | refine ⟨hK _ ?_, fun h => ?_⟩ | refine ⟨?_, ?_⟩); all_goals ((try apply hK); clear hK K))
  · have hne : a ≠ b := fun e => h (by rw [e])
    simp [go_sem, hne]
  · have hab : a.length = b.length := by omega
    refine awp_loop (fun n e => ∃ k, k + n = a.length ∧ a.take k = b.take k ∧ e = [(13, .sv (.one (.int .i64 (k : Nat)))), (12, .sv (.one (.int .i64 a.length))), (4, .sv (.one (.bool false))), (0, .sv (.one (.sl (a.map encI)))), (1, .sv (.one (.sl (b.map encI))))]) a.length _ ⟨0, by simp, by simp, rfl⟩ (by simp [go_sem]) ?_
    rintro n e ⟨k, hk, htk, rfl⟩
    by_cases hlt : k < a.length
    · have hlt' : k < b.length := by omega
      repeat' first | (with_reducible first | refine zA ?_ | refine zB ?_ | refine zC ?_ | refine zD ?_ | refine zE ?_ | refine zF ?_ | refine zK ?_ | refine zL ?_ | refine zM ?_ | refine zN ?_ | refine zO ?_ | refine zP ?_ | refine zQ (by decide) ?_ | refine zR ?_ | refine zS ?_ | refine zT ?_ | refine zU ?_ | refine zV ?_ | refine zW ?_ | refine zX ?_) | ((with_reducible refine zY (t := ?_) ?hc (fun h => ?_) (fun h => ?_)); (case hc => rfl); all_goals (try simp [go_sem, hlt, hlt', encI] at h); all_goals try omega) | ((with_reducible first | refine zZ ?_ | refine za ?_ | refine zb ?_ | refine zc ?_ | refine zd ?_ | refine ze ?_); intro K hK; simp [go_sem, hlt, hlt', encI]; (try simp (disch := omega) only [wrap_i64, okRefs, eq_self, true_and]); (first | apply hK | refine ⟨by first | omega | (simp [appendOk, flatEls, hlt, hlt', encI]; first | done | omega), ?_⟩ | refine ⟨hK _ ?_, fun h => ?_⟩ | refine ⟨?_, ?_⟩); all_goals ((try apply hK); clear hK K))
      · have hne : a ≠ b := fun e => by subst e; simp at h
        simp [go_sem, hne]
      · have hkk : a[k] = b[k] := by
          cases ha' : a[k]; cases hb' : b[k]
          simp_all
        refine loopQ_normal (n - 1) _ (by omega) ⟨k + 1, by omega, ?_, rfl⟩ ?_
        · rw [List.take_succ_eq_append_getElem hlt, List.take_succ_eq_append_getElem hlt', htk, hkk]
        · simp [go_sem]
    · have hkl : a.take k = a := List.take_of_length_le (by omega)
      have hkl' : b.take k = b := List.take_of_length_le (by omega)
      have : a = b := by rw [← hkl, ← hkl', htk]
      repeat' first | (with_reducible first | refine zA ?_ | refine zB ?_ | refine zC ?_ | refine zD ?_ | refine zE ?_ | refine zF ?_ | refine zK ?_ | refine zL ?_ | refine zM ?_ | refine zN ?_ | refine zO ?_ | refine zP ?_ | refine zQ (by decide) ?_ | refine zR ?_ | refine zS ?_ | refine zT ?_ | refine zU ?_ | refine zV ?_ | refine zW ?_ | refine zX ?_) | ((with_reducible refine zY (t := ?_) ?hc (fun h => ?_) (fun h => ?_)); (case hc => rfl); all_goals (try simp [go_sem, hlt] at h); all_goals try omega) | ((with_reducible first | refine zZ ?_ | refine za ?_ | refine zb ?_ | refine zc ?_ | refine zd ?_ | refine ze ?_); intro K hK; simp [go_sem, hlt]; (try simp (disch := omega) only [wrap_i64, okRefs, eq_self, true_and]); (first | apply hK | refine ⟨by first | omega | (simp [appendOk, flatEls, hlt]; first | done | omega), ?_⟩ | refine ⟨hK _ ?_, fun h => ?_⟩ | refine ⟨?_, ?_⟩); all_goals ((try apply hK); clear hK K))
      simp [go_sem, this]
def lab (s : Bool) (p : Int) (e : Ev) : List Int := if e.send = s ∧ e.peer = p then [e.label] else []
def labelsOf (h : List Ev) (s : Bool) (p : Int) : List Int := h.flatMap (lab s p)
theorem labels_succ {l : List Ev} {k : Nat} (h : k < l.length) (s : Bool) (p : Int) : labelsOf (l.take (k + 1)) s p = labelsOf (l.take k) s p ++ lab s p l[k] := by
  unfold labelsOf
  rw [List.take_succ_eq_append_getElem h, List.flatMap_append]
  simp only [List.flatMap_cons, List.flatMap_nil, List.append_nil]
theorem labels_len (s : Bool) (p : Int) : ∀ (l : List Ev), (labelsOf l s p).length ≤ l.length
  | [] => by simp [labelsOf]
  | x :: l => by
    have h2 := labels_len s p l
    have h1 : (lab s p x).length ≤ 1 := by unfold lab; split <;> simp
    simp only [labelsOf, List.flatMap_cons, List.length_append, List.length_cons] at *
    omega
end Go.Av
namespace Go.Av
open Go Go.RowKit Go.Proofs
set_option maxRecDepth 8000
theorem f37 (a b : List Inter) (ha : a.length ≤ 1000000) (hb : b.length ≤ 1000000) : Impl Tryz.prog 37 [.one (.sl (a.map encI)), .one (.sl (b.map encI))] (.one (.one (.bool (decide (normal a = normal b))))) := by
  refine impl_z Tryz.func37 z37 Tryz.ntmps37 (by simp) ?_
  have hna := normal_len _ a rfl
  have hnb := normal_len _ b rfl
  simp only [c37, slotsOf]
  repeat' first | (with_reducible first | refine zA ?_ | refine zB ?_ | refine zD ?_ | refine zF ?_ | refine zK ?_ | refine zL ?_ | refine zT ?_ | refine zX ?_) | ((with_reducible refine zY (t := ?_) ?hc (fun h => ?_) (fun h => ?_)); (case hc => rfl); all_goals (try simp [go_sem] at h); all_goals try omega) | ((with_reducible first | refine zZ ?_ | refine zd ?_ | refine ze ?_); intro K hK; simp [go_sem]; (try simp (disch := omega) only [wrap_i64, okRefs, eq_self, true_and]); (first | apply hK | ((first | ((try refine .inl ?_); refine ⟨_, by (try intro hc); (repeat' first | exact f33 a ha | exact f33 b hb | exact f79 (normal a) (normal b) (by omega) (by omega) | exact hc | with_reducible refine And.intro ?_ ?_ | simp [go_sem]); first | done | omega, ?_⟩) | refine .inr ⟨_, by (try intro hc); (repeat' first | exact f33 a ha | exact f33 b hb | exact f79 (normal a) (normal b) (by omega) (by omega) | exact hc | with_reducible refine And.intro ?_ ?_ | simp [go_sem]); first | done | omega, ?_⟩); (first | refine hK _ ?_ | refine hK _ _ ?_ | (refine ⟨by simp [go_sem], ?_⟩; first | refine hK _ ?_ | refine hK _ _ ?_ | refine ⟨by simp [go_sem], hK _ _ ?_⟩))) | refine ⟨.one (.one (.bool false)), by simp [go_sem], hK _ _ ?_⟩ | refine ⟨by first | omega | (simp [appendOk, flatEls]; first | done | omega), ?_⟩ | refine ⟨hK _ ?_, fun h => ?_⟩ | refine ⟨?_, ?_⟩); all_goals ((try apply hK); clear hK K))
  all_goals simp [go_sem]
def wa : Inter := ⟨0, 1, 0⟩
def wb : Inter := ⟨2, 3, 1⟩
theorem n_ba : normal [wb, wa] = [wa, wb] := by decide
theorem n_ab : normal [wa, wb] = [wa, wb] := by decide
theorem m_ab : merge (histories [wa, wb] 4) = some [wa, wb] := by rfl
theorem f9 : Impl Tryz.prog 9 [] (.one (.one (.bool true))) := by
  have h17 : Impl Tryz.prog 33 [.one (.sl [[.int .i64 2, .int .i64 3, .int .i64 1], [.int .i64 0, .int .i64 1, .int .i64 0]])] (.one (.one (.ow 3 [[.int .i64 0, .int .i64 1, .int .i64 0], [.int .i64 2, .int .i64 3, .int .i64 1]]))) := by
    have := f33 [wb, wa] (by simp)
    rwa [n_ba] at this
  have h12 : Impl Tryz.prog 35 [.one (.sl [[.int .i64 0, .int .i64 1, .int .i64 0], [.int .i64 2, .int .i64 3, .int .i64 1]]), .one (.int .i64 4)]
      (.one (.one (.ow 1 [[.ow 5 [[.int .i64 0, .bool true, .int .i64 1, .int .i64 0, .nil]]], [.ow 5 [[.int .i64 1, .bool false, .int .i64 0, .int .i64 0, .nil]]], [.ow 5 [[.int .i64 2, .bool true, .int .i64 3, .int .i64 1, .nil]]], [.ow 5 [[.int .i64 3, .bool false, .int .i64 2, .int .i64 1, .nil]]]]))) := f35 [wa, wb] 4 (by simp)
  have h23 := f34 (histories [wa, wb] 4) (by simp [histories, hists]) (by
    intro l hl
    simp only [histories, hists] at hl
    simp at hl
    rcases hl with ⟨i, _, rfl⟩
    have := project_len i [wa, wb]
    simp at this
    omega)
  rw [m_ab] at h23
  have h23' : Impl Tryz.prog 34 [.one (.sl [[.sl [[.int .i64 0, .bool true, .int .i64 1, .int .i64 0, .nil]]], [.sl [[.int .i64 1, .bool false, .int .i64 0, .int .i64 0, .nil]]], [.sl [[.int .i64 2, .bool true, .int .i64 3, .int .i64 1, .nil]]], [.sl [[.int .i64 3, .bool false, .int .i64 2, .int .i64 1, .nil]]]])]
      (.tup [.one (.ow 3 [[.int .i64 0, .int .i64 1, .int .i64 0], [.int .i64 2, .int .i64 3, .int .i64 1]]), .one (.bool true)]) := h23
  have h14' := f37 [wa, wb] [wb, wa] (by simp) (by simp)
  rw [n_ba, n_ab] at h14'
  have h14 : Impl Tryz.prog 37 [.one (.sl [[.int .i64 0, .int .i64 1, .int .i64 0], [.int .i64 2, .int .i64 3, .int .i64 1]]), .one (.sl [[.int .i64 2, .int .i64 3, .int .i64 1], [.int .i64 0, .int .i64 1, .int .i64 0]])] (.one (.one (.bool true))) := by
    have e : decide ([wa, wb] = [wa, wb]) = true := by simp
    rw [e] at h14'
    exact h14'
  have h25 : Impl Tryz.prog 14 [.one (.sl [[.int .i64 0, .int .i64 1, .int .i64 0], [.int .i64 2, .int .i64 3, .int .i64 1]]), .one (.int .i64 2)] (.one (.one (.ow 5 [[.int .i64 2, .bool true, .int .i64 3, .int .i64 1, .nil]]))) := f14 [wa, wb] 2 (by simp)
  have h20 : Impl Tryz.prog 36 [.ag [.int .i64 0, .int .i64 1, .int .i64 0], .ag [.int .i64 2, .int .i64 3, .int .i64 1]] (.one (.one (.bool true))) := f36 wa wb
  refine impl_z Tryz.func9 z9 Tryz.ntmps9 (by simp) ?_
  simp only [c9, slotsOf]
  repeat' first | (with_reducible first | refine zA ?_ | refine zB ?_ | refine zD ?_ | refine zF ?_ | refine zK ?_ | refine zL ?_ | refine zT ?_ | refine zU ?_ | refine zV ?_ | refine zW ?_ | refine zX ?_) | ((with_reducible refine zY (t := ?_) ?hc (fun h => ?_) (fun h => ?_)); (case hc => rfl); all_goals (try simp [go_sem] at h); all_goals try omega) | ((with_reducible first | refine zZ ?_ | refine za ?_ | refine zb ?_ | refine zc ?_ | refine zd ?_ | refine ze ?_); intro K hK; simp [go_sem]; (try simp (disch := omega) only [wrap_i64, okRefs, eq_self, true_and]); (first | apply hK | ((first | ((try refine .inl ?_); refine ⟨_, by (try intro hc); (repeat' first | exact h17 | exact h12 | exact h23' | exact h20 | exact h14 | exact h25 | exact hc | with_reducible refine And.intro ?_ ?_ | simp [go_sem]); first | done | omega, ?_⟩) | refine .inr ⟨_, by (try intro hc); (repeat' first | exact h17 | exact h12 | exact h23' | exact h20 | exact h14 | exact h25 | exact hc | with_reducible refine And.intro ?_ ?_ | simp [go_sem]); first | done | omega, ?_⟩); (first | refine hK _ ?_ | refine hK _ _ ?_ | (refine ⟨by simp [go_sem], ?_⟩; first | refine hK _ ?_ | refine hK _ _ ?_ | refine ⟨by simp [go_sem], hK _ _ ?_⟩))) | refine ⟨.one (.one (.bool false)), by simp [go_sem], hK _ _ ?_⟩ | refine ⟨by first | omega | (simp [appendOk, flatEls]; first | done | omega), ?_⟩ | refine ⟨hK _ ?_, fun h => ?_⟩ | refine ⟨?_, ?_⟩); all_goals ((try apply hK); clear hK K))
  all_goals simp [go_sem]
end Go.Av
namespace Go.Av
open Go Go.RowKit Go.Proofs
set_option maxRecDepth 8000
def evSame (a b : Ev) : Bool := decide (a.role = b.role) && (a.send == b.send) && decide (a.peer = b.peer) && decide (a.label = b.label)
def evsSame (a b : List Ev) : Bool := decide (a.length = b.length) && ((a.zip b).all fun x => evSame x.1 x.2)
theorem evsSame_succ {a b : List Ev} {k : Nat} (ha : k < a.length) (hb : k < b.length) (hl : a.length = b.length) (h : evsSame (a.take k) (b.take k) = true) : evsSame (a.take (k + 1)) (b.take (k + 1)) = evSame a[k] b[k] := by
  unfold evsSame at *
  simp only [Bool.and_eq_true] at h
  rw [List.take_succ_eq_append_getElem ha, List.take_succ_eq_append_getElem hb, List.zip_append (by simp [hl]), List.all_append, h.2]
  simp [hl]
theorem evsSame_not {a b : List Ev} {k : Nat} (ha : k < a.length) (hb : k < b.length) (h : evSame a[k] b[k] = false) : evsSame a b = false := by
  unfold evsSame
  rw [Bool.and_eq_false_iff]
  right
  rw [List.all_eq_false]
  refine ⟨(a[k], b[k]), ?_, by simp [h]⟩
  rw [List.mem_iff_getElem]
  exact ⟨k, by simp; omega, by simp⟩
theorem f13 (a b : List Ev) (ha : a.length ≤ 1000000) (hb : b.length ≤ 1000000) : Impl Tryz.prog 13 [.one (.sl (a.map encE)), .one (.sl (b.map encE))] (.one (.one (.bool (evsSame a b)))) := by
  refine impl_z Tryz.func13 z13 Tryz.ntmps13 (by simp) ?_
  simp only [c13, slotsOf]
  repeat' first | (with_reducible first | refine zA ?_ | refine zB ?_ | refine zC ?_ | refine zD ?_ | refine zE ?_ | refine zF ?_ | refine zK ?_ | refine zL ?_ | refine zM ?_ | refine zN ?_ | refine zO ?_ | refine zP ?_ | refine zQ (by decide) ?_ | refine zR ?_ | refine zS ?_ | refine zT ?_ | refine zU ?_ | refine zV ?_ | refine zW ?_ | refine zX ?_) | ((with_reducible refine zY (t := ?_) ?hc (fun h => ?_) (fun h => ?_)); (case hc => rfl); all_goals (try simp [go_sem] at h); all_goals try omega) | ((with_reducible first | refine zZ ?_ | refine za ?_ | refine zb ?_ | refine zc ?_ | refine zd ?_ | refine ze ?_); intro K hK; simp [go_sem]; (try simp (disch := omega) only [wrap_i64, okRefs, eq_self, true_and]); (first | apply hK | refine ⟨by first | omega | (simp [appendOk, flatEls]; first | done | omega), ?_⟩ | refine ⟨hK _ ?_, fun h => ?_⟩ | refine ⟨?_, ?_⟩); all_goals ((try apply hK); clear hK K))
  · simp [go_sem, evsSame]
    omega
  · have hab : a.length = b.length := by omega
    refine awp_loop (fun n e => ∃ k, k + n = a.length ∧ evsSame (a.take k) (b.take k) = true ∧ e = [(5, .sv (.one (.int .i64 (k : Nat)))), (4, .sv (.one (.bool false))), (0, .sv (.one (.sl (a.map encE)))), (1, .sv (.one (.sl (b.map encE))))]) a.length _ ⟨0, by simp, by simp [evsSame], rfl⟩ (by simp [go_sem]) ?_
    rintro n e ⟨k, hk, htk, rfl⟩
    by_cases hlt : k < a.length
    · have hlt' : k < b.length := by omega
      repeat' first | (with_reducible first | refine zA ?_ | refine zB ?_ | refine zC ?_ | refine zD ?_ | refine zE ?_ | refine zF ?_ | refine zK ?_ | refine zL ?_ | refine zM ?_ | refine zN ?_ | refine zO ?_ | refine zP ?_ | refine zQ (by decide) ?_ | refine zR ?_ | refine zS ?_ | refine zT ?_ | refine zU ?_ | refine zV ?_ | refine zW ?_ | refine zX ?_) | ((with_reducible refine zY (t := ?_) ?hc (fun h => ?_) (fun h => ?_)); (case hc => rfl); all_goals (try simp [go_sem, hlt, hlt', encE] at h); all_goals try omega) | ((with_reducible first | refine zZ ?_ | refine za ?_ | refine zb ?_ | refine zc ?_ | refine zd ?_ | refine ze ?_); intro K hK; simp [go_sem, hlt, hlt', encE]; (try simp (disch := omega) only [wrap_i64, okRefs, eq_self, true_and]); (first | apply hK | refine ⟨by first | omega | (simp [appendOk, flatEls, hlt, hlt', encE]; first | done | omega), ?_⟩ | refine ⟨hK _ ?_, fun h => ?_⟩ | refine ⟨?_, ?_⟩); all_goals ((try apply hK); clear hK K))
      · have hne : evSame a[k] b[k] = false := by
          rw [Bool.eq_false_iff]
          intro hc
          simp only [evSame, Bool.and_eq_true, decide_eq_true_eq, beq_iff_eq] at hc
          simp_all
        simp [go_sem, evsSame_not hlt hlt' hne]
      · have hkk : evSame a[k] b[k] = true := by
          simp only [evSame, Bool.and_eq_true, decide_eq_true_eq, beq_iff_eq]
          simp_all
        refine loopQ_normal (n - 1) _ (by omega) ⟨k + 1, by omega, ?_, rfl⟩ ?_
        · rw [evsSame_succ hlt hlt' hab htk, hkk]
        · simp [go_sem]
    · have hkl : a.take k = a := List.take_of_length_le (by omega)
      have hkl' : b.take k = b := List.take_of_length_le (by omega)
      repeat' first | (with_reducible first | refine zA ?_ | refine zB ?_ | refine zC ?_ | refine zD ?_ | refine zE ?_ | refine zF ?_ | refine zK ?_ | refine zL ?_ | refine zM ?_ | refine zN ?_ | refine zO ?_ | refine zP ?_ | refine zQ (by decide) ?_ | refine zR ?_ | refine zS ?_ | refine zT ?_ | refine zU ?_ | refine zV ?_ | refine zW ?_ | refine zX ?_) | ((with_reducible refine zY (t := ?_) ?hc (fun h => ?_) (fun h => ?_)); (case hc => rfl); all_goals (try simp [go_sem, hlt] at h); all_goals try omega) | ((with_reducible first | refine zZ ?_ | refine za ?_ | refine zb ?_ | refine zc ?_ | refine zd ?_ | refine ze ?_); intro K hK; simp [go_sem, hlt]; (try simp (disch := omega) only [wrap_i64, okRefs, eq_self, true_and]); (first | apply hK | refine ⟨by first | omega | (simp [appendOk, flatEls, hlt]; first | done | omega), ?_⟩ | refine ⟨hK _ ?_, fun h => ?_⟩ | refine ⟨?_, ?_⟩); all_goals ((try apply hK); clear hK K))
      simp [go_sem]
      rw [← hkl, ← hkl', htk]
end Go.Av
namespace Go.Av
open Go Go.RowKit Go.Proofs
set_option maxRecDepth 8000
theorem sum_mem : ∀ {l : List Nat} {n : Nat}, n ∈ l → n ≤ l.sum
  | a :: l, n, h => by
    rw [List.sum_cons]
    rcases List.mem_cons.1 h with rfl | h
    · omega
    · have := sum_mem h; omega
theorem units_mem {l : List Dcl} {d : Dcl} (h : d ∈ l) : d.fields.length + (d.diffs.length + d.equals.length) ≤ units l l.length := by
  unfold units
  rw [List.take_length]
  exact sum_mem (List.mem_map_of_mem (f := fun d : Dcl => d.fields.length + (d.diffs.length + d.equals.length)) h)
theorem few_small {g : Glob} (h : fewG g = true) (hn : ∀ d ∈ g.decls, d.name.size ≤ 1000000000000000) : Small g := by
  simp only [fewG, fewD, Bool.and_eq_true, decide_eq_true_eq] at h
  obtain ⟨⟨⟨⟨h1, h2⟩, h3⟩, h4⟩, h5, h6⟩ := h
  refine ⟨by omega, by omega, fun d hd => ?_, fun d hd => ?_, by omega, by omega⟩
  · have := units_mem hd; omega
  · have := units_mem hd; have := hn d hd; omega
abbrev H12 : Prop := ∀ (g : Glob), Small g → ∀ ws : List Inter, ws.length ≤ 1000000000000000 → Impl Tryz.prog 12 [.ag (encG g), .one (.sl (ws.map encI))] (pathG g ws)
theorem evsSame_refl (l : List Ev) : evsSame l l = true := by
  unfold evsSame
  simp only [Bool.and_eq_true, decide_eq_true_eq, true_and, List.all_eq_true]
  intro x hx
  have : x.1 = x.2 := by
    obtain ⟨i, hi, rfl⟩ := List.mem_iff_getElem.1 hx
    simp
  rw [this]
  simp [evSame]
theorem f3 (h109 : H109) (h12 : H12) (g : Glob) (ws : List Inter) (role : Int) (hl : g.decls.length ≤ 1000000000000000) (hp : ∀ d ∈ g.decls, d.fields.length ≤ 1000000000000000 ∧ d.diffs.length ≤ 1000000000000000 ∧ d.equals.length ≤ 1000000000000000) (hn : ∀ d ∈ g.decls, d.name.size ≤ 1000000000000000) (hw : ws.length ≤ 1000000000000000) :
    Impl Tryz.prog 3 [.ag (encG g), .one (.sl (ws.map encI)), .one (.int .i64 role)] (.one (.one (.bool true))) := by
  have k1 := f9
  have k2 := f10 g hl hp
  have k3 : fewG g = true → Impl Tryz.prog 11 [.ag (encG g), .one (.sl (ws.map encI))] (pathG g ws) := fun h => f11 h109 g (few_small h hn) ws hw
  have k4 : fewG g = true → Impl Tryz.prog 12 [.ag (encG g), .one (.sl (ws.map encI))] (pathG g ws) := fun h => h12 g (few_small h hn) ws hw
  refine impl_z Tryz.func3 z3 Tryz.ntmps3 (by simp) ?_
  simp only [c3, slotsOf]
  simp only [encG] at k2 k3 k4
  cases hf : fewG g with
  | false =>
    rw [hf] at k2
    repeat' first | (with_reducible first | refine zA ?_ | refine zB ?_ | refine zD ?_ | refine zF ?_ | refine zK ?_ | refine zL ?_ | refine zT ?_ | refine zX ?_) | ((with_reducible refine zY (t := ?_) ?hc (fun h => ?_) (fun h => ?_)); (case hc => rfl); all_goals (try simp [go_sem, encG] at h); all_goals try omega) | ((with_reducible first | refine zZ ?_ | refine zd ?_ | refine ze ?_); intro K hK; simp [go_sem, encG]; (try simp (disch := omega) only [wrap_i64, okRefs, eq_self, true_and]); (first | apply hK | ((first | ((try refine .inl ?_); refine ⟨_, by (try intro hc); (repeat' first | exact k1 | exact k2 | exact hc | with_reducible refine And.intro ?_ ?_ | simp [go_sem, encG]); first | done | omega, ?_⟩) | refine .inr ⟨_, by (try intro hc); (repeat' first | exact k1 | exact k2 | exact hc | with_reducible refine And.intro ?_ ?_ | simp [go_sem, encG]); first | done | omega, ?_⟩); (first | refine hK _ ?_ | refine hK _ _ ?_ | (refine ⟨by simp [go_sem, encG], ?_⟩; first | refine hK _ ?_ | refine hK _ _ ?_ | refine ⟨by simp [go_sem, encG], hK _ _ ?_⟩))) | refine ⟨.one (.one (.bool false)), by simp [go_sem, encG], hK _ _ ?_⟩ | refine ⟨by first | omega | (simp [appendOk, flatEls, encG]; first | done | omega), ?_⟩ | refine ⟨hK _ ?_, fun h => ?_⟩ | refine ⟨?_, ?_⟩); all_goals ((try apply hK); clear hK K))
    simp [go_sem]
  | true =>
    have k3 := k3 hf
    have k4 := k4 hf
    rw [hf] at k2
    by_cases h30 : (ws.length : Int) ≤ 30
    · have h30' : ¬ (30 : Int) < (ws.length : Int) := by omega
      have k5 := f14 ws role (by omega)
      have k6 := f15 ws role (by omega)
      have hpl := project_len role ws
      have k7 := f13 (project ws role) (project ws role) (by omega) (by omega)
      rw [evsSame_refl] at k7
      obtain ⟨a, b, hab⟩ : ∃ (a : Int) (b : Bool), pathG g ws = .tup [.one (.int .i64 a), .one (.bool b)] := ⟨_, _, rfl⟩
      rw [hab] at k3 k4
      repeat' first | (with_reducible first | refine zA ?_ | refine zB ?_ | refine zD ?_ | refine zF ?_ | refine zK ?_ | refine zL ?_ | refine zT ?_ | refine zX ?_) | ((with_reducible refine zY (t := ?_) ?hc (fun h => ?_) (fun h => ?_)); (case hc => rfl); all_goals (try simp [go_sem, encG, h30'] at h); all_goals try omega) | ((with_reducible first | refine zZ ?_ | refine zd ?_ | refine ze ?_); intro K hK; simp [go_sem, encG, h30']; (try simp (disch := omega) only [wrap_i64, okRefs, eq_self, true_and]); (first | apply hK | ((first | ((try refine .inl ?_); refine ⟨_, by (try intro hc); (repeat' first | exact k1 | exact k2 | exact k3 | exact k4 | exact k5 | exact k6 | exact k7 | exact hc | with_reducible refine And.intro ?_ ?_ | simp [go_sem, encG, h30']); first | done | omega, ?_⟩) | refine .inr ⟨_, by (try intro hc); (repeat' first | exact k1 | exact k2 | exact k3 | exact k4 | exact k5 | exact k6 | exact k7 | exact hc | with_reducible refine And.intro ?_ ?_ | simp [go_sem, encG, h30']); first | done | omega, ?_⟩); (first | refine hK _ ?_ | refine hK _ _ ?_ | (refine ⟨by simp [go_sem, encG, h30'], ?_⟩; first | refine hK _ ?_ | refine hK _ _ ?_ | refine ⟨by simp [go_sem, encG, h30'], hK _ _ ?_⟩))) | refine ⟨.one (.one (.bool false)), by simp [go_sem, encG, h30'], hK _ _ ?_⟩ | refine ⟨by first | omega | (simp [appendOk, flatEls, encG, h30']; first | done | omega), ?_⟩ | refine ⟨hK _ ?_, fun h => ?_⟩ | refine ⟨?_, ?_⟩); all_goals ((try apply hK); clear hK K))
      all_goals simp [go_sem]
    · have h30' : (30 : Int) < (ws.length : Int) := by omega
      repeat' first | (with_reducible first | refine zA ?_ | refine zB ?_ | refine zD ?_ | refine zF ?_ | refine zK ?_ | refine zL ?_ | refine zT ?_ | refine zX ?_) | ((with_reducible refine zY (t := ?_) ?hc (fun h => ?_) (fun h => ?_)); (case hc => rfl); all_goals (try simp [go_sem, encG, h30'] at h); all_goals try omega) | ((with_reducible first | refine zZ ?_ | refine zd ?_ | refine ze ?_); intro K hK; simp [go_sem, encG, h30']; (try simp (disch := omega) only [wrap_i64, okRefs, eq_self, true_and]); (first | apply hK | ((first | ((try refine .inl ?_); refine ⟨_, by (try intro hc); (repeat' first | exact k1 | exact k2 | exact hc | with_reducible refine And.intro ?_ ?_ | simp [go_sem, encG, h30']); first | done | omega, ?_⟩) | refine .inr ⟨_, by (try intro hc); (repeat' first | exact k1 | exact k2 | exact hc | with_reducible refine And.intro ?_ ?_ | simp [go_sem, encG, h30']); first | done | omega, ?_⟩); (first | refine hK _ ?_ | refine hK _ _ ?_ | (refine ⟨by simp [go_sem, encG, h30'], ?_⟩; first | refine hK _ ?_ | refine hK _ _ ?_ | refine ⟨by simp [go_sem, encG, h30'], hK _ _ ?_⟩))) | refine ⟨.one (.one (.bool false)), by simp [go_sem, encG, h30'], hK _ _ ?_⟩ | refine ⟨by first | omega | (simp [appendOk, flatEls, encG, h30']; first | done | omega), ?_⟩ | refine ⟨hK _ ?_, fun h => ?_⟩ | refine ⟨?_, ?_⟩); all_goals ((try apply hK); clear hK K))
      simp [go_sem]
end Go.Av
namespace Go.Av
open Go Go.RowKit Go.Proofs
set_option maxRecDepth 8000
theorem mask_all : ∀ n : Fin 201, IntKind.u64.wrap ((BitVec.ofInt IntKind.u64.bits (n.val : Int) &&& BitVec.ofInt IntKind.u64.bits 4294967295).toNat : Int) = (n.val : Int) := by decide +kernel
theorem shift_all : ∀ n : Fin 201, (n.val : Int).fdiv 4294967296 = 0 := by decide +kernel
theorem wrap_all : ∀ n : Fin 201, IntKind.u64.wrap (n.val : Int) = (n.val : Int) := by decide +kernel
theorem f142 (n : Nat) (h : n ≤ 200) : Impl Tryz.prog 142 [.one (.int .u64 1), .one (.int .u64 n)] (.tup [.one (.int .u64 0), .one (.int .u64 n)]) := by
  have m1 : IntKind.u64.wrap ((BitVec.ofInt IntKind.u64.bits (n : Int) &&& BitVec.ofInt IntKind.u64.bits 4294967295).toNat : Int) = (n : Int) := mask_all ⟨n, by omega⟩
  have m0 : IntKind.u64.wrap ((BitVec.ofInt IntKind.u64.bits (0 : Int) &&& BitVec.ofInt IntKind.u64.bits 4294967295).toNat : Int) = (0 : Int) := mask_all ⟨0, by omega⟩
  simp [go_sem] at m1
  have s1 : (n : Int).fdiv 4294967296 = 0 := shift_all ⟨n, by omega⟩
  have w1 : IntKind.u64.wrap (n : Int) = (n : Int) := wrap_all ⟨n, by omega⟩
  have w2 : IntKind.u64.wrap 0 = 0 := wrap_all ⟨0, by omega⟩
  have w3 : IntKind.u64.wrap 1 = 1 := wrap_all ⟨1, by omega⟩
  refine impl_z Tryz.func142 z142 Tryz.ntmps142 (by simp) ?_
  simp only [c142, slotsOf]
  repeat' first | (with_reducible first | refine zA ?_ | refine zB ?_ | refine zD ?_ | refine zF ?_ | refine zK ?_ | refine zL ?_ | refine zT ?_ | refine zX ?_) | ((with_reducible refine zY (t := ?_) ?hc (fun h => ?_) (fun h => ?_)); (case hc => rfl); all_goals (try simp [go_sem, m1, s1, w1, w2, w3] at h); all_goals try omega) | ((with_reducible first | refine zZ ?_ | refine zd ?_ | refine ze ?_); intro K hK; simp [go_sem, m1, s1, w1, w2, w3]; (try simp (disch := omega) only [wrap_i64, okRefs, eq_self, true_and]); (first | apply hK | refine ⟨by first | omega | (simp [appendOk, flatEls, m1, s1, w1, w2, w3]; first | done | omega), ?_⟩ | refine ⟨hK _ ?_, fun h => ?_⟩ | refine ⟨?_, ?_⟩); all_goals ((try apply hK); clear hK K))
  simp [go_sem, m1, s1, w1, w2, w3]
theorem f125 (n : Nat) (h : n ≤ 200) : Impl Tryz.prog 125 [.one (.int .u64 1), .one (.int .u64 n)] (.tup [.one (.int .u64 0), .one (.int .u64 n)]) := by
  have k1 := f142 n h
  refine impl_z Tryz.func125 z125 Tryz.ntmps125 (by simp) ?_
  simp only [c125, slotsOf]
  repeat' first | (with_reducible first | refine zA ?_ | refine zB ?_ | refine zD ?_ | refine zF ?_ | refine zK ?_ | refine zL ?_ | refine zT ?_ | refine zX ?_) | ((with_reducible refine zY (t := ?_) ?hc (fun h => ?_) (fun h => ?_)); (case hc => rfl); all_goals (try simp [go_sem] at h); all_goals try omega) | ((with_reducible first | refine zZ ?_ | refine zd ?_ | refine ze ?_); intro K hK; simp [go_sem]; (try simp (disch := omega) only [wrap_i64, okRefs, eq_self, true_and]); (first | apply hK | ((first | ((try refine .inl ?_); refine ⟨_, by (try intro hc); (repeat' first | exact k1 | exact hc | with_reducible refine And.intro ?_ ?_ | simp [go_sem]); first | done | omega, ?_⟩) | refine .inr ⟨_, by (try intro hc); (repeat' first | exact k1 | exact hc | with_reducible refine And.intro ?_ ?_ | simp [go_sem]); first | done | omega, ?_⟩); (first | refine hK _ ?_ | refine hK _ _ ?_ | (refine ⟨by simp [go_sem], ?_⟩; first | refine hK _ ?_ | refine hK _ _ ?_ | refine ⟨by simp [go_sem], hK _ _ ?_⟩))) | refine ⟨.one (.one (.bool false)), by simp [go_sem], hK _ _ ?_⟩ | refine ⟨by first | omega | (simp [appendOk, flatEls]; first | done | omega), ?_⟩ | refine ⟨hK _ ?_, fun h => ?_⟩ | refine ⟨?_, ?_⟩); all_goals ((try apply hK); clear hK K))
  simp [go_sem]
end Go.Av
namespace Go.Av
open Go Go.RowKit Go.Proofs
set_option maxRecDepth 8000
def half (k n : Nat) : List (List DV) := (List.replicate k (-1 : Int) ++ List.replicate (n - k) 0).map encN
theorem half_len {k n : Nat} (h : k ≤ n) : (half k n).length = n := by simp [half]; omega
theorem half_flat (k n : Nat) : flatEls (half k n) := by
  unfold half
  rw [flatEls_map]
  intro x hx
  rfl
theorem half_one (k n : Nat) : ∀ e ∈ half k n, e.length = 1 := by
  intro e he
  obtain ⟨x, _, rfl⟩ := List.mem_map.1 he
  rfl
theorem flat_take {els : List (List DV)} (h : flatEls els) (k : Nat) : flatEls (els.take k) := fun e he => h e (List.mem_of_mem_take he)
theorem half_start (n : Nat) : List.take n [[DV.int .i64 (-1)]] ++ List.replicate (n - min 1 n) [DV.int .i64 0] = half (min 1 n) n := by
  cases n with
  | zero => simp [half]
  | succ n =>
    have : min 1 (n + 1) = 1 := by omega
    rw [this]
    simp [half, encN]
theorem half_done (n : Nat) : half n n = (List.replicate n (-1 : Int)).map encN := by simp [half]
theorem half_step {k n : Nat} (h : k ≤ n) : (half k n).take k ++ (((half k n).take k).take (n - k) ++ (half k n).drop (k + min k (n - k))) = half (k + min k (n - k)) n := by
  have e1 : (half k n).take k = (List.replicate k (-1 : Int)).map encN := by
    unfold half
    rw [← List.map_take, List.take_left' (by simp)]
  have e2 : (half k n).drop (k + min k (n - k)) = (List.replicate (n - (k + min k (n - k))) (0 : Int)).map encN := by
    unfold half
    rw [← List.map_drop, ← List.drop_drop, List.drop_left' (by simp)]
    rw [List.drop_replicate]
    congr 2
    omega
  rw [e1, e2]
  unfold half
  rw [← List.map_take, List.take_replicate, ← List.map_append, ← List.map_append, ← List.append_assoc, List.replicate_append_replicate]
  congr 2
  congr 1
  omega
theorem f109 (n : Nat) (hn : n ≤ 200) : Impl Tryz.prog 109 [.one (.sl [[.int .i64 (-1)]]), .one (.int .i64 n)] (.one (.one (.ow 1 ((List.replicate n (-1)).map encN)))) := by
  have k1 := f125 n hn
  have w1 : IntKind.u64.wrap (n : Int) = (n : Int) := wrap_all ⟨n, by omega⟩
  have w3 : IntKind.u64.wrap 1 = 1 := wrap_all ⟨1, by omega⟩
  have fr : flatEls (List.replicate n [DV.int .i64 0]) := by
    intro e he
    rw [(List.mem_replicate.1 he).2]
    rfl
  have f1 : flatEls [[DV.int .i64 (-1)]] := by
    intro e he
    rw [List.mem_singleton.1 he]
    rfl
  have hm : min 1 n ≤ n := by omega
  have hst := half_start n
  refine impl_z Tryz.func109 z109 Tryz.ntmps109 (by simp) ?_
  simp only [c109, slotsOf]
  repeat' first | (with_reducible first | refine zA ?_ | refine zB ?_ | refine zC ?_ | refine zD ?_ | refine zE ?_ | refine zF ?_ | refine zK ?_ | refine zL ?_ | refine zM ?_ | refine zN ?_ | refine zO ?_ | refine zP ?_ | refine zQ (by decide) ?_ | refine zR ?_ | refine zS ?_ | refine zT ?_ | refine zU ?_ | refine zV ?_ | refine zW ?_ | refine zX ?_) | ((with_reducible refine zY (t := ?_) ?hc (fun h => ?_) (fun h => ?_)); (case hc => rfl); all_goals (try simp [go_sem, w1, w3] at h); all_goals try omega) | ((with_reducible first | refine zZ ?_ | refine za ?_ | refine zb ?_ | refine zc ?_ | refine zd ?_ | refine ze ?_); intro K hK; simp [go_sem, w1, w3]; (try simp (disch := omega) only [wrap_i64, okRefs, eq_self, true_and]); (first | apply hK | ((first | ((try refine .inl ?_); refine ⟨_, by (try intro hc); (repeat' first | exact k1 | exact hc | with_reducible refine And.intro ?_ ?_ | simp [go_sem, w1, w3]); first | done | omega, ?_⟩) | refine .inr ⟨_, by (try intro hc); (repeat' first | exact k1 | exact hc | with_reducible refine And.intro ?_ ?_ | simp [go_sem, w1, w3]); first | done | omega, ?_⟩); (first | refine hK _ ?_ | refine hK _ _ ?_ | (refine ⟨by simp [go_sem, w1, w3], ?_⟩; first | refine hK _ ?_ | refine hK _ _ ?_ | refine ⟨by simp [go_sem, w1, w3], hK _ _ ?_⟩))) | refine ⟨.one (.one (.bool false)), by simp [go_sem, w1, w3], hK _ _ ?_⟩ | refine ⟨by first | omega | (simp [appendOk, flatEls, w1, w3, fr, f1]; first | done | omega), ?_⟩ | refine ⟨hK _ ?_, fun h => ?_⟩ | refine ⟨?_, ?_⟩); all_goals ((try apply hK); clear hK K))
  · exact ⟨fr, f1⟩
  rw [hst]
  refine awp_loop (fun q e => ∃ k : Nat, k + q = n ∧ (n = 0 ∨ 1 ≤ k) ∧ e = [(8, .sv (.one (.int .i64 k))), (7, .sv (.one (.ow 1 (half k n))))]) (n - min 1 n) _ ⟨min 1 n, by omega, by omega, rfl⟩ (by simp [go_sem]) ?_
  rintro q e ⟨k, hk, hk1, rfl⟩
  have hl := half_len (show k ≤ n by omega)
  have hf := half_flat k n
  have hft := flat_take hf k
  have ho := half_one k n
  by_cases hlt : k < n
  · have hst := half_step (show k ≤ n by omega)
    repeat' first | (with_reducible first | refine zA ?_ | refine zB ?_ | refine zC ?_ | refine zD ?_ | refine zE ?_ | refine zF ?_ | refine zK ?_ | refine zL ?_ | refine zM ?_ | refine zN ?_ | refine zO ?_ | refine zP ?_ | refine zQ (by decide) ?_ | refine zR ?_ | refine zS ?_ | refine zT ?_ | refine zU ?_ | refine zV ?_ | refine zW ?_ | refine zX ?_) | ((with_reducible refine zY (t := ?_) ?hc (fun h => ?_) (fun h => ?_)); (case hc => rfl); all_goals (try simp [go_sem, hlt, hl] at h); all_goals try omega) | ((with_reducible first | refine zZ ?_ | refine za ?_ | refine zb ?_ | refine zc ?_ | refine zd ?_ | refine ze ?_); intro K hK; simp [go_sem, hlt, hl]; (try simp (disch := omega) only [wrap_i64, okRefs, eq_self, true_and]); (first | apply hK | refine ⟨by first | omega | (simp [appendOk, flatEls, hlt, hl, hf, hft, ho, hl]; first | done | omega), ?_⟩ | refine ⟨hK _ ?_, fun h => ?_⟩ | refine ⟨?_, ?_⟩); all_goals ((try apply hK); clear hK K))
    · exact ⟨by omega, ho⟩
    · exact ⟨by omega, ho⟩
    · exact ⟨hf, hft, fun e he => ho e (List.mem_of_mem_take he)⟩
    refine loopQ_normal (n - (k + min k (n - k))) _ (by omega) ⟨k + min k (n - k), by omega, by omega, rfl⟩ ?_
    simp [go_sem, hst]
  · have hkn : k = n := by omega
    subst hkn
    rw [half_done] at hl ⊢
    repeat' first | (with_reducible first | refine zA ?_ | refine zB ?_ | refine zC ?_ | refine zD ?_ | refine zE ?_ | refine zF ?_ | refine zK ?_ | refine zL ?_ | refine zM ?_ | refine zN ?_ | refine zO ?_ | refine zP ?_ | refine zQ (by decide) ?_ | refine zR ?_ | refine zS ?_ | refine zT ?_ | refine zU ?_ | refine zV ?_ | refine zW ?_ | refine zX ?_) | ((with_reducible refine zY (t := ?_) ?hc (fun h => ?_) (fun h => ?_)); (case hc => rfl); all_goals (try simp [go_sem, hl] at h); all_goals try omega) | ((with_reducible first | refine zZ ?_ | refine za ?_ | refine zb ?_ | refine zc ?_ | refine zd ?_ | refine ze ?_); intro K hK; simp [go_sem, hl]; (try simp (disch := omega) only [wrap_i64, okRefs, eq_self, true_and]); (first | apply hK | refine ⟨by first | omega | (simp [appendOk, flatEls, hl]; first | done | omega), ?_⟩ | refine ⟨hK _ ?_, fun h => ?_⟩ | refine ⟨?_, ?_⟩); all_goals ((try apply hK); clear hK K))
    simp [go_sem]
end Go.Av
