/- Part of a proof by symbolic walks on plain data. -/
import Derived.Test.YtpnpnldabhmojaaCW12
import Derived.Test.YtpnpnldabhmojaaWM
import Derived.Test.YtpnpnldabhmojaaW3
import Derived.Test.YtpnpnldabhmojaaW5
set_option linter.unusedVariables false
set_option linter.unusedSimpArgs false
namespace Go.Av
open Go Go.RowKit Go.Proofs

def gotOf (H : List (List Ev)) (p q : Nat) : List Int := labelsOf (H[q]?.getD []) false p
def sentOf (H : List (List Ev)) (p q : Nat) : List Int := labelsOf (H[p]?.getD []) true q
def okPair (H : List (List Ev)) (p q : Nat) : Bool := decide (gotOf H p q = (sentOf H p q).take (gotOf H p q).length)
def rowGot (H : List (List Ev)) (p k : Nat) : Nat := ((List.range k).map fun q => (gotOf H p q).length).sum
def sumGot (H : List (List Ev)) (k : Nat) : Nat := ((List.range k).map fun p => rowGot H p H.length).sum
def pairsOk (H : List (List Ev)) : Bool := (List.range H.length).all fun p => (List.range H.length).all fun q => okPair H p q
def matched (H : List (List Ev)) : Option Nat := if properH H && pairsOk H then some (sumGot H H.length) else none
def nResult (o : Option Nat) : RV := .tup [.one (.int .i64 ((o.getD 0 : Nat) : Int)), .one (.bool o.isSome)]

theorem rowGot_succ (H : List (List Ev)) (p k : Nat) : rowGot H p (k + 1) = rowGot H p k + (gotOf H p k).length := by
  simp [rowGot, List.range_succ, List.sum_append]
theorem sumGot_succ (H : List (List Ev)) (k : Nat) : sumGot H (k + 1) = sumGot H k + rowGot H k H.length := by
  simp [sumGot, List.range_succ, List.sum_append]

theorem pairs_no {H : List (List Ev)} {p q : Nat} (hp : p < H.length) (hq : q < H.length) (h : okPair H p q = false) : pairsOk H = false := by
  unfold pairsOk
  rw [List.all_eq_false]
  refine ⟨p, by simp [hp], ?_⟩
  rw [Bool.not_eq_true, List.all_eq_false]
  exact ⟨q, by simp [hq], by simp [h]⟩

theorem pairs_yes {H : List (List Ev)} (h : ∀ p q, p < H.length → q < H.length → okPair H p q = true) : pairsOk H = true := by
  unfold pairsOk
  rw [List.all_eq_true]
  intro p hp
  rw [List.all_eq_true]
  intro q hq
  exact h p q (by simpa using hp) (by simpa using hq)

theorem matched_no {H : List (List Ev)} (h : pairsOk H = false) : matched H = none := by
  unfold matched
  rw [h]
  simp

theorem encN_len (x : Int) : (encN x).length = 1 := rfl

theorem got_len {H : List (List Ev)} (hh : ∀ l ∈ H, l.length ≤ 1000) (p q : Nat) : (gotOf H p q).length ≤ 1000 := by
  unfold gotOf
  refine Nat.le_trans (labels_len _ _ _) ?_
  by_cases hq : q < H.length
  · simpa [hq] using hh H[q] (List.getElem_mem hq)
  · simp [hq]

theorem row_le {H : List (List Ev)} (hh : ∀ l ∈ H, l.length ≤ 1000) (p : Nat) : ∀ k, rowGot H p k ≤ k * 1000
  | 0 => by simp [rowGot]
  | k + 1 => by
    have := row_le hh p k
    have := got_len hh p k
    rw [rowGot_succ]
    omega

theorem sum_le {H : List (List Ev)} (hl : H.length ≤ 8) (hh : ∀ l ∈ H, l.length ≤ 1000) : ∀ k, sumGot H k ≤ k * 8000
  | 0 => by simp [sumGot]
  | k + 1 => by
    have h1 := sum_le hl hh k
    have h2 := row_le hh k H.length
    rw [sumGot_succ]
    omega

set_option maxHeartbeats 8000000 in
theorem f28 (H : List (List Ev)) (hl : H.length ≤ 8) (hh : ∀ l ∈ H, l.length ≤ 1000) (f35s : Impl Try.prog 35 [.one (.sl (H.map encH))] (.one (.one (.bool (properH H))))) : Impl Try.prog 28 [.one (.sl (H.map encH))] (nResult (matched H)) := by
  refine impl_intro Try.func28 b28 e28 r28 n28 Try.ntmps28 d28 (by simp) fun hs => ?_
  clear hs
  simp only [c28, slotsOf]
  by_cases hp : properH H = true
  · skip
    repeat' first
      | with_reducible first | refine awp_seq ?_ | refine awp_reg ?_ | refine awp_block ?_ | refine awp_ret ?_ | refine awp_exit ?_ | refine awp_skip ?_ | refine awp_scp ?_ | refine scpQ_normal ?_ | refine scpQ_ret ?_ | refine scpQ_exit ?_ | refine seqQ_normal ?_ | refine seqQ_ret ?_ | refine seqQ_exit ?_ | refine blockQ_normal ?_ | refine blockQ_ret ?_ | refine blockQ_same ?_ | refine blockQ_other (by decide) ?_ | refine loopQ_ret ?_ | refine loopQ_exit ?_ | refine arun_nil ?_ | refine arunA_nil ?_ | refine arunB_nil ?_ | refine drwQ_intro ?_ | refine deadQ_nil ?_
      | ((with_reducible refine awp_cond2 (t := ?_) ?hc (fun h => ?_) (fun h => ?_))
         case hc => rfl
         all_goals (try simp [go_sem, hp, encH] at h)
         all_goals try omega)
      | ((with_reducible first | refine arun_cons fun K hK => ?_ | refine arunA_cons fun K hK => ?_ | refine arunB_cons fun K hK => ?_ | refine awp_drw fun K hK => ?_ | refine deadQ_some fun K hK => ?_ | refine pruneQ_intro fun K hK => ?_)
         simp [go_sem, hp, encH]
         try simp (disch := omega) only [wrap_i64, okRefs, eq_self, true_and]
         first
           | refine hK _ ?_
           | refine hK _ _ ?_
           | (refine ⟨_, f35s, ?_⟩; (first | refine hK _ ?_ | refine hK _ _ ?_ | refine ⟨by simp [go_sem, hp, encH], hK _ ?_⟩ | refine ⟨by simp [go_sem, hp, encH], hK _ _ ?_⟩ | refine ⟨by simp [go_sem, hp, encH], by simp [go_sem, hp, encH], hK _ _ ?_⟩))
           | (refine .inl ⟨_, f35s, ?_⟩; (first | refine hK _ ?_ | refine hK _ _ ?_ | refine ⟨by simp [go_sem, hp, encH], hK _ ?_⟩ | refine ⟨by simp [go_sem, hp, encH], hK _ _ ?_⟩ | refine ⟨by simp [go_sem, hp, encH], by simp [go_sem, hp, encH], hK _ _ ?_⟩))
           | (refine .inr ⟨_, f35s, ?_⟩; (first | refine hK _ ?_ | refine hK _ _ ?_ | refine ⟨by simp [go_sem, hp, encH], hK _ ?_⟩ | refine ⟨by simp [go_sem, hp, encH], hK _ _ ?_⟩ | refine ⟨by simp [go_sem, hp, encH], by simp [go_sem, hp, encH], hK _ _ ?_⟩))
           | (refine ⟨_, ⟨f35s, by simp [go_sem, hp, encH]⟩, ?_⟩; (first | refine hK _ ?_ | refine hK _ _ ?_ | refine ⟨by simp [go_sem, hp, encH], hK _ ?_⟩ | refine ⟨by simp [go_sem, hp, encH], hK _ _ ?_⟩ | refine ⟨by simp [go_sem, hp, encH], by simp [go_sem, hp, encH], hK _ _ ?_⟩))
           | (refine ⟨_, fun _ => f35s, ?_⟩; (first | refine hK _ ?_ | refine hK _ _ ?_ | refine ⟨by simp [go_sem, hp, encH], hK _ ?_⟩ | refine ⟨by simp [go_sem, hp, encH], hK _ _ ?_⟩ | refine ⟨by simp [go_sem, hp, encH], by simp [go_sem, hp, encH], hK _ _ ?_⟩))
           | (refine ⟨_, fun hc => ⟨hc, f35s⟩, ?_⟩; (first | refine hK _ ?_ | refine hK _ _ ?_ | refine ⟨by simp [go_sem, hp, encH], hK _ ?_⟩ | refine ⟨by simp [go_sem, hp, encH], hK _ _ ?_⟩ | refine ⟨by simp [go_sem, hp, encH], by simp [go_sem, hp, encH], hK _ _ ?_⟩))
           | (refine ⟨_, fun hc => ⟨f35s, by simp [go_sem, hp, encH]⟩, ?_⟩; (first | refine hK _ ?_ | refine hK _ _ ?_ | refine ⟨by simp [go_sem, hp, encH], hK _ ?_⟩ | refine ⟨by simp [go_sem, hp, encH], hK _ _ ?_⟩ | refine ⟨by simp [go_sem, hp, encH], by simp [go_sem, hp, encH], hK _ _ ?_⟩))
           | (refine ⟨_, fun hc => ⟨hc, f35s, by simp [go_sem, hp, encH]⟩, ?_⟩; (first | refine hK _ ?_ | refine hK _ _ ?_ | refine ⟨by simp [go_sem, hp, encH], hK _ ?_⟩ | refine ⟨by simp [go_sem, hp, encH], hK _ _ ?_⟩ | refine ⟨by simp [go_sem, hp, encH], by simp [go_sem, hp, encH], hK _ _ ?_⟩))
           | refine ⟨.one (.one (.bool false)), by simp [go_sem, hp, encH], hK _ _ ?_⟩
           | refine ⟨by (first | (simp [appendOk, flatEls, hp, encH]; done) | (simp [appendOk, flatEls, hp, encH]; omega)), hK _ ?_⟩
           | refine ⟨hK _ ?_, fun h => hK _ ?_⟩
           | refine ⟨by omega, hK _ ?_⟩
           | refine ⟨by omega, hK _ _ ?_⟩
           | refine ⟨?_, hK _ ?_⟩
           | refine ⟨?_, hK _ _ ?_⟩
         all_goals clear hK K)
    refine awp_loop (fun n e => ∃ p, p + n = H.length ∧ (∀ p' q', p' < p → q' < H.length → okPair H p' q' = true) ∧ e = [(16, .sv (.one (.int .i64 (p : Nat)))), (15, .sv (.one (.int .i64 H.length))), (14, .sv (.one (.sl (H.map encH)))), (4, .sv (.one (.int .i64 (sumGot H p : Nat)))), (2, .sv (.one (.int .i64 0))), (3, .sv (.one (.bool false))), (0, .sv (.one (.sl (H.map encH))))]) H.length _ ⟨0, by simp, by simp, rfl⟩ (by simp [go_sem, sumGot]) ?_
    rintro n e ⟨p, hpn, hok, rfl⟩
    have hsp := sum_le hl hh p
    by_cases hlp : p < H.length
    · skip
      repeat' first
        | with_reducible first | refine awp_seq ?_ | refine awp_reg ?_ | refine awp_block ?_ | refine awp_ret ?_ | refine awp_exit ?_ | refine awp_skip ?_ | refine awp_scp ?_ | refine scpQ_normal ?_ | refine scpQ_ret ?_ | refine scpQ_exit ?_ | refine seqQ_normal ?_ | refine seqQ_ret ?_ | refine seqQ_exit ?_ | refine blockQ_normal ?_ | refine blockQ_ret ?_ | refine blockQ_same ?_ | refine blockQ_other (by decide) ?_ | refine loopQ_ret ?_ | refine loopQ_exit ?_ | refine arun_nil ?_ | refine arunA_nil ?_ | refine arunB_nil ?_ | refine drwQ_intro ?_ | refine deadQ_nil ?_
        | ((with_reducible refine awp_cond2 (t := ?_) ?hc (fun h => ?_) (fun h => ?_))
           case hc => rfl
           all_goals (try simp [go_sem, hlp, encH] at h)
           all_goals try omega)
        | ((with_reducible first | refine arun_cons fun K hK => ?_ | refine arunA_cons fun K hK => ?_ | refine arunB_cons fun K hK => ?_ | refine awp_drw fun K hK => ?_ | refine deadQ_some fun K hK => ?_ | refine pruneQ_intro fun K hK => ?_)
           simp [go_sem, hlp, encH]
           try simp (disch := omega) only [wrap_i64, okRefs, eq_self, true_and]
           first
             | refine hK _ ?_
             | refine hK _ _ ?_
             | refine ⟨by (first | (simp [appendOk, flatEls, hlp, encH]; done) | (simp [appendOk, flatEls, hlp, encH]; omega)), hK _ ?_⟩
             | refine ⟨hK _ ?_, fun h => hK _ ?_⟩
             | refine ⟨by omega, hK _ ?_⟩
             | refine ⟨by omega, hK _ _ ?_⟩
             | refine ⟨?_, hK _ ?_⟩
             | refine ⟨?_, hK _ _ ?_⟩
           all_goals clear hK K)
      refine awp_loop (fun m e => ∃ q, q + m = H.length ∧ (∀ q', q' < q → okPair H p q' = true) ∧ e = [(23, .sv (.one (.int .i64 (q : Nat)))), (22, .sv (.one (.int .i64 H.length))), (21, .sv (.one (.sl (H.map encH)))), (5, .sv (.one (.int .i64 p))), (6, .sv (.one (.sl (H[p].map encE)))), (16, .sv (.one (.int .i64 (p : Nat)))), (15, .sv (.one (.int .i64 H.length))), (14, .sv (.one (.sl (H.map encH)))), (4, .sv (.one (.int .i64 (sumGot H p + rowGot H p q : Nat)))), (2, .sv (.one (.int .i64 0))), (3, .sv (.one (.bool false))), (0, .sv (.one (.sl (H.map encH))))]) H.length _ ⟨0, by simp, by simp, rfl⟩ (by simp [go_sem, rowGot]) ?_
      rintro m e ⟨q, hqn, hokq, rfl⟩
      have hrp := row_le hh p q
      by_cases hlq : q < H.length
      · have g1 : labelsOf H[q] false p = gotOf H p q := by simp [gotOf, hlq]
        have g2 : labelsOf H[p] true q = sentOf H p q := by simp [sentOf, hlp]
        have hgl := got_len hh p q
        have hp1 := hh H[p] (List.getElem_mem hlp)
        have hq1 := hh H[q] (List.getElem_mem hlq)
        have hsl : (sentOf H p q).length ≤ 1000 := by rw [← g2]; exact Nat.le_trans (labels_len _ _ _) hp1
        have f38a := f38 H[p] true q (by omega)
        have f38b := f38 H[q] false p (by omega)
        rw [g2] at f38a
        rw [g1] at f38b
        have hs2 := rowGot_succ H p q
        by_cases hle : (gotOf H p q).length ≤ (sentOf H p q).length
        · have hc : ¬ (0 : Int) < cmpI ((gotOf H p q).length : Int) ((sentOf H p q).length : Int) := by
            unfold cmpI
            split
            · omega
            · split
              · omega
              · omega
          have f40s := f40 (gotOf H p q) ((sentOf H p q).take (gotOf H p q).length) (by omega) (by simp; omega)
          have hd : decide (gotOf H p q = (sentOf H p q).take (gotOf H p q).length) = okPair H p q := rfl
          rw [hd, List.map_take] at f40s
          repeat' first
            | with_reducible first | refine awp_seq ?_ | refine awp_reg ?_ | refine awp_block ?_ | refine awp_ret ?_ | refine awp_exit ?_ | refine awp_skip ?_ | refine awp_scp ?_ | refine scpQ_normal ?_ | refine scpQ_ret ?_ | refine scpQ_exit ?_ | refine seqQ_normal ?_ | refine seqQ_ret ?_ | refine seqQ_exit ?_ | refine blockQ_normal ?_ | refine blockQ_ret ?_ | refine blockQ_same ?_ | refine blockQ_other (by decide) ?_ | refine loopQ_ret ?_ | refine loopQ_exit ?_ | refine arun_nil ?_ | refine arunA_nil ?_ | refine arunB_nil ?_ | refine drwQ_intro ?_ | refine deadQ_nil ?_
            | ((with_reducible refine awp_cond2 (t := ?_) ?hc (fun h => ?_) (fun h => ?_))
               case hc => rfl
               all_goals (try simp [go_sem, hlp, hlq, hc, encH, encN_len, hle] at h)
               all_goals try omega)
            | ((with_reducible first | refine arun_cons fun K hK => ?_ | refine arunA_cons fun K hK => ?_ | refine arunB_cons fun K hK => ?_ | refine awp_drw fun K hK => ?_ | refine deadQ_some fun K hK => ?_ | refine pruneQ_intro fun K hK => ?_)
               simp [go_sem, hlp, hlq, hc, encH, encN_len, hle]
               try simp (disch := omega) only [wrap_i64, okRefs, eq_self, true_and]
               first
                 | refine hK _ ?_
                 | refine hK _ _ ?_
                 | (refine ⟨_, f38a, ?_⟩; (first | refine hK _ ?_ | refine hK _ _ ?_ | refine ⟨by simp [go_sem, hlp, hlq, hc, encH, encN_len, hle], hK _ ?_⟩ | refine ⟨by simp [go_sem, hlp, hlq, hc, encH, encN_len, hle], hK _ _ ?_⟩ | refine ⟨by simp [go_sem, hlp, hlq, hc, encH, encN_len, hle], by simp [go_sem, hlp, hlq, hc, encH, encN_len, hle], hK _ _ ?_⟩))
                 | (refine .inl ⟨_, f38a, ?_⟩; (first | refine hK _ ?_ | refine hK _ _ ?_ | refine ⟨by simp [go_sem, hlp, hlq, hc, encH, encN_len, hle], hK _ ?_⟩ | refine ⟨by simp [go_sem, hlp, hlq, hc, encH, encN_len, hle], hK _ _ ?_⟩ | refine ⟨by simp [go_sem, hlp, hlq, hc, encH, encN_len, hle], by simp [go_sem, hlp, hlq, hc, encH, encN_len, hle], hK _ _ ?_⟩))
                 | (refine .inr ⟨_, f38a, ?_⟩; (first | refine hK _ ?_ | refine hK _ _ ?_ | refine ⟨by simp [go_sem, hlp, hlq, hc, encH, encN_len, hle], hK _ ?_⟩ | refine ⟨by simp [go_sem, hlp, hlq, hc, encH, encN_len, hle], hK _ _ ?_⟩ | refine ⟨by simp [go_sem, hlp, hlq, hc, encH, encN_len, hle], by simp [go_sem, hlp, hlq, hc, encH, encN_len, hle], hK _ _ ?_⟩))
                 | (refine ⟨_, ⟨f38a, by simp [go_sem, hlp, hlq, hc, encH, encN_len, hle]⟩, ?_⟩; (first | refine hK _ ?_ | refine hK _ _ ?_ | refine ⟨by simp [go_sem, hlp, hlq, hc, encH, encN_len, hle], hK _ ?_⟩ | refine ⟨by simp [go_sem, hlp, hlq, hc, encH, encN_len, hle], hK _ _ ?_⟩ | refine ⟨by simp [go_sem, hlp, hlq, hc, encH, encN_len, hle], by simp [go_sem, hlp, hlq, hc, encH, encN_len, hle], hK _ _ ?_⟩))
                 | (refine ⟨_, fun _ => f38a, ?_⟩; (first | refine hK _ ?_ | refine hK _ _ ?_ | refine ⟨by simp [go_sem, hlp, hlq, hc, encH, encN_len, hle], hK _ ?_⟩ | refine ⟨by simp [go_sem, hlp, hlq, hc, encH, encN_len, hle], hK _ _ ?_⟩ | refine ⟨by simp [go_sem, hlp, hlq, hc, encH, encN_len, hle], by simp [go_sem, hlp, hlq, hc, encH, encN_len, hle], hK _ _ ?_⟩))
                 | (refine ⟨_, fun hc => ⟨hc, f38a⟩, ?_⟩; (first | refine hK _ ?_ | refine hK _ _ ?_ | refine ⟨by simp [go_sem, hlp, hlq, hc, encH, encN_len, hle], hK _ ?_⟩ | refine ⟨by simp [go_sem, hlp, hlq, hc, encH, encN_len, hle], hK _ _ ?_⟩ | refine ⟨by simp [go_sem, hlp, hlq, hc, encH, encN_len, hle], by simp [go_sem, hlp, hlq, hc, encH, encN_len, hle], hK _ _ ?_⟩))
                 | (refine ⟨_, fun hc => ⟨f38a, by simp [go_sem, hlp, hlq, hc, encH, encN_len, hle]⟩, ?_⟩; (first | refine hK _ ?_ | refine hK _ _ ?_ | refine ⟨by simp [go_sem, hlp, hlq, hc, encH, encN_len, hle], hK _ ?_⟩ | refine ⟨by simp [go_sem, hlp, hlq, hc, encH, encN_len, hle], hK _ _ ?_⟩ | refine ⟨by simp [go_sem, hlp, hlq, hc, encH, encN_len, hle], by simp [go_sem, hlp, hlq, hc, encH, encN_len, hle], hK _ _ ?_⟩))
                 | (refine ⟨_, fun hc => ⟨hc, f38a, by simp [go_sem, hlp, hlq, hc, encH, encN_len, hle]⟩, ?_⟩; (first | refine hK _ ?_ | refine hK _ _ ?_ | refine ⟨by simp [go_sem, hlp, hlq, hc, encH, encN_len, hle], hK _ ?_⟩ | refine ⟨by simp [go_sem, hlp, hlq, hc, encH, encN_len, hle], hK _ _ ?_⟩ | refine ⟨by simp [go_sem, hlp, hlq, hc, encH, encN_len, hle], by simp [go_sem, hlp, hlq, hc, encH, encN_len, hle], hK _ _ ?_⟩))
                 | (refine ⟨_, f38b, ?_⟩; (first | refine hK _ ?_ | refine hK _ _ ?_ | refine ⟨by simp [go_sem, hlp, hlq, hc, encH, encN_len, hle], hK _ ?_⟩ | refine ⟨by simp [go_sem, hlp, hlq, hc, encH, encN_len, hle], hK _ _ ?_⟩ | refine ⟨by simp [go_sem, hlp, hlq, hc, encH, encN_len, hle], by simp [go_sem, hlp, hlq, hc, encH, encN_len, hle], hK _ _ ?_⟩))
                 | (refine .inl ⟨_, f38b, ?_⟩; (first | refine hK _ ?_ | refine hK _ _ ?_ | refine ⟨by simp [go_sem, hlp, hlq, hc, encH, encN_len, hle], hK _ ?_⟩ | refine ⟨by simp [go_sem, hlp, hlq, hc, encH, encN_len, hle], hK _ _ ?_⟩ | refine ⟨by simp [go_sem, hlp, hlq, hc, encH, encN_len, hle], by simp [go_sem, hlp, hlq, hc, encH, encN_len, hle], hK _ _ ?_⟩))
                 | (refine .inr ⟨_, f38b, ?_⟩; (first | refine hK _ ?_ | refine hK _ _ ?_ | refine ⟨by simp [go_sem, hlp, hlq, hc, encH, encN_len, hle], hK _ ?_⟩ | refine ⟨by simp [go_sem, hlp, hlq, hc, encH, encN_len, hle], hK _ _ ?_⟩ | refine ⟨by simp [go_sem, hlp, hlq, hc, encH, encN_len, hle], by simp [go_sem, hlp, hlq, hc, encH, encN_len, hle], hK _ _ ?_⟩))
                 | (refine ⟨_, ⟨f38b, by simp [go_sem, hlp, hlq, hc, encH, encN_len, hle]⟩, ?_⟩; (first | refine hK _ ?_ | refine hK _ _ ?_ | refine ⟨by simp [go_sem, hlp, hlq, hc, encH, encN_len, hle], hK _ ?_⟩ | refine ⟨by simp [go_sem, hlp, hlq, hc, encH, encN_len, hle], hK _ _ ?_⟩ | refine ⟨by simp [go_sem, hlp, hlq, hc, encH, encN_len, hle], by simp [go_sem, hlp, hlq, hc, encH, encN_len, hle], hK _ _ ?_⟩))
                 | (refine ⟨_, fun _ => f38b, ?_⟩; (first | refine hK _ ?_ | refine hK _ _ ?_ | refine ⟨by simp [go_sem, hlp, hlq, hc, encH, encN_len, hle], hK _ ?_⟩ | refine ⟨by simp [go_sem, hlp, hlq, hc, encH, encN_len, hle], hK _ _ ?_⟩ | refine ⟨by simp [go_sem, hlp, hlq, hc, encH, encN_len, hle], by simp [go_sem, hlp, hlq, hc, encH, encN_len, hle], hK _ _ ?_⟩))
                 | (refine ⟨_, fun hc => ⟨hc, f38b⟩, ?_⟩; (first | refine hK _ ?_ | refine hK _ _ ?_ | refine ⟨by simp [go_sem, hlp, hlq, hc, encH, encN_len, hle], hK _ ?_⟩ | refine ⟨by simp [go_sem, hlp, hlq, hc, encH, encN_len, hle], hK _ _ ?_⟩ | refine ⟨by simp [go_sem, hlp, hlq, hc, encH, encN_len, hle], by simp [go_sem, hlp, hlq, hc, encH, encN_len, hle], hK _ _ ?_⟩))
                 | (refine ⟨_, fun hc => ⟨f38b, by simp [go_sem, hlp, hlq, hc, encH, encN_len, hle]⟩, ?_⟩; (first | refine hK _ ?_ | refine hK _ _ ?_ | refine ⟨by simp [go_sem, hlp, hlq, hc, encH, encN_len, hle], hK _ ?_⟩ | refine ⟨by simp [go_sem, hlp, hlq, hc, encH, encN_len, hle], hK _ _ ?_⟩ | refine ⟨by simp [go_sem, hlp, hlq, hc, encH, encN_len, hle], by simp [go_sem, hlp, hlq, hc, encH, encN_len, hle], hK _ _ ?_⟩))
                 | (refine ⟨_, fun hc => ⟨hc, f38b, by simp [go_sem, hlp, hlq, hc, encH, encN_len, hle]⟩, ?_⟩; (first | refine hK _ ?_ | refine hK _ _ ?_ | refine ⟨by simp [go_sem, hlp, hlq, hc, encH, encN_len, hle], hK _ ?_⟩ | refine ⟨by simp [go_sem, hlp, hlq, hc, encH, encN_len, hle], hK _ _ ?_⟩ | refine ⟨by simp [go_sem, hlp, hlq, hc, encH, encN_len, hle], by simp [go_sem, hlp, hlq, hc, encH, encN_len, hle], hK _ _ ?_⟩))
                 | (refine ⟨_, f39 _ _, ?_⟩; (first | refine hK _ ?_ | refine hK _ _ ?_ | refine ⟨by simp [go_sem, hlp, hlq, hc, encH, encN_len, hle], hK _ ?_⟩ | refine ⟨by simp [go_sem, hlp, hlq, hc, encH, encN_len, hle], hK _ _ ?_⟩ | refine ⟨by simp [go_sem, hlp, hlq, hc, encH, encN_len, hle], by simp [go_sem, hlp, hlq, hc, encH, encN_len, hle], hK _ _ ?_⟩))
                 | (refine .inl ⟨_, f39 _ _, ?_⟩; (first | refine hK _ ?_ | refine hK _ _ ?_ | refine ⟨by simp [go_sem, hlp, hlq, hc, encH, encN_len, hle], hK _ ?_⟩ | refine ⟨by simp [go_sem, hlp, hlq, hc, encH, encN_len, hle], hK _ _ ?_⟩ | refine ⟨by simp [go_sem, hlp, hlq, hc, encH, encN_len, hle], by simp [go_sem, hlp, hlq, hc, encH, encN_len, hle], hK _ _ ?_⟩))
                 | (refine .inr ⟨_, f39 _ _, ?_⟩; (first | refine hK _ ?_ | refine hK _ _ ?_ | refine ⟨by simp [go_sem, hlp, hlq, hc, encH, encN_len, hle], hK _ ?_⟩ | refine ⟨by simp [go_sem, hlp, hlq, hc, encH, encN_len, hle], hK _ _ ?_⟩ | refine ⟨by simp [go_sem, hlp, hlq, hc, encH, encN_len, hle], by simp [go_sem, hlp, hlq, hc, encH, encN_len, hle], hK _ _ ?_⟩))
                 | (refine ⟨_, ⟨f39 _ _, by simp [go_sem, hlp, hlq, hc, encH, encN_len, hle]⟩, ?_⟩; (first | refine hK _ ?_ | refine hK _ _ ?_ | refine ⟨by simp [go_sem, hlp, hlq, hc, encH, encN_len, hle], hK _ ?_⟩ | refine ⟨by simp [go_sem, hlp, hlq, hc, encH, encN_len, hle], hK _ _ ?_⟩ | refine ⟨by simp [go_sem, hlp, hlq, hc, encH, encN_len, hle], by simp [go_sem, hlp, hlq, hc, encH, encN_len, hle], hK _ _ ?_⟩))
                 | (refine ⟨_, fun _ => f39 _ _, ?_⟩; (first | refine hK _ ?_ | refine hK _ _ ?_ | refine ⟨by simp [go_sem, hlp, hlq, hc, encH, encN_len, hle], hK _ ?_⟩ | refine ⟨by simp [go_sem, hlp, hlq, hc, encH, encN_len, hle], hK _ _ ?_⟩ | refine ⟨by simp [go_sem, hlp, hlq, hc, encH, encN_len, hle], by simp [go_sem, hlp, hlq, hc, encH, encN_len, hle], hK _ _ ?_⟩))
                 | (refine ⟨_, fun hc => ⟨hc, f39 _ _⟩, ?_⟩; (first | refine hK _ ?_ | refine hK _ _ ?_ | refine ⟨by simp [go_sem, hlp, hlq, hc, encH, encN_len, hle], hK _ ?_⟩ | refine ⟨by simp [go_sem, hlp, hlq, hc, encH, encN_len, hle], hK _ _ ?_⟩ | refine ⟨by simp [go_sem, hlp, hlq, hc, encH, encN_len, hle], by simp [go_sem, hlp, hlq, hc, encH, encN_len, hle], hK _ _ ?_⟩))
                 | (refine ⟨_, fun hc => ⟨f39 _ _, by simp [go_sem, hlp, hlq, hc, encH, encN_len, hle]⟩, ?_⟩; (first | refine hK _ ?_ | refine hK _ _ ?_ | refine ⟨by simp [go_sem, hlp, hlq, hc, encH, encN_len, hle], hK _ ?_⟩ | refine ⟨by simp [go_sem, hlp, hlq, hc, encH, encN_len, hle], hK _ _ ?_⟩ | refine ⟨by simp [go_sem, hlp, hlq, hc, encH, encN_len, hle], by simp [go_sem, hlp, hlq, hc, encH, encN_len, hle], hK _ _ ?_⟩))
                 | (refine ⟨_, fun hc => ⟨hc, f39 _ _, by simp [go_sem, hlp, hlq, hc, encH, encN_len, hle]⟩, ?_⟩; (first | refine hK _ ?_ | refine hK _ _ ?_ | refine ⟨by simp [go_sem, hlp, hlq, hc, encH, encN_len, hle], hK _ ?_⟩ | refine ⟨by simp [go_sem, hlp, hlq, hc, encH, encN_len, hle], hK _ _ ?_⟩ | refine ⟨by simp [go_sem, hlp, hlq, hc, encH, encN_len, hle], by simp [go_sem, hlp, hlq, hc, encH, encN_len, hle], hK _ _ ?_⟩))
                 | (refine ⟨_, f40s, ?_⟩; (first | refine hK _ ?_ | refine hK _ _ ?_ | refine ⟨by simp [go_sem, hlp, hlq, hc, encH, encN_len, hle], hK _ ?_⟩ | refine ⟨by simp [go_sem, hlp, hlq, hc, encH, encN_len, hle], hK _ _ ?_⟩ | refine ⟨by simp [go_sem, hlp, hlq, hc, encH, encN_len, hle], by simp [go_sem, hlp, hlq, hc, encH, encN_len, hle], hK _ _ ?_⟩))
                 | (refine .inl ⟨_, f40s, ?_⟩; (first | refine hK _ ?_ | refine hK _ _ ?_ | refine ⟨by simp [go_sem, hlp, hlq, hc, encH, encN_len, hle], hK _ ?_⟩ | refine ⟨by simp [go_sem, hlp, hlq, hc, encH, encN_len, hle], hK _ _ ?_⟩ | refine ⟨by simp [go_sem, hlp, hlq, hc, encH, encN_len, hle], by simp [go_sem, hlp, hlq, hc, encH, encN_len, hle], hK _ _ ?_⟩))
                 | (refine .inr ⟨_, f40s, ?_⟩; (first | refine hK _ ?_ | refine hK _ _ ?_ | refine ⟨by simp [go_sem, hlp, hlq, hc, encH, encN_len, hle], hK _ ?_⟩ | refine ⟨by simp [go_sem, hlp, hlq, hc, encH, encN_len, hle], hK _ _ ?_⟩ | refine ⟨by simp [go_sem, hlp, hlq, hc, encH, encN_len, hle], by simp [go_sem, hlp, hlq, hc, encH, encN_len, hle], hK _ _ ?_⟩))
                 | (refine ⟨_, ⟨f40s, by simp [go_sem, hlp, hlq, hc, encH, encN_len, hle]⟩, ?_⟩; (first | refine hK _ ?_ | refine hK _ _ ?_ | refine ⟨by simp [go_sem, hlp, hlq, hc, encH, encN_len, hle], hK _ ?_⟩ | refine ⟨by simp [go_sem, hlp, hlq, hc, encH, encN_len, hle], hK _ _ ?_⟩ | refine ⟨by simp [go_sem, hlp, hlq, hc, encH, encN_len, hle], by simp [go_sem, hlp, hlq, hc, encH, encN_len, hle], hK _ _ ?_⟩))
                 | (refine ⟨_, fun _ => f40s, ?_⟩; (first | refine hK _ ?_ | refine hK _ _ ?_ | refine ⟨by simp [go_sem, hlp, hlq, hc, encH, encN_len, hle], hK _ ?_⟩ | refine ⟨by simp [go_sem, hlp, hlq, hc, encH, encN_len, hle], hK _ _ ?_⟩ | refine ⟨by simp [go_sem, hlp, hlq, hc, encH, encN_len, hle], by simp [go_sem, hlp, hlq, hc, encH, encN_len, hle], hK _ _ ?_⟩))
                 | (refine ⟨_, fun hc => ⟨hc, f40s⟩, ?_⟩; (first | refine hK _ ?_ | refine hK _ _ ?_ | refine ⟨by simp [go_sem, hlp, hlq, hc, encH, encN_len, hle], hK _ ?_⟩ | refine ⟨by simp [go_sem, hlp, hlq, hc, encH, encN_len, hle], hK _ _ ?_⟩ | refine ⟨by simp [go_sem, hlp, hlq, hc, encH, encN_len, hle], by simp [go_sem, hlp, hlq, hc, encH, encN_len, hle], hK _ _ ?_⟩))
                 | (refine ⟨_, fun hc => ⟨f40s, by simp [go_sem, hlp, hlq, hc, encH, encN_len, hle]⟩, ?_⟩; (first | refine hK _ ?_ | refine hK _ _ ?_ | refine ⟨by simp [go_sem, hlp, hlq, hc, encH, encN_len, hle], hK _ ?_⟩ | refine ⟨by simp [go_sem, hlp, hlq, hc, encH, encN_len, hle], hK _ _ ?_⟩ | refine ⟨by simp [go_sem, hlp, hlq, hc, encH, encN_len, hle], by simp [go_sem, hlp, hlq, hc, encH, encN_len, hle], hK _ _ ?_⟩))
                 | (refine ⟨_, fun hc => ⟨hc, f40s, by simp [go_sem, hlp, hlq, hc, encH, encN_len, hle]⟩, ?_⟩; (first | refine hK _ ?_ | refine hK _ _ ?_ | refine ⟨by simp [go_sem, hlp, hlq, hc, encH, encN_len, hle], hK _ ?_⟩ | refine ⟨by simp [go_sem, hlp, hlq, hc, encH, encN_len, hle], hK _ _ ?_⟩ | refine ⟨by simp [go_sem, hlp, hlq, hc, encH, encN_len, hle], by simp [go_sem, hlp, hlq, hc, encH, encN_len, hle], hK _ _ ?_⟩))
                 | refine ⟨.one (.one (.bool false)), by simp [go_sem, hlp, hlq, hc, encH, encN_len, hle], hK _ _ ?_⟩
                 | refine ⟨by (first | (simp [appendOk, flatEls, hlp, hlq, hc, encH, encN_len, hle]; done) | (simp [appendOk, flatEls, hlp, hlq, hc, encH, encN_len, hle]; omega)), hK _ ?_⟩
                 | refine ⟨hK _ ?_, fun h => hK _ ?_⟩
                 | refine ⟨by omega, hK _ ?_⟩
                 | refine ⟨by omega, hK _ _ ?_⟩
                 | refine ⟨?_, hK _ ?_⟩
                 | refine ⟨?_, hK _ _ ?_⟩
               all_goals clear hK K)
          · have : matched H = none := matched_no (pairs_no hlp hlq h)
            simp [go_sem, this, nResult]
          · refine loopQ_normal (m - 1) _ (by omega) ⟨q + 1, by omega, ?_, rfl⟩ ?_
            · intro q' hq'
              by_cases e : q' = q
              · subst e; exact h
              · exact hokq q' (by omega)
            · simp [go_sem, hs2, Int.add_assoc]
        · have hc : (0 : Int) < cmpI ((gotOf H p q).length : Int) ((sentOf H p q).length : Int) := by
            unfold cmpI
            split
            · omega
            · split
              · omega
              · omega
          repeat' first
            | with_reducible first | refine awp_seq ?_ | refine awp_reg ?_ | refine awp_block ?_ | refine awp_ret ?_ | refine awp_exit ?_ | refine awp_skip ?_ | refine awp_scp ?_ | refine scpQ_normal ?_ | refine scpQ_ret ?_ | refine scpQ_exit ?_ | refine seqQ_normal ?_ | refine seqQ_ret ?_ | refine seqQ_exit ?_ | refine blockQ_normal ?_ | refine blockQ_ret ?_ | refine blockQ_same ?_ | refine blockQ_other (by decide) ?_ | refine loopQ_ret ?_ | refine loopQ_exit ?_ | refine arun_nil ?_ | refine arunA_nil ?_ | refine arunB_nil ?_ | refine drwQ_intro ?_ | refine deadQ_nil ?_
            | ((with_reducible refine awp_cond2 (t := ?_) ?hc (fun h => ?_) (fun h => ?_))
               case hc => rfl
               all_goals (try simp [go_sem, hlp, hlq, hc, encH, encN_len] at h)
               all_goals try omega)
            | ((with_reducible first | refine arun_cons fun K hK => ?_ | refine arunA_cons fun K hK => ?_ | refine arunB_cons fun K hK => ?_ | refine awp_drw fun K hK => ?_ | refine deadQ_some fun K hK => ?_ | refine pruneQ_intro fun K hK => ?_)
               simp [go_sem, hlp, hlq, hc, encH, encN_len]
               try simp (disch := omega) only [wrap_i64, okRefs, eq_self, true_and]
               first
                 | refine hK _ ?_
                 | refine hK _ _ ?_
                 | (refine ⟨_, f38a, ?_⟩; (first | refine hK _ ?_ | refine hK _ _ ?_ | refine ⟨by simp [go_sem, hlp, hlq, hc, encH, encN_len], hK _ ?_⟩ | refine ⟨by simp [go_sem, hlp, hlq, hc, encH, encN_len], hK _ _ ?_⟩ | refine ⟨by simp [go_sem, hlp, hlq, hc, encH, encN_len], by simp [go_sem, hlp, hlq, hc, encH, encN_len], hK _ _ ?_⟩))
                 | (refine .inl ⟨_, f38a, ?_⟩; (first | refine hK _ ?_ | refine hK _ _ ?_ | refine ⟨by simp [go_sem, hlp, hlq, hc, encH, encN_len], hK _ ?_⟩ | refine ⟨by simp [go_sem, hlp, hlq, hc, encH, encN_len], hK _ _ ?_⟩ | refine ⟨by simp [go_sem, hlp, hlq, hc, encH, encN_len], by simp [go_sem, hlp, hlq, hc, encH, encN_len], hK _ _ ?_⟩))
                 | (refine .inr ⟨_, f38a, ?_⟩; (first | refine hK _ ?_ | refine hK _ _ ?_ | refine ⟨by simp [go_sem, hlp, hlq, hc, encH, encN_len], hK _ ?_⟩ | refine ⟨by simp [go_sem, hlp, hlq, hc, encH, encN_len], hK _ _ ?_⟩ | refine ⟨by simp [go_sem, hlp, hlq, hc, encH, encN_len], by simp [go_sem, hlp, hlq, hc, encH, encN_len], hK _ _ ?_⟩))
                 | (refine ⟨_, ⟨f38a, by simp [go_sem, hlp, hlq, hc, encH, encN_len]⟩, ?_⟩; (first | refine hK _ ?_ | refine hK _ _ ?_ | refine ⟨by simp [go_sem, hlp, hlq, hc, encH, encN_len], hK _ ?_⟩ | refine ⟨by simp [go_sem, hlp, hlq, hc, encH, encN_len], hK _ _ ?_⟩ | refine ⟨by simp [go_sem, hlp, hlq, hc, encH, encN_len], by simp [go_sem, hlp, hlq, hc, encH, encN_len], hK _ _ ?_⟩))
                 | (refine ⟨_, fun _ => f38a, ?_⟩; (first | refine hK _ ?_ | refine hK _ _ ?_ | refine ⟨by simp [go_sem, hlp, hlq, hc, encH, encN_len], hK _ ?_⟩ | refine ⟨by simp [go_sem, hlp, hlq, hc, encH, encN_len], hK _ _ ?_⟩ | refine ⟨by simp [go_sem, hlp, hlq, hc, encH, encN_len], by simp [go_sem, hlp, hlq, hc, encH, encN_len], hK _ _ ?_⟩))
                 | (refine ⟨_, fun hc => ⟨hc, f38a⟩, ?_⟩; (first | refine hK _ ?_ | refine hK _ _ ?_ | refine ⟨by simp [go_sem, hlp, hlq, hc, encH, encN_len], hK _ ?_⟩ | refine ⟨by simp [go_sem, hlp, hlq, hc, encH, encN_len], hK _ _ ?_⟩ | refine ⟨by simp [go_sem, hlp, hlq, hc, encH, encN_len], by simp [go_sem, hlp, hlq, hc, encH, encN_len], hK _ _ ?_⟩))
                 | (refine ⟨_, fun hc => ⟨f38a, by simp [go_sem, hlp, hlq, hc, encH, encN_len]⟩, ?_⟩; (first | refine hK _ ?_ | refine hK _ _ ?_ | refine ⟨by simp [go_sem, hlp, hlq, hc, encH, encN_len], hK _ ?_⟩ | refine ⟨by simp [go_sem, hlp, hlq, hc, encH, encN_len], hK _ _ ?_⟩ | refine ⟨by simp [go_sem, hlp, hlq, hc, encH, encN_len], by simp [go_sem, hlp, hlq, hc, encH, encN_len], hK _ _ ?_⟩))
                 | (refine ⟨_, fun hc => ⟨hc, f38a, by simp [go_sem, hlp, hlq, hc, encH, encN_len]⟩, ?_⟩; (first | refine hK _ ?_ | refine hK _ _ ?_ | refine ⟨by simp [go_sem, hlp, hlq, hc, encH, encN_len], hK _ ?_⟩ | refine ⟨by simp [go_sem, hlp, hlq, hc, encH, encN_len], hK _ _ ?_⟩ | refine ⟨by simp [go_sem, hlp, hlq, hc, encH, encN_len], by simp [go_sem, hlp, hlq, hc, encH, encN_len], hK _ _ ?_⟩))
                 | (refine ⟨_, f38b, ?_⟩; (first | refine hK _ ?_ | refine hK _ _ ?_ | refine ⟨by simp [go_sem, hlp, hlq, hc, encH, encN_len], hK _ ?_⟩ | refine ⟨by simp [go_sem, hlp, hlq, hc, encH, encN_len], hK _ _ ?_⟩ | refine ⟨by simp [go_sem, hlp, hlq, hc, encH, encN_len], by simp [go_sem, hlp, hlq, hc, encH, encN_len], hK _ _ ?_⟩))
                 | (refine .inl ⟨_, f38b, ?_⟩; (first | refine hK _ ?_ | refine hK _ _ ?_ | refine ⟨by simp [go_sem, hlp, hlq, hc, encH, encN_len], hK _ ?_⟩ | refine ⟨by simp [go_sem, hlp, hlq, hc, encH, encN_len], hK _ _ ?_⟩ | refine ⟨by simp [go_sem, hlp, hlq, hc, encH, encN_len], by simp [go_sem, hlp, hlq, hc, encH, encN_len], hK _ _ ?_⟩))
                 | (refine .inr ⟨_, f38b, ?_⟩; (first | refine hK _ ?_ | refine hK _ _ ?_ | refine ⟨by simp [go_sem, hlp, hlq, hc, encH, encN_len], hK _ ?_⟩ | refine ⟨by simp [go_sem, hlp, hlq, hc, encH, encN_len], hK _ _ ?_⟩ | refine ⟨by simp [go_sem, hlp, hlq, hc, encH, encN_len], by simp [go_sem, hlp, hlq, hc, encH, encN_len], hK _ _ ?_⟩))
                 | (refine ⟨_, ⟨f38b, by simp [go_sem, hlp, hlq, hc, encH, encN_len]⟩, ?_⟩; (first | refine hK _ ?_ | refine hK _ _ ?_ | refine ⟨by simp [go_sem, hlp, hlq, hc, encH, encN_len], hK _ ?_⟩ | refine ⟨by simp [go_sem, hlp, hlq, hc, encH, encN_len], hK _ _ ?_⟩ | refine ⟨by simp [go_sem, hlp, hlq, hc, encH, encN_len], by simp [go_sem, hlp, hlq, hc, encH, encN_len], hK _ _ ?_⟩))
                 | (refine ⟨_, fun _ => f38b, ?_⟩; (first | refine hK _ ?_ | refine hK _ _ ?_ | refine ⟨by simp [go_sem, hlp, hlq, hc, encH, encN_len], hK _ ?_⟩ | refine ⟨by simp [go_sem, hlp, hlq, hc, encH, encN_len], hK _ _ ?_⟩ | refine ⟨by simp [go_sem, hlp, hlq, hc, encH, encN_len], by simp [go_sem, hlp, hlq, hc, encH, encN_len], hK _ _ ?_⟩))
                 | (refine ⟨_, fun hc => ⟨hc, f38b⟩, ?_⟩; (first | refine hK _ ?_ | refine hK _ _ ?_ | refine ⟨by simp [go_sem, hlp, hlq, hc, encH, encN_len], hK _ ?_⟩ | refine ⟨by simp [go_sem, hlp, hlq, hc, encH, encN_len], hK _ _ ?_⟩ | refine ⟨by simp [go_sem, hlp, hlq, hc, encH, encN_len], by simp [go_sem, hlp, hlq, hc, encH, encN_len], hK _ _ ?_⟩))
                 | (refine ⟨_, fun hc => ⟨f38b, by simp [go_sem, hlp, hlq, hc, encH, encN_len]⟩, ?_⟩; (first | refine hK _ ?_ | refine hK _ _ ?_ | refine ⟨by simp [go_sem, hlp, hlq, hc, encH, encN_len], hK _ ?_⟩ | refine ⟨by simp [go_sem, hlp, hlq, hc, encH, encN_len], hK _ _ ?_⟩ | refine ⟨by simp [go_sem, hlp, hlq, hc, encH, encN_len], by simp [go_sem, hlp, hlq, hc, encH, encN_len], hK _ _ ?_⟩))
                 | (refine ⟨_, fun hc => ⟨hc, f38b, by simp [go_sem, hlp, hlq, hc, encH, encN_len]⟩, ?_⟩; (first | refine hK _ ?_ | refine hK _ _ ?_ | refine ⟨by simp [go_sem, hlp, hlq, hc, encH, encN_len], hK _ ?_⟩ | refine ⟨by simp [go_sem, hlp, hlq, hc, encH, encN_len], hK _ _ ?_⟩ | refine ⟨by simp [go_sem, hlp, hlq, hc, encH, encN_len], by simp [go_sem, hlp, hlq, hc, encH, encN_len], hK _ _ ?_⟩))
                 | (refine ⟨_, f39 _ _, ?_⟩; (first | refine hK _ ?_ | refine hK _ _ ?_ | refine ⟨by simp [go_sem, hlp, hlq, hc, encH, encN_len], hK _ ?_⟩ | refine ⟨by simp [go_sem, hlp, hlq, hc, encH, encN_len], hK _ _ ?_⟩ | refine ⟨by simp [go_sem, hlp, hlq, hc, encH, encN_len], by simp [go_sem, hlp, hlq, hc, encH, encN_len], hK _ _ ?_⟩))
                 | (refine .inl ⟨_, f39 _ _, ?_⟩; (first | refine hK _ ?_ | refine hK _ _ ?_ | refine ⟨by simp [go_sem, hlp, hlq, hc, encH, encN_len], hK _ ?_⟩ | refine ⟨by simp [go_sem, hlp, hlq, hc, encH, encN_len], hK _ _ ?_⟩ | refine ⟨by simp [go_sem, hlp, hlq, hc, encH, encN_len], by simp [go_sem, hlp, hlq, hc, encH, encN_len], hK _ _ ?_⟩))
                 | (refine .inr ⟨_, f39 _ _, ?_⟩; (first | refine hK _ ?_ | refine hK _ _ ?_ | refine ⟨by simp [go_sem, hlp, hlq, hc, encH, encN_len], hK _ ?_⟩ | refine ⟨by simp [go_sem, hlp, hlq, hc, encH, encN_len], hK _ _ ?_⟩ | refine ⟨by simp [go_sem, hlp, hlq, hc, encH, encN_len], by simp [go_sem, hlp, hlq, hc, encH, encN_len], hK _ _ ?_⟩))
                 | (refine ⟨_, ⟨f39 _ _, by simp [go_sem, hlp, hlq, hc, encH, encN_len]⟩, ?_⟩; (first | refine hK _ ?_ | refine hK _ _ ?_ | refine ⟨by simp [go_sem, hlp, hlq, hc, encH, encN_len], hK _ ?_⟩ | refine ⟨by simp [go_sem, hlp, hlq, hc, encH, encN_len], hK _ _ ?_⟩ | refine ⟨by simp [go_sem, hlp, hlq, hc, encH, encN_len], by simp [go_sem, hlp, hlq, hc, encH, encN_len], hK _ _ ?_⟩))
                 | (refine ⟨_, fun _ => f39 _ _, ?_⟩; (first | refine hK _ ?_ | refine hK _ _ ?_ | refine ⟨by simp [go_sem, hlp, hlq, hc, encH, encN_len], hK _ ?_⟩ | refine ⟨by simp [go_sem, hlp, hlq, hc, encH, encN_len], hK _ _ ?_⟩ | refine ⟨by simp [go_sem, hlp, hlq, hc, encH, encN_len], by simp [go_sem, hlp, hlq, hc, encH, encN_len], hK _ _ ?_⟩))
                 | (refine ⟨_, fun hc => ⟨hc, f39 _ _⟩, ?_⟩; (first | refine hK _ ?_ | refine hK _ _ ?_ | refine ⟨by simp [go_sem, hlp, hlq, hc, encH, encN_len], hK _ ?_⟩ | refine ⟨by simp [go_sem, hlp, hlq, hc, encH, encN_len], hK _ _ ?_⟩ | refine ⟨by simp [go_sem, hlp, hlq, hc, encH, encN_len], by simp [go_sem, hlp, hlq, hc, encH, encN_len], hK _ _ ?_⟩))
                 | (refine ⟨_, fun hc => ⟨f39 _ _, by simp [go_sem, hlp, hlq, hc, encH, encN_len]⟩, ?_⟩; (first | refine hK _ ?_ | refine hK _ _ ?_ | refine ⟨by simp [go_sem, hlp, hlq, hc, encH, encN_len], hK _ ?_⟩ | refine ⟨by simp [go_sem, hlp, hlq, hc, encH, encN_len], hK _ _ ?_⟩ | refine ⟨by simp [go_sem, hlp, hlq, hc, encH, encN_len], by simp [go_sem, hlp, hlq, hc, encH, encN_len], hK _ _ ?_⟩))
                 | (refine ⟨_, fun hc => ⟨hc, f39 _ _, by simp [go_sem, hlp, hlq, hc, encH, encN_len]⟩, ?_⟩; (first | refine hK _ ?_ | refine hK _ _ ?_ | refine ⟨by simp [go_sem, hlp, hlq, hc, encH, encN_len], hK _ ?_⟩ | refine ⟨by simp [go_sem, hlp, hlq, hc, encH, encN_len], hK _ _ ?_⟩ | refine ⟨by simp [go_sem, hlp, hlq, hc, encH, encN_len], by simp [go_sem, hlp, hlq, hc, encH, encN_len], hK _ _ ?_⟩))
                 | refine ⟨.one (.one (.bool false)), by simp [go_sem, hlp, hlq, hc, encH, encN_len], hK _ _ ?_⟩
                 | refine ⟨by (first | (simp [appendOk, flatEls, hlp, hlq, hc, encH, encN_len]; done) | (simp [appendOk, flatEls, hlp, hlq, hc, encH, encN_len]; omega)), hK _ ?_⟩
                 | refine ⟨hK _ ?_, fun h => hK _ ?_⟩
                 | refine ⟨by omega, hK _ ?_⟩
                 | refine ⟨by omega, hK _ _ ?_⟩
                 | refine ⟨?_, hK _ ?_⟩
                 | refine ⟨?_, hK _ _ ?_⟩
               all_goals clear hK K)
          have hb : okPair H p q = false := by
            unfold okPair
            rw [decide_eq_false_iff_not]
            intro e
            have := congrArg List.length e
            simp at this
            omega
          have : matched H = none := matched_no (pairs_no hlp hlq hb)
          simp [go_sem, this, nResult]
      · skip
        repeat' first
          | with_reducible first | refine awp_seq ?_ | refine awp_reg ?_ | refine awp_block ?_ | refine awp_ret ?_ | refine awp_exit ?_ | refine awp_skip ?_ | refine awp_scp ?_ | refine scpQ_normal ?_ | refine scpQ_ret ?_ | refine scpQ_exit ?_ | refine seqQ_normal ?_ | refine seqQ_ret ?_ | refine seqQ_exit ?_ | refine blockQ_normal ?_ | refine blockQ_ret ?_ | refine blockQ_same ?_ | refine blockQ_other (by decide) ?_ | refine loopQ_ret ?_ | refine loopQ_exit ?_ | refine arun_nil ?_ | refine arunA_nil ?_ | refine arunB_nil ?_ | refine drwQ_intro ?_ | refine deadQ_nil ?_
          | ((with_reducible refine awp_cond2 (t := ?_) ?hc (fun h => ?_) (fun h => ?_))
             case hc => rfl
             all_goals (try simp [go_sem, hlq] at h)
             all_goals try omega)
          | ((with_reducible first | refine arun_cons fun K hK => ?_ | refine arunA_cons fun K hK => ?_ | refine arunB_cons fun K hK => ?_ | refine awp_drw fun K hK => ?_ | refine deadQ_some fun K hK => ?_ | refine pruneQ_intro fun K hK => ?_)
             simp [go_sem, hlq]
             try simp (disch := omega) only [wrap_i64, okRefs, eq_self, true_and]
             first
               | refine hK _ ?_
               | refine hK _ _ ?_
               | refine ⟨by (first | (simp [appendOk, flatEls, hlq]; done) | (simp [appendOk, flatEls, hlq]; omega)), hK _ ?_⟩
               | refine ⟨hK _ ?_, fun h => hK _ ?_⟩
               | refine ⟨by omega, hK _ ?_⟩
               | refine ⟨by omega, hK _ _ ?_⟩
               | refine ⟨?_, hK _ ?_⟩
               | refine ⟨?_, hK _ _ ?_⟩
             all_goals clear hK K)
        have hqe : q = H.length := by omega
        subst hqe
        refine loopQ_normal (n - 1) _ (by omega) ⟨p + 1, by omega, ?_, rfl⟩ ?_
        · intro p' q' hp' hq'
          by_cases e : p' = p
          · subst e; exact hokq q' hq'
          · exact hok p' q' (by omega) hq'
        · simp [go_sem, sumGot_succ]
    · skip
      repeat' first
        | with_reducible first | refine awp_seq ?_ | refine awp_reg ?_ | refine awp_block ?_ | refine awp_ret ?_ | refine awp_exit ?_ | refine awp_skip ?_ | refine awp_scp ?_ | refine scpQ_normal ?_ | refine scpQ_ret ?_ | refine scpQ_exit ?_ | refine seqQ_normal ?_ | refine seqQ_ret ?_ | refine seqQ_exit ?_ | refine blockQ_normal ?_ | refine blockQ_ret ?_ | refine blockQ_same ?_ | refine blockQ_other (by decide) ?_ | refine loopQ_ret ?_ | refine loopQ_exit ?_ | refine arun_nil ?_ | refine arunA_nil ?_ | refine arunB_nil ?_ | refine drwQ_intro ?_ | refine deadQ_nil ?_
        | ((with_reducible refine awp_cond2 (t := ?_) ?hc (fun h => ?_) (fun h => ?_))
           case hc => rfl
           all_goals (try simp [go_sem, hlp] at h)
           all_goals try omega)
        | ((with_reducible first | refine arun_cons fun K hK => ?_ | refine arunA_cons fun K hK => ?_ | refine arunB_cons fun K hK => ?_ | refine awp_drw fun K hK => ?_ | refine deadQ_some fun K hK => ?_ | refine pruneQ_intro fun K hK => ?_)
           simp [go_sem, hlp]
           try simp (disch := omega) only [wrap_i64, okRefs, eq_self, true_and]
           first
             | refine hK _ ?_
             | refine hK _ _ ?_
             | refine ⟨by (first | (simp [appendOk, flatEls, hlp]; done) | (simp [appendOk, flatEls, hlp]; omega)), hK _ ?_⟩
             | refine ⟨hK _ ?_, fun h => hK _ ?_⟩
             | refine ⟨by omega, hK _ ?_⟩
             | refine ⟨by omega, hK _ _ ?_⟩
             | refine ⟨?_, hK _ ?_⟩
             | refine ⟨?_, hK _ _ ?_⟩
           all_goals clear hK K)
      have hpe : p = H.length := by omega
      subst hpe
      have : matched H = some (sumGot H H.length) := by
        unfold matched
        rw [hp, pairs_yes (fun p q h1 h2 => hok p q h1 h2)]
        rfl
      simp [go_sem, this, nResult]
  · have hp : properH H = false := by simpa using hp
    repeat' first
      | with_reducible first | refine awp_seq ?_ | refine awp_reg ?_ | refine awp_block ?_ | refine awp_ret ?_ | refine awp_exit ?_ | refine awp_skip ?_ | refine awp_scp ?_ | refine scpQ_normal ?_ | refine scpQ_ret ?_ | refine scpQ_exit ?_ | refine seqQ_normal ?_ | refine seqQ_ret ?_ | refine seqQ_exit ?_ | refine blockQ_normal ?_ | refine blockQ_ret ?_ | refine blockQ_same ?_ | refine blockQ_other (by decide) ?_ | refine loopQ_ret ?_ | refine loopQ_exit ?_ | refine arun_nil ?_ | refine arunA_nil ?_ | refine arunB_nil ?_ | refine drwQ_intro ?_ | refine deadQ_nil ?_
      | ((with_reducible refine awp_cond2 (t := ?_) ?hc (fun h => ?_) (fun h => ?_))
         case hc => rfl
         all_goals (try simp [go_sem, hp, encH] at h)
         all_goals try omega)
      | ((with_reducible first | refine arun_cons fun K hK => ?_ | refine arunA_cons fun K hK => ?_ | refine arunB_cons fun K hK => ?_ | refine awp_drw fun K hK => ?_ | refine deadQ_some fun K hK => ?_ | refine pruneQ_intro fun K hK => ?_)
         simp [go_sem, hp, encH]
         try simp (disch := omega) only [wrap_i64, okRefs, eq_self, true_and]
         first
           | refine hK _ ?_
           | refine hK _ _ ?_
           | (refine ⟨_, f35s, ?_⟩; (first | refine hK _ ?_ | refine hK _ _ ?_ | refine ⟨by simp [go_sem, hp, encH], hK _ ?_⟩ | refine ⟨by simp [go_sem, hp, encH], hK _ _ ?_⟩ | refine ⟨by simp [go_sem, hp, encH], by simp [go_sem, hp, encH], hK _ _ ?_⟩))
           | (refine .inl ⟨_, f35s, ?_⟩; (first | refine hK _ ?_ | refine hK _ _ ?_ | refine ⟨by simp [go_sem, hp, encH], hK _ ?_⟩ | refine ⟨by simp [go_sem, hp, encH], hK _ _ ?_⟩ | refine ⟨by simp [go_sem, hp, encH], by simp [go_sem, hp, encH], hK _ _ ?_⟩))
           | (refine .inr ⟨_, f35s, ?_⟩; (first | refine hK _ ?_ | refine hK _ _ ?_ | refine ⟨by simp [go_sem, hp, encH], hK _ ?_⟩ | refine ⟨by simp [go_sem, hp, encH], hK _ _ ?_⟩ | refine ⟨by simp [go_sem, hp, encH], by simp [go_sem, hp, encH], hK _ _ ?_⟩))
           | (refine ⟨_, ⟨f35s, by simp [go_sem, hp, encH]⟩, ?_⟩; (first | refine hK _ ?_ | refine hK _ _ ?_ | refine ⟨by simp [go_sem, hp, encH], hK _ ?_⟩ | refine ⟨by simp [go_sem, hp, encH], hK _ _ ?_⟩ | refine ⟨by simp [go_sem, hp, encH], by simp [go_sem, hp, encH], hK _ _ ?_⟩))
           | (refine ⟨_, fun _ => f35s, ?_⟩; (first | refine hK _ ?_ | refine hK _ _ ?_ | refine ⟨by simp [go_sem, hp, encH], hK _ ?_⟩ | refine ⟨by simp [go_sem, hp, encH], hK _ _ ?_⟩ | refine ⟨by simp [go_sem, hp, encH], by simp [go_sem, hp, encH], hK _ _ ?_⟩))
           | (refine ⟨_, fun hc => ⟨hc, f35s⟩, ?_⟩; (first | refine hK _ ?_ | refine hK _ _ ?_ | refine ⟨by simp [go_sem, hp, encH], hK _ ?_⟩ | refine ⟨by simp [go_sem, hp, encH], hK _ _ ?_⟩ | refine ⟨by simp [go_sem, hp, encH], by simp [go_sem, hp, encH], hK _ _ ?_⟩))
           | (refine ⟨_, fun hc => ⟨f35s, by simp [go_sem, hp, encH]⟩, ?_⟩; (first | refine hK _ ?_ | refine hK _ _ ?_ | refine ⟨by simp [go_sem, hp, encH], hK _ ?_⟩ | refine ⟨by simp [go_sem, hp, encH], hK _ _ ?_⟩ | refine ⟨by simp [go_sem, hp, encH], by simp [go_sem, hp, encH], hK _ _ ?_⟩))
           | (refine ⟨_, fun hc => ⟨hc, f35s, by simp [go_sem, hp, encH]⟩, ?_⟩; (first | refine hK _ ?_ | refine hK _ _ ?_ | refine ⟨by simp [go_sem, hp, encH], hK _ ?_⟩ | refine ⟨by simp [go_sem, hp, encH], hK _ _ ?_⟩ | refine ⟨by simp [go_sem, hp, encH], by simp [go_sem, hp, encH], hK _ _ ?_⟩))
           | refine ⟨.one (.one (.bool false)), by simp [go_sem, hp, encH], hK _ _ ?_⟩
           | refine ⟨by (first | (simp [appendOk, flatEls, hp, encH]; done) | (simp [appendOk, flatEls, hp, encH]; omega)), hK _ ?_⟩
           | refine ⟨hK _ ?_, fun h => hK _ ?_⟩
           | refine ⟨by omega, hK _ ?_⟩
           | refine ⟨by omega, hK _ _ ?_⟩
           | refine ⟨?_, hK _ ?_⟩
           | refine ⟨?_, hK _ _ ?_⟩
         all_goals clear hK K)
    simp [go_sem, matched, hp, nResult]
end Go.Av
