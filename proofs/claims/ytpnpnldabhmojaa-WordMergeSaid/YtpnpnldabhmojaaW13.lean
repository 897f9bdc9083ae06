/- Part of a proof by symbolic walks on plain data. -/
import Derived.Test.YtpnpnldabhmojaaCW13
import Derived.Test.YtpnpnldabhmojaaW12
set_option linter.unusedVariables false
set_option linter.unusedSimpArgs false
namespace Go.Av
open Go Go.RowKit Go.Proofs

def colGot (H : List (List Ev)) (r k : Nat) : Nat := ((List.range k).map fun p => (gotOf H p r).length).sum
def sumCol (H : List (List Ev)) (k : Nat) : Nat := ((List.range k).map fun r => colGot H r H.length).sum
theorem colGot_succ (H : List (List Ev)) (r k : Nat) : colGot H r (k + 1) = colGot H r k + (gotOf H k r).length := by
  simp [colGot, List.range_succ, List.sum_append]
theorem sumCol_succ (H : List (List Ev)) (k : Nat) : sumCol H (k + 1) = sumCol H k + colGot H k H.length := by
  simp [sumCol, List.range_succ, List.sum_append]

theorem sum_add (f g : Nat → Nat) : ∀ n, ((List.range n).map fun i => f i + g i).sum = ((List.range n).map f).sum + ((List.range n).map g).sum
  | 0 => by simp
  | n + 1 => by
    have := sum_add f g n
    simp only [List.range_succ, List.map_append, List.sum_append, List.map_cons, List.map_nil, List.sum_cons, List.sum_nil] at *
    omega
theorem sum_swap (f : Nat → Nat → Nat) (m : Nat) : ∀ n, ((List.range n).map fun i => ((List.range m).map fun j => f i j).sum).sum = ((List.range m).map fun j => ((List.range n).map fun i => f i j).sum).sum
  | 0 => by
    simp only [List.range_zero, List.map_nil, List.sum_nil]
    induction m with
    | zero => rfl
    | succ m ih => rw [List.range_succ, List.map_append, List.sum_append, ← ih]; rfl
  | n + 1 => by
    have ih := sum_swap f m n
    have e : ((List.range m).map fun j => ((List.range (n + 1)).map fun i => f i j).sum) = (List.range m).map fun j => ((List.range n).map fun i => f i j).sum + f n j := by
      refine List.map_congr_left fun j _ => ?_
      simp [List.range_succ, List.sum_append]
    rw [e, sum_add, ← ih]
    simp [List.range_succ, List.sum_append]

theorem sumCol_eq (H : List (List Ev)) : sumCol H H.length = sumGot H H.length := by
  unfold sumCol sumGot colGot rowGot
  exact sum_swap (fun r p => (gotOf H p r).length) H.length H.length

theorem col_le {H : List (List Ev)} (hh : ∀ l ∈ H, l.length ≤ 1000) (r : Nat) : ∀ k, colGot H r k ≤ k * 1000
  | 0 => by simp [colGot]
  | k + 1 => by
    have := col_le hh r k
    have := got_len hh k r
    rw [colGot_succ]
    omega
theorem sumc_le {H : List (List Ev)} (hl : H.length ≤ 8) (hh : ∀ l ∈ H, l.length ≤ 1000) : ∀ k, sumCol H k ≤ k * 8000
  | 0 => by simp [sumCol]
  | k + 1 => by
    have h1 := sumc_le hl hh k
    have h2 := col_le hh k H.length
    rw [sumCol_succ]
    omega

set_option maxHeartbeats 8000000 in
theorem f29 (H : List (List Ev)) (hl : H.length ≤ 8) (hh : ∀ l ∈ H, l.length ≤ 1000) (f37s : Impl Try.prog 37 [.one (.sl (H.map encH))] (.one (.one (.bool (properH H))))) : Impl Try.prog 29 [.one (.sl (H.map encH))] (nResult (matched H)) := by
  refine impl_intro Try.func29 b29 e29 r29 n29 Try.ntmps29 d29 (by simp) fun hs => ?_
  clear hs
  simp only [c29, slotsOf]
  by_cases hp : properH H = true
  · skip
    repeat' first
      | with_reducible first | refine awp_seq ?_ | refine awp_reg ?_ | refine awp_block ?_ | refine awp_ret ?_ | refine awp_exit ?_ | refine awp_skip ?_ | refine awp_scp ?_ | refine scpQ_normal ?_ | refine scpQ_ret ?_ | refine scpQ_exit ?_ | refine seqQ_normal ?_ | refine seqQ_ret ?_ | refine seqQ_exit ?_ | refine blockQ_normal ?_ | refine blockQ_ret ?_ | refine blockQ_same ?_ | refine blockQ_other (by decide) ?_ | refine loopQ_ret ?_ | refine loopQ_exit ?_ | refine arun_nil ?_ | refine arunA_nil ?_ | refine arunB_nil ?_ | refine drwQ_intro ?_ | refine deadQ_nil ?_
      | ((with_reducible refine awp_cond2 (t := ?_) ?hc (fun h => ?_) (fun h => ?_))
         case hc => rfl
         all_goals (try simp [go_sem, hp, encH] at h)
         all_goals try omega)
      | ((with_reducible first | refine arun_cons fun K hK => ?_ | refine arunA_cons fun K hK => ?_ | refine arunB_cons fun K hK => ?_ | refine awp_drw fun K hK => ?_ | refine deadQ_some fun K hK => ?_ | refine pruneQ_intro fun K hK => ?_)
         simp [go_sem, hp, encH]
         try simp (disch := omega) only [wrap_i64, okRefs, eq_self, true_and]
         first
           | refine hK _ ?_
           | refine hK _ _ ?_
           | (refine ⟨_, f37s, ?_⟩; (first | refine hK _ ?_ | refine hK _ _ ?_ | refine ⟨by simp [go_sem, hp, encH], hK _ ?_⟩ | refine ⟨by simp [go_sem, hp, encH], hK _ _ ?_⟩ | refine ⟨by simp [go_sem, hp, encH], by simp [go_sem, hp, encH], hK _ _ ?_⟩))
           | (refine .inl ⟨_, f37s, ?_⟩; (first | refine hK _ ?_ | refine hK _ _ ?_ | refine ⟨by simp [go_sem, hp, encH], hK _ ?_⟩ | refine ⟨by simp [go_sem, hp, encH], hK _ _ ?_⟩ | refine ⟨by simp [go_sem, hp, encH], by simp [go_sem, hp, encH], hK _ _ ?_⟩))
           | (refine .inr ⟨_, f37s, ?_⟩; (first | refine hK _ ?_ | refine hK _ _ ?_ | refine ⟨by simp [go_sem, hp, encH], hK _ ?_⟩ | refine ⟨by simp [go_sem, hp, encH], hK _ _ ?_⟩ | refine ⟨by simp [go_sem, hp, encH], by simp [go_sem, hp, encH], hK _ _ ?_⟩))
           | (refine ⟨_, ⟨f37s, by simp [go_sem, hp, encH]⟩, ?_⟩; (first | refine hK _ ?_ | refine hK _ _ ?_ | refine ⟨by simp [go_sem, hp, encH], hK _ ?_⟩ | refine ⟨by simp [go_sem, hp, encH], hK _ _ ?_⟩ | refine ⟨by simp [go_sem, hp, encH], by simp [go_sem, hp, encH], hK _ _ ?_⟩))
           | (refine ⟨_, fun _ => f37s, ?_⟩; (first | refine hK _ ?_ | refine hK _ _ ?_ | refine ⟨by simp [go_sem, hp, encH], hK _ ?_⟩ | refine ⟨by simp [go_sem, hp, encH], hK _ _ ?_⟩ | refine ⟨by simp [go_sem, hp, encH], by simp [go_sem, hp, encH], hK _ _ ?_⟩))
           | (refine ⟨_, fun hc => ⟨hc, f37s⟩, ?_⟩; (first | refine hK _ ?_ | refine hK _ _ ?_ | refine ⟨by simp [go_sem, hp, encH], hK _ ?_⟩ | refine ⟨by simp [go_sem, hp, encH], hK _ _ ?_⟩ | refine ⟨by simp [go_sem, hp, encH], by simp [go_sem, hp, encH], hK _ _ ?_⟩))
           | (refine ⟨_, fun hc => ⟨f37s, by simp [go_sem, hp, encH]⟩, ?_⟩; (first | refine hK _ ?_ | refine hK _ _ ?_ | refine ⟨by simp [go_sem, hp, encH], hK _ ?_⟩ | refine ⟨by simp [go_sem, hp, encH], hK _ _ ?_⟩ | refine ⟨by simp [go_sem, hp, encH], by simp [go_sem, hp, encH], hK _ _ ?_⟩))
           | (refine ⟨_, fun hc => ⟨hc, f37s, by simp [go_sem, hp, encH]⟩, ?_⟩; (first | refine hK _ ?_ | refine hK _ _ ?_ | refine ⟨by simp [go_sem, hp, encH], hK _ ?_⟩ | refine ⟨by simp [go_sem, hp, encH], hK _ _ ?_⟩ | refine ⟨by simp [go_sem, hp, encH], by simp [go_sem, hp, encH], hK _ _ ?_⟩))
           | refine ⟨.one (.one (.bool false)), by simp [go_sem, hp, encH], hK _ _ ?_⟩
           | refine ⟨by (first | (simp [appendOk, flatEls, hp, encH]; done) | (simp [appendOk, flatEls, hp, encH]; omega)), hK _ ?_⟩
           | refine ⟨hK _ ?_, fun h => hK _ ?_⟩
           | refine ⟨by omega, hK _ ?_⟩
           | refine ⟨by omega, hK _ _ ?_⟩
           | refine ⟨?_, hK _ ?_⟩
           | refine ⟨?_, hK _ _ ?_⟩
         all_goals clear hK K)
    refine awp_loop (fun n e => ∃ r, r + n = H.length ∧ (∀ r' p', r' < r → p' < H.length → okPair H p' r' = true) ∧ e = [(5, .sv (.one (.int .i64 (r : Nat)))), (4, .sv (.one (.int .i64 (sumCol H r : Nat)))), (2, .sv (.one (.int .i64 0))), (3, .sv (.one (.bool false))), (0, .sv (.one (.sl (H.map encH))))]) H.length _ ⟨0, by simp, by simp, rfl⟩ (by simp [go_sem, sumCol]) ?_
    rintro n e ⟨r, hrn, hok, rfl⟩
    have hsp := sumc_le hl hh r
    by_cases hlr : r < H.length
    · skip
      repeat' first
        | with_reducible first | refine awp_seq ?_ | refine awp_reg ?_ | refine awp_block ?_ | refine awp_ret ?_ | refine awp_exit ?_ | refine awp_skip ?_ | refine awp_scp ?_ | refine scpQ_normal ?_ | refine scpQ_ret ?_ | refine scpQ_exit ?_ | refine seqQ_normal ?_ | refine seqQ_ret ?_ | refine seqQ_exit ?_ | refine blockQ_normal ?_ | refine blockQ_ret ?_ | refine blockQ_same ?_ | refine blockQ_other (by decide) ?_ | refine loopQ_ret ?_ | refine loopQ_exit ?_ | refine arun_nil ?_ | refine arunA_nil ?_ | refine arunB_nil ?_ | refine drwQ_intro ?_ | refine deadQ_nil ?_
        | ((with_reducible refine awp_cond2 (t := ?_) ?hc (fun h => ?_) (fun h => ?_))
           case hc => rfl
           all_goals (try simp [go_sem, hlr, encH] at h)
           all_goals try omega)
        | ((with_reducible first | refine arun_cons fun K hK => ?_ | refine arunA_cons fun K hK => ?_ | refine arunB_cons fun K hK => ?_ | refine awp_drw fun K hK => ?_ | refine deadQ_some fun K hK => ?_ | refine pruneQ_intro fun K hK => ?_)
           simp [go_sem, hlr, encH]
           try simp (disch := omega) only [wrap_i64, okRefs, eq_self, true_and]
           first
             | refine hK _ ?_
             | refine hK _ _ ?_
             | refine ⟨by (first | (simp [appendOk, flatEls, hlr, encH]; done) | (simp [appendOk, flatEls, hlr, encH]; omega)), hK _ ?_⟩
             | refine ⟨hK _ ?_, fun h => hK _ ?_⟩
             | refine ⟨by omega, hK _ ?_⟩
             | refine ⟨by omega, hK _ _ ?_⟩
             | refine ⟨?_, hK _ ?_⟩
             | refine ⟨?_, hK _ _ ?_⟩
           all_goals clear hK K)
      refine awp_loop (fun m e => ∃ p, p + m = H.length ∧ (∀ p', p' < p → okPair H p' r = true) ∧ e = [(6, .sv (.one (.int .i64 (p : Nat)))), (5, .sv (.one (.int .i64 (r : Nat)))), (4, .sv (.one (.int .i64 (sumCol H r + colGot H r p : Nat)))), (2, .sv (.one (.int .i64 0))), (3, .sv (.one (.bool false))), (0, .sv (.one (.sl (H.map encH))))]) H.length _ ⟨0, by simp, by simp, rfl⟩ (by simp [go_sem, colGot]) ?_
      rintro m e ⟨p, hpn, hokp, rfl⟩
      have hrp := col_le hh r p
      by_cases hlp : p < H.length
      · have g1 : labelsOf H[r] false p = gotOf H p r := by simp [gotOf, hlr]
        have g2 : labelsOf H[p] true r = sentOf H p r := by simp [sentOf, hlp]
        have hgl := got_len hh p r
        have hp1 := hh H[p] (List.getElem_mem hlp)
        have hq1 := hh H[r] (List.getElem_mem hlr)
        have hsl : (sentOf H p r).length ≤ 1000 := by rw [← g2]; exact Nat.le_trans (labels_len _ _ _) hp1
        have f41a := f41 H[p] true r (by omega)
        have f41b := f41 H[r] false p (by omega)
        rw [g2] at f41a
        rw [g1] at f41b
        have hs2 := colGot_succ H r p
        repeat' first
          | with_reducible first | refine awp_seq ?_ | refine awp_reg ?_ | refine awp_block ?_ | refine awp_ret ?_ | refine awp_exit ?_ | refine awp_skip ?_ | refine awp_scp ?_ | refine scpQ_normal ?_ | refine scpQ_ret ?_ | refine scpQ_exit ?_ | refine seqQ_normal ?_ | refine seqQ_ret ?_ | refine seqQ_exit ?_ | refine blockQ_normal ?_ | refine blockQ_ret ?_ | refine blockQ_same ?_ | refine blockQ_other (by decide) ?_ | refine loopQ_ret ?_ | refine loopQ_exit ?_ | refine arun_nil ?_ | refine arunA_nil ?_ | refine arunB_nil ?_ | refine drwQ_intro ?_ | refine deadQ_nil ?_
          | ((with_reducible refine awp_cond2 (t := ?_) ?hc (fun h => ?_) (fun h => ?_))
             case hc => rfl
             all_goals (try simp [go_sem, hlr, hlp, encH, encN_len] at h)
             all_goals try omega)
          | ((with_reducible first | refine arun_cons fun K hK => ?_ | refine arunA_cons fun K hK => ?_ | refine arunB_cons fun K hK => ?_ | refine awp_drw fun K hK => ?_ | refine deadQ_some fun K hK => ?_ | refine pruneQ_intro fun K hK => ?_)
             simp [go_sem, hlr, hlp, encH, encN_len]
             try simp (disch := omega) only [wrap_i64, okRefs, eq_self, true_and]
             first
               | refine hK _ ?_
               | refine hK _ _ ?_
               | (refine ⟨_, f41a, ?_⟩; (first | refine hK _ ?_ | refine hK _ _ ?_ | refine ⟨by simp [go_sem, hlr, hlp, encH, encN_len], hK _ ?_⟩ | refine ⟨by simp [go_sem, hlr, hlp, encH, encN_len], hK _ _ ?_⟩ | refine ⟨by simp [go_sem, hlr, hlp, encH, encN_len], by simp [go_sem, hlr, hlp, encH, encN_len], hK _ _ ?_⟩))
               | (refine .inl ⟨_, f41a, ?_⟩; (first | refine hK _ ?_ | refine hK _ _ ?_ | refine ⟨by simp [go_sem, hlr, hlp, encH, encN_len], hK _ ?_⟩ | refine ⟨by simp [go_sem, hlr, hlp, encH, encN_len], hK _ _ ?_⟩ | refine ⟨by simp [go_sem, hlr, hlp, encH, encN_len], by simp [go_sem, hlr, hlp, encH, encN_len], hK _ _ ?_⟩))
               | (refine .inr ⟨_, f41a, ?_⟩; (first | refine hK _ ?_ | refine hK _ _ ?_ | refine ⟨by simp [go_sem, hlr, hlp, encH, encN_len], hK _ ?_⟩ | refine ⟨by simp [go_sem, hlr, hlp, encH, encN_len], hK _ _ ?_⟩ | refine ⟨by simp [go_sem, hlr, hlp, encH, encN_len], by simp [go_sem, hlr, hlp, encH, encN_len], hK _ _ ?_⟩))
               | (refine ⟨_, ⟨f41a, by simp [go_sem, hlr, hlp, encH, encN_len]⟩, ?_⟩; (first | refine hK _ ?_ | refine hK _ _ ?_ | refine ⟨by simp [go_sem, hlr, hlp, encH, encN_len], hK _ ?_⟩ | refine ⟨by simp [go_sem, hlr, hlp, encH, encN_len], hK _ _ ?_⟩ | refine ⟨by simp [go_sem, hlr, hlp, encH, encN_len], by simp [go_sem, hlr, hlp, encH, encN_len], hK _ _ ?_⟩))
               | (refine ⟨_, fun _ => f41a, ?_⟩; (first | refine hK _ ?_ | refine hK _ _ ?_ | refine ⟨by simp [go_sem, hlr, hlp, encH, encN_len], hK _ ?_⟩ | refine ⟨by simp [go_sem, hlr, hlp, encH, encN_len], hK _ _ ?_⟩ | refine ⟨by simp [go_sem, hlr, hlp, encH, encN_len], by simp [go_sem, hlr, hlp, encH, encN_len], hK _ _ ?_⟩))
               | (refine ⟨_, fun hc => ⟨hc, f41a⟩, ?_⟩; (first | refine hK _ ?_ | refine hK _ _ ?_ | refine ⟨by simp [go_sem, hlr, hlp, encH, encN_len], hK _ ?_⟩ | refine ⟨by simp [go_sem, hlr, hlp, encH, encN_len], hK _ _ ?_⟩ | refine ⟨by simp [go_sem, hlr, hlp, encH, encN_len], by simp [go_sem, hlr, hlp, encH, encN_len], hK _ _ ?_⟩))
               | (refine ⟨_, fun hc => ⟨f41a, by simp [go_sem, hlr, hlp, encH, encN_len]⟩, ?_⟩; (first | refine hK _ ?_ | refine hK _ _ ?_ | refine ⟨by simp [go_sem, hlr, hlp, encH, encN_len], hK _ ?_⟩ | refine ⟨by simp [go_sem, hlr, hlp, encH, encN_len], hK _ _ ?_⟩ | refine ⟨by simp [go_sem, hlr, hlp, encH, encN_len], by simp [go_sem, hlr, hlp, encH, encN_len], hK _ _ ?_⟩))
               | (refine ⟨_, fun hc => ⟨hc, f41a, by simp [go_sem, hlr, hlp, encH, encN_len]⟩, ?_⟩; (first | refine hK _ ?_ | refine hK _ _ ?_ | refine ⟨by simp [go_sem, hlr, hlp, encH, encN_len], hK _ ?_⟩ | refine ⟨by simp [go_sem, hlr, hlp, encH, encN_len], hK _ _ ?_⟩ | refine ⟨by simp [go_sem, hlr, hlp, encH, encN_len], by simp [go_sem, hlr, hlp, encH, encN_len], hK _ _ ?_⟩))
               | (refine ⟨_, f41b, ?_⟩; (first | refine hK _ ?_ | refine hK _ _ ?_ | refine ⟨by simp [go_sem, hlr, hlp, encH, encN_len], hK _ ?_⟩ | refine ⟨by simp [go_sem, hlr, hlp, encH, encN_len], hK _ _ ?_⟩ | refine ⟨by simp [go_sem, hlr, hlp, encH, encN_len], by simp [go_sem, hlr, hlp, encH, encN_len], hK _ _ ?_⟩))
               | (refine .inl ⟨_, f41b, ?_⟩; (first | refine hK _ ?_ | refine hK _ _ ?_ | refine ⟨by simp [go_sem, hlr, hlp, encH, encN_len], hK _ ?_⟩ | refine ⟨by simp [go_sem, hlr, hlp, encH, encN_len], hK _ _ ?_⟩ | refine ⟨by simp [go_sem, hlr, hlp, encH, encN_len], by simp [go_sem, hlr, hlp, encH, encN_len], hK _ _ ?_⟩))
               | (refine .inr ⟨_, f41b, ?_⟩; (first | refine hK _ ?_ | refine hK _ _ ?_ | refine ⟨by simp [go_sem, hlr, hlp, encH, encN_len], hK _ ?_⟩ | refine ⟨by simp [go_sem, hlr, hlp, encH, encN_len], hK _ _ ?_⟩ | refine ⟨by simp [go_sem, hlr, hlp, encH, encN_len], by simp [go_sem, hlr, hlp, encH, encN_len], hK _ _ ?_⟩))
               | (refine ⟨_, ⟨f41b, by simp [go_sem, hlr, hlp, encH, encN_len]⟩, ?_⟩; (first | refine hK _ ?_ | refine hK _ _ ?_ | refine ⟨by simp [go_sem, hlr, hlp, encH, encN_len], hK _ ?_⟩ | refine ⟨by simp [go_sem, hlr, hlp, encH, encN_len], hK _ _ ?_⟩ | refine ⟨by simp [go_sem, hlr, hlp, encH, encN_len], by simp [go_sem, hlr, hlp, encH, encN_len], hK _ _ ?_⟩))
               | (refine ⟨_, fun _ => f41b, ?_⟩; (first | refine hK _ ?_ | refine hK _ _ ?_ | refine ⟨by simp [go_sem, hlr, hlp, encH, encN_len], hK _ ?_⟩ | refine ⟨by simp [go_sem, hlr, hlp, encH, encN_len], hK _ _ ?_⟩ | refine ⟨by simp [go_sem, hlr, hlp, encH, encN_len], by simp [go_sem, hlr, hlp, encH, encN_len], hK _ _ ?_⟩))
               | (refine ⟨_, fun hc => ⟨hc, f41b⟩, ?_⟩; (first | refine hK _ ?_ | refine hK _ _ ?_ | refine ⟨by simp [go_sem, hlr, hlp, encH, encN_len], hK _ ?_⟩ | refine ⟨by simp [go_sem, hlr, hlp, encH, encN_len], hK _ _ ?_⟩ | refine ⟨by simp [go_sem, hlr, hlp, encH, encN_len], by simp [go_sem, hlr, hlp, encH, encN_len], hK _ _ ?_⟩))
               | (refine ⟨_, fun hc => ⟨f41b, by simp [go_sem, hlr, hlp, encH, encN_len]⟩, ?_⟩; (first | refine hK _ ?_ | refine hK _ _ ?_ | refine ⟨by simp [go_sem, hlr, hlp, encH, encN_len], hK _ ?_⟩ | refine ⟨by simp [go_sem, hlr, hlp, encH, encN_len], hK _ _ ?_⟩ | refine ⟨by simp [go_sem, hlr, hlp, encH, encN_len], by simp [go_sem, hlr, hlp, encH, encN_len], hK _ _ ?_⟩))
               | (refine ⟨_, fun hc => ⟨hc, f41b, by simp [go_sem, hlr, hlp, encH, encN_len]⟩, ?_⟩; (first | refine hK _ ?_ | refine hK _ _ ?_ | refine ⟨by simp [go_sem, hlr, hlp, encH, encN_len], hK _ ?_⟩ | refine ⟨by simp [go_sem, hlr, hlp, encH, encN_len], hK _ _ ?_⟩ | refine ⟨by simp [go_sem, hlr, hlp, encH, encN_len], by simp [go_sem, hlr, hlp, encH, encN_len], hK _ _ ?_⟩))
               | refine ⟨.one (.one (.bool false)), by simp [go_sem, hlr, hlp, encH, encN_len], hK _ _ ?_⟩
               | refine ⟨by (first | (simp [appendOk, flatEls, hlr, hlp, encH, encN_len]; done) | (simp [appendOk, flatEls, hlr, hlp, encH, encN_len]; omega)), hK _ ?_⟩
               | refine ⟨hK _ ?_, fun h => hK _ ?_⟩
               | refine ⟨by omega, hK _ ?_⟩
               | refine ⟨by omega, hK _ _ ?_⟩
               | refine ⟨?_, hK _ ?_⟩
               | refine ⟨?_, hK _ _ ?_⟩
             all_goals clear hK K)
        refine awp_loop (fun q e => ∃ i, i + q = (gotOf H p r).length ∧ i ≤ (sentOf H p r).length ∧ (gotOf H p r).take i = (sentOf H p r).take i ∧ e = [(9, .sv (.one (.int .i64 (i : Nat)))), (7, .sv (.one (.ow 1 ((gotOf H p r).map encN)))), (8, .sv (.one (.ow 1 ((sentOf H p r).map encN)))), (6, .sv (.one (.int .i64 (p : Nat)))), (5, .sv (.one (.int .i64 (r : Nat)))), (4, .sv (.one (.int .i64 (sumCol H r + colGot H r p : Nat)))), (2, .sv (.one (.int .i64 0))), (3, .sv (.one (.bool false))), (0, .sv (.one (.sl (H.map encH))))]) (gotOf H p r).length _ ⟨0, by simp, by simp, by simp, rfl⟩ (by simp [go_sem]) ?_
        rintro q e ⟨i, hi, his, htk, rfl⟩
        by_cases hlg : i < (gotOf H p r).length
        · by_cases hls : i < (sentOf H p r).length
          · have hls' : ¬ (sentOf H p r).length ≤ i := by omega
            repeat' first
              | with_reducible first | refine awp_seq ?_ | refine awp_reg ?_ | refine awp_block ?_ | refine awp_ret ?_ | refine awp_exit ?_ | refine awp_skip ?_ | refine awp_scp ?_ | refine scpQ_normal ?_ | refine scpQ_ret ?_ | refine scpQ_exit ?_ | refine seqQ_normal ?_ | refine seqQ_ret ?_ | refine seqQ_exit ?_ | refine blockQ_normal ?_ | refine blockQ_ret ?_ | refine blockQ_same ?_ | refine blockQ_other (by decide) ?_ | refine loopQ_ret ?_ | refine loopQ_exit ?_ | refine arun_nil ?_ | refine arunA_nil ?_ | refine arunB_nil ?_ | refine drwQ_intro ?_ | refine deadQ_nil ?_
              | ((with_reducible refine awp_cond2 (t := ?_) ?hc (fun h => ?_) (fun h => ?_))
                 case hc => rfl
                 all_goals (try simp [go_sem, hlg, hls, hls', encN] at h)
                 all_goals try omega)
              | ((with_reducible first | refine arun_cons fun K hK => ?_ | refine arunA_cons fun K hK => ?_ | refine arunB_cons fun K hK => ?_ | refine awp_drw fun K hK => ?_ | refine deadQ_some fun K hK => ?_ | refine pruneQ_intro fun K hK => ?_)
                 simp [go_sem, hlg, hls, hls', encN]
                 try simp (disch := omega) only [wrap_i64, okRefs, eq_self, true_and]
                 first
                   | refine hK _ ?_
                   | refine hK _ _ ?_
                   | refine ⟨by (first | (simp [appendOk, flatEls, hlg, hls, hls', encN]; done) | (simp [appendOk, flatEls, hlg, hls, hls', encN]; omega)), hK _ ?_⟩
                   | refine ⟨hK _ ?_, fun h => hK _ ?_⟩
                   | refine ⟨by omega, hK _ ?_⟩
                   | refine ⟨by omega, hK _ _ ?_⟩
                   | refine ⟨?_, hK _ ?_⟩
                   | refine ⟨?_, hK _ _ ?_⟩
                 all_goals clear hK K)
            · have hb : okPair H p r = false := by
                unfold okPair
                rw [decide_eq_false_iff_not]
                intro e
                have h2 : (gotOf H p r)[i]? = ((sentOf H p r).take (gotOf H p r).length)[i]? := by rw [← e]
                rw [List.getElem?_take, if_pos hlg, List.getElem?_eq_getElem hlg, List.getElem?_eq_getElem hls] at h2
                injection h2 with h2
                exact h h2
              have hmn : matched H = none := matched_no (pairs_no hlp hlr hb)
              simp [go_sem, hmn, nResult]
            · refine loopQ_normal (q - 1) _ (by omega) ⟨i + 1, by omega, by omega, ?_, rfl⟩ ?_
              · rw [List.take_succ_eq_append_getElem hlg, List.take_succ_eq_append_getElem hls, htk, h]
              · simp [go_sem, encN]
          · have hls' : (sentOf H p r).length ≤ i := by omega
            have hb : okPair H p r = false := by
              unfold okPair
              rw [decide_eq_false_iff_not]
              intro e
              have := congrArg List.length e
              simp at this
              omega
            have hmn : matched H = none := matched_no (pairs_no hlp hlr hb)
            repeat' first
              | with_reducible first | refine awp_seq ?_ | refine awp_reg ?_ | refine awp_block ?_ | refine awp_ret ?_ | refine awp_exit ?_ | refine awp_skip ?_ | refine awp_scp ?_ | refine scpQ_normal ?_ | refine scpQ_ret ?_ | refine scpQ_exit ?_ | refine seqQ_normal ?_ | refine seqQ_ret ?_ | refine seqQ_exit ?_ | refine blockQ_normal ?_ | refine blockQ_ret ?_ | refine blockQ_same ?_ | refine blockQ_other (by decide) ?_ | refine loopQ_ret ?_ | refine loopQ_exit ?_ | refine arun_nil ?_ | refine arunA_nil ?_ | refine arunB_nil ?_ | refine drwQ_intro ?_ | refine deadQ_nil ?_
              | ((with_reducible refine awp_cond2 (t := ?_) ?hc (fun h => ?_) (fun h => ?_))
                 case hc => rfl
                 all_goals (try simp [go_sem, hlg, hls', encN_len] at h)
                 all_goals try omega)
              | ((with_reducible first | refine arun_cons fun K hK => ?_ | refine arunA_cons fun K hK => ?_ | refine arunB_cons fun K hK => ?_ | refine awp_drw fun K hK => ?_ | refine deadQ_some fun K hK => ?_ | refine pruneQ_intro fun K hK => ?_)
                 simp [go_sem, hlg, hls', encN_len]
                 try simp (disch := omega) only [wrap_i64, okRefs, eq_self, true_and]
                 first
                   | refine hK _ ?_
                   | refine hK _ _ ?_
                   | refine ⟨by (first | (simp [appendOk, flatEls, hlg, hls', encN_len]; done) | (simp [appendOk, flatEls, hlg, hls', encN_len]; omega)), hK _ ?_⟩
                   | refine ⟨hK _ ?_, fun h => hK _ ?_⟩
                   | refine ⟨by omega, hK _ ?_⟩
                   | refine ⟨by omega, hK _ _ ?_⟩
                   | refine ⟨?_, hK _ ?_⟩
                   | refine ⟨?_, hK _ _ ?_⟩
                 all_goals clear hK K)
            all_goals simp [go_sem, hmn, nResult, encN_len]
        · have hie : i = (gotOf H p r).length := by omega
          subst hie
          have hb : okPair H p r = true := by
            unfold okPair
            rw [decide_eq_true_iff, ← htk]
            simp
          repeat' first
            | with_reducible first | refine awp_seq ?_ | refine awp_reg ?_ | refine awp_block ?_ | refine awp_ret ?_ | refine awp_exit ?_ | refine awp_skip ?_ | refine awp_scp ?_ | refine scpQ_normal ?_ | refine scpQ_ret ?_ | refine scpQ_exit ?_ | refine seqQ_normal ?_ | refine seqQ_ret ?_ | refine seqQ_exit ?_ | refine blockQ_normal ?_ | refine blockQ_ret ?_ | refine blockQ_same ?_ | refine blockQ_other (by decide) ?_ | refine loopQ_ret ?_ | refine loopQ_exit ?_ | refine arun_nil ?_ | refine arunA_nil ?_ | refine arunB_nil ?_ | refine drwQ_intro ?_ | refine deadQ_nil ?_
            | ((with_reducible refine awp_cond2 (t := ?_) ?hc (fun h => ?_) (fun h => ?_))
               case hc => rfl
               all_goals (try simp [go_sem] at h)
               all_goals try omega)
            | ((with_reducible first | refine arun_cons fun K hK => ?_ | refine arunA_cons fun K hK => ?_ | refine arunB_cons fun K hK => ?_ | refine awp_drw fun K hK => ?_ | refine deadQ_some fun K hK => ?_ | refine pruneQ_intro fun K hK => ?_)
               simp [go_sem]
               try simp (disch := omega) only [wrap_i64, okRefs, eq_self, true_and]
               first
                 | refine hK _ ?_
                 | refine hK _ _ ?_
                 | refine ⟨by (first | (simp [appendOk, flatEls]; done) | (simp [appendOk, flatEls]; omega)), hK _ ?_⟩
                 | refine ⟨hK _ ?_, fun h => hK _ ?_⟩
                 | refine ⟨by omega, hK _ ?_⟩
                 | refine ⟨by omega, hK _ _ ?_⟩
                 | refine ⟨?_, hK _ ?_⟩
                 | refine ⟨?_, hK _ _ ?_⟩
               all_goals clear hK K)
          refine loopQ_normal (m - 1) _ (by omega) ⟨p + 1, by omega, ?_, rfl⟩ ?_
          · intro p' hp'
            by_cases e : p' = p
            · subst e; exact hb
            · exact hokp p' (by omega)
          · simp [go_sem, hs2, Int.add_assoc]
      · skip
        repeat' first
          | with_reducible first | refine awp_seq ?_ | refine awp_reg ?_ | refine awp_block ?_ | refine awp_ret ?_ | refine awp_exit ?_ | refine awp_skip ?_ | refine awp_scp ?_ | refine scpQ_normal ?_ | refine scpQ_ret ?_ | refine scpQ_exit ?_ | refine seqQ_normal ?_ | refine seqQ_ret ?_ | refine seqQ_exit ?_ | refine blockQ_normal ?_ | refine blockQ_ret ?_ | refine blockQ_same ?_ | refine blockQ_other (by decide) ?_ | refine loopQ_ret ?_ | refine loopQ_exit ?_ | refine arun_nil ?_ | refine arunA_nil ?_ | refine arunB_nil ?_ | refine drwQ_intro ?_ | refine deadQ_nil ?_
          | ((with_reducible refine awp_cond2 (t := ?_) ?hc (fun h => ?_) (fun h => ?_))
             case hc => rfl
             all_goals (try simp [go_sem, hlp] at h)
             all_goals try omega)
          | ((with_reducible first | refine arun_cons fun K hK => ?_ | refine arunA_cons fun K hK => ?_ | refine arunB_cons fun K hK => ?_ | refine awp_drw fun K hK => ?_ | refine deadQ_some fun K hK => ?_ | refine pruneQ_intro fun K hK => ?_)
             simp [go_sem, hlp]
             try simp (disch := omega) only [wrap_i64, okRefs, eq_self, true_and]
             first
               | refine hK _ ?_
               | refine hK _ _ ?_
               | refine ⟨by (first | (simp [appendOk, flatEls, hlp]; done) | (simp [appendOk, flatEls, hlp]; omega)), hK _ ?_⟩
               | refine ⟨hK _ ?_, fun h => hK _ ?_⟩
               | refine ⟨by omega, hK _ ?_⟩
               | refine ⟨by omega, hK _ _ ?_⟩
               | refine ⟨?_, hK _ ?_⟩
               | refine ⟨?_, hK _ _ ?_⟩
             all_goals clear hK K)
        have hpe : p = H.length := by omega
        subst hpe
        refine loopQ_normal (n - 1) _ (by omega) ⟨r + 1, by omega, ?_, rfl⟩ ?_
        · intro r' p' hr' hp'
          by_cases e : r' = r
          · subst e; exact hokp p' hp'
          · exact hok r' p' (by omega) hp'
        · simp [go_sem, sumCol_succ]
    · skip
      repeat' first
        | with_reducible first | refine awp_seq ?_ | refine awp_reg ?_ | refine awp_block ?_ | refine awp_ret ?_ | refine awp_exit ?_ | refine awp_skip ?_ | refine awp_scp ?_ | refine scpQ_normal ?_ | refine scpQ_ret ?_ | refine scpQ_exit ?_ | refine seqQ_normal ?_ | refine seqQ_ret ?_ | refine seqQ_exit ?_ | refine blockQ_normal ?_ | refine blockQ_ret ?_ | refine blockQ_same ?_ | refine blockQ_other (by decide) ?_ | refine loopQ_ret ?_ | refine loopQ_exit ?_ | refine arun_nil ?_ | refine arunA_nil ?_ | refine arunB_nil ?_ | refine drwQ_intro ?_ | refine deadQ_nil ?_
        | ((with_reducible refine awp_cond2 (t := ?_) ?hc (fun h => ?_) (fun h => ?_))
           case hc => rfl
           all_goals (try simp [go_sem, hlr] at h)
           all_goals try omega)
        | ((with_reducible first | refine arun_cons fun K hK => ?_ | refine arunA_cons fun K hK => ?_ | refine arunB_cons fun K hK => ?_ | refine awp_drw fun K hK => ?_ | refine deadQ_some fun K hK => ?_ | refine pruneQ_intro fun K hK => ?_)
           simp [go_sem, hlr]
           try simp (disch := omega) only [wrap_i64, okRefs, eq_self, true_and]
           first
             | refine hK _ ?_
             | refine hK _ _ ?_
             | refine ⟨by (first | (simp [appendOk, flatEls, hlr]; done) | (simp [appendOk, flatEls, hlr]; omega)), hK _ ?_⟩
             | refine ⟨hK _ ?_, fun h => hK _ ?_⟩
             | refine ⟨by omega, hK _ ?_⟩
             | refine ⟨by omega, hK _ _ ?_⟩
             | refine ⟨?_, hK _ ?_⟩
             | refine ⟨?_, hK _ _ ?_⟩
           all_goals clear hK K)
      have hre : r = H.length := by omega
      subst hre
      have : matched H = some (sumGot H H.length) := by
        unfold matched
        rw [hp, pairs_yes (fun p q h1 h2 => hok q p h2 h1)]
        rfl
      simp [go_sem, this, nResult, sumCol_eq]
  · have hp : properH H = false := by simpa using hp
    repeat' first
      | with_reducible first | refine awp_seq ?_ | refine awp_reg ?_ | refine awp_block ?_ | refine awp_ret ?_ | refine awp_exit ?_ | refine awp_skip ?_ | refine awp_scp ?_ | refine scpQ_normal ?_ | refine scpQ_ret ?_ | refine scpQ_exit ?_ | refine seqQ_normal ?_ | refine seqQ_ret ?_ | refine seqQ_exit ?_ | refine blockQ_normal ?_ | refine blockQ_ret ?_ | refine blockQ_same ?_ | refine blockQ_other (by decide) ?_ | refine loopQ_ret ?_ | refine loopQ_exit ?_ | refine arun_nil ?_ | refine arunA_nil ?_ | refine arunB_nil ?_ | refine drwQ_intro ?_ | refine deadQ_nil ?_
      | ((with_reducible refine awp_cond2 (t := ?_) ?hc (fun h => ?_) (fun h => ?_))
         case hc => rfl
         all_goals (try simp [go_sem, hp, encH] at h)
         all_goals try omega)
      | ((with_reducible first | refine arun_cons fun K hK => ?_ | refine arunA_cons fun K hK => ?_ | refine arunB_cons fun K hK => ?_ | refine awp_drw fun K hK => ?_ | refine deadQ_some fun K hK => ?_ | refine pruneQ_intro fun K hK => ?_)
         simp [go_sem, hp, encH]
         try simp (disch := omega) only [wrap_i64, okRefs, eq_self, true_and]
         first
           | refine hK _ ?_
           | refine hK _ _ ?_
           | (refine ⟨_, f37s, ?_⟩; (first | refine hK _ ?_ | refine hK _ _ ?_ | refine ⟨by simp [go_sem, hp, encH], hK _ ?_⟩ | refine ⟨by simp [go_sem, hp, encH], hK _ _ ?_⟩ | refine ⟨by simp [go_sem, hp, encH], by simp [go_sem, hp, encH], hK _ _ ?_⟩))
           | (refine .inl ⟨_, f37s, ?_⟩; (first | refine hK _ ?_ | refine hK _ _ ?_ | refine ⟨by simp [go_sem, hp, encH], hK _ ?_⟩ | refine ⟨by simp [go_sem, hp, encH], hK _ _ ?_⟩ | refine ⟨by simp [go_sem, hp, encH], by simp [go_sem, hp, encH], hK _ _ ?_⟩))
           | (refine .inr ⟨_, f37s, ?_⟩; (first | refine hK _ ?_ | refine hK _ _ ?_ | refine ⟨by simp [go_sem, hp, encH], hK _ ?_⟩ | refine ⟨by simp [go_sem, hp, encH], hK _ _ ?_⟩ | refine ⟨by simp [go_sem, hp, encH], by simp [go_sem, hp, encH], hK _ _ ?_⟩))
           | (refine ⟨_, ⟨f37s, by simp [go_sem, hp, encH]⟩, ?_⟩; (first | refine hK _ ?_ | refine hK _ _ ?_ | refine ⟨by simp [go_sem, hp, encH], hK _ ?_⟩ | refine ⟨by simp [go_sem, hp, encH], hK _ _ ?_⟩ | refine ⟨by simp [go_sem, hp, encH], by simp [go_sem, hp, encH], hK _ _ ?_⟩))
           | (refine ⟨_, fun _ => f37s, ?_⟩; (first | refine hK _ ?_ | refine hK _ _ ?_ | refine ⟨by simp [go_sem, hp, encH], hK _ ?_⟩ | refine ⟨by simp [go_sem, hp, encH], hK _ _ ?_⟩ | refine ⟨by simp [go_sem, hp, encH], by simp [go_sem, hp, encH], hK _ _ ?_⟩))
           | (refine ⟨_, fun hc => ⟨hc, f37s⟩, ?_⟩; (first | refine hK _ ?_ | refine hK _ _ ?_ | refine ⟨by simp [go_sem, hp, encH], hK _ ?_⟩ | refine ⟨by simp [go_sem, hp, encH], hK _ _ ?_⟩ | refine ⟨by simp [go_sem, hp, encH], by simp [go_sem, hp, encH], hK _ _ ?_⟩))
           | (refine ⟨_, fun hc => ⟨f37s, by simp [go_sem, hp, encH]⟩, ?_⟩; (first | refine hK _ ?_ | refine hK _ _ ?_ | refine ⟨by simp [go_sem, hp, encH], hK _ ?_⟩ | refine ⟨by simp [go_sem, hp, encH], hK _ _ ?_⟩ | refine ⟨by simp [go_sem, hp, encH], by simp [go_sem, hp, encH], hK _ _ ?_⟩))
           | (refine ⟨_, fun hc => ⟨hc, f37s, by simp [go_sem, hp, encH]⟩, ?_⟩; (first | refine hK _ ?_ | refine hK _ _ ?_ | refine ⟨by simp [go_sem, hp, encH], hK _ ?_⟩ | refine ⟨by simp [go_sem, hp, encH], hK _ _ ?_⟩ | refine ⟨by simp [go_sem, hp, encH], by simp [go_sem, hp, encH], hK _ _ ?_⟩))
           | refine ⟨.one (.one (.bool false)), by simp [go_sem, hp, encH], hK _ _ ?_⟩
           | refine ⟨by (first | (simp [appendOk, flatEls, hp, encH]; done) | (simp [appendOk, flatEls, hp, encH]; omega)), hK _ ?_⟩
           | refine ⟨hK _ ?_, fun h => hK _ ?_⟩
           | refine ⟨by omega, hK _ ?_⟩
           | refine ⟨by omega, hK _ _ ?_⟩
           | refine ⟨?_, hK _ ?_⟩
           | refine ⟨?_, hK _ _ ?_⟩
         all_goals clear hK K)
    simp [go_sem, matched, hp, nResult]
end Go.Av
