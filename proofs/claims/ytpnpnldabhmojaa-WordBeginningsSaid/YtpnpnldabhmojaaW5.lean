/- Part of a proof by symbolic walks on plain data. -/
import Derived.Test.YtpnpnldabhmojaaWB
set_option linter.unusedVariables false
set_option linter.unusedSimpArgs false
namespace Go.Av
open Go Go.RowKit Go.Proofs

theorem f31 (a b : List Inter) (ha : a.length ≤ 1000000) (hb : b.length ≤ 1000000) : Impl Try.prog 31 [.one (.sl (a.map encI)), .one (.sl (b.map encI))] (.one (.one (.bool (decide (a = b))))) := by
  refine impl_intro Try.func31 b31 e31 r31 n31 Try.ntmps31 d31 (by simp) fun hs => ?_
  clear hs
  simp only [c31, slotsOf]
  repeat' first
    | with_reducible first | refine awp_seq ?_ | refine awp_reg ?_ | refine awp_block ?_ | refine awp_ret ?_ | refine awp_exit ?_ | refine awp_skip ?_ | refine awp_scp ?_ | refine scpQ_normal ?_ | refine scpQ_ret ?_ | refine scpQ_exit ?_ | refine seqQ_normal ?_ | refine seqQ_ret ?_ | refine seqQ_exit ?_ | refine blockQ_normal ?_ | refine blockQ_ret ?_ | refine blockQ_same ?_ | refine blockQ_other (by decide) ?_ | refine loopQ_ret ?_ | refine loopQ_exit ?_ | refine arun_nil ?_ | refine arunA_nil ?_ | refine arunB_nil ?_ | refine drwQ_intro ?_ | refine deadQ_nil ?_
    | ((with_reducible refine awp_cond2 (t := ?_) ?hc (fun h => ?_) (fun h => ?_))
       case hc => rfl
       all_goals (try simp [go_sem] at h)
       all_goals try omega)
    | ((with_reducible first | refine arun_cons fun K hK => ?_ | refine arunA_cons fun K hK => ?_ | refine arunB_cons fun K hK => ?_ | refine awp_drw fun K hK => ?_ | refine deadQ_some fun K hK => ?_ | refine pruneQ_intro fun K hK => ?_)
       simp [go_sem]
       try simp (disch := omega) only [wrap_i64, okRefs, eq_self, true_and]
       first
         | refine hK _ ?_
         | refine hK _ _ ?_
         | refine ⟨by (first | (simp [appendOk, flatEls]; done) | (simp [appendOk, flatEls]; omega)), hK _ ?_⟩
         | refine ⟨hK _ ?_, fun h => hK _ ?_⟩
         | refine ⟨by omega, hK _ ?_⟩
         | refine ⟨by omega, hK _ _ ?_⟩
         | refine ⟨?_, hK _ ?_⟩
         | refine ⟨?_, hK _ _ ?_⟩
       all_goals clear hK K)
  · have hne : a ≠ b := fun e => h (by rw [e])
    simp [go_sem, hne]
  · have hab : a.length = b.length := by omega
    refine awp_loop (fun n e => ∃ k, k + n = a.length ∧ a.take k = b.take k ∧ e = [(13, .sv (.one (.int .i64 (k : Nat)))), (12, .sv (.one (.int .i64 a.length))), (4, .sv (.one (.bool false))), (0, .sv (.one (.sl (a.map encI)))), (1, .sv (.one (.sl (b.map encI))))]) a.length _ ⟨0, by simp, by simp, rfl⟩ (by simp [go_sem]) ?_
    rintro n e ⟨k, hk, htk, rfl⟩
    by_cases hlt : k < a.length
    · have hlt' : k < b.length := by omega
      repeat' first
        | with_reducible first | refine awp_seq ?_ | refine awp_reg ?_ | refine awp_block ?_ | refine awp_ret ?_ | refine awp_exit ?_ | refine awp_skip ?_ | refine awp_scp ?_ | refine scpQ_normal ?_ | refine scpQ_ret ?_ | refine scpQ_exit ?_ | refine seqQ_normal ?_ | refine seqQ_ret ?_ | refine seqQ_exit ?_ | refine blockQ_normal ?_ | refine blockQ_ret ?_ | refine blockQ_same ?_ | refine blockQ_other (by decide) ?_ | refine loopQ_ret ?_ | refine loopQ_exit ?_ | refine arun_nil ?_ | refine arunA_nil ?_ | refine arunB_nil ?_ | refine drwQ_intro ?_ | refine deadQ_nil ?_
        | ((with_reducible refine awp_cond2 (t := ?_) ?hc (fun h => ?_) (fun h => ?_))
           case hc => rfl
           all_goals (try simp [go_sem, hlt, hlt', encI] at h)
           all_goals try omega)
        | ((with_reducible first | refine arun_cons fun K hK => ?_ | refine arunA_cons fun K hK => ?_ | refine arunB_cons fun K hK => ?_ | refine awp_drw fun K hK => ?_ | refine deadQ_some fun K hK => ?_ | refine pruneQ_intro fun K hK => ?_)
           simp [go_sem, hlt, hlt', encI]
           try simp (disch := omega) only [wrap_i64, okRefs, eq_self, true_and]
           first
             | refine hK _ ?_
             | refine hK _ _ ?_
             | refine ⟨by (first | (simp [appendOk, flatEls, hlt, hlt', encI]; done) | (simp [appendOk, flatEls, hlt, hlt', encI]; omega)), hK _ ?_⟩
             | refine ⟨hK _ ?_, fun h => hK _ ?_⟩
             | refine ⟨by omega, hK _ ?_⟩
             | refine ⟨by omega, hK _ _ ?_⟩
             | refine ⟨?_, hK _ ?_⟩
             | refine ⟨?_, hK _ _ ?_⟩
           all_goals clear hK K)
      · have hne : a ≠ b := fun e => by subst e; simp at h
        simp [go_sem, hne]
      · have hkk : a[k] = b[k] := by
          cases ha' : a[k]; cases hb' : b[k]
          simp_all
        refine loopQ_normal (n - 1) _ (by omega) ⟨k + 1, by omega, ?_, rfl⟩ ?_
        · rw [List.take_succ_eq_append_getElem hlt, List.take_succ_eq_append_getElem hlt', htk, hkk]
        · simp [go_sem]
    · have hkl : a.take k = a := List.take_of_length_le (by omega)
      have hkl' : b.take k = b := List.take_of_length_le (by omega)
      have : a = b := by rw [← hkl, ← hkl', htk]
      repeat' first
        | with_reducible first | refine awp_seq ?_ | refine awp_reg ?_ | refine awp_block ?_ | refine awp_ret ?_ | refine awp_exit ?_ | refine awp_skip ?_ | refine awp_scp ?_ | refine scpQ_normal ?_ | refine scpQ_ret ?_ | refine scpQ_exit ?_ | refine seqQ_normal ?_ | refine seqQ_ret ?_ | refine seqQ_exit ?_ | refine blockQ_normal ?_ | refine blockQ_ret ?_ | refine blockQ_same ?_ | refine blockQ_other (by decide) ?_ | refine loopQ_ret ?_ | refine loopQ_exit ?_ | refine arun_nil ?_ | refine arunA_nil ?_ | refine arunB_nil ?_ | refine drwQ_intro ?_ | refine deadQ_nil ?_
        | ((with_reducible refine awp_cond2 (t := ?_) ?hc (fun h => ?_) (fun h => ?_))
           case hc => rfl
           all_goals (try simp [go_sem, hlt] at h)
           all_goals try omega)
        | ((with_reducible first | refine arun_cons fun K hK => ?_ | refine arunA_cons fun K hK => ?_ | refine arunB_cons fun K hK => ?_ | refine awp_drw fun K hK => ?_ | refine deadQ_some fun K hK => ?_ | refine pruneQ_intro fun K hK => ?_)
           simp [go_sem, hlt]
           try simp (disch := omega) only [wrap_i64, okRefs, eq_self, true_and]
           first
             | refine hK _ ?_
             | refine hK _ _ ?_
             | refine ⟨by (first | (simp [appendOk, flatEls, hlt]; done) | (simp [appendOk, flatEls, hlt]; omega)), hK _ ?_⟩
             | refine ⟨hK _ ?_, fun h => hK _ ?_⟩
             | refine ⟨by omega, hK _ ?_⟩
             | refine ⟨by omega, hK _ _ ?_⟩
             | refine ⟨?_, hK _ ?_⟩
             | refine ⟨?_, hK _ _ ?_⟩
           all_goals clear hK K)
      simp [go_sem, this]

theorem f40 (a b : List Int) (ha : a.length ≤ 1000000) (hb : b.length ≤ 1000000) : Impl Try.prog 40 [.one (.sl (a.map encN)), .one (.sl (b.map encN))] (.one (.one (.bool (decide (a = b))))) := by
  refine impl_intro Try.func40 b40 e40 r40 n40 Try.ntmps40 d40 (by simp) fun hs => ?_
  clear hs
  simp only [c40, slotsOf]
  repeat' first
    | with_reducible first | refine awp_seq ?_ | refine awp_reg ?_ | refine awp_block ?_ | refine awp_ret ?_ | refine awp_exit ?_ | refine awp_skip ?_ | refine awp_scp ?_ | refine scpQ_normal ?_ | refine scpQ_ret ?_ | refine scpQ_exit ?_ | refine seqQ_normal ?_ | refine seqQ_ret ?_ | refine seqQ_exit ?_ | refine blockQ_normal ?_ | refine blockQ_ret ?_ | refine blockQ_same ?_ | refine blockQ_other (by decide) ?_ | refine loopQ_ret ?_ | refine loopQ_exit ?_ | refine arun_nil ?_ | refine arunA_nil ?_ | refine arunB_nil ?_ | refine drwQ_intro ?_ | refine deadQ_nil ?_
    | ((with_reducible refine awp_cond2 (t := ?_) ?hc (fun h => ?_) (fun h => ?_))
       case hc => rfl
       all_goals (try simp [go_sem] at h)
       all_goals try omega)
    | ((with_reducible first | refine arun_cons fun K hK => ?_ | refine arunA_cons fun K hK => ?_ | refine arunB_cons fun K hK => ?_ | refine awp_drw fun K hK => ?_ | refine deadQ_some fun K hK => ?_ | refine pruneQ_intro fun K hK => ?_)
       simp [go_sem]
       try simp (disch := omega) only [wrap_i64, okRefs, eq_self, true_and]
       first
         | refine hK _ ?_
         | refine hK _ _ ?_
         | refine ⟨by (first | (simp [appendOk, flatEls]; done) | (simp [appendOk, flatEls]; omega)), hK _ ?_⟩
         | refine ⟨hK _ ?_, fun h => hK _ ?_⟩
         | refine ⟨by omega, hK _ ?_⟩
         | refine ⟨by omega, hK _ _ ?_⟩
         | refine ⟨?_, hK _ ?_⟩
         | refine ⟨?_, hK _ _ ?_⟩
       all_goals clear hK K)
  · have hne : a ≠ b := fun e => h (by rw [e])
    simp [go_sem, hne]
  · have hab : a.length = b.length := by omega
    refine awp_loop (fun n e => ∃ k, k + n = a.length ∧ a.take k = b.take k ∧ e = [(13, .sv (.one (.int .i64 (k : Nat)))), (12, .sv (.one (.int .i64 a.length))), (4, .sv (.one (.bool false))), (0, .sv (.one (.sl (a.map encN)))), (1, .sv (.one (.sl (b.map encN))))]) a.length _ ⟨0, by simp, by simp, rfl⟩ (by simp [go_sem]) ?_
    rintro n e ⟨k, hk, htk, rfl⟩
    by_cases hlt : k < a.length
    · have hlt' : k < b.length := by omega
      repeat' first
        | with_reducible first | refine awp_seq ?_ | refine awp_reg ?_ | refine awp_block ?_ | refine awp_ret ?_ | refine awp_exit ?_ | refine awp_skip ?_ | refine awp_scp ?_ | refine scpQ_normal ?_ | refine scpQ_ret ?_ | refine scpQ_exit ?_ | refine seqQ_normal ?_ | refine seqQ_ret ?_ | refine seqQ_exit ?_ | refine blockQ_normal ?_ | refine blockQ_ret ?_ | refine blockQ_same ?_ | refine blockQ_other (by decide) ?_ | refine loopQ_ret ?_ | refine loopQ_exit ?_ | refine arun_nil ?_ | refine arunA_nil ?_ | refine arunB_nil ?_ | refine drwQ_intro ?_ | refine deadQ_nil ?_
        | ((with_reducible refine awp_cond2 (t := ?_) ?hc (fun h => ?_) (fun h => ?_))
           case hc => rfl
           all_goals (try simp [go_sem, hlt, hlt', encN] at h)
           all_goals try omega)
        | ((with_reducible first | refine arun_cons fun K hK => ?_ | refine arunA_cons fun K hK => ?_ | refine arunB_cons fun K hK => ?_ | refine awp_drw fun K hK => ?_ | refine deadQ_some fun K hK => ?_ | refine pruneQ_intro fun K hK => ?_)
           simp [go_sem, hlt, hlt', encN]
           try simp (disch := omega) only [wrap_i64, okRefs, eq_self, true_and]
           first
             | refine hK _ ?_
             | refine hK _ _ ?_
             | refine ⟨by (first | (simp [appendOk, flatEls, hlt, hlt', encN]; done) | (simp [appendOk, flatEls, hlt, hlt', encN]; omega)), hK _ ?_⟩
             | refine ⟨hK _ ?_, fun h => hK _ ?_⟩
             | refine ⟨by omega, hK _ ?_⟩
             | refine ⟨by omega, hK _ _ ?_⟩
             | refine ⟨?_, hK _ ?_⟩
             | refine ⟨?_, hK _ _ ?_⟩
           all_goals clear hK K)
      · have hne : a ≠ b := fun e => by subst e; simp at h
        simp [go_sem, hne]
      · refine loopQ_normal (n - 1) _ (by omega) ⟨k + 1, by omega, ?_, rfl⟩ ?_
        · rw [List.take_succ_eq_append_getElem hlt, List.take_succ_eq_append_getElem hlt', htk, h]
        · simp [go_sem]
    · have hkl : a.take k = a := List.take_of_length_le (by omega)
      have hkl' : b.take k = b := List.take_of_length_le (by omega)
      have : a = b := by rw [← hkl, ← hkl', htk]
      repeat' first
        | with_reducible first | refine awp_seq ?_ | refine awp_reg ?_ | refine awp_block ?_ | refine awp_ret ?_ | refine awp_exit ?_ | refine awp_skip ?_ | refine awp_scp ?_ | refine scpQ_normal ?_ | refine scpQ_ret ?_ | refine scpQ_exit ?_ | refine seqQ_normal ?_ | refine seqQ_ret ?_ | refine seqQ_exit ?_ | refine blockQ_normal ?_ | refine blockQ_ret ?_ | refine blockQ_same ?_ | refine blockQ_other (by decide) ?_ | refine loopQ_ret ?_ | refine loopQ_exit ?_ | refine arun_nil ?_ | refine arunA_nil ?_ | refine arunB_nil ?_ | refine drwQ_intro ?_ | refine deadQ_nil ?_
        | ((with_reducible refine awp_cond2 (t := ?_) ?hc (fun h => ?_) (fun h => ?_))
           case hc => rfl
           all_goals (try simp [go_sem, hlt] at h)
           all_goals try omega)
        | ((with_reducible first | refine arun_cons fun K hK => ?_ | refine arunA_cons fun K hK => ?_ | refine arunB_cons fun K hK => ?_ | refine awp_drw fun K hK => ?_ | refine deadQ_some fun K hK => ?_ | refine pruneQ_intro fun K hK => ?_)
           simp [go_sem, hlt]
           try simp (disch := omega) only [wrap_i64, okRefs, eq_self, true_and]
           first
             | refine hK _ ?_
             | refine hK _ _ ?_
             | refine ⟨by (first | (simp [appendOk, flatEls, hlt]; done) | (simp [appendOk, flatEls, hlt]; omega)), hK _ ?_⟩
             | refine ⟨hK _ ?_, fun h => hK _ ?_⟩
             | refine ⟨by omega, hK _ ?_⟩
             | refine ⟨by omega, hK _ _ ?_⟩
             | refine ⟨?_, hK _ ?_⟩
             | refine ⟨?_, hK _ _ ?_⟩
           all_goals clear hK K)
      simp [go_sem, this]

def lab (s : Bool) (p : Int) (e : Ev) : List Int := if e.send = s ∧ e.peer = p then [e.label] else []
def labelsOf (h : List Ev) (s : Bool) (p : Int) : List Int := h.flatMap (lab s p)

theorem labels_succ {l : List Ev} {k : Nat} (h : k < l.length) (s : Bool) (p : Int) : labelsOf (l.take (k + 1)) s p = labelsOf (l.take k) s p ++ lab s p l[k] := by
  unfold labelsOf
  rw [List.take_succ_eq_append_getElem h, List.flatMap_append]
  simp only [List.flatMap_cons, List.flatMap_nil, List.append_nil]
theorem labels_len (s : Bool) (p : Int) : ∀ (l : List Ev), (labelsOf l s p).length ≤ l.length
  | [] => by simp [labelsOf]
  | x :: l => by
    have h2 := labels_len s p l
    have h1 : (lab s p x).length ≤ 1 := by unfold lab; split <;> simp
    simp only [labelsOf, List.flatMap_cons, List.length_append, List.length_cons] at *
    omega

theorem f38 (l : List Ev) (s : Bool) (p : Int) (hl : l.length ≤ 1000000) : Impl Try.prog 38 [.one (.sl (l.map encE)), .one (.bool s), .one (.int .i64 p)] (.one (.one (.ow 1 ((labelsOf l s p).map encN)))) := by
  refine impl_intro Try.func38 b38 e38 r38 n38 Try.ntmps38 d38 (by simp) fun hs => ?_
  clear hs
  simp only [c38, slotsOf]
  repeat' first
    | with_reducible first | refine awp_seq ?_ | refine awp_reg ?_ | refine awp_block ?_ | refine awp_ret ?_ | refine awp_exit ?_ | refine awp_skip ?_ | refine awp_scp ?_ | refine scpQ_normal ?_ | refine scpQ_ret ?_ | refine scpQ_exit ?_ | refine seqQ_normal ?_ | refine seqQ_ret ?_ | refine seqQ_exit ?_ | refine blockQ_normal ?_ | refine blockQ_ret ?_ | refine blockQ_same ?_ | refine blockQ_other (by decide) ?_ | refine loopQ_ret ?_ | refine loopQ_exit ?_ | refine arun_nil ?_ | refine arunA_nil ?_ | refine arunB_nil ?_ | refine drwQ_intro ?_ | refine deadQ_nil ?_
    | ((with_reducible refine awp_cond2 (t := ?_) ?hc (fun h => ?_) (fun h => ?_))
       case hc => rfl
       all_goals (try simp [go_sem] at h)
       all_goals try omega)
    | ((with_reducible first | refine arun_cons fun K hK => ?_ | refine arunA_cons fun K hK => ?_ | refine arunB_cons fun K hK => ?_ | refine awp_drw fun K hK => ?_ | refine deadQ_some fun K hK => ?_ | refine pruneQ_intro fun K hK => ?_)
       simp [go_sem]
       try simp (disch := omega) only [wrap_i64, okRefs, eq_self, true_and]
       first
         | refine hK _ ?_
         | refine hK _ _ ?_
         | refine ⟨by (first | (simp [appendOk, flatEls]; done) | (simp [appendOk, flatEls]; omega)), hK _ ?_⟩
         | refine ⟨hK _ ?_, fun h => hK _ ?_⟩
         | refine ⟨by omega, hK _ ?_⟩
         | refine ⟨by omega, hK _ _ ?_⟩
         | refine ⟨?_, hK _ ?_⟩
         | refine ⟨?_, hK _ _ ?_⟩
       all_goals clear hK K)
  refine awp_loop (fun n e => ∃ k, k + n = l.length ∧ e = [(12, .sv (.one (.int .i64 (k : Nat)))), (11, .sv (.one (.int .i64 l.length))), (10, .sv (.one (.sl (l.map encE)))), (7, .sv (.one (.ow 1 ((labelsOf (l.take k) s p).map encN)))), (1, .sv (.one (.bool s))), (2, .sv (.one (.int .i64 p)))]) l.length _ ⟨0, by simp, rfl⟩ (by simp [go_sem, labelsOf]) ?_
  rintro n e ⟨k, hk, rfl⟩
  have hlen := labels_len s p (l.take k)
  have hlk : (l.take k).length ≤ k := List.length_take_le _ _
  by_cases hlt : k < l.length
  · skip
    repeat' first
      | with_reducible first | refine awp_seq ?_ | refine awp_reg ?_ | refine awp_block ?_ | refine awp_ret ?_ | refine awp_exit ?_ | refine awp_skip ?_ | refine awp_scp ?_ | refine scpQ_normal ?_ | refine scpQ_ret ?_ | refine scpQ_exit ?_ | refine seqQ_normal ?_ | refine seqQ_ret ?_ | refine seqQ_exit ?_ | refine blockQ_normal ?_ | refine blockQ_ret ?_ | refine blockQ_same ?_ | refine blockQ_other (by decide) ?_ | refine loopQ_ret ?_ | refine loopQ_exit ?_ | refine arun_nil ?_ | refine arunA_nil ?_ | refine arunB_nil ?_ | refine drwQ_intro ?_ | refine deadQ_nil ?_
      | ((with_reducible refine awp_cond2 (t := ?_) ?hc (fun h => ?_) (fun h => ?_))
         case hc => rfl
         all_goals (try simp [go_sem, hlt, encE, encN] at h)
         all_goals try omega)
      | ((with_reducible first | refine arun_cons fun K hK => ?_ | refine arunA_cons fun K hK => ?_ | refine arunB_cons fun K hK => ?_ | refine awp_drw fun K hK => ?_ | refine deadQ_some fun K hK => ?_ | refine pruneQ_intro fun K hK => ?_)
         simp [go_sem, hlt, encE, encN]
         try simp (disch := omega) only [wrap_i64, okRefs, eq_self, true_and]
         first
           | refine hK _ ?_
           | refine hK _ _ ?_
           | refine ⟨by (first | (simp [appendOk, flatEls, hlt, encE, encN, maxLen, DV.flat]; done) | (simp [appendOk, flatEls, hlt, encE, encN, maxLen, DV.flat]; omega)), hK _ ?_⟩
           | refine ⟨hK _ ?_, fun h => hK _ ?_⟩
           | refine ⟨by omega, hK _ ?_⟩
           | refine ⟨by omega, hK _ _ ?_⟩
           | refine ⟨?_, hK _ ?_⟩
           | refine ⟨?_, hK _ _ ?_⟩
         all_goals clear hK K)
    all_goals refine loopQ_normal (n - 1) _ (by omega) ⟨k + 1, by omega, rfl⟩ ?_
    all_goals simp_all [go_sem, labels_succ hlt, lab, encN]
  · have hkl : l.take k = l := List.take_of_length_le (by omega)
    repeat' first
      | with_reducible first | refine awp_seq ?_ | refine awp_reg ?_ | refine awp_block ?_ | refine awp_ret ?_ | refine awp_exit ?_ | refine awp_skip ?_ | refine awp_scp ?_ | refine scpQ_normal ?_ | refine scpQ_ret ?_ | refine scpQ_exit ?_ | refine seqQ_normal ?_ | refine seqQ_ret ?_ | refine seqQ_exit ?_ | refine blockQ_normal ?_ | refine blockQ_ret ?_ | refine blockQ_same ?_ | refine blockQ_other (by decide) ?_ | refine loopQ_ret ?_ | refine loopQ_exit ?_ | refine arun_nil ?_ | refine arunA_nil ?_ | refine arunB_nil ?_ | refine drwQ_intro ?_ | refine deadQ_nil ?_
      | ((with_reducible refine awp_cond2 (t := ?_) ?hc (fun h => ?_) (fun h => ?_))
         case hc => rfl
         all_goals (try simp [go_sem, hlt] at h)
         all_goals try omega)
      | ((with_reducible first | refine arun_cons fun K hK => ?_ | refine arunA_cons fun K hK => ?_ | refine arunB_cons fun K hK => ?_ | refine awp_drw fun K hK => ?_ | refine deadQ_some fun K hK => ?_ | refine pruneQ_intro fun K hK => ?_)
         simp [go_sem, hlt]
         try simp (disch := omega) only [wrap_i64, okRefs, eq_self, true_and]
         first
           | refine hK _ ?_
           | refine hK _ _ ?_
           | refine ⟨by (first | (simp [appendOk, flatEls, hlt]; done) | (simp [appendOk, flatEls, hlt]; omega)), hK _ ?_⟩
           | refine ⟨hK _ ?_, fun h => hK _ ?_⟩
           | refine ⟨by omega, hK _ ?_⟩
           | refine ⟨by omega, hK _ _ ?_⟩
           | refine ⟨?_, hK _ ?_⟩
           | refine ⟨?_, hK _ _ ?_⟩
         all_goals clear hK K)
    simp [go_sem, hkl]

theorem f41 (l : List Ev) (s : Bool) (p : Int) (hl : l.length ≤ 1000000) : Impl Try.prog 41 [.one (.sl (l.map encE)), .one (.bool s), .one (.int .i64 p)] (.one (.one (.ow 1 ((labelsOf l s p).map encN)))) := by
  refine impl_intro Try.func41 b41 e41 r41 n41 Try.ntmps41 d41 (by simp) fun hs => ?_
  clear hs
  simp only [c41, slotsOf]
  repeat' first
    | with_reducible first | refine awp_seq ?_ | refine awp_reg ?_ | refine awp_block ?_ | refine awp_ret ?_ | refine awp_exit ?_ | refine awp_skip ?_ | refine awp_scp ?_ | refine scpQ_normal ?_ | refine scpQ_ret ?_ | refine scpQ_exit ?_ | refine seqQ_normal ?_ | refine seqQ_ret ?_ | refine seqQ_exit ?_ | refine blockQ_normal ?_ | refine blockQ_ret ?_ | refine blockQ_same ?_ | refine blockQ_other (by decide) ?_ | refine loopQ_ret ?_ | refine loopQ_exit ?_ | refine arun_nil ?_ | refine arunA_nil ?_ | refine arunB_nil ?_ | refine drwQ_intro ?_ | refine deadQ_nil ?_
    | ((with_reducible refine awp_cond2 (t := ?_) ?hc (fun h => ?_) (fun h => ?_))
       case hc => rfl
       all_goals (try simp [go_sem] at h)
       all_goals try omega)
    | ((with_reducible first | refine arun_cons fun K hK => ?_ | refine arunA_cons fun K hK => ?_ | refine arunB_cons fun K hK => ?_ | refine awp_drw fun K hK => ?_ | refine deadQ_some fun K hK => ?_ | refine pruneQ_intro fun K hK => ?_)
       simp [go_sem]
       try simp (disch := omega) only [wrap_i64, okRefs, eq_self, true_and]
       first
         | refine hK _ ?_
         | refine hK _ _ ?_
         | refine ⟨by (first | (simp [appendOk, flatEls]; done) | (simp [appendOk, flatEls]; omega)), hK _ ?_⟩
         | refine ⟨hK _ ?_, fun h => hK _ ?_⟩
         | refine ⟨by omega, hK _ ?_⟩
         | refine ⟨by omega, hK _ _ ?_⟩
         | refine ⟨?_, hK _ ?_⟩
         | refine ⟨?_, hK _ _ ?_⟩
       all_goals clear hK K)
  refine awp_loop (fun n e => ∃ k, k + n = l.length ∧ e = [(8, .sv (.one (.int .i64 (k : Nat)))), (7, .sv (.one (.ow 1 ((labelsOf (l.take k) s p).map encN)))), (0, .sv (.one (.sl (l.map encE)))), (1, .sv (.one (.bool s))), (2, .sv (.one (.int .i64 p)))]) l.length _ ⟨0, by simp, rfl⟩ (by simp [go_sem, labelsOf]) ?_
  rintro n e ⟨k, hk, rfl⟩
  have hlen := labels_len s p (l.take k)
  have hlk : (l.take k).length ≤ k := List.length_take_le _ _
  by_cases hlt : k < l.length
  · skip
    repeat' first
      | with_reducible first | refine awp_seq ?_ | refine awp_reg ?_ | refine awp_block ?_ | refine awp_ret ?_ | refine awp_exit ?_ | refine awp_skip ?_ | refine awp_scp ?_ | refine scpQ_normal ?_ | refine scpQ_ret ?_ | refine scpQ_exit ?_ | refine seqQ_normal ?_ | refine seqQ_ret ?_ | refine seqQ_exit ?_ | refine blockQ_normal ?_ | refine blockQ_ret ?_ | refine blockQ_same ?_ | refine blockQ_other (by decide) ?_ | refine loopQ_ret ?_ | refine loopQ_exit ?_ | refine arun_nil ?_ | refine arunA_nil ?_ | refine arunB_nil ?_ | refine drwQ_intro ?_ | refine deadQ_nil ?_
      | ((with_reducible refine awp_cond2 (t := ?_) ?hc (fun h => ?_) (fun h => ?_))
         case hc => rfl
         all_goals (try simp [go_sem, hlt, encE, encN] at h)
         all_goals try omega)
      | ((with_reducible first | refine arun_cons fun K hK => ?_ | refine arunA_cons fun K hK => ?_ | refine arunB_cons fun K hK => ?_ | refine awp_drw fun K hK => ?_ | refine deadQ_some fun K hK => ?_ | refine pruneQ_intro fun K hK => ?_)
         simp [go_sem, hlt, encE, encN]
         try simp (disch := omega) only [wrap_i64, okRefs, eq_self, true_and]
         first
           | refine hK _ ?_
           | refine hK _ _ ?_
           | refine ⟨by (first | (simp [appendOk, flatEls, hlt, encE, encN, maxLen, DV.flat]; done) | (simp [appendOk, flatEls, hlt, encE, encN, maxLen, DV.flat]; omega)), hK _ ?_⟩
           | refine ⟨hK _ ?_, fun h => hK _ ?_⟩
           | refine ⟨by omega, hK _ ?_⟩
           | refine ⟨by omega, hK _ _ ?_⟩
           | refine ⟨?_, hK _ ?_⟩
           | refine ⟨?_, hK _ _ ?_⟩
         all_goals clear hK K)
    all_goals refine loopQ_normal (n - 1) _ (by omega) ⟨k + 1, by omega, rfl⟩ ?_
    all_goals simp_all [go_sem, labels_succ hlt, lab, encN]
  · have hkl : l.take k = l := List.take_of_length_le (by omega)
    repeat' first
      | with_reducible first | refine awp_seq ?_ | refine awp_reg ?_ | refine awp_block ?_ | refine awp_ret ?_ | refine awp_exit ?_ | refine awp_skip ?_ | refine awp_scp ?_ | refine scpQ_normal ?_ | refine scpQ_ret ?_ | refine scpQ_exit ?_ | refine seqQ_normal ?_ | refine seqQ_ret ?_ | refine seqQ_exit ?_ | refine blockQ_normal ?_ | refine blockQ_ret ?_ | refine blockQ_same ?_ | refine blockQ_other (by decide) ?_ | refine loopQ_ret ?_ | refine loopQ_exit ?_ | refine arun_nil ?_ | refine arunA_nil ?_ | refine arunB_nil ?_ | refine drwQ_intro ?_ | refine deadQ_nil ?_
      | ((with_reducible refine awp_cond2 (t := ?_) ?hc (fun h => ?_) (fun h => ?_))
         case hc => rfl
         all_goals (try simp [go_sem, hlt] at h)
         all_goals try omega)
      | ((with_reducible first | refine arun_cons fun K hK => ?_ | refine arunA_cons fun K hK => ?_ | refine arunB_cons fun K hK => ?_ | refine awp_drw fun K hK => ?_ | refine deadQ_some fun K hK => ?_ | refine pruneQ_intro fun K hK => ?_)
         simp [go_sem, hlt]
         try simp (disch := omega) only [wrap_i64, okRefs, eq_self, true_and]
         first
           | refine hK _ ?_
           | refine hK _ _ ?_
           | refine ⟨by (first | (simp [appendOk, flatEls, hlt]; done) | (simp [appendOk, flatEls, hlt]; omega)), hK _ ?_⟩
           | refine ⟨hK _ ?_, fun h => hK _ ?_⟩
           | refine ⟨by omega, hK _ ?_⟩
           | refine ⟨by omega, hK _ _ ?_⟩
           | refine ⟨?_, hK _ ?_⟩
           | refine ⟨?_, hK _ _ ?_⟩
         all_goals clear hK K)
    simp [go_sem, hkl]

end Go.Av
