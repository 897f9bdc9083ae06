/- Part of a proof by symbolic walks on plain data. -/
import Derived.Test.YtpnpnldabhmojaaCW11
import Derived.Test.YtpnpnldabhmojaaW1
import Derived.Test.YtpnpnldabhmojaaW2
set_option linter.unusedVariables false
set_option linter.unusedSimpArgs false
namespace Go.Av
open Go Go.RowKit Go.Proofs

def same1 (a b : List Inter) (x : Inter) : Bool := evsSame (project a x.from_) (project b x.from_) && evsSame (project a x.to) (project b x.to)
def refSame (a b : List Inter) : Bool := (a ++ b).all (same1 a b)

set_option maxHeartbeats 4000000 in
theorem f15 (a b : List Inter) (ha : a.length ≤ 1000) (hb : b.length ≤ 1000) : Impl Try.prog 15 [.one (.sl (a.map encI)), .one (.sl (b.map encI))] (.one (.one (.bool (refSame a b)))) := by
  refine impl_intro Try.func15 b15 e15 r15 n15 Try.ntmps15 d15 (by simp) fun hs => ?_
  clear hs
  simp only [c15, slotsOf]
  repeat' first
    | with_reducible first | refine awp_seq ?_ | refine awp_reg ?_ | refine awp_block ?_ | refine awp_ret ?_ | refine awp_exit ?_ | refine awp_skip ?_ | refine awp_scp ?_ | refine scpQ_normal ?_ | refine scpQ_ret ?_ | refine scpQ_exit ?_ | refine seqQ_normal ?_ | refine seqQ_ret ?_ | refine seqQ_exit ?_ | refine blockQ_normal ?_ | refine blockQ_ret ?_ | refine blockQ_same ?_ | refine blockQ_other (by decide) ?_ | refine loopQ_ret ?_ | refine loopQ_exit ?_ | refine arun_nil ?_ | refine arunA_nil ?_ | refine arunB_nil ?_ | refine drwQ_intro ?_ | refine deadQ_nil ?_
    | ((with_reducible refine awp_cond2 (t := ?_) ?hc (fun h => ?_) (fun h => ?_))
       case hc => rfl
       all_goals (try simp [go_sem] at h)
       all_goals try omega)
    | ((with_reducible first | refine arun_cons fun K hK => ?_ | refine arunA_cons fun K hK => ?_ | refine arunB_cons fun K hK => ?_ | refine awp_drw fun K hK => ?_ | refine deadQ_some fun K hK => ?_ | refine pruneQ_intro fun K hK => ?_)
       simp [go_sem]
       try simp (disch := omega) only [wrap_i64, okRefs, eq_self, true_and]
       first
         | refine hK _ ?_
         | refine hK _ _ ?_
         | refine ⟨by (first | (simp [appendOk, flatEls, maxLen, DV.flat]; done) | (simp [appendOk, flatEls, maxLen, DV.flat]; omega)), hK _ ?_⟩
         | refine ⟨hK _ ?_, fun h => hK _ ?_⟩
         | refine ⟨by omega, hK _ ?_⟩
         | refine ⟨by omega, hK _ _ ?_⟩
         | refine ⟨?_, hK _ ?_⟩
         | refine ⟨?_, hK _ _ ?_⟩
       all_goals clear hK K)
  · exact okI_of (fun e he => by obtain ⟨x, _, rfl⟩ := List.mem_map.1 he; exact ⟨x, rfl⟩) (by simp; omega)
  · exact okI_of (fun e he => by obtain ⟨x, _, rfl⟩ := List.mem_map.1 he; exact ⟨x, rfl⟩) (by simp; omega)
  · obtain ⟨c, hc⟩ : ∃ c, c = a ++ b := ⟨_, rfl⟩
    have hcl : c.length ≤ 2000 := by rw [hc]; simp; omega
    refine awp_loop (fun n e => ∃ i, i + n = c.length ∧ (c.take i).all (same1 a b) = true ∧ e = [(6, .sv (.one (.int .i64 (i : Nat)))), (5, .sv (.one (.ow 3 (c.map encI)))), (4, .sv (.one (.bool false))), (0, .sv (.one (.sl (a.map encI)))), (1, .sv (.one (.sl (b.map encI))))]) c.length _ ⟨0, by simp, by simp, rfl⟩ (by simp [go_sem, hc]) ?_
    rintro n e ⟨i, hi, hok, rfl⟩
    by_cases hlt : i < c.length
    · skip
      repeat' first
        | with_reducible first | refine awp_seq ?_ | refine awp_reg ?_ | refine awp_block ?_ | refine awp_ret ?_ | refine awp_exit ?_ | refine awp_skip ?_ | refine awp_scp ?_ | refine scpQ_normal ?_ | refine scpQ_ret ?_ | refine scpQ_exit ?_ | refine seqQ_normal ?_ | refine seqQ_ret ?_ | refine seqQ_exit ?_ | refine blockQ_normal ?_ | refine blockQ_ret ?_ | refine blockQ_same ?_ | refine blockQ_other (by decide) ?_ | refine loopQ_ret ?_ | refine loopQ_exit ?_ | refine arun_nil ?_ | refine arunA_nil ?_ | refine arunB_nil ?_ | refine drwQ_intro ?_ | refine deadQ_nil ?_
        | ((with_reducible refine awp_cond2 (t := ?_) ?hc (fun h => ?_) (fun h => ?_))
           case hc => rfl
           all_goals (try simp [go_sem, hlt, encI] at h)
           all_goals try omega)
        | ((with_reducible first | refine arun_cons fun K hK => ?_ | refine arunA_cons fun K hK => ?_ | refine arunB_cons fun K hK => ?_ | refine awp_drw fun K hK => ?_ | refine deadQ_some fun K hK => ?_ | refine pruneQ_intro fun K hK => ?_)
           simp [go_sem, hlt, encI]
           try simp (disch := omega) only [wrap_i64, okRefs, eq_self, true_and]
           first
             | refine hK _ ?_
             | refine hK _ _ ?_
             | (refine ⟨_, f30 a _ (by omega), ?_⟩; (first | refine hK _ ?_ | refine hK _ _ ?_ | refine ⟨by simp [go_sem, hlt, encI], hK _ ?_⟩ | refine ⟨by simp [go_sem, hlt, encI], hK _ _ ?_⟩ | refine ⟨by simp [go_sem, hlt, encI], by simp [go_sem, hlt, encI], hK _ _ ?_⟩))
             | (refine .inl ⟨_, f30 a _ (by omega), ?_⟩; (first | refine hK _ ?_ | refine hK _ _ ?_ | refine ⟨by simp [go_sem, hlt, encI], hK _ ?_⟩ | refine ⟨by simp [go_sem, hlt, encI], hK _ _ ?_⟩ | refine ⟨by simp [go_sem, hlt, encI], by simp [go_sem, hlt, encI], hK _ _ ?_⟩))
             | (refine .inr ⟨_, f30 a _ (by omega), ?_⟩; (first | refine hK _ ?_ | refine hK _ _ ?_ | refine ⟨by simp [go_sem, hlt, encI], hK _ ?_⟩ | refine ⟨by simp [go_sem, hlt, encI], hK _ _ ?_⟩ | refine ⟨by simp [go_sem, hlt, encI], by simp [go_sem, hlt, encI], hK _ _ ?_⟩))
             | (refine ⟨_, ⟨f30 a _ (by omega), by simp [go_sem, hlt, encI]⟩, ?_⟩; (first | refine hK _ ?_ | refine hK _ _ ?_ | refine ⟨by simp [go_sem, hlt, encI], hK _ ?_⟩ | refine ⟨by simp [go_sem, hlt, encI], hK _ _ ?_⟩ | refine ⟨by simp [go_sem, hlt, encI], by simp [go_sem, hlt, encI], hK _ _ ?_⟩))
             | (refine ⟨_, fun _ => f30 a _ (by omega), ?_⟩; (first | refine hK _ ?_ | refine hK _ _ ?_ | refine ⟨by simp [go_sem, hlt, encI], hK _ ?_⟩ | refine ⟨by simp [go_sem, hlt, encI], hK _ _ ?_⟩ | refine ⟨by simp [go_sem, hlt, encI], by simp [go_sem, hlt, encI], hK _ _ ?_⟩))
             | (refine ⟨_, fun hc => ⟨hc, f30 a _ (by omega)⟩, ?_⟩; (first | refine hK _ ?_ | refine hK _ _ ?_ | refine ⟨by simp [go_sem, hlt, encI], hK _ ?_⟩ | refine ⟨by simp [go_sem, hlt, encI], hK _ _ ?_⟩ | refine ⟨by simp [go_sem, hlt, encI], by simp [go_sem, hlt, encI], hK _ _ ?_⟩))
             | (refine ⟨_, fun hc => ⟨f30 a _ (by omega), by simp [go_sem, hlt, encI]⟩, ?_⟩; (first | refine hK _ ?_ | refine hK _ _ ?_ | refine ⟨by simp [go_sem, hlt, encI], hK _ ?_⟩ | refine ⟨by simp [go_sem, hlt, encI], hK _ _ ?_⟩ | refine ⟨by simp [go_sem, hlt, encI], by simp [go_sem, hlt, encI], hK _ _ ?_⟩))
             | (refine ⟨_, fun hc => ⟨hc, f30 a _ (by omega), by simp [go_sem, hlt, encI]⟩, ?_⟩; (first | refine hK _ ?_ | refine hK _ _ ?_ | refine ⟨by simp [go_sem, hlt, encI], hK _ ?_⟩ | refine ⟨by simp [go_sem, hlt, encI], hK _ _ ?_⟩ | refine ⟨by simp [go_sem, hlt, encI], by simp [go_sem, hlt, encI], hK _ _ ?_⟩))
             | (refine ⟨_, f30 b _ (by omega), ?_⟩; (first | refine hK _ ?_ | refine hK _ _ ?_ | refine ⟨by simp [go_sem, hlt, encI], hK _ ?_⟩ | refine ⟨by simp [go_sem, hlt, encI], hK _ _ ?_⟩ | refine ⟨by simp [go_sem, hlt, encI], by simp [go_sem, hlt, encI], hK _ _ ?_⟩))
             | (refine .inl ⟨_, f30 b _ (by omega), ?_⟩; (first | refine hK _ ?_ | refine hK _ _ ?_ | refine ⟨by simp [go_sem, hlt, encI], hK _ ?_⟩ | refine ⟨by simp [go_sem, hlt, encI], hK _ _ ?_⟩ | refine ⟨by simp [go_sem, hlt, encI], by simp [go_sem, hlt, encI], hK _ _ ?_⟩))
             | (refine .inr ⟨_, f30 b _ (by omega), ?_⟩; (first | refine hK _ ?_ | refine hK _ _ ?_ | refine ⟨by simp [go_sem, hlt, encI], hK _ ?_⟩ | refine ⟨by simp [go_sem, hlt, encI], hK _ _ ?_⟩ | refine ⟨by simp [go_sem, hlt, encI], by simp [go_sem, hlt, encI], hK _ _ ?_⟩))
             | (refine ⟨_, ⟨f30 b _ (by omega), by simp [go_sem, hlt, encI]⟩, ?_⟩; (first | refine hK _ ?_ | refine hK _ _ ?_ | refine ⟨by simp [go_sem, hlt, encI], hK _ ?_⟩ | refine ⟨by simp [go_sem, hlt, encI], hK _ _ ?_⟩ | refine ⟨by simp [go_sem, hlt, encI], by simp [go_sem, hlt, encI], hK _ _ ?_⟩))
             | (refine ⟨_, fun _ => f30 b _ (by omega), ?_⟩; (first | refine hK _ ?_ | refine hK _ _ ?_ | refine ⟨by simp [go_sem, hlt, encI], hK _ ?_⟩ | refine ⟨by simp [go_sem, hlt, encI], hK _ _ ?_⟩ | refine ⟨by simp [go_sem, hlt, encI], by simp [go_sem, hlt, encI], hK _ _ ?_⟩))
             | (refine ⟨_, fun hc => ⟨hc, f30 b _ (by omega)⟩, ?_⟩; (first | refine hK _ ?_ | refine hK _ _ ?_ | refine ⟨by simp [go_sem, hlt, encI], hK _ ?_⟩ | refine ⟨by simp [go_sem, hlt, encI], hK _ _ ?_⟩ | refine ⟨by simp [go_sem, hlt, encI], by simp [go_sem, hlt, encI], hK _ _ ?_⟩))
             | (refine ⟨_, fun hc => ⟨f30 b _ (by omega), by simp [go_sem, hlt, encI]⟩, ?_⟩; (first | refine hK _ ?_ | refine hK _ _ ?_ | refine ⟨by simp [go_sem, hlt, encI], hK _ ?_⟩ | refine ⟨by simp [go_sem, hlt, encI], hK _ _ ?_⟩ | refine ⟨by simp [go_sem, hlt, encI], by simp [go_sem, hlt, encI], hK _ _ ?_⟩))
             | (refine ⟨_, fun hc => ⟨hc, f30 b _ (by omega), by simp [go_sem, hlt, encI]⟩, ?_⟩; (first | refine hK _ ?_ | refine hK _ _ ?_ | refine ⟨by simp [go_sem, hlt, encI], hK _ ?_⟩ | refine ⟨by simp [go_sem, hlt, encI], hK _ _ ?_⟩ | refine ⟨by simp [go_sem, hlt, encI], by simp [go_sem, hlt, encI], hK _ _ ?_⟩))
             | (refine ⟨_, f19 _ _ (Nat.le_trans (project_len _ _) (by omega)) (Nat.le_trans (project_len _ _) (by omega)), ?_⟩; (first | refine hK _ ?_ | refine hK _ _ ?_ | refine ⟨by simp [go_sem, hlt, encI], hK _ ?_⟩ | refine ⟨by simp [go_sem, hlt, encI], hK _ _ ?_⟩ | refine ⟨by simp [go_sem, hlt, encI], by simp [go_sem, hlt, encI], hK _ _ ?_⟩))
             | (refine .inl ⟨_, f19 _ _ (Nat.le_trans (project_len _ _) (by omega)) (Nat.le_trans (project_len _ _) (by omega)), ?_⟩; (first | refine hK _ ?_ | refine hK _ _ ?_ | refine ⟨by simp [go_sem, hlt, encI], hK _ ?_⟩ | refine ⟨by simp [go_sem, hlt, encI], hK _ _ ?_⟩ | refine ⟨by simp [go_sem, hlt, encI], by simp [go_sem, hlt, encI], hK _ _ ?_⟩))
             | (refine .inr ⟨_, f19 _ _ (Nat.le_trans (project_len _ _) (by omega)) (Nat.le_trans (project_len _ _) (by omega)), ?_⟩; (first | refine hK _ ?_ | refine hK _ _ ?_ | refine ⟨by simp [go_sem, hlt, encI], hK _ ?_⟩ | refine ⟨by simp [go_sem, hlt, encI], hK _ _ ?_⟩ | refine ⟨by simp [go_sem, hlt, encI], by simp [go_sem, hlt, encI], hK _ _ ?_⟩))
             | (refine ⟨_, ⟨f19 _ _ (Nat.le_trans (project_len _ _) (by omega)) (Nat.le_trans (project_len _ _) (by omega)), by simp [go_sem, hlt, encI]⟩, ?_⟩; (first | refine hK _ ?_ | refine hK _ _ ?_ | refine ⟨by simp [go_sem, hlt, encI], hK _ ?_⟩ | refine ⟨by simp [go_sem, hlt, encI], hK _ _ ?_⟩ | refine ⟨by simp [go_sem, hlt, encI], by simp [go_sem, hlt, encI], hK _ _ ?_⟩))
             | (refine ⟨_, fun _ => f19 _ _ (Nat.le_trans (project_len _ _) (by omega)) (Nat.le_trans (project_len _ _) (by omega)), ?_⟩; (first | refine hK _ ?_ | refine hK _ _ ?_ | refine ⟨by simp [go_sem, hlt, encI], hK _ ?_⟩ | refine ⟨by simp [go_sem, hlt, encI], hK _ _ ?_⟩ | refine ⟨by simp [go_sem, hlt, encI], by simp [go_sem, hlt, encI], hK _ _ ?_⟩))
             | (refine ⟨_, fun hc => ⟨hc, f19 _ _ (Nat.le_trans (project_len _ _) (by omega)) (Nat.le_trans (project_len _ _) (by omega))⟩, ?_⟩; (first | refine hK _ ?_ | refine hK _ _ ?_ | refine ⟨by simp [go_sem, hlt, encI], hK _ ?_⟩ | refine ⟨by simp [go_sem, hlt, encI], hK _ _ ?_⟩ | refine ⟨by simp [go_sem, hlt, encI], by simp [go_sem, hlt, encI], hK _ _ ?_⟩))
             | (refine ⟨_, fun hc => ⟨f19 _ _ (Nat.le_trans (project_len _ _) (by omega)) (Nat.le_trans (project_len _ _) (by omega)), by simp [go_sem, hlt, encI]⟩, ?_⟩; (first | refine hK _ ?_ | refine hK _ _ ?_ | refine ⟨by simp [go_sem, hlt, encI], hK _ ?_⟩ | refine ⟨by simp [go_sem, hlt, encI], hK _ _ ?_⟩ | refine ⟨by simp [go_sem, hlt, encI], by simp [go_sem, hlt, encI], hK _ _ ?_⟩))
             | (refine ⟨_, fun hc => ⟨hc, f19 _ _ (Nat.le_trans (project_len _ _) (by omega)) (Nat.le_trans (project_len _ _) (by omega)), by simp [go_sem, hlt, encI]⟩, ?_⟩; (first | refine hK _ ?_ | refine hK _ _ ?_ | refine ⟨by simp [go_sem, hlt, encI], hK _ ?_⟩ | refine ⟨by simp [go_sem, hlt, encI], hK _ _ ?_⟩ | refine ⟨by simp [go_sem, hlt, encI], by simp [go_sem, hlt, encI], hK _ _ ?_⟩))
             | refine ⟨.one (.one (.bool false)), by simp [go_sem, hlt, encI], hK _ _ ?_⟩
             | refine ⟨by (first | (simp [appendOk, flatEls, hlt, encI]; done) | (simp [appendOk, flatEls, hlt, encI]; omega)), hK _ ?_⟩
             | refine ⟨hK _ ?_, fun h => hK _ ?_⟩
             | refine ⟨by omega, hK _ ?_⟩
             | refine ⟨by omega, hK _ _ ?_⟩
             | refine ⟨?_, hK _ ?_⟩
             | refine ⟨?_, hK _ _ ?_⟩
           all_goals clear hK K)
      · have hb : same1 a b c[i] = false := by
          unfold same1
          rcases h with h | h <;> simp [h]
        have : refSame a b = false := by
          unfold refSame
          rw [← hc]
          exact all_no hlt hb
        simp [go_sem, this]
      · refine loopQ_normal (n - 1) _ (by omega) ⟨i + 1, by omega, ?_, rfl⟩ ?_
        · rw [all_succ hlt, hok]
          simp [same1, h.1, h.2]
        · simp [go_sem]
    · have hcl : c.take i = c := List.take_of_length_le (by omega)
      rw [hcl, hc] at hok
      repeat' first
        | with_reducible first | refine awp_seq ?_ | refine awp_reg ?_ | refine awp_block ?_ | refine awp_ret ?_ | refine awp_exit ?_ | refine awp_skip ?_ | refine awp_scp ?_ | refine scpQ_normal ?_ | refine scpQ_ret ?_ | refine scpQ_exit ?_ | refine seqQ_normal ?_ | refine seqQ_ret ?_ | refine seqQ_exit ?_ | refine blockQ_normal ?_ | refine blockQ_ret ?_ | refine blockQ_same ?_ | refine blockQ_other (by decide) ?_ | refine loopQ_ret ?_ | refine loopQ_exit ?_ | refine arun_nil ?_ | refine arunA_nil ?_ | refine arunB_nil ?_ | refine drwQ_intro ?_ | refine deadQ_nil ?_
        | ((with_reducible refine awp_cond2 (t := ?_) ?hc (fun h => ?_) (fun h => ?_))
           case hc => rfl
           all_goals (try simp [go_sem, hlt] at h)
           all_goals try omega)
        | ((with_reducible first | refine arun_cons fun K hK => ?_ | refine arunA_cons fun K hK => ?_ | refine arunB_cons fun K hK => ?_ | refine awp_drw fun K hK => ?_ | refine deadQ_some fun K hK => ?_ | refine pruneQ_intro fun K hK => ?_)
           simp [go_sem, hlt]
           try simp (disch := omega) only [wrap_i64, okRefs, eq_self, true_and]
           first
             | refine hK _ ?_
             | refine hK _ _ ?_
             | refine ⟨by (first | (simp [appendOk, flatEls, hlt]; done) | (simp [appendOk, flatEls, hlt]; omega)), hK _ ?_⟩
             | refine ⟨hK _ ?_, fun h => hK _ ?_⟩
             | refine ⟨by omega, hK _ ?_⟩
             | refine ⟨by omega, hK _ _ ?_⟩
             | refine ⟨?_, hK _ ?_⟩
             | refine ⟨?_, hK _ _ ?_⟩
           all_goals clear hK K)
      simp [go_sem, refSame, hok]
end Go.Av
