/- Part of a proof by symbolic walks on plain data. -/
import Derived.Test.YtpnpnldabhmojaaCL6
import Derived.Test.YtpnpnldabhmojaaWF
import Derived.Test.YtpnpnldabhmojaaMT
set_option linter.unusedVariables false
set_option linter.unusedSimpArgs false
namespace Go.Av
open Go Go.RowKit Go.Proofs

theorem law6 (l : List Inter) : Impl Try.prog 6 [.one (.sl (l.map encI))] (.one (.one (.bool true))) := by
  refine impl_intro Try.func6 b6 e6 r6 n6 Try.ntmps6 d6 (by simp) fun hs => ?_
  clear hs
  simp only [c6, slotsOf]
  by_cases h20 : l.length ≤ 20
  · have h20' : ¬ (20 : Int) < (l.length : Int) := by omega
    by_cases hp : l.all okI = true
    · have hn := normal_len _ l rfl
      repeat' first
        | with_reducible first | refine awp_seq ?_ | refine awp_reg ?_ | refine awp_block ?_ | refine awp_ret ?_ | refine awp_exit ?_ | refine awp_skip ?_ | refine awp_scp ?_ | refine scpQ_normal ?_ | refine scpQ_ret ?_ | refine scpQ_exit ?_ | refine seqQ_normal ?_ | refine seqQ_ret ?_ | refine seqQ_exit ?_ | refine blockQ_normal ?_ | refine blockQ_ret ?_ | refine blockQ_same ?_ | refine blockQ_other (by decide) ?_ | refine loopQ_ret ?_ | refine loopQ_exit ?_ | refine arun_nil ?_ | refine arunA_nil ?_ | refine arunB_nil ?_ | refine drwQ_intro ?_ | refine deadQ_nil ?_
        | ((with_reducible refine awp_cond2 (t := ?_) ?hc (fun h => ?_) (fun h => ?_))
           case hc => rfl
           all_goals (try simp [go_sem, h20', hp] at h)
           all_goals try omega)
        | ((with_reducible first | refine arun_cons fun K hK => ?_ | refine arunA_cons fun K hK => ?_ | refine arunB_cons fun K hK => ?_ | refine awp_drw fun K hK => ?_ | refine deadQ_some fun K hK => ?_ | refine pruneQ_intro fun K hK => ?_)
           simp [go_sem, h20', hp]
           try simp (disch := omega) only [wrap_i64, okRefs, eq_self, true_and]
           first
             | refine hK _ ?_
             | refine hK _ _ ?_
             | (refine ⟨_, f11, ?_⟩; (first | refine hK _ ?_ | refine hK _ _ ?_ | refine ⟨by simp [go_sem, h20', hp], hK _ ?_⟩ | refine ⟨by simp [go_sem, h20', hp], hK _ _ ?_⟩ | refine ⟨by simp [go_sem, h20', hp], by simp [go_sem, h20', hp], hK _ _ ?_⟩))
             | (refine .inl ⟨_, f11, ?_⟩; (first | refine hK _ ?_ | refine hK _ _ ?_ | refine ⟨by simp [go_sem, h20', hp], hK _ ?_⟩ | refine ⟨by simp [go_sem, h20', hp], hK _ _ ?_⟩ | refine ⟨by simp [go_sem, h20', hp], by simp [go_sem, h20', hp], hK _ _ ?_⟩))
             | (refine .inr ⟨_, f11, ?_⟩; (first | refine hK _ ?_ | refine hK _ _ ?_ | refine ⟨by simp [go_sem, h20', hp], hK _ ?_⟩ | refine ⟨by simp [go_sem, h20', hp], hK _ _ ?_⟩ | refine ⟨by simp [go_sem, h20', hp], by simp [go_sem, h20', hp], hK _ _ ?_⟩))
             | (refine ⟨_, ⟨f11, by simp [go_sem, h20', hp]⟩, ?_⟩; (first | refine hK _ ?_ | refine hK _ _ ?_ | refine ⟨by simp [go_sem, h20', hp], hK _ ?_⟩ | refine ⟨by simp [go_sem, h20', hp], hK _ _ ?_⟩ | refine ⟨by simp [go_sem, h20', hp], by simp [go_sem, h20', hp], hK _ _ ?_⟩))
             | (refine ⟨_, fun _ => f11, ?_⟩; (first | refine hK _ ?_ | refine hK _ _ ?_ | refine ⟨by simp [go_sem, h20', hp], hK _ ?_⟩ | refine ⟨by simp [go_sem, h20', hp], hK _ _ ?_⟩ | refine ⟨by simp [go_sem, h20', hp], by simp [go_sem, h20', hp], hK _ _ ?_⟩))
             | (refine ⟨_, fun hc => ⟨hc, f11⟩, ?_⟩; (first | refine hK _ ?_ | refine hK _ _ ?_ | refine ⟨by simp [go_sem, h20', hp], hK _ ?_⟩ | refine ⟨by simp [go_sem, h20', hp], hK _ _ ?_⟩ | refine ⟨by simp [go_sem, h20', hp], by simp [go_sem, h20', hp], hK _ _ ?_⟩))
             | (refine ⟨_, fun hc => ⟨f11, by simp [go_sem, h20', hp]⟩, ?_⟩; (first | refine hK _ ?_ | refine hK _ _ ?_ | refine ⟨by simp [go_sem, h20', hp], hK _ ?_⟩ | refine ⟨by simp [go_sem, h20', hp], hK _ _ ?_⟩ | refine ⟨by simp [go_sem, h20', hp], by simp [go_sem, h20', hp], hK _ _ ?_⟩))
             | (refine ⟨_, fun hc => ⟨hc, f11, by simp [go_sem, h20', hp]⟩, ?_⟩; (first | refine hK _ ?_ | refine hK _ _ ?_ | refine ⟨by simp [go_sem, h20', hp], hK _ ?_⟩ | refine ⟨by simp [go_sem, h20', hp], hK _ _ ?_⟩ | refine ⟨by simp [go_sem, h20', hp], by simp [go_sem, h20', hp], hK _ _ ?_⟩))
             | (refine ⟨_, f22 l (by omega), ?_⟩; (first | refine hK _ ?_ | refine hK _ _ ?_ | refine ⟨by simp [go_sem, h20', hp], hK _ ?_⟩ | refine ⟨by simp [go_sem, h20', hp], hK _ _ ?_⟩ | refine ⟨by simp [go_sem, h20', hp], by simp [go_sem, h20', hp], hK _ _ ?_⟩))
             | (refine .inl ⟨_, f22 l (by omega), ?_⟩; (first | refine hK _ ?_ | refine hK _ _ ?_ | refine ⟨by simp [go_sem, h20', hp], hK _ ?_⟩ | refine ⟨by simp [go_sem, h20', hp], hK _ _ ?_⟩ | refine ⟨by simp [go_sem, h20', hp], by simp [go_sem, h20', hp], hK _ _ ?_⟩))
             | (refine .inr ⟨_, f22 l (by omega), ?_⟩; (first | refine hK _ ?_ | refine hK _ _ ?_ | refine ⟨by simp [go_sem, h20', hp], hK _ ?_⟩ | refine ⟨by simp [go_sem, h20', hp], hK _ _ ?_⟩ | refine ⟨by simp [go_sem, h20', hp], by simp [go_sem, h20', hp], hK _ _ ?_⟩))
             | (refine ⟨_, ⟨f22 l (by omega), by simp [go_sem, h20', hp]⟩, ?_⟩; (first | refine hK _ ?_ | refine hK _ _ ?_ | refine ⟨by simp [go_sem, h20', hp], hK _ ?_⟩ | refine ⟨by simp [go_sem, h20', hp], hK _ _ ?_⟩ | refine ⟨by simp [go_sem, h20', hp], by simp [go_sem, h20', hp], hK _ _ ?_⟩))
             | (refine ⟨_, fun _ => f22 l (by omega), ?_⟩; (first | refine hK _ ?_ | refine hK _ _ ?_ | refine ⟨by simp [go_sem, h20', hp], hK _ ?_⟩ | refine ⟨by simp [go_sem, h20', hp], hK _ _ ?_⟩ | refine ⟨by simp [go_sem, h20', hp], by simp [go_sem, h20', hp], hK _ _ ?_⟩))
             | (refine ⟨_, fun hc => ⟨hc, f22 l (by omega)⟩, ?_⟩; (first | refine hK _ ?_ | refine hK _ _ ?_ | refine ⟨by simp [go_sem, h20', hp], hK _ ?_⟩ | refine ⟨by simp [go_sem, h20', hp], hK _ _ ?_⟩ | refine ⟨by simp [go_sem, h20', hp], by simp [go_sem, h20', hp], hK _ _ ?_⟩))
             | (refine ⟨_, fun hc => ⟨f22 l (by omega), by simp [go_sem, h20', hp]⟩, ?_⟩; (first | refine hK _ ?_ | refine hK _ _ ?_ | refine ⟨by simp [go_sem, h20', hp], hK _ ?_⟩ | refine ⟨by simp [go_sem, h20', hp], hK _ _ ?_⟩ | refine ⟨by simp [go_sem, h20', hp], by simp [go_sem, h20', hp], hK _ _ ?_⟩))
             | (refine ⟨_, fun hc => ⟨hc, f22 l (by omega), by simp [go_sem, h20', hp]⟩, ?_⟩; (first | refine hK _ ?_ | refine hK _ _ ?_ | refine ⟨by simp [go_sem, h20', hp], hK _ ?_⟩ | refine ⟨by simp [go_sem, h20', hp], hK _ _ ?_⟩ | refine ⟨by simp [go_sem, h20', hp], by simp [go_sem, h20', hp], hK _ _ ?_⟩))
             | (refine ⟨_, f17 l (by omega), ?_⟩; (first | refine hK _ ?_ | refine hK _ _ ?_ | refine ⟨by simp [go_sem, h20', hp], hK _ ?_⟩ | refine ⟨by simp [go_sem, h20', hp], hK _ _ ?_⟩ | refine ⟨by simp [go_sem, h20', hp], by simp [go_sem, h20', hp], hK _ _ ?_⟩))
             | (refine .inl ⟨_, f17 l (by omega), ?_⟩; (first | refine hK _ ?_ | refine hK _ _ ?_ | refine ⟨by simp [go_sem, h20', hp], hK _ ?_⟩ | refine ⟨by simp [go_sem, h20', hp], hK _ _ ?_⟩ | refine ⟨by simp [go_sem, h20', hp], by simp [go_sem, h20', hp], hK _ _ ?_⟩))
             | (refine .inr ⟨_, f17 l (by omega), ?_⟩; (first | refine hK _ ?_ | refine hK _ _ ?_ | refine ⟨by simp [go_sem, h20', hp], hK _ ?_⟩ | refine ⟨by simp [go_sem, h20', hp], hK _ _ ?_⟩ | refine ⟨by simp [go_sem, h20', hp], by simp [go_sem, h20', hp], hK _ _ ?_⟩))
             | (refine ⟨_, ⟨f17 l (by omega), by simp [go_sem, h20', hp]⟩, ?_⟩; (first | refine hK _ ?_ | refine hK _ _ ?_ | refine ⟨by simp [go_sem, h20', hp], hK _ ?_⟩ | refine ⟨by simp [go_sem, h20', hp], hK _ _ ?_⟩ | refine ⟨by simp [go_sem, h20', hp], by simp [go_sem, h20', hp], hK _ _ ?_⟩))
             | (refine ⟨_, fun _ => f17 l (by omega), ?_⟩; (first | refine hK _ ?_ | refine hK _ _ ?_ | refine ⟨by simp [go_sem, h20', hp], hK _ ?_⟩ | refine ⟨by simp [go_sem, h20', hp], hK _ _ ?_⟩ | refine ⟨by simp [go_sem, h20', hp], by simp [go_sem, h20', hp], hK _ _ ?_⟩))
             | (refine ⟨_, fun hc => ⟨hc, f17 l (by omega)⟩, ?_⟩; (first | refine hK _ ?_ | refine hK _ _ ?_ | refine ⟨by simp [go_sem, h20', hp], hK _ ?_⟩ | refine ⟨by simp [go_sem, h20', hp], hK _ _ ?_⟩ | refine ⟨by simp [go_sem, h20', hp], by simp [go_sem, h20', hp], hK _ _ ?_⟩))
             | (refine ⟨_, fun hc => ⟨f17 l (by omega), by simp [go_sem, h20', hp]⟩, ?_⟩; (first | refine hK _ ?_ | refine hK _ _ ?_ | refine ⟨by simp [go_sem, h20', hp], hK _ ?_⟩ | refine ⟨by simp [go_sem, h20', hp], hK _ _ ?_⟩ | refine ⟨by simp [go_sem, h20', hp], by simp [go_sem, h20', hp], hK _ _ ?_⟩))
             | (refine ⟨_, fun hc => ⟨hc, f17 l (by omega), by simp [go_sem, h20', hp]⟩, ?_⟩; (first | refine hK _ ?_ | refine hK _ _ ?_ | refine ⟨by simp [go_sem, h20', hp], hK _ ?_⟩ | refine ⟨by simp [go_sem, h20', hp], hK _ _ ?_⟩ | refine ⟨by simp [go_sem, h20', hp], by simp [go_sem, h20', hp], hK _ _ ?_⟩))
             | refine ⟨.one (.one (.bool false)), by simp [go_sem, h20', hp], hK _ _ ?_⟩
             | refine ⟨by (first | (simp [appendOk, flatEls, h20', hp]; done) | (simp [appendOk, flatEls, h20', hp]; omega)), hK _ ?_⟩
             | refine ⟨hK _ ?_, fun h => hK _ ?_⟩
             | refine ⟨by omega, hK _ ?_⟩
             | refine ⟨by omega, hK _ _ ?_⟩
             | refine ⟨?_, hK _ ?_⟩
             | refine ⟨?_, hK _ _ ?_⟩
           all_goals clear hK K)
      refine awp_loop (fun m e => ∃ i, i + m = l.length ∧ e = [(4, .sv (.one (.int .i64 (i : Nat)))), (3, .sv (.one (.ow 3 ((normal l).map encI)))), (2, .sv (.one (.bool false))), (0, .sv (.one (.sl (l.map encI))))]) l.length _ ⟨0, by simp, rfl⟩ (by simp [go_sem]) ?_
      rintro m e ⟨i, hi, rfl⟩
      by_cases hlt : i + 1 < (normal l).length
      · have hlt0 : i < (normal l).length := by omega
        have hle := normal_least _ l rfl i hlt
        have ht1 : ((i : Int) + 1).toNat = i + 1 := by omega
        repeat' first
          | with_reducible first | refine awp_seq ?_ | refine awp_reg ?_ | refine awp_block ?_ | refine awp_ret ?_ | refine awp_exit ?_ | refine awp_skip ?_ | refine awp_scp ?_ | refine scpQ_normal ?_ | refine scpQ_ret ?_ | refine scpQ_exit ?_ | refine seqQ_normal ?_ | refine seqQ_ret ?_ | refine seqQ_exit ?_ | refine blockQ_normal ?_ | refine blockQ_ret ?_ | refine blockQ_same ?_ | refine blockQ_other (by decide) ?_ | refine loopQ_ret ?_ | refine loopQ_exit ?_ | refine arun_nil ?_ | refine arunA_nil ?_ | refine arunB_nil ?_ | refine drwQ_intro ?_ | refine deadQ_nil ?_
          | ((with_reducible refine awp_cond2 (t := ?_) ?hc (fun h => ?_) (fun h => ?_))
             case hc => rfl
             all_goals (try simp [go_sem, hlt, hlt0, ht1, encI] at h)
             all_goals try omega)
          | ((with_reducible first | refine arun_cons fun K hK => ?_ | refine arunA_cons fun K hK => ?_ | refine arunB_cons fun K hK => ?_ | refine awp_drw fun K hK => ?_ | refine deadQ_some fun K hK => ?_ | refine pruneQ_intro fun K hK => ?_)
             simp [go_sem, hlt, hlt0, ht1, encI]
             try simp (disch := omega) only [wrap_i64, okRefs, eq_self, true_and]
             first
               | refine hK _ ?_
               | refine hK _ _ ?_
               | (refine ⟨_, f20 _ _, ?_⟩; (first | refine hK _ ?_ | refine hK _ _ ?_ | refine ⟨by simp [go_sem, hlt, hlt0, ht1, encI], hK _ ?_⟩ | refine ⟨by simp [go_sem, hlt, hlt0, ht1, encI], hK _ _ ?_⟩ | refine ⟨by simp [go_sem, hlt, hlt0, ht1, encI], by simp [go_sem, hlt, hlt0, ht1, encI], hK _ _ ?_⟩))
               | (refine .inl ⟨_, f20 _ _, ?_⟩; (first | refine hK _ ?_ | refine hK _ _ ?_ | refine ⟨by simp [go_sem, hlt, hlt0, ht1, encI], hK _ ?_⟩ | refine ⟨by simp [go_sem, hlt, hlt0, ht1, encI], hK _ _ ?_⟩ | refine ⟨by simp [go_sem, hlt, hlt0, ht1, encI], by simp [go_sem, hlt, hlt0, ht1, encI], hK _ _ ?_⟩))
               | (refine .inr ⟨_, f20 _ _, ?_⟩; (first | refine hK _ ?_ | refine hK _ _ ?_ | refine ⟨by simp [go_sem, hlt, hlt0, ht1, encI], hK _ ?_⟩ | refine ⟨by simp [go_sem, hlt, hlt0, ht1, encI], hK _ _ ?_⟩ | refine ⟨by simp [go_sem, hlt, hlt0, ht1, encI], by simp [go_sem, hlt, hlt0, ht1, encI], hK _ _ ?_⟩))
               | (refine ⟨_, ⟨f20 _ _, by simp [go_sem, hlt, hlt0, ht1, encI]⟩, ?_⟩; (first | refine hK _ ?_ | refine hK _ _ ?_ | refine ⟨by simp [go_sem, hlt, hlt0, ht1, encI], hK _ ?_⟩ | refine ⟨by simp [go_sem, hlt, hlt0, ht1, encI], hK _ _ ?_⟩ | refine ⟨by simp [go_sem, hlt, hlt0, ht1, encI], by simp [go_sem, hlt, hlt0, ht1, encI], hK _ _ ?_⟩))
               | (refine ⟨_, fun _ => f20 _ _, ?_⟩; (first | refine hK _ ?_ | refine hK _ _ ?_ | refine ⟨by simp [go_sem, hlt, hlt0, ht1, encI], hK _ ?_⟩ | refine ⟨by simp [go_sem, hlt, hlt0, ht1, encI], hK _ _ ?_⟩ | refine ⟨by simp [go_sem, hlt, hlt0, ht1, encI], by simp [go_sem, hlt, hlt0, ht1, encI], hK _ _ ?_⟩))
               | (refine ⟨_, fun hc => ⟨hc, f20 _ _⟩, ?_⟩; (first | refine hK _ ?_ | refine hK _ _ ?_ | refine ⟨by simp [go_sem, hlt, hlt0, ht1, encI], hK _ ?_⟩ | refine ⟨by simp [go_sem, hlt, hlt0, ht1, encI], hK _ _ ?_⟩ | refine ⟨by simp [go_sem, hlt, hlt0, ht1, encI], by simp [go_sem, hlt, hlt0, ht1, encI], hK _ _ ?_⟩))
               | (refine ⟨_, fun hc => ⟨f20 _ _, by simp [go_sem, hlt, hlt0, ht1, encI]⟩, ?_⟩; (first | refine hK _ ?_ | refine hK _ _ ?_ | refine ⟨by simp [go_sem, hlt, hlt0, ht1, encI], hK _ ?_⟩ | refine ⟨by simp [go_sem, hlt, hlt0, ht1, encI], hK _ _ ?_⟩ | refine ⟨by simp [go_sem, hlt, hlt0, ht1, encI], by simp [go_sem, hlt, hlt0, ht1, encI], hK _ _ ?_⟩))
               | (refine ⟨_, fun hc => ⟨hc, f20 _ _, by simp [go_sem, hlt, hlt0, ht1, encI]⟩, ?_⟩; (first | refine hK _ ?_ | refine hK _ _ ?_ | refine ⟨by simp [go_sem, hlt, hlt0, ht1, encI], hK _ ?_⟩ | refine ⟨by simp [go_sem, hlt, hlt0, ht1, encI], hK _ _ ?_⟩ | refine ⟨by simp [go_sem, hlt, hlt0, ht1, encI], by simp [go_sem, hlt, hlt0, ht1, encI], hK _ _ ?_⟩))
               | (refine ⟨_, f24 _ _, ?_⟩; (first | refine hK _ ?_ | refine hK _ _ ?_ | refine ⟨by simp [go_sem, hlt, hlt0, ht1, encI], hK _ ?_⟩ | refine ⟨by simp [go_sem, hlt, hlt0, ht1, encI], hK _ _ ?_⟩ | refine ⟨by simp [go_sem, hlt, hlt0, ht1, encI], by simp [go_sem, hlt, hlt0, ht1, encI], hK _ _ ?_⟩))
               | (refine .inl ⟨_, f24 _ _, ?_⟩; (first | refine hK _ ?_ | refine hK _ _ ?_ | refine ⟨by simp [go_sem, hlt, hlt0, ht1, encI], hK _ ?_⟩ | refine ⟨by simp [go_sem, hlt, hlt0, ht1, encI], hK _ _ ?_⟩ | refine ⟨by simp [go_sem, hlt, hlt0, ht1, encI], by simp [go_sem, hlt, hlt0, ht1, encI], hK _ _ ?_⟩))
               | (refine .inr ⟨_, f24 _ _, ?_⟩; (first | refine hK _ ?_ | refine hK _ _ ?_ | refine ⟨by simp [go_sem, hlt, hlt0, ht1, encI], hK _ ?_⟩ | refine ⟨by simp [go_sem, hlt, hlt0, ht1, encI], hK _ _ ?_⟩ | refine ⟨by simp [go_sem, hlt, hlt0, ht1, encI], by simp [go_sem, hlt, hlt0, ht1, encI], hK _ _ ?_⟩))
               | (refine ⟨_, ⟨f24 _ _, by simp [go_sem, hlt, hlt0, ht1, encI]⟩, ?_⟩; (first | refine hK _ ?_ | refine hK _ _ ?_ | refine ⟨by simp [go_sem, hlt, hlt0, ht1, encI], hK _ ?_⟩ | refine ⟨by simp [go_sem, hlt, hlt0, ht1, encI], hK _ _ ?_⟩ | refine ⟨by simp [go_sem, hlt, hlt0, ht1, encI], by simp [go_sem, hlt, hlt0, ht1, encI], hK _ _ ?_⟩))
               | (refine ⟨_, fun _ => f24 _ _, ?_⟩; (first | refine hK _ ?_ | refine hK _ _ ?_ | refine ⟨by simp [go_sem, hlt, hlt0, ht1, encI], hK _ ?_⟩ | refine ⟨by simp [go_sem, hlt, hlt0, ht1, encI], hK _ _ ?_⟩ | refine ⟨by simp [go_sem, hlt, hlt0, ht1, encI], by simp [go_sem, hlt, hlt0, ht1, encI], hK _ _ ?_⟩))
               | (refine ⟨_, fun hc => ⟨hc, f24 _ _⟩, ?_⟩; (first | refine hK _ ?_ | refine hK _ _ ?_ | refine ⟨by simp [go_sem, hlt, hlt0, ht1, encI], hK _ ?_⟩ | refine ⟨by simp [go_sem, hlt, hlt0, ht1, encI], hK _ _ ?_⟩ | refine ⟨by simp [go_sem, hlt, hlt0, ht1, encI], by simp [go_sem, hlt, hlt0, ht1, encI], hK _ _ ?_⟩))
               | (refine ⟨_, fun hc => ⟨f24 _ _, by simp [go_sem, hlt, hlt0, ht1, encI]⟩, ?_⟩; (first | refine hK _ ?_ | refine hK _ _ ?_ | refine ⟨by simp [go_sem, hlt, hlt0, ht1, encI], hK _ ?_⟩ | refine ⟨by simp [go_sem, hlt, hlt0, ht1, encI], hK _ _ ?_⟩ | refine ⟨by simp [go_sem, hlt, hlt0, ht1, encI], by simp [go_sem, hlt, hlt0, ht1, encI], hK _ _ ?_⟩))
               | (refine ⟨_, fun hc => ⟨hc, f24 _ _, by simp [go_sem, hlt, hlt0, ht1, encI]⟩, ?_⟩; (first | refine hK _ ?_ | refine hK _ _ ?_ | refine ⟨by simp [go_sem, hlt, hlt0, ht1, encI], hK _ ?_⟩ | refine ⟨by simp [go_sem, hlt, hlt0, ht1, encI], hK _ _ ?_⟩ | refine ⟨by simp [go_sem, hlt, hlt0, ht1, encI], by simp [go_sem, hlt, hlt0, ht1, encI], hK _ _ ?_⟩))
               | refine ⟨.one (.one (.bool false)), by simp [go_sem, hlt, hlt0, ht1, encI], hK _ _ ?_⟩
               | refine ⟨by (first | (simp [appendOk, flatEls, hlt, hlt0, ht1, encI]; done) | (simp [appendOk, flatEls, hlt, hlt0, ht1, encI]; omega)), hK _ ?_⟩
               | refine ⟨hK _ ?_, fun h => hK _ ?_⟩
               | refine ⟨by omega, hK _ ?_⟩
               | refine ⟨by omega, hK _ _ ?_⟩
               | refine ⟨?_, hK _ ?_⟩
               | refine ⟨?_, hK _ _ ?_⟩
             all_goals clear hK K)
        · exact fun h => ⟨h, by omega⟩
        · have := hle h.1
          rw [h.2] at this
          cases this
        · refine loopQ_normal (m - 1) _ (by omega) ⟨i + 1, by omega, rfl⟩ ?_
          simp [go_sem]
      · skip
        repeat' first
          | with_reducible first | refine awp_seq ?_ | refine awp_reg ?_ | refine awp_block ?_ | refine awp_ret ?_ | refine awp_exit ?_ | refine awp_skip ?_ | refine awp_scp ?_ | refine scpQ_normal ?_ | refine scpQ_ret ?_ | refine scpQ_exit ?_ | refine seqQ_normal ?_ | refine seqQ_ret ?_ | refine seqQ_exit ?_ | refine blockQ_normal ?_ | refine blockQ_ret ?_ | refine blockQ_same ?_ | refine blockQ_other (by decide) ?_ | refine loopQ_ret ?_ | refine loopQ_exit ?_ | refine arun_nil ?_ | refine arunA_nil ?_ | refine arunB_nil ?_ | refine drwQ_intro ?_ | refine deadQ_nil ?_
          | ((with_reducible refine awp_cond2 (t := ?_) ?hc (fun h => ?_) (fun h => ?_))
             case hc => rfl
             all_goals (try simp [go_sem, hlt] at h)
             all_goals try omega)
          | ((with_reducible first | refine arun_cons fun K hK => ?_ | refine arunA_cons fun K hK => ?_ | refine arunB_cons fun K hK => ?_ | refine awp_drw fun K hK => ?_ | refine deadQ_some fun K hK => ?_ | refine pruneQ_intro fun K hK => ?_)
             simp [go_sem, hlt]
             try simp (disch := omega) only [wrap_i64, okRefs, eq_self, true_and]
             first
               | refine hK _ ?_
               | refine hK _ _ ?_
               | refine ⟨by (first | (simp [appendOk, flatEls, hlt]; done) | (simp [appendOk, flatEls, hlt]; omega)), hK _ ?_⟩
               | refine ⟨hK _ ?_, fun h => hK _ ?_⟩
               | refine ⟨by omega, hK _ ?_⟩
               | refine ⟨by omega, hK _ _ ?_⟩
               | refine ⟨?_, hK _ ?_⟩
               | refine ⟨?_, hK _ _ ?_⟩
             all_goals clear hK K)
        simp [go_sem, hn]
    · have hp' : l.all okI = false := by simpa using hp
      repeat' first
        | with_reducible first | refine awp_seq ?_ | refine awp_reg ?_ | refine awp_block ?_ | refine awp_ret ?_ | refine awp_exit ?_ | refine awp_skip ?_ | refine awp_scp ?_ | refine scpQ_normal ?_ | refine scpQ_ret ?_ | refine scpQ_exit ?_ | refine seqQ_normal ?_ | refine seqQ_ret ?_ | refine seqQ_exit ?_ | refine blockQ_normal ?_ | refine blockQ_ret ?_ | refine blockQ_same ?_ | refine blockQ_other (by decide) ?_ | refine loopQ_ret ?_ | refine loopQ_exit ?_ | refine arun_nil ?_ | refine arunA_nil ?_ | refine arunB_nil ?_ | refine drwQ_intro ?_ | refine deadQ_nil ?_
        | ((with_reducible refine awp_cond2 (t := ?_) ?hc (fun h => ?_) (fun h => ?_))
           case hc => rfl
           all_goals (try simp [go_sem, h20', hp'] at h)
           all_goals try omega)
        | ((with_reducible first | refine arun_cons fun K hK => ?_ | refine arunA_cons fun K hK => ?_ | refine arunB_cons fun K hK => ?_ | refine awp_drw fun K hK => ?_ | refine deadQ_some fun K hK => ?_ | refine pruneQ_intro fun K hK => ?_)
           simp [go_sem, h20', hp']
           try simp (disch := omega) only [wrap_i64, okRefs, eq_self, true_and]
           first
             | refine hK _ ?_
             | refine hK _ _ ?_
             | (refine ⟨_, f11, ?_⟩; (first | refine hK _ ?_ | refine hK _ _ ?_ | refine ⟨by simp [go_sem, h20', hp'], hK _ ?_⟩ | refine ⟨by simp [go_sem, h20', hp'], hK _ _ ?_⟩ | refine ⟨by simp [go_sem, h20', hp'], by simp [go_sem, h20', hp'], hK _ _ ?_⟩))
             | (refine .inl ⟨_, f11, ?_⟩; (first | refine hK _ ?_ | refine hK _ _ ?_ | refine ⟨by simp [go_sem, h20', hp'], hK _ ?_⟩ | refine ⟨by simp [go_sem, h20', hp'], hK _ _ ?_⟩ | refine ⟨by simp [go_sem, h20', hp'], by simp [go_sem, h20', hp'], hK _ _ ?_⟩))
             | (refine .inr ⟨_, f11, ?_⟩; (first | refine hK _ ?_ | refine hK _ _ ?_ | refine ⟨by simp [go_sem, h20', hp'], hK _ ?_⟩ | refine ⟨by simp [go_sem, h20', hp'], hK _ _ ?_⟩ | refine ⟨by simp [go_sem, h20', hp'], by simp [go_sem, h20', hp'], hK _ _ ?_⟩))
             | (refine ⟨_, ⟨f11, by simp [go_sem, h20', hp']⟩, ?_⟩; (first | refine hK _ ?_ | refine hK _ _ ?_ | refine ⟨by simp [go_sem, h20', hp'], hK _ ?_⟩ | refine ⟨by simp [go_sem, h20', hp'], hK _ _ ?_⟩ | refine ⟨by simp [go_sem, h20', hp'], by simp [go_sem, h20', hp'], hK _ _ ?_⟩))
             | (refine ⟨_, fun _ => f11, ?_⟩; (first | refine hK _ ?_ | refine hK _ _ ?_ | refine ⟨by simp [go_sem, h20', hp'], hK _ ?_⟩ | refine ⟨by simp [go_sem, h20', hp'], hK _ _ ?_⟩ | refine ⟨by simp [go_sem, h20', hp'], by simp [go_sem, h20', hp'], hK _ _ ?_⟩))
             | (refine ⟨_, fun hc => ⟨hc, f11⟩, ?_⟩; (first | refine hK _ ?_ | refine hK _ _ ?_ | refine ⟨by simp [go_sem, h20', hp'], hK _ ?_⟩ | refine ⟨by simp [go_sem, h20', hp'], hK _ _ ?_⟩ | refine ⟨by simp [go_sem, h20', hp'], by simp [go_sem, h20', hp'], hK _ _ ?_⟩))
             | (refine ⟨_, fun hc => ⟨f11, by simp [go_sem, h20', hp']⟩, ?_⟩; (first | refine hK _ ?_ | refine hK _ _ ?_ | refine ⟨by simp [go_sem, h20', hp'], hK _ ?_⟩ | refine ⟨by simp [go_sem, h20', hp'], hK _ _ ?_⟩ | refine ⟨by simp [go_sem, h20', hp'], by simp [go_sem, h20', hp'], hK _ _ ?_⟩))
             | (refine ⟨_, fun hc => ⟨hc, f11, by simp [go_sem, h20', hp']⟩, ?_⟩; (first | refine hK _ ?_ | refine hK _ _ ?_ | refine ⟨by simp [go_sem, h20', hp'], hK _ ?_⟩ | refine ⟨by simp [go_sem, h20', hp'], hK _ _ ?_⟩ | refine ⟨by simp [go_sem, h20', hp'], by simp [go_sem, h20', hp'], hK _ _ ?_⟩))
             | (refine ⟨_, f22 l (by omega), ?_⟩; (first | refine hK _ ?_ | refine hK _ _ ?_ | refine ⟨by simp [go_sem, h20', hp'], hK _ ?_⟩ | refine ⟨by simp [go_sem, h20', hp'], hK _ _ ?_⟩ | refine ⟨by simp [go_sem, h20', hp'], by simp [go_sem, h20', hp'], hK _ _ ?_⟩))
             | (refine .inl ⟨_, f22 l (by omega), ?_⟩; (first | refine hK _ ?_ | refine hK _ _ ?_ | refine ⟨by simp [go_sem, h20', hp'], hK _ ?_⟩ | refine ⟨by simp [go_sem, h20', hp'], hK _ _ ?_⟩ | refine ⟨by simp [go_sem, h20', hp'], by simp [go_sem, h20', hp'], hK _ _ ?_⟩))
             | (refine .inr ⟨_, f22 l (by omega), ?_⟩; (first | refine hK _ ?_ | refine hK _ _ ?_ | refine ⟨by simp [go_sem, h20', hp'], hK _ ?_⟩ | refine ⟨by simp [go_sem, h20', hp'], hK _ _ ?_⟩ | refine ⟨by simp [go_sem, h20', hp'], by simp [go_sem, h20', hp'], hK _ _ ?_⟩))
             | (refine ⟨_, ⟨f22 l (by omega), by simp [go_sem, h20', hp']⟩, ?_⟩; (first | refine hK _ ?_ | refine hK _ _ ?_ | refine ⟨by simp [go_sem, h20', hp'], hK _ ?_⟩ | refine ⟨by simp [go_sem, h20', hp'], hK _ _ ?_⟩ | refine ⟨by simp [go_sem, h20', hp'], by simp [go_sem, h20', hp'], hK _ _ ?_⟩))
             | (refine ⟨_, fun _ => f22 l (by omega), ?_⟩; (first | refine hK _ ?_ | refine hK _ _ ?_ | refine ⟨by simp [go_sem, h20', hp'], hK _ ?_⟩ | refine ⟨by simp [go_sem, h20', hp'], hK _ _ ?_⟩ | refine ⟨by simp [go_sem, h20', hp'], by simp [go_sem, h20', hp'], hK _ _ ?_⟩))
             | (refine ⟨_, fun hc => ⟨hc, f22 l (by omega)⟩, ?_⟩; (first | refine hK _ ?_ | refine hK _ _ ?_ | refine ⟨by simp [go_sem, h20', hp'], hK _ ?_⟩ | refine ⟨by simp [go_sem, h20', hp'], hK _ _ ?_⟩ | refine ⟨by simp [go_sem, h20', hp'], by simp [go_sem, h20', hp'], hK _ _ ?_⟩))
             | (refine ⟨_, fun hc => ⟨f22 l (by omega), by simp [go_sem, h20', hp']⟩, ?_⟩; (first | refine hK _ ?_ | refine hK _ _ ?_ | refine ⟨by simp [go_sem, h20', hp'], hK _ ?_⟩ | refine ⟨by simp [go_sem, h20', hp'], hK _ _ ?_⟩ | refine ⟨by simp [go_sem, h20', hp'], by simp [go_sem, h20', hp'], hK _ _ ?_⟩))
             | (refine ⟨_, fun hc => ⟨hc, f22 l (by omega), by simp [go_sem, h20', hp']⟩, ?_⟩; (first | refine hK _ ?_ | refine hK _ _ ?_ | refine ⟨by simp [go_sem, h20', hp'], hK _ ?_⟩ | refine ⟨by simp [go_sem, h20', hp'], hK _ _ ?_⟩ | refine ⟨by simp [go_sem, h20', hp'], by simp [go_sem, h20', hp'], hK _ _ ?_⟩))
             | refine ⟨.one (.one (.bool false)), by simp [go_sem, h20', hp'], hK _ _ ?_⟩
             | refine ⟨by (first | (simp [appendOk, flatEls, h20', hp']; done) | (simp [appendOk, flatEls, h20', hp']; omega)), hK _ ?_⟩
             | refine ⟨hK _ ?_, fun h => hK _ ?_⟩
             | refine ⟨by omega, hK _ ?_⟩
             | refine ⟨by omega, hK _ _ ?_⟩
             | refine ⟨?_, hK _ ?_⟩
             | refine ⟨?_, hK _ _ ?_⟩
           all_goals clear hK K)
      simp [go_sem]
  · have h20' : (20 : Int) < (l.length : Int) := by omega
    repeat' first
      | with_reducible first | refine awp_seq ?_ | refine awp_reg ?_ | refine awp_block ?_ | refine awp_ret ?_ | refine awp_exit ?_ | refine awp_skip ?_ | refine awp_scp ?_ | refine scpQ_normal ?_ | refine scpQ_ret ?_ | refine scpQ_exit ?_ | refine seqQ_normal ?_ | refine seqQ_ret ?_ | refine seqQ_exit ?_ | refine blockQ_normal ?_ | refine blockQ_ret ?_ | refine blockQ_same ?_ | refine blockQ_other (by decide) ?_ | refine loopQ_ret ?_ | refine loopQ_exit ?_ | refine arun_nil ?_ | refine arunA_nil ?_ | refine arunB_nil ?_ | refine drwQ_intro ?_ | refine deadQ_nil ?_
      | ((with_reducible refine awp_cond2 (t := ?_) ?hc (fun h => ?_) (fun h => ?_))
         case hc => rfl
         all_goals (try simp [go_sem, h20'] at h)
         all_goals try omega)
      | ((with_reducible first | refine arun_cons fun K hK => ?_ | refine arunA_cons fun K hK => ?_ | refine arunB_cons fun K hK => ?_ | refine awp_drw fun K hK => ?_ | refine deadQ_some fun K hK => ?_ | refine pruneQ_intro fun K hK => ?_)
         simp [go_sem, h20']
         try simp (disch := omega) only [wrap_i64, okRefs, eq_self, true_and]
         first
           | refine hK _ ?_
           | refine hK _ _ ?_
           | (refine ⟨_, f11, ?_⟩; (first | refine hK _ ?_ | refine hK _ _ ?_ | refine ⟨by simp [go_sem, h20'], hK _ ?_⟩ | refine ⟨by simp [go_sem, h20'], hK _ _ ?_⟩ | refine ⟨by simp [go_sem, h20'], by simp [go_sem, h20'], hK _ _ ?_⟩))
           | (refine .inl ⟨_, f11, ?_⟩; (first | refine hK _ ?_ | refine hK _ _ ?_ | refine ⟨by simp [go_sem, h20'], hK _ ?_⟩ | refine ⟨by simp [go_sem, h20'], hK _ _ ?_⟩ | refine ⟨by simp [go_sem, h20'], by simp [go_sem, h20'], hK _ _ ?_⟩))
           | (refine .inr ⟨_, f11, ?_⟩; (first | refine hK _ ?_ | refine hK _ _ ?_ | refine ⟨by simp [go_sem, h20'], hK _ ?_⟩ | refine ⟨by simp [go_sem, h20'], hK _ _ ?_⟩ | refine ⟨by simp [go_sem, h20'], by simp [go_sem, h20'], hK _ _ ?_⟩))
           | (refine ⟨_, ⟨f11, by simp [go_sem, h20']⟩, ?_⟩; (first | refine hK _ ?_ | refine hK _ _ ?_ | refine ⟨by simp [go_sem, h20'], hK _ ?_⟩ | refine ⟨by simp [go_sem, h20'], hK _ _ ?_⟩ | refine ⟨by simp [go_sem, h20'], by simp [go_sem, h20'], hK _ _ ?_⟩))
           | (refine ⟨_, fun _ => f11, ?_⟩; (first | refine hK _ ?_ | refine hK _ _ ?_ | refine ⟨by simp [go_sem, h20'], hK _ ?_⟩ | refine ⟨by simp [go_sem, h20'], hK _ _ ?_⟩ | refine ⟨by simp [go_sem, h20'], by simp [go_sem, h20'], hK _ _ ?_⟩))
           | (refine ⟨_, fun hc => ⟨hc, f11⟩, ?_⟩; (first | refine hK _ ?_ | refine hK _ _ ?_ | refine ⟨by simp [go_sem, h20'], hK _ ?_⟩ | refine ⟨by simp [go_sem, h20'], hK _ _ ?_⟩ | refine ⟨by simp [go_sem, h20'], by simp [go_sem, h20'], hK _ _ ?_⟩))
           | (refine ⟨_, fun hc => ⟨f11, by simp [go_sem, h20']⟩, ?_⟩; (first | refine hK _ ?_ | refine hK _ _ ?_ | refine ⟨by simp [go_sem, h20'], hK _ ?_⟩ | refine ⟨by simp [go_sem, h20'], hK _ _ ?_⟩ | refine ⟨by simp [go_sem, h20'], by simp [go_sem, h20'], hK _ _ ?_⟩))
           | (refine ⟨_, fun hc => ⟨hc, f11, by simp [go_sem, h20']⟩, ?_⟩; (first | refine hK _ ?_ | refine hK _ _ ?_ | refine ⟨by simp [go_sem, h20'], hK _ ?_⟩ | refine ⟨by simp [go_sem, h20'], hK _ _ ?_⟩ | refine ⟨by simp [go_sem, h20'], by simp [go_sem, h20'], hK _ _ ?_⟩))
           | refine ⟨.one (.one (.bool false)), by simp [go_sem, h20'], hK _ _ ?_⟩
           | refine ⟨by (first | (simp [appendOk, flatEls, h20']; done) | (simp [appendOk, flatEls, h20']; omega)), hK _ ?_⟩
           | refine ⟨hK _ ?_, fun h => hK _ ?_⟩
           | refine ⟨by omega, hK _ ?_⟩
           | refine ⟨by omega, hK _ _ ?_⟩
           | refine ⟨?_, hK _ ?_⟩
           | refine ⟨?_, hK _ _ ?_⟩
         all_goals clear hK K)
    simp [go_sem]
end Go.Av
