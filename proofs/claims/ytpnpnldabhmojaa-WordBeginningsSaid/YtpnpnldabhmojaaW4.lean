/- Part of a proof by symbolic walks on plain data. -/
import Derived.Test.YtpnpnldabhmojaaWB
set_option linter.unusedVariables false
set_option linter.unusedSimpArgs false
namespace Go.Av
open Go Go.RowKit Go.Proofs


theorem f32 (l : List Inter) (hl : l.length ≤ 1000000) : Impl Try.prog 32 [.one (.sl (l.map encI))] (.one (.one (.ow 3 (l.map encI)))) := by
  refine impl_intro Try.func32 b32 e32 r32 n32 Try.ntmps32 d32 (by simp) fun hs => ?_
  clear hs
  simp only [c32, slotsOf]
  repeat' first
    | with_reducible first | refine awp_seq ?_ | refine awp_reg ?_ | refine awp_block ?_ | refine awp_ret ?_ | refine awp_exit ?_ | refine awp_skip ?_ | refine awp_scp ?_ | refine scpQ_normal ?_ | refine scpQ_ret ?_ | refine scpQ_exit ?_ | refine seqQ_normal ?_ | refine seqQ_ret ?_ | refine seqQ_exit ?_ | refine blockQ_normal ?_ | refine blockQ_ret ?_ | refine blockQ_same ?_ | refine blockQ_other (by decide) ?_ | refine loopQ_ret ?_ | refine loopQ_exit ?_ | refine arun_nil ?_ | refine arunA_nil ?_ | refine arunB_nil ?_ | refine drwQ_intro ?_ | refine deadQ_nil ?_
    | ((with_reducible refine awp_cond2 (t := ?_) ?hc (fun h => ?_) (fun h => ?_))
       case hc => rfl
       all_goals (try simp [go_sem, encI] at h)
       all_goals try omega)
    | ((with_reducible first | refine arun_cons fun K hK => ?_ | refine arunA_cons fun K hK => ?_ | refine arunB_cons fun K hK => ?_ | refine awp_drw fun K hK => ?_ | refine deadQ_some fun K hK => ?_ | refine pruneQ_intro fun K hK => ?_)
       simp [go_sem, encI]
       try simp (disch := omega) only [wrap_i64, okRefs, eq_self, true_and]
       first
         | refine hK _ ?_
         | refine hK _ _ ?_
         | refine ⟨by (first | (simp [appendOk, flatEls, encI, maxLen, DV.flat]; done) | (simp [appendOk, flatEls, encI, maxLen, DV.flat]; omega)), hK _ ?_⟩
         | refine ⟨hK _ ?_, fun h => hK _ ?_⟩
         | refine ⟨by omega, hK _ ?_⟩
         | refine ⟨by omega, hK _ _ ?_⟩
         | refine ⟨?_, hK _ ?_⟩
         | refine ⟨?_, hK _ _ ?_⟩
       all_goals clear hK K)
  all_goals simp_all [go_sem]

theorem f36 (l : List (List Ev)) (hl : l.length ≤ 1000000) : Impl Try.prog 36 [.one (.sl (l.map encH))] (.one (.one (.ow 1 (l.map encH)))) := by
  refine impl_intro Try.func36 b36 e36 r36 n36 Try.ntmps36 d36 (by simp) fun hs => ?_
  clear hs
  simp only [c36, slotsOf]
  repeat' first
    | with_reducible first | refine awp_seq ?_ | refine awp_reg ?_ | refine awp_block ?_ | refine awp_ret ?_ | refine awp_exit ?_ | refine awp_skip ?_ | refine awp_scp ?_ | refine scpQ_normal ?_ | refine scpQ_ret ?_ | refine scpQ_exit ?_ | refine seqQ_normal ?_ | refine seqQ_ret ?_ | refine seqQ_exit ?_ | refine blockQ_normal ?_ | refine blockQ_ret ?_ | refine blockQ_same ?_ | refine blockQ_other (by decide) ?_ | refine loopQ_ret ?_ | refine loopQ_exit ?_ | refine arun_nil ?_ | refine arunA_nil ?_ | refine arunB_nil ?_ | refine drwQ_intro ?_ | refine deadQ_nil ?_
    | ((with_reducible refine awp_cond2 (t := ?_) ?hc (fun h => ?_) (fun h => ?_))
       case hc => rfl
       all_goals (try simp [go_sem, encH] at h)
       all_goals try omega)
    | ((with_reducible first | refine arun_cons fun K hK => ?_ | refine arunA_cons fun K hK => ?_ | refine arunB_cons fun K hK => ?_ | refine awp_drw fun K hK => ?_ | refine deadQ_some fun K hK => ?_ | refine pruneQ_intro fun K hK => ?_)
       simp [go_sem, encH]
       try simp (disch := omega) only [wrap_i64, okRefs, eq_self, true_and]
       first
         | refine hK _ ?_
         | refine hK _ _ ?_
         | refine ⟨by (first | (simp [appendOk, flatEls, encH, maxLen, DV.flat]; done) | (simp [appendOk, flatEls, encH, maxLen, DV.flat]; omega)), hK _ ?_⟩
         | refine ⟨hK _ ?_, fun h => hK _ ?_⟩
         | refine ⟨by omega, hK _ ?_⟩
         | refine ⟨by omega, hK _ _ ?_⟩
         | refine ⟨?_, hK _ ?_⟩
         | refine ⟨?_, hK _ _ ?_⟩
       all_goals clear hK K)
  all_goals simp_all [go_sem]
end Go.Av
