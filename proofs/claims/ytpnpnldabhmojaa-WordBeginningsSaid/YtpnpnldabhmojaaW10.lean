/- Part of a proof by symbolic walks on plain data. -/
import Derived.Test.YtpnpnldabhmojaaWM
import Derived.Test.YtpnpnldabhmojaaW4
set_option linter.unusedVariables false
set_option linter.unusedSimpArgs false
namespace Go.Av
open Go Go.RowKit Go.Proofs

def mResult (o : Option (List Inter)) : RV := .tup [.one (.ow 3 ((o.getD []).map encI)), .one (.bool o.isSome)]
def encB (o : Option Inter) : List DV := encI (o.getD ⟨0, 0, 0⟩)

set_option maxHeartbeats 8000000 in
theorem f23 (H : List (List Ev)) (hl : H.length ≤ 1000000) (hh : ∀ l ∈ H, l.length ≤ 1000000) : Impl Try.prog 23 [.one (.sl (H.map encH))] (mResult (merge H)) := by
  refine impl_intro Try.func23 b23 e23 r23 n23 Try.ntmps23 d23 (by simp) fun hs => ?_
  clear hs
  simp only [c23, slotsOf]
  by_cases hp : properH H = true
  · skip
    repeat' first
      | with_reducible first | refine awp_seq ?_ | refine awp_reg ?_ | refine awp_block ?_ | refine awp_ret ?_ | refine awp_exit ?_ | refine awp_skip ?_ | refine awp_scp ?_ | refine scpQ_normal ?_ | refine scpQ_ret ?_ | refine scpQ_exit ?_ | refine seqQ_normal ?_ | refine seqQ_ret ?_ | refine seqQ_exit ?_ | refine blockQ_normal ?_ | refine blockQ_ret ?_ | refine blockQ_same ?_ | refine blockQ_other (by decide) ?_ | refine loopQ_ret ?_ | refine loopQ_exit ?_ | refine arun_nil ?_ | refine arunA_nil ?_ | refine arunB_nil ?_ | refine drwQ_intro ?_ | refine deadQ_nil ?_
      | ((with_reducible refine awp_cond2 (t := ?_) ?hc (fun h => ?_) (fun h => ?_))
         case hc => rfl
         all_goals (try simp [go_sem, hp, encH] at h)
         all_goals try omega)
      | ((with_reducible first | refine arun_cons fun K hK => ?_ | refine arunA_cons fun K hK => ?_ | refine arunB_cons fun K hK => ?_ | refine awp_drw fun K hK => ?_ | refine deadQ_some fun K hK => ?_ | refine pruneQ_intro fun K hK => ?_)
         simp [go_sem, hp, encH]
         try simp (disch := omega) only [wrap_i64, okRefs, eq_self, true_and]
         first
           | refine hK _ ?_
           | refine hK _ _ ?_
           | (refine ⟨_, f35 H hl hh, ?_⟩; (first | refine hK _ ?_ | refine hK _ _ ?_ | refine ⟨by simp [go_sem, hp, encH], hK _ ?_⟩ | refine ⟨by simp [go_sem, hp, encH], hK _ _ ?_⟩ | refine ⟨by simp [go_sem, hp, encH], by simp [go_sem, hp, encH], hK _ _ ?_⟩))
           | (refine .inl ⟨_, f35 H hl hh, ?_⟩; (first | refine hK _ ?_ | refine hK _ _ ?_ | refine ⟨by simp [go_sem, hp, encH], hK _ ?_⟩ | refine ⟨by simp [go_sem, hp, encH], hK _ _ ?_⟩ | refine ⟨by simp [go_sem, hp, encH], by simp [go_sem, hp, encH], hK _ _ ?_⟩))
           | (refine .inr ⟨_, f35 H hl hh, ?_⟩; (first | refine hK _ ?_ | refine hK _ _ ?_ | refine ⟨by simp [go_sem, hp, encH], hK _ ?_⟩ | refine ⟨by simp [go_sem, hp, encH], hK _ _ ?_⟩ | refine ⟨by simp [go_sem, hp, encH], by simp [go_sem, hp, encH], hK _ _ ?_⟩))
           | (refine ⟨_, ⟨f35 H hl hh, by simp [go_sem, hp, encH]⟩, ?_⟩; (first | refine hK _ ?_ | refine hK _ _ ?_ | refine ⟨by simp [go_sem, hp, encH], hK _ ?_⟩ | refine ⟨by simp [go_sem, hp, encH], hK _ _ ?_⟩ | refine ⟨by simp [go_sem, hp, encH], by simp [go_sem, hp, encH], hK _ _ ?_⟩))
           | (refine ⟨_, fun _ => f35 H hl hh, ?_⟩; (first | refine hK _ ?_ | refine hK _ _ ?_ | refine ⟨by simp [go_sem, hp, encH], hK _ ?_⟩ | refine ⟨by simp [go_sem, hp, encH], hK _ _ ?_⟩ | refine ⟨by simp [go_sem, hp, encH], by simp [go_sem, hp, encH], hK _ _ ?_⟩))
           | (refine ⟨_, fun hc => ⟨hc, f35 H hl hh⟩, ?_⟩; (first | refine hK _ ?_ | refine hK _ _ ?_ | refine ⟨by simp [go_sem, hp, encH], hK _ ?_⟩ | refine ⟨by simp [go_sem, hp, encH], hK _ _ ?_⟩ | refine ⟨by simp [go_sem, hp, encH], by simp [go_sem, hp, encH], hK _ _ ?_⟩))
           | (refine ⟨_, fun hc => ⟨f35 H hl hh, by simp [go_sem, hp, encH]⟩, ?_⟩; (first | refine hK _ ?_ | refine hK _ _ ?_ | refine ⟨by simp [go_sem, hp, encH], hK _ ?_⟩ | refine ⟨by simp [go_sem, hp, encH], hK _ _ ?_⟩ | refine ⟨by simp [go_sem, hp, encH], by simp [go_sem, hp, encH], hK _ _ ?_⟩))
           | (refine ⟨_, fun hc => ⟨hc, f35 H hl hh, by simp [go_sem, hp, encH]⟩, ?_⟩; (first | refine hK _ ?_ | refine hK _ _ ?_ | refine ⟨by simp [go_sem, hp, encH], hK _ ?_⟩ | refine ⟨by simp [go_sem, hp, encH], hK _ _ ?_⟩ | refine ⟨by simp [go_sem, hp, encH], by simp [go_sem, hp, encH], hK _ _ ?_⟩))
           | (refine ⟨_, f36 H hl, ?_⟩; (first | refine hK _ ?_ | refine hK _ _ ?_ | refine ⟨by simp [go_sem, hp, encH], hK _ ?_⟩ | refine ⟨by simp [go_sem, hp, encH], hK _ _ ?_⟩ | refine ⟨by simp [go_sem, hp, encH], by simp [go_sem, hp, encH], hK _ _ ?_⟩))
           | (refine .inl ⟨_, f36 H hl, ?_⟩; (first | refine hK _ ?_ | refine hK _ _ ?_ | refine ⟨by simp [go_sem, hp, encH], hK _ ?_⟩ | refine ⟨by simp [go_sem, hp, encH], hK _ _ ?_⟩ | refine ⟨by simp [go_sem, hp, encH], by simp [go_sem, hp, encH], hK _ _ ?_⟩))
           | (refine .inr ⟨_, f36 H hl, ?_⟩; (first | refine hK _ ?_ | refine hK _ _ ?_ | refine ⟨by simp [go_sem, hp, encH], hK _ ?_⟩ | refine ⟨by simp [go_sem, hp, encH], hK _ _ ?_⟩ | refine ⟨by simp [go_sem, hp, encH], by simp [go_sem, hp, encH], hK _ _ ?_⟩))
           | (refine ⟨_, ⟨f36 H hl, by simp [go_sem, hp, encH]⟩, ?_⟩; (first | refine hK _ ?_ | refine hK _ _ ?_ | refine ⟨by simp [go_sem, hp, encH], hK _ ?_⟩ | refine ⟨by simp [go_sem, hp, encH], hK _ _ ?_⟩ | refine ⟨by simp [go_sem, hp, encH], by simp [go_sem, hp, encH], hK _ _ ?_⟩))
           | (refine ⟨_, fun _ => f36 H hl, ?_⟩; (first | refine hK _ ?_ | refine hK _ _ ?_ | refine ⟨by simp [go_sem, hp, encH], hK _ ?_⟩ | refine ⟨by simp [go_sem, hp, encH], hK _ _ ?_⟩ | refine ⟨by simp [go_sem, hp, encH], by simp [go_sem, hp, encH], hK _ _ ?_⟩))
           | (refine ⟨_, fun hc => ⟨hc, f36 H hl⟩, ?_⟩; (first | refine hK _ ?_ | refine hK _ _ ?_ | refine ⟨by simp [go_sem, hp, encH], hK _ ?_⟩ | refine ⟨by simp [go_sem, hp, encH], hK _ _ ?_⟩ | refine ⟨by simp [go_sem, hp, encH], by simp [go_sem, hp, encH], hK _ _ ?_⟩))
           | (refine ⟨_, fun hc => ⟨f36 H hl, by simp [go_sem, hp, encH]⟩, ?_⟩; (first | refine hK _ ?_ | refine hK _ _ ?_ | refine ⟨by simp [go_sem, hp, encH], hK _ ?_⟩ | refine ⟨by simp [go_sem, hp, encH], hK _ _ ?_⟩ | refine ⟨by simp [go_sem, hp, encH], by simp [go_sem, hp, encH], hK _ _ ?_⟩))
           | (refine ⟨_, fun hc => ⟨hc, f36 H hl, by simp [go_sem, hp, encH]⟩, ?_⟩; (first | refine hK _ ?_ | refine hK _ _ ?_ | refine ⟨by simp [go_sem, hp, encH], hK _ ?_⟩ | refine ⟨by simp [go_sem, hp, encH], hK _ _ ?_⟩ | refine ⟨by simp [go_sem, hp, encH], by simp [go_sem, hp, encH], hK _ _ ?_⟩))
           | refine ⟨.one (.one (.bool false)), by simp [go_sem, hp, encH], hK _ _ ?_⟩
           | refine ⟨by (first | (simp [appendOk, flatEls, hp, encH]; done) | (simp [appendOk, flatEls, hp, encH]; omega)), hK _ ?_⟩
           | refine ⟨hK _ ?_, fun h => hK _ ?_⟩
           | refine ⟨by omega, hK _ ?_⟩
           | refine ⟨by omega, hK _ _ ?_⟩
           | refine ⟨?_, hK _ ?_⟩
           | refine ⟨?_, hK _ _ ?_⟩
         all_goals clear hK K)
    refine awp_loop (fun n e => ∃ k, k + n = H.length ∧ e = [(23, .sv (.one (.int .i64 (k : Nat)))), (22, .sv (.one (.int .i64 H.length))), (21, .al 4 []), (5, .sv (.one (.int .i64 (total (H.take k) : Nat)))), (4, .sv (.one (.ow 1 (H.map encH)))), (2, .sv (.one .nil)), (3, .sv (.one (.bool false)))]) H.length _ ⟨0, by simp, rfl⟩ (by simp [go_sem, total]) ?_
    rintro n e ⟨k, hk, rfl⟩
    have ht := total_le (H.take k) fun l hl => hh l (List.mem_of_mem_take hl)
    have hlk : (H.take k).length ≤ k := List.length_take_le _ _
    have htk : total (H.take k) ≤ 1000000000000 := by omega
    clear ht hlk
    by_cases hlt : k < H.length
    · have hh' := hh H[k] (List.getElem_mem hlt)
      repeat' first
        | with_reducible first | refine awp_seq ?_ | refine awp_reg ?_ | refine awp_block ?_ | refine awp_ret ?_ | refine awp_exit ?_ | refine awp_skip ?_ | refine awp_scp ?_ | refine scpQ_normal ?_ | refine scpQ_ret ?_ | refine scpQ_exit ?_ | refine seqQ_normal ?_ | refine seqQ_ret ?_ | refine seqQ_exit ?_ | refine blockQ_normal ?_ | refine blockQ_ret ?_ | refine blockQ_same ?_ | refine blockQ_other (by decide) ?_ | refine loopQ_ret ?_ | refine loopQ_exit ?_ | refine arun_nil ?_ | refine arunA_nil ?_ | refine arunB_nil ?_ | refine drwQ_intro ?_ | refine deadQ_nil ?_
        | ((with_reducible refine awp_cond2 (t := ?_) ?hc (fun h => ?_) (fun h => ?_))
           case hc => rfl
           all_goals (try simp [go_sem, hlt, encH] at h)
           all_goals try omega)
        | ((with_reducible first | refine arun_cons fun K hK => ?_ | refine arunA_cons fun K hK => ?_ | refine arunB_cons fun K hK => ?_ | refine awp_drw fun K hK => ?_ | refine deadQ_some fun K hK => ?_ | refine pruneQ_intro fun K hK => ?_)
           simp [go_sem, hlt, encH]
           try simp (disch := omega) only [wrap_i64, okRefs, eq_self, true_and]
           first
             | refine hK _ ?_
             | refine hK _ _ ?_
             | refine ⟨by (first | (simp [appendOk, flatEls, hlt, encH]; done) | (simp [appendOk, flatEls, hlt, encH]; omega)), hK _ ?_⟩
             | refine ⟨hK _ ?_, fun h => hK _ ?_⟩
             | refine ⟨by omega, hK _ ?_⟩
             | refine ⟨by omega, hK _ _ ?_⟩
             | refine ⟨?_, hK _ ?_⟩
             | refine ⟨?_, hK _ _ ?_⟩
           all_goals clear hK K)
      refine loopQ_normal (n - 1) _ (by omega) ⟨k + 1, by omega, rfl⟩ ?_
      simp [go_sem, total_succ hlt, encH]
    · have hkl : H.take k = H := List.take_of_length_le (by omega)
      have hok : okR H := by
        intro i hi
        unfold properH at hp
        simp only [Bool.and_eq_true, List.all_eq_true] at hp
        have := hp.1 i (by simp [hi])
        simpa [hi] using this
      repeat' first
        | with_reducible first | refine awp_seq ?_ | refine awp_reg ?_ | refine awp_block ?_ | refine awp_ret ?_ | refine awp_exit ?_ | refine awp_skip ?_ | refine awp_scp ?_ | refine scpQ_normal ?_ | refine scpQ_ret ?_ | refine scpQ_exit ?_ | refine seqQ_normal ?_ | refine seqQ_ret ?_ | refine seqQ_exit ?_ | refine blockQ_normal ?_ | refine blockQ_ret ?_ | refine blockQ_same ?_ | refine blockQ_other (by decide) ?_ | refine loopQ_ret ?_ | refine loopQ_exit ?_ | refine arun_nil ?_ | refine arunA_nil ?_ | refine arunB_nil ?_ | refine drwQ_intro ?_ | refine deadQ_nil ?_
        | ((with_reducible refine awp_cond2 (t := ?_) ?hc (fun h => ?_) (fun h => ?_))
           case hc => rfl
           all_goals (try simp [go_sem, hlt, hkl] at h)
           all_goals try omega)
        | ((with_reducible first | refine arun_cons fun K hK => ?_ | refine arunA_cons fun K hK => ?_ | refine arunB_cons fun K hK => ?_ | refine awp_drw fun K hK => ?_ | refine deadQ_some fun K hK => ?_ | refine pruneQ_intro fun K hK => ?_)
           simp [go_sem, hlt, hkl]
           try simp (disch := omega) only [wrap_i64, okRefs, eq_self, true_and]
           first
             | refine hK _ ?_
             | refine hK _ _ ?_
             | refine ⟨by (first | (simp [appendOk, flatEls, hlt, hkl]; done) | (simp [appendOk, flatEls, hlt, hkl]; omega)), hK _ ?_⟩
             | refine ⟨hK _ ?_, fun h => hK _ ?_⟩
             | refine ⟨by omega, hK _ ?_⟩
             | refine ⟨by omega, hK _ _ ?_⟩
             | refine ⟨?_, hK _ ?_⟩
             | refine ⟨?_, hK _ _ ?_⟩
           all_goals clear hK K)
      rw [hkl] at htk
      refine awp_loop (fun m e => ∃ (R : List (List Ev)) (out : List Inter), m = total R ∧ total R ≤ 1000000000000 ∧ 2 * out.length ≤ 1000000000000 - total R ∧ okR R ∧ R.length = H.length ∧ (mergeN m R).map (out ++ ·) = merge H ∧ e = [(8, .sv (.one (.ow 3 (out.map encI)))), (5, .sv (.one (.int .i64 (total R : Nat)))), (4, .sv (.one (.ow 1 (R.map encH))))]) (total H) _ ⟨H, [], rfl, htk, by simp, hok, rfl, by simp [merge, hp], rfl⟩ (by simp [go_sem]) ?_
      clear hlt hkl hk htk
      rintro m e ⟨R, out, rfl, htot, hout, hR, hRl, hm, rfl⟩
      by_cases hpos : total R = 0
      · skip
        repeat' first
          | with_reducible first | refine awp_seq ?_ | refine awp_reg ?_ | refine awp_block ?_ | refine awp_ret ?_ | refine awp_exit ?_ | refine awp_skip ?_ | refine awp_scp ?_ | refine scpQ_normal ?_ | refine scpQ_ret ?_ | refine scpQ_exit ?_ | refine seqQ_normal ?_ | refine seqQ_ret ?_ | refine seqQ_exit ?_ | refine blockQ_normal ?_ | refine blockQ_ret ?_ | refine blockQ_same ?_ | refine blockQ_other (by decide) ?_ | refine loopQ_ret ?_ | refine loopQ_exit ?_ | refine arun_nil ?_ | refine arunA_nil ?_ | refine arunB_nil ?_ | refine drwQ_intro ?_ | refine deadQ_nil ?_
          | ((with_reducible refine awp_cond2 (t := ?_) ?hc (fun h => ?_) (fun h => ?_))
             case hc => rfl
             all_goals (try simp [go_sem, hpos] at h)
             all_goals try omega)
          | ((with_reducible first | refine arun_cons fun K hK => ?_ | refine arunA_cons fun K hK => ?_ | refine arunB_cons fun K hK => ?_ | refine awp_drw fun K hK => ?_ | refine deadQ_some fun K hK => ?_ | refine pruneQ_intro fun K hK => ?_)
             simp [go_sem, hpos]
             try simp (disch := omega) only [wrap_i64, okRefs, eq_self, true_and]
             first
               | refine hK _ ?_
               | refine hK _ _ ?_
               | refine ⟨by (first | (simp [appendOk, flatEls, hpos]; done) | (simp [appendOk, flatEls, hpos]; omega)), hK _ ?_⟩
               | refine ⟨hK _ ?_, fun h => hK _ ?_⟩
               | refine ⟨by omega, hK _ ?_⟩
               | refine ⟨by omega, hK _ _ ?_⟩
               | refine ⟨?_, hK _ ?_⟩
               | refine ⟨?_, hK _ _ ?_⟩
             all_goals clear hK K)
        rw [← hm, mergeN_zero hpos]
        simp [go_sem, mResult]
      · have hpos' : 0 < total R := by omega
        repeat' first
          | with_reducible first | refine awp_seq ?_ | refine awp_reg ?_ | refine awp_block ?_ | refine awp_ret ?_ | refine awp_exit ?_ | refine awp_skip ?_ | refine awp_scp ?_ | refine scpQ_normal ?_ | refine scpQ_ret ?_ | refine scpQ_exit ?_ | refine seqQ_normal ?_ | refine seqQ_ret ?_ | refine seqQ_exit ?_ | refine blockQ_normal ?_ | refine blockQ_ret ?_ | refine blockQ_same ?_ | refine blockQ_other (by decide) ?_ | refine loopQ_ret ?_ | refine loopQ_exit ?_ | refine arun_nil ?_ | refine arunA_nil ?_ | refine arunB_nil ?_ | refine drwQ_intro ?_ | refine deadQ_nil ?_
          | ((with_reducible refine awp_cond2 (t := ?_) ?hc (fun h => ?_) (fun h => ?_))
             case hc => rfl
             all_goals (try simp [go_sem, hpos'] at h)
             all_goals try omega)
          | ((with_reducible first | refine arun_cons fun K hK => ?_ | refine arunA_cons fun K hK => ?_ | refine arunB_cons fun K hK => ?_ | refine awp_drw fun K hK => ?_ | refine deadQ_some fun K hK => ?_ | refine pruneQ_intro fun K hK => ?_)
             simp [go_sem, hpos']
             try simp (disch := omega) only [wrap_i64, okRefs, eq_self, true_and]
             first
               | refine hK _ ?_
               | refine hK _ _ ?_
               | refine ⟨by (first | (simp [appendOk, flatEls, hpos']; done) | (simp [appendOk, flatEls, hpos']; omega)), hK _ ?_⟩
               | refine ⟨hK _ ?_, fun h => hK _ ?_⟩
               | refine ⟨by omega, hK _ ?_⟩
               | refine ⟨by omega, hK _ _ ?_⟩
               | refine ⟨?_, hK _ ?_⟩
               | refine ⟨?_, hK _ _ ?_⟩
             all_goals clear hK K)
        refine awp_loop (fun q e => ∃ k, k + q = R.length ∧ e = [(39, .sv (.one (.int .i64 (k : Nat)))), (38, .sv (.one (.int .i64 R.length))), (37, .al 4 []), (10, .sv (.one (.bool (bestM R k).isSome))), (9, .sv (.one (.bx (encB (bestM R k))))), (8, .sv (.one (.ow 3 (out.map encI)))), (5, .sv (.one (.int .i64 (total R : Nat)))), (4, .sv (.one (.ow 1 (R.map encH))))]) R.length _ ⟨0, by simp, rfl⟩ (by simp [go_sem, bestM, encB, encI]) ?_
        rintro q e ⟨k, hk, rfl⟩
        have hnone : cand R k = none → bestM R (k + 1) = bestM R k := fun h => by simp [bestM, h]
        by_cases hlt : k < R.length
        · cases hx : R[k] with
          | nil =>
            have hc : cand R k = none := by simp [cand, hlt, hx]
            repeat' first
              | with_reducible first | refine awp_seq ?_ | refine awp_reg ?_ | refine awp_block ?_ | refine awp_ret ?_ | refine awp_exit ?_ | refine awp_skip ?_ | refine awp_scp ?_ | refine scpQ_normal ?_ | refine scpQ_ret ?_ | refine scpQ_exit ?_ | refine seqQ_normal ?_ | refine seqQ_ret ?_ | refine seqQ_exit ?_ | refine blockQ_normal ?_ | refine blockQ_ret ?_ | refine blockQ_same ?_ | refine blockQ_other (by decide) ?_ | refine loopQ_ret ?_ | refine loopQ_exit ?_ | refine arun_nil ?_ | refine arunA_nil ?_ | refine arunB_nil ?_ | refine drwQ_intro ?_ | refine deadQ_nil ?_
              | ((with_reducible refine awp_cond2 (t := ?_) ?hc (fun h => ?_) (fun h => ?_))
                 case hc => rfl
                 all_goals (try simp [go_sem, hlt, hx, encH] at h)
                 all_goals try omega)
              | ((with_reducible first | refine arun_cons fun K hK => ?_ | refine arunA_cons fun K hK => ?_ | refine arunB_cons fun K hK => ?_ | refine awp_drw fun K hK => ?_ | refine deadQ_some fun K hK => ?_ | refine pruneQ_intro fun K hK => ?_)
                 simp [go_sem, hlt, hx, encH]
                 try simp (disch := omega) only [wrap_i64, okRefs, eq_self, true_and]
                 first
                   | refine hK _ ?_
                   | refine hK _ _ ?_
                   | refine ⟨by (first | (simp [appendOk, flatEls, hlt, hx, encH]; done) | (simp [appendOk, flatEls, hlt, hx, encH]; omega)), hK _ ?_⟩
                   | refine ⟨hK _ ?_, fun h => hK _ ?_⟩
                   | refine ⟨by omega, hK _ ?_⟩
                   | refine ⟨by omega, hK _ _ ?_⟩
                   | refine ⟨?_, hK _ ?_⟩
                   | refine ⟨?_, hK _ _ ?_⟩
                 all_goals clear hK K)
            refine loopQ_normal (q - 1) _ (by omega) ⟨k + 1, by omega, rfl⟩ ?_
            simp [go_sem, hnone hc]
          | cons x tx =>
            obtain ⟨h1, h2, h3, h4⟩ := okR_head hR hlt hx
            cases hsend : x.send with
            | false =>
              have hc : cand R k = none := by simp [cand, hlt, hx, hsend]
              have hpl : x.peer.toNat < R.length := by omega
              repeat' first
                | with_reducible first | refine awp_seq ?_ | refine awp_reg ?_ | refine awp_block ?_ | refine awp_ret ?_ | refine awp_exit ?_ | refine awp_skip ?_ | refine awp_scp ?_ | refine scpQ_normal ?_ | refine scpQ_ret ?_ | refine scpQ_exit ?_ | refine seqQ_normal ?_ | refine seqQ_ret ?_ | refine seqQ_exit ?_ | refine blockQ_normal ?_ | refine blockQ_ret ?_ | refine blockQ_same ?_ | refine blockQ_other (by decide) ?_ | refine loopQ_ret ?_ | refine loopQ_exit ?_ | refine arun_nil ?_ | refine arunA_nil ?_ | refine arunB_nil ?_ | refine drwQ_intro ?_ | refine deadQ_nil ?_
                | ((with_reducible refine awp_cond2 (t := ?_) ?hc (fun h => ?_) (fun h => ?_))
                   case hc => rfl
                   all_goals (try simp [go_sem, hlt, hx, hsend, hpl, encH, encE] at h)
                   all_goals try omega)
                | ((with_reducible first | refine arun_cons fun K hK => ?_ | refine arunA_cons fun K hK => ?_ | refine arunB_cons fun K hK => ?_ | refine awp_drw fun K hK => ?_ | refine deadQ_some fun K hK => ?_ | refine pruneQ_intro fun K hK => ?_)
                   simp [go_sem, hlt, hx, hsend, hpl, encH, encE]
                   try simp (disch := omega) only [wrap_i64, okRefs, eq_self, true_and]
                   first
                     | refine hK _ ?_
                     | refine hK _ _ ?_
                     | refine ⟨by (first | (simp [appendOk, flatEls, hlt, hx, hsend, hpl, encH, encE]; done) | (simp [appendOk, flatEls, hlt, hx, hsend, hpl, encH, encE]; omega)), hK _ ?_⟩
                     | refine ⟨hK _ ?_, fun h => hK _ ?_⟩
                     | refine ⟨by omega, hK _ ?_⟩
                     | refine ⟨by omega, hK _ _ ?_⟩
                     | refine ⟨?_, hK _ ?_⟩
                     | refine ⟨?_, hK _ _ ?_⟩
                   all_goals clear hK K)
              refine loopQ_normal (q - 1) _ (by omega) ⟨k + 1, by omega, rfl⟩ ?_
              simp [go_sem, hnone hc]
            | true =>
              have hpl : x.peer.toNat < R.length := by omega
              cases hy : R[x.peer.toNat] with
              | nil =>
                have hc : cand R k = none := by simp [cand, hlt, hx, hsend, hpl, hy]
                repeat' first
                  | with_reducible first | refine awp_seq ?_ | refine awp_reg ?_ | refine awp_block ?_ | refine awp_ret ?_ | refine awp_exit ?_ | refine awp_skip ?_ | refine awp_scp ?_ | refine scpQ_normal ?_ | refine scpQ_ret ?_ | refine scpQ_exit ?_ | refine seqQ_normal ?_ | refine seqQ_ret ?_ | refine seqQ_exit ?_ | refine blockQ_normal ?_ | refine blockQ_ret ?_ | refine blockQ_same ?_ | refine blockQ_other (by decide) ?_ | refine loopQ_ret ?_ | refine loopQ_exit ?_ | refine arun_nil ?_ | refine arunA_nil ?_ | refine arunB_nil ?_ | refine drwQ_intro ?_ | refine deadQ_nil ?_
                  | ((with_reducible refine awp_cond2 (t := ?_) ?hc (fun h => ?_) (fun h => ?_))
                     case hc => rfl
                     all_goals (try simp [go_sem, hlt, hx, hsend, hpl, hy, encH, encE] at h)
                     all_goals try omega)
                  | ((with_reducible first | refine arun_cons fun K hK => ?_ | refine arunA_cons fun K hK => ?_ | refine arunB_cons fun K hK => ?_ | refine awp_drw fun K hK => ?_ | refine deadQ_some fun K hK => ?_ | refine pruneQ_intro fun K hK => ?_)
                     simp [go_sem, hlt, hx, hsend, hpl, hy, encH, encE]
                     try simp (disch := omega) only [wrap_i64, okRefs, eq_self, true_and]
                     first
                       | refine hK _ ?_
                       | refine hK _ _ ?_
                       | refine ⟨by (first | (simp [appendOk, flatEls, hlt, hx, hsend, hpl, hy, encH, encE]; done) | (simp [appendOk, flatEls, hlt, hx, hsend, hpl, hy, encH, encE]; omega)), hK _ ?_⟩
                       | refine ⟨hK _ ?_, fun h => hK _ ?_⟩
                       | refine ⟨by omega, hK _ ?_⟩
                       | refine ⟨by omega, hK _ _ ?_⟩
                       | refine ⟨?_, hK _ ?_⟩
                       | refine ⟨?_, hK _ _ ?_⟩
                     all_goals clear hK K)
                refine loopQ_normal (q - 1) _ (by omega) ⟨k + 1, by omega, rfl⟩ ?_
                simp [go_sem, hnone hc]
              | cons y ty =>
                cases hbk : bestM R k with
                | none =>
                  repeat' first
                    | with_reducible first | refine awp_seq ?_ | refine awp_reg ?_ | refine awp_block ?_ | refine awp_ret ?_ | refine awp_exit ?_ | refine awp_skip ?_ | refine awp_scp ?_ | refine scpQ_normal ?_ | refine scpQ_ret ?_ | refine scpQ_exit ?_ | refine seqQ_normal ?_ | refine seqQ_ret ?_ | refine seqQ_exit ?_ | refine blockQ_normal ?_ | refine blockQ_ret ?_ | refine blockQ_same ?_ | refine blockQ_other (by decide) ?_ | refine loopQ_ret ?_ | refine loopQ_exit ?_ | refine arun_nil ?_ | refine arunA_nil ?_ | refine arunB_nil ?_ | refine drwQ_intro ?_ | refine deadQ_nil ?_
                    | ((with_reducible refine awp_cond2 (t := ?_) ?hc (fun h => ?_) (fun h => ?_))
                       case hc => rfl
                       all_goals (try simp [go_sem, hlt, hx, hsend, hpl, hy, encH, encE, encB, encI] at h)
                       all_goals try omega)
                    | ((with_reducible first | refine arun_cons fun K hK => ?_ | refine arunA_cons fun K hK => ?_ | refine arunB_cons fun K hK => ?_ | refine awp_drw fun K hK => ?_ | refine deadQ_some fun K hK => ?_ | refine pruneQ_intro fun K hK => ?_)
                       simp [go_sem, hlt, hx, hsend, hpl, hy, encH, encE, encB, encI]
                       try simp (disch := omega) only [wrap_i64, okRefs, eq_self, true_and]
                       first
                         | refine hK _ ?_
                         | refine hK _ _ ?_
                         | (refine ⟨_, f33 _ _, ?_⟩; (first | refine hK _ ?_ | refine hK _ _ ?_ | refine ⟨by simp [go_sem, hlt, hx, hsend, hpl, hy, encH, encE, encB, encI], hK _ ?_⟩ | refine ⟨by simp [go_sem, hlt, hx, hsend, hpl, hy, encH, encE, encB, encI], hK _ _ ?_⟩ | refine ⟨by simp [go_sem, hlt, hx, hsend, hpl, hy, encH, encE, encB, encI], by simp [go_sem, hlt, hx, hsend, hpl, hy, encH, encE, encB, encI], hK _ _ ?_⟩))
                         | (refine .inl ⟨_, f33 _ _, ?_⟩; (first | refine hK _ ?_ | refine hK _ _ ?_ | refine ⟨by simp [go_sem, hlt, hx, hsend, hpl, hy, encH, encE, encB, encI], hK _ ?_⟩ | refine ⟨by simp [go_sem, hlt, hx, hsend, hpl, hy, encH, encE, encB, encI], hK _ _ ?_⟩ | refine ⟨by simp [go_sem, hlt, hx, hsend, hpl, hy, encH, encE, encB, encI], by simp [go_sem, hlt, hx, hsend, hpl, hy, encH, encE, encB, encI], hK _ _ ?_⟩))
                         | (refine .inr ⟨_, f33 _ _, ?_⟩; (first | refine hK _ ?_ | refine hK _ _ ?_ | refine ⟨by simp [go_sem, hlt, hx, hsend, hpl, hy, encH, encE, encB, encI], hK _ ?_⟩ | refine ⟨by simp [go_sem, hlt, hx, hsend, hpl, hy, encH, encE, encB, encI], hK _ _ ?_⟩ | refine ⟨by simp [go_sem, hlt, hx, hsend, hpl, hy, encH, encE, encB, encI], by simp [go_sem, hlt, hx, hsend, hpl, hy, encH, encE, encB, encI], hK _ _ ?_⟩))
                         | (refine ⟨_, ⟨f33 _ _, by simp [go_sem, hlt, hx, hsend, hpl, hy, encH, encE, encB, encI]⟩, ?_⟩; (first | refine hK _ ?_ | refine hK _ _ ?_ | refine ⟨by simp [go_sem, hlt, hx, hsend, hpl, hy, encH, encE, encB, encI], hK _ ?_⟩ | refine ⟨by simp [go_sem, hlt, hx, hsend, hpl, hy, encH, encE, encB, encI], hK _ _ ?_⟩ | refine ⟨by simp [go_sem, hlt, hx, hsend, hpl, hy, encH, encE, encB, encI], by simp [go_sem, hlt, hx, hsend, hpl, hy, encH, encE, encB, encI], hK _ _ ?_⟩))
                         | (refine ⟨_, fun _ => f33 _ _, ?_⟩; (first | refine hK _ ?_ | refine hK _ _ ?_ | refine ⟨by simp [go_sem, hlt, hx, hsend, hpl, hy, encH, encE, encB, encI], hK _ ?_⟩ | refine ⟨by simp [go_sem, hlt, hx, hsend, hpl, hy, encH, encE, encB, encI], hK _ _ ?_⟩ | refine ⟨by simp [go_sem, hlt, hx, hsend, hpl, hy, encH, encE, encB, encI], by simp [go_sem, hlt, hx, hsend, hpl, hy, encH, encE, encB, encI], hK _ _ ?_⟩))
                         | (refine ⟨_, fun hc => ⟨hc, f33 _ _⟩, ?_⟩; (first | refine hK _ ?_ | refine hK _ _ ?_ | refine ⟨by simp [go_sem, hlt, hx, hsend, hpl, hy, encH, encE, encB, encI], hK _ ?_⟩ | refine ⟨by simp [go_sem, hlt, hx, hsend, hpl, hy, encH, encE, encB, encI], hK _ _ ?_⟩ | refine ⟨by simp [go_sem, hlt, hx, hsend, hpl, hy, encH, encE, encB, encI], by simp [go_sem, hlt, hx, hsend, hpl, hy, encH, encE, encB, encI], hK _ _ ?_⟩))
                         | (refine ⟨_, fun hc => ⟨f33 _ _, by simp [go_sem, hlt, hx, hsend, hpl, hy, encH, encE, encB, encI]⟩, ?_⟩; (first | refine hK _ ?_ | refine hK _ _ ?_ | refine ⟨by simp [go_sem, hlt, hx, hsend, hpl, hy, encH, encE, encB, encI], hK _ ?_⟩ | refine ⟨by simp [go_sem, hlt, hx, hsend, hpl, hy, encH, encE, encB, encI], hK _ _ ?_⟩ | refine ⟨by simp [go_sem, hlt, hx, hsend, hpl, hy, encH, encE, encB, encI], by simp [go_sem, hlt, hx, hsend, hpl, hy, encH, encE, encB, encI], hK _ _ ?_⟩))
                         | (refine ⟨_, fun hc => ⟨hc, f33 _ _, by simp [go_sem, hlt, hx, hsend, hpl, hy, encH, encE, encB, encI]⟩, ?_⟩; (first | refine hK _ ?_ | refine hK _ _ ?_ | refine ⟨by simp [go_sem, hlt, hx, hsend, hpl, hy, encH, encE, encB, encI], hK _ ?_⟩ | refine ⟨by simp [go_sem, hlt, hx, hsend, hpl, hy, encH, encE, encB, encI], hK _ _ ?_⟩ | refine ⟨by simp [go_sem, hlt, hx, hsend, hpl, hy, encH, encE, encB, encI], by simp [go_sem, hlt, hx, hsend, hpl, hy, encH, encE, encB, encI], hK _ _ ?_⟩))
                         | refine ⟨.one (.one (.bool false)), by simp [go_sem, hlt, hx, hsend, hpl, hy, encH, encE, encB, encI], hK _ _ ?_⟩
                         | refine ⟨by (first | (simp [appendOk, flatEls, hlt, hx, hsend, hpl, hy, encH, encE, encB, encI]; done) | (simp [appendOk, flatEls, hlt, hx, hsend, hpl, hy, encH, encE, encB, encI]; omega)), hK _ ?_⟩
                         | refine ⟨hK _ ?_, fun h => hK _ ?_⟩
                         | refine ⟨by omega, hK _ ?_⟩
                         | refine ⟨by omega, hK _ _ ?_⟩
                         | refine ⟨?_, hK _ ?_⟩
                         | refine ⟨?_, hK _ _ ?_⟩
                       all_goals clear hK K)
                  · have hc : cand R k = none := by
                      simp only [cand, hlt, hx, hsend, hpl, hy, List.getElem?_eq_getElem]
                      simp only [if_true]
                      rw [if_neg]
                      rintro ⟨g1, g2, g3⟩
                      simp [g1, g2, g3] at h
                    have hb := hnone hc
                    rw [hbk] at hb
                    refine loopQ_normal (q - 1) _ (by omega) ⟨k + 1, by omega, rfl⟩ ?_
                    simp [go_sem, hb, encB, encI]
                  · have hc : cand R k = some ⟨x.role, x.peer, x.label⟩ := by
                      simp only [cand, hlt, hx, hsend, hpl, hy, List.getElem?_eq_getElem]
                      simp only [if_true]
                      rename_i g
                      rw [if_pos ⟨g.1.1, g.1.2, g.2⟩]
                    have hb : bestM R (k + 1) = some ⟨x.role, x.peer, x.label⟩ := by simp [bestM, hc, hbk, better]
                    refine loopQ_normal (q - 1) _ (by omega) ⟨k + 1, by omega, rfl⟩ ?_
                    simp [go_sem, hb, encB, encI]
                | some b =>
                  repeat' first
                    | with_reducible first | refine awp_seq ?_ | refine awp_reg ?_ | refine awp_block ?_ | refine awp_ret ?_ | refine awp_exit ?_ | refine awp_skip ?_ | refine awp_scp ?_ | refine scpQ_normal ?_ | refine scpQ_ret ?_ | refine scpQ_exit ?_ | refine seqQ_normal ?_ | refine seqQ_ret ?_ | refine seqQ_exit ?_ | refine blockQ_normal ?_ | refine blockQ_ret ?_ | refine blockQ_same ?_ | refine blockQ_other (by decide) ?_ | refine loopQ_ret ?_ | refine loopQ_exit ?_ | refine arun_nil ?_ | refine arunA_nil ?_ | refine arunB_nil ?_ | refine drwQ_intro ?_ | refine deadQ_nil ?_
                    | ((with_reducible refine awp_cond2 (t := ?_) ?hc (fun h => ?_) (fun h => ?_))
                       case hc => rfl
                       all_goals (try simp [go_sem, hlt, hx, hsend, hpl, hy, encH, encE, encB, encI] at h)
                       all_goals try omega)
                    | ((with_reducible first | refine arun_cons fun K hK => ?_ | refine arunA_cons fun K hK => ?_ | refine arunB_cons fun K hK => ?_ | refine awp_drw fun K hK => ?_ | refine deadQ_some fun K hK => ?_ | refine pruneQ_intro fun K hK => ?_)
                       simp [go_sem, hlt, hx, hsend, hpl, hy, encH, encE, encB, encI]
                       try simp (disch := omega) only [wrap_i64, okRefs, eq_self, true_and]
                       first
                         | refine hK _ ?_
                         | refine hK _ _ ?_
                         | (refine ⟨_, f33 ⟨x.role, x.peer, x.label⟩ b, ?_⟩; (first | refine hK _ ?_ | refine hK _ _ ?_ | refine ⟨by simp [go_sem, hlt, hx, hsend, hpl, hy, encH, encE, encB, encI], hK _ ?_⟩ | refine ⟨by simp [go_sem, hlt, hx, hsend, hpl, hy, encH, encE, encB, encI], hK _ _ ?_⟩ | refine ⟨by simp [go_sem, hlt, hx, hsend, hpl, hy, encH, encE, encB, encI], by simp [go_sem, hlt, hx, hsend, hpl, hy, encH, encE, encB, encI], hK _ _ ?_⟩))
                         | (refine .inl ⟨_, f33 ⟨x.role, x.peer, x.label⟩ b, ?_⟩; (first | refine hK _ ?_ | refine hK _ _ ?_ | refine ⟨by simp [go_sem, hlt, hx, hsend, hpl, hy, encH, encE, encB, encI], hK _ ?_⟩ | refine ⟨by simp [go_sem, hlt, hx, hsend, hpl, hy, encH, encE, encB, encI], hK _ _ ?_⟩ | refine ⟨by simp [go_sem, hlt, hx, hsend, hpl, hy, encH, encE, encB, encI], by simp [go_sem, hlt, hx, hsend, hpl, hy, encH, encE, encB, encI], hK _ _ ?_⟩))
                         | (refine .inr ⟨_, f33 ⟨x.role, x.peer, x.label⟩ b, ?_⟩; (first | refine hK _ ?_ | refine hK _ _ ?_ | refine ⟨by simp [go_sem, hlt, hx, hsend, hpl, hy, encH, encE, encB, encI], hK _ ?_⟩ | refine ⟨by simp [go_sem, hlt, hx, hsend, hpl, hy, encH, encE, encB, encI], hK _ _ ?_⟩ | refine ⟨by simp [go_sem, hlt, hx, hsend, hpl, hy, encH, encE, encB, encI], by simp [go_sem, hlt, hx, hsend, hpl, hy, encH, encE, encB, encI], hK _ _ ?_⟩))
                         | (refine ⟨_, ⟨f33 ⟨x.role, x.peer, x.label⟩ b, by simp [go_sem, hlt, hx, hsend, hpl, hy, encH, encE, encB, encI]⟩, ?_⟩; (first | refine hK _ ?_ | refine hK _ _ ?_ | refine ⟨by simp [go_sem, hlt, hx, hsend, hpl, hy, encH, encE, encB, encI], hK _ ?_⟩ | refine ⟨by simp [go_sem, hlt, hx, hsend, hpl, hy, encH, encE, encB, encI], hK _ _ ?_⟩ | refine ⟨by simp [go_sem, hlt, hx, hsend, hpl, hy, encH, encE, encB, encI], by simp [go_sem, hlt, hx, hsend, hpl, hy, encH, encE, encB, encI], hK _ _ ?_⟩))
                         | (refine ⟨_, fun _ => f33 ⟨x.role, x.peer, x.label⟩ b, ?_⟩; (first | refine hK _ ?_ | refine hK _ _ ?_ | refine ⟨by simp [go_sem, hlt, hx, hsend, hpl, hy, encH, encE, encB, encI], hK _ ?_⟩ | refine ⟨by simp [go_sem, hlt, hx, hsend, hpl, hy, encH, encE, encB, encI], hK _ _ ?_⟩ | refine ⟨by simp [go_sem, hlt, hx, hsend, hpl, hy, encH, encE, encB, encI], by simp [go_sem, hlt, hx, hsend, hpl, hy, encH, encE, encB, encI], hK _ _ ?_⟩))
                         | (refine ⟨_, fun hc => ⟨hc, f33 ⟨x.role, x.peer, x.label⟩ b⟩, ?_⟩; (first | refine hK _ ?_ | refine hK _ _ ?_ | refine ⟨by simp [go_sem, hlt, hx, hsend, hpl, hy, encH, encE, encB, encI], hK _ ?_⟩ | refine ⟨by simp [go_sem, hlt, hx, hsend, hpl, hy, encH, encE, encB, encI], hK _ _ ?_⟩ | refine ⟨by simp [go_sem, hlt, hx, hsend, hpl, hy, encH, encE, encB, encI], by simp [go_sem, hlt, hx, hsend, hpl, hy, encH, encE, encB, encI], hK _ _ ?_⟩))
                         | (refine ⟨_, fun hc => ⟨f33 ⟨x.role, x.peer, x.label⟩ b, by simp [go_sem, hlt, hx, hsend, hpl, hy, encH, encE, encB, encI]⟩, ?_⟩; (first | refine hK _ ?_ | refine hK _ _ ?_ | refine ⟨by simp [go_sem, hlt, hx, hsend, hpl, hy, encH, encE, encB, encI], hK _ ?_⟩ | refine ⟨by simp [go_sem, hlt, hx, hsend, hpl, hy, encH, encE, encB, encI], hK _ _ ?_⟩ | refine ⟨by simp [go_sem, hlt, hx, hsend, hpl, hy, encH, encE, encB, encI], by simp [go_sem, hlt, hx, hsend, hpl, hy, encH, encE, encB, encI], hK _ _ ?_⟩))
                         | (refine ⟨_, fun hc => ⟨hc, f33 ⟨x.role, x.peer, x.label⟩ b, by simp [go_sem, hlt, hx, hsend, hpl, hy, encH, encE, encB, encI]⟩, ?_⟩; (first | refine hK _ ?_ | refine hK _ _ ?_ | refine ⟨by simp [go_sem, hlt, hx, hsend, hpl, hy, encH, encE, encB, encI], hK _ ?_⟩ | refine ⟨by simp [go_sem, hlt, hx, hsend, hpl, hy, encH, encE, encB, encI], hK _ _ ?_⟩ | refine ⟨by simp [go_sem, hlt, hx, hsend, hpl, hy, encH, encE, encB, encI], by simp [go_sem, hlt, hx, hsend, hpl, hy, encH, encE, encB, encI], hK _ _ ?_⟩))
                         | refine ⟨.one (.one (.bool false)), by simp [go_sem, hlt, hx, hsend, hpl, hy, encH, encE, encB, encI], hK _ _ ?_⟩
                         | refine ⟨by (first | (simp [appendOk, flatEls, hlt, hx, hsend, hpl, hy, encH, encE, encB, encI]; done) | (simp [appendOk, flatEls, hlt, hx, hsend, hpl, hy, encH, encE, encB, encI]; omega)), hK _ ?_⟩
                         | refine ⟨hK _ ?_, fun h => hK _ ?_⟩
                         | refine ⟨by omega, hK _ ?_⟩
                         | refine ⟨by omega, hK _ _ ?_⟩
                         | refine ⟨?_, hK _ ?_⟩
                         | refine ⟨?_, hK _ _ ?_⟩
                       all_goals clear hK K)
                  · have hc : cand R k = none := by
                      simp only [cand, hlt, hx, hsend, hpl, hy, List.getElem?_eq_getElem]
                      simp only [if_true]
                      rw [if_neg]
                      rintro ⟨g1, g2, g3⟩
                      simp [g1, g2, g3] at h
                    have hb := hnone hc
                    rw [hbk] at hb
                    refine loopQ_normal (q - 1) _ (by omega) ⟨k + 1, by omega, rfl⟩ ?_
                    simp [go_sem, hb, encB, encI]
                  · have hc : cand R k = some ⟨x.role, x.peer, x.label⟩ := by
                      simp only [cand, hlt, hx, hsend, hpl, hy, List.getElem?_eq_getElem]
                      simp only [if_true]
                      rename_i g
                      rw [if_pos ⟨g.1.1, g.1.2, g.2⟩]
                    have hb : bestM R (k + 1) = some ⟨x.role, x.peer, x.label⟩ := by simp [bestM, hc, hbk, better, lt, h]
                    refine loopQ_normal (q - 1) _ (by omega) ⟨k + 1, by omega, rfl⟩ ?_
                    simp [go_sem, hb, encB, encI]
                  · have hc : cand R k = some ⟨x.role, x.peer, x.label⟩ := by
                      simp only [cand, hlt, hx, hsend, hpl, hy, List.getElem?_eq_getElem]
                      simp only [if_true]
                      rename_i g
                      rw [if_pos ⟨g.1.1, g.1.2, g.2⟩]
                    have hlt' : ¬ cmpL (key ⟨x.role, x.peer, x.label⟩) (key b) < 0 := by omega
                    have hb : bestM R (k + 1) = some b := by simp [bestM, hc, hbk, better, lt, hlt']
                    refine loopQ_normal (q - 1) _ (by omega) ⟨k + 1, by omega, rfl⟩ ?_
                    simp [go_sem, hb, encB, encI]
        · have hke : k = R.length := by omega
          subst hke
          cases hb : bestM R R.length with
          | none =>
            repeat' first
              | with_reducible first | refine awp_seq ?_ | refine awp_reg ?_ | refine awp_block ?_ | refine awp_ret ?_ | refine awp_exit ?_ | refine awp_skip ?_ | refine awp_scp ?_ | refine scpQ_normal ?_ | refine scpQ_ret ?_ | refine scpQ_exit ?_ | refine seqQ_normal ?_ | refine seqQ_ret ?_ | refine seqQ_exit ?_ | refine blockQ_normal ?_ | refine blockQ_ret ?_ | refine blockQ_same ?_ | refine blockQ_other (by decide) ?_ | refine loopQ_ret ?_ | refine loopQ_exit ?_ | refine arun_nil ?_ | refine arunA_nil ?_ | refine arunB_nil ?_ | refine drwQ_intro ?_ | refine deadQ_nil ?_
              | ((with_reducible refine awp_cond2 (t := ?_) ?hc (fun h => ?_) (fun h => ?_))
                 case hc => rfl
                 all_goals (try simp [go_sem, hb] at h)
                 all_goals try omega)
              | ((with_reducible first | refine arun_cons fun K hK => ?_ | refine arunA_cons fun K hK => ?_ | refine arunB_cons fun K hK => ?_ | refine awp_drw fun K hK => ?_ | refine deadQ_some fun K hK => ?_ | refine pruneQ_intro fun K hK => ?_)
                 simp [go_sem, hb]
                 try simp (disch := omega) only [wrap_i64, okRefs, eq_self, true_and]
                 first
                   | refine hK _ ?_
                   | refine hK _ _ ?_
                   | refine ⟨by (first | (simp [appendOk, flatEls, hb]; done) | (simp [appendOk, flatEls, hb]; omega)), hK _ ?_⟩
                   | refine ⟨hK _ ?_, fun h => hK _ ?_⟩
                   | refine ⟨by omega, hK _ ?_⟩
                   | refine ⟨by omega, hK _ _ ?_⟩
                   | refine ⟨?_, hK _ ?_⟩
                   | refine ⟨?_, hK _ _ ?_⟩
                 all_goals clear hK K)
            rw [← hm, mergeN_none hpos hb]
            simp [go_sem, mResult]
          | some a =>
            obtain ⟨i0, _, hc0⟩ := bestM_some hb
            obtain ⟨p, x, y, tx, ty, hi, hp', hne, h1, h2, hx, hy⟩ := cand_some hR hc0
            have ht := step_total hR hb
            repeat' first
              | with_reducible first | refine awp_seq ?_ | refine awp_reg ?_ | refine awp_block ?_ | refine awp_ret ?_ | refine awp_exit ?_ | refine awp_skip ?_ | refine awp_scp ?_ | refine scpQ_normal ?_ | refine scpQ_ret ?_ | refine scpQ_exit ?_ | refine seqQ_normal ?_ | refine seqQ_ret ?_ | refine seqQ_exit ?_ | refine blockQ_normal ?_ | refine blockQ_ret ?_ | refine blockQ_same ?_ | refine blockQ_other (by decide) ?_ | refine loopQ_ret ?_ | refine loopQ_exit ?_ | refine arun_nil ?_ | refine arunA_nil ?_ | refine arunB_nil ?_ | refine drwQ_intro ?_ | refine deadQ_nil ?_
              | ((with_reducible refine awp_cond2 (t := ?_) ?hc (fun h => ?_) (fun h => ?_))
                 case hc => rfl
                 all_goals (try simp [go_sem, hb, encB, encI, encH, h1, h2, hi, hp', hx, hy, hne, hne.symm, encE] at h)
                 all_goals try omega)
              | ((with_reducible first | refine arun_cons fun K hK => ?_ | refine arunA_cons fun K hK => ?_ | refine arunB_cons fun K hK => ?_ | refine awp_drw fun K hK => ?_ | refine deadQ_some fun K hK => ?_ | refine pruneQ_intro fun K hK => ?_)
                 simp [go_sem, hb, encB, encI, encH, h1, h2, hi, hp', hx, hy, hne, hne.symm, encE]
                 try simp (disch := omega) only [wrap_i64, okRefs, eq_self, true_and]
                 first
                   | refine hK _ ?_
                   | refine hK _ _ ?_
                   | refine ⟨by (first | (simp [appendOk, flatEls, hb, encB, encI, encH, h1, h2, hi, hp', hx, hy, hne, hne.symm, encE, maxLen, DV.flat]; done) | (simp [appendOk, flatEls, hb, encB, encI, encH, h1, h2, hi, hp', hx, hy, hne, hne.symm, encE, maxLen, DV.flat]; omega)), hK _ ?_⟩
                   | refine ⟨hK _ ?_, fun h => hK _ ?_⟩
                   | refine ⟨by omega, hK _ ?_⟩
                   | refine ⟨by omega, hK _ _ ?_⟩
                   | refine ⟨?_, hK _ ?_⟩
                   | refine ⟨?_, hK _ _ ?_⟩
                 all_goals clear hK K)
            have hst := stepM_eq hi hp' h1 h2 hx hy
            have t1 : List.take tx.length (tx.map encE) = tx.map encE := List.take_of_length_le (by simp)
            have t2 : List.take ty.length (ty.map encE) = ty.map encE := List.take_of_length_le (by simp)
            have hmap : ((R.map encH).set i0 [DV.sl (tx.map encE)]).set p [DV.sl (ty.map encE)] = (stepM R a).map encH := by rw [hst, List.map_set, List.map_set]; rfl
            rw [t1, t2, hmap]
            refine loopQ_normal (total (stepM R a)) _ (by omega) ⟨stepM R a, out ++ [a], rfl, by omega, by simp; omega, okR_step hR hb, by rw [stepM_len, hRl], ?_, rfl⟩ ?_
            · have h0 : total R - 2 = total (stepM R a) := by omega
              rw [← hm, mergeN_some hpos (Nat.le_refl _) hb hR, h0]
              cases mergeN (total (stepM R a)) (stepM R a) <;> simp
            · simp [go_sem, encI, h1, h2]
              omega
  · have hp : properH H = false := by simpa using hp
    repeat' first
      | with_reducible first | refine awp_seq ?_ | refine awp_reg ?_ | refine awp_block ?_ | refine awp_ret ?_ | refine awp_exit ?_ | refine awp_skip ?_ | refine awp_scp ?_ | refine scpQ_normal ?_ | refine scpQ_ret ?_ | refine scpQ_exit ?_ | refine seqQ_normal ?_ | refine seqQ_ret ?_ | refine seqQ_exit ?_ | refine blockQ_normal ?_ | refine blockQ_ret ?_ | refine blockQ_same ?_ | refine blockQ_other (by decide) ?_ | refine loopQ_ret ?_ | refine loopQ_exit ?_ | refine arun_nil ?_ | refine arunA_nil ?_ | refine arunB_nil ?_ | refine drwQ_intro ?_ | refine deadQ_nil ?_
      | ((with_reducible refine awp_cond2 (t := ?_) ?hc (fun h => ?_) (fun h => ?_))
         case hc => rfl
         all_goals (try simp [go_sem, hp, encH] at h)
         all_goals try omega)
      | ((with_reducible first | refine arun_cons fun K hK => ?_ | refine arunA_cons fun K hK => ?_ | refine arunB_cons fun K hK => ?_ | refine awp_drw fun K hK => ?_ | refine deadQ_some fun K hK => ?_ | refine pruneQ_intro fun K hK => ?_)
         simp [go_sem, hp, encH]
         try simp (disch := omega) only [wrap_i64, okRefs, eq_self, true_and]
         first
           | refine hK _ ?_
           | refine hK _ _ ?_
           | (refine ⟨_, f35 H hl hh, ?_⟩; (first | refine hK _ ?_ | refine hK _ _ ?_ | refine ⟨by simp [go_sem, hp, encH], hK _ ?_⟩ | refine ⟨by simp [go_sem, hp, encH], hK _ _ ?_⟩ | refine ⟨by simp [go_sem, hp, encH], by simp [go_sem, hp, encH], hK _ _ ?_⟩))
           | (refine .inl ⟨_, f35 H hl hh, ?_⟩; (first | refine hK _ ?_ | refine hK _ _ ?_ | refine ⟨by simp [go_sem, hp, encH], hK _ ?_⟩ | refine ⟨by simp [go_sem, hp, encH], hK _ _ ?_⟩ | refine ⟨by simp [go_sem, hp, encH], by simp [go_sem, hp, encH], hK _ _ ?_⟩))
           | (refine .inr ⟨_, f35 H hl hh, ?_⟩; (first | refine hK _ ?_ | refine hK _ _ ?_ | refine ⟨by simp [go_sem, hp, encH], hK _ ?_⟩ | refine ⟨by simp [go_sem, hp, encH], hK _ _ ?_⟩ | refine ⟨by simp [go_sem, hp, encH], by simp [go_sem, hp, encH], hK _ _ ?_⟩))
           | (refine ⟨_, ⟨f35 H hl hh, by simp [go_sem, hp, encH]⟩, ?_⟩; (first | refine hK _ ?_ | refine hK _ _ ?_ | refine ⟨by simp [go_sem, hp, encH], hK _ ?_⟩ | refine ⟨by simp [go_sem, hp, encH], hK _ _ ?_⟩ | refine ⟨by simp [go_sem, hp, encH], by simp [go_sem, hp, encH], hK _ _ ?_⟩))
           | (refine ⟨_, fun _ => f35 H hl hh, ?_⟩; (first | refine hK _ ?_ | refine hK _ _ ?_ | refine ⟨by simp [go_sem, hp, encH], hK _ ?_⟩ | refine ⟨by simp [go_sem, hp, encH], hK _ _ ?_⟩ | refine ⟨by simp [go_sem, hp, encH], by simp [go_sem, hp, encH], hK _ _ ?_⟩))
           | (refine ⟨_, fun hc => ⟨hc, f35 H hl hh⟩, ?_⟩; (first | refine hK _ ?_ | refine hK _ _ ?_ | refine ⟨by simp [go_sem, hp, encH], hK _ ?_⟩ | refine ⟨by simp [go_sem, hp, encH], hK _ _ ?_⟩ | refine ⟨by simp [go_sem, hp, encH], by simp [go_sem, hp, encH], hK _ _ ?_⟩))
           | (refine ⟨_, fun hc => ⟨f35 H hl hh, by simp [go_sem, hp, encH]⟩, ?_⟩; (first | refine hK _ ?_ | refine hK _ _ ?_ | refine ⟨by simp [go_sem, hp, encH], hK _ ?_⟩ | refine ⟨by simp [go_sem, hp, encH], hK _ _ ?_⟩ | refine ⟨by simp [go_sem, hp, encH], by simp [go_sem, hp, encH], hK _ _ ?_⟩))
           | (refine ⟨_, fun hc => ⟨hc, f35 H hl hh, by simp [go_sem, hp, encH]⟩, ?_⟩; (first | refine hK _ ?_ | refine hK _ _ ?_ | refine ⟨by simp [go_sem, hp, encH], hK _ ?_⟩ | refine ⟨by simp [go_sem, hp, encH], hK _ _ ?_⟩ | refine ⟨by simp [go_sem, hp, encH], by simp [go_sem, hp, encH], hK _ _ ?_⟩))
           | refine ⟨.one (.one (.bool false)), by simp [go_sem, hp, encH], hK _ _ ?_⟩
           | refine ⟨by (first | (simp [appendOk, flatEls, hp, encH]; done) | (simp [appendOk, flatEls, hp, encH]; omega)), hK _ ?_⟩
           | refine ⟨hK _ ?_, fun h => hK _ ?_⟩
           | refine ⟨by omega, hK _ ?_⟩
           | refine ⟨by omega, hK _ _ ?_⟩
           | refine ⟨?_, hK _ ?_⟩
           | refine ⟨?_, hK _ _ ?_⟩
         all_goals clear hK K)
    simp [go_sem, merge, hp, mResult]
end Go.Av
