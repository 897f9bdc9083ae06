/- Part of a proof by symbolic walks on plain data. -/
import Derived.Test.YtpnpnldabhmojaaWN
import Derived.Test.YtpnpnldabhmojaaW4
import Derived.Test.YtpnpnldabhmojaaDL
set_option linter.unusedVariables false
set_option linter.unusedSimpArgs false
namespace Go.Av
open Go Go.RowKit Go.Proofs

theorem freeAt_some {l : List Inter} {i : Nat} (h : i < l.length) : freeAt l i = (l.take i).all (indep l[i]) := by
  unfold freeAt
  rw [List.getElem?_eq_getElem h]

theorem bestStep_eq {l : List Inter} {b i : Nat} (hi : i < l.length) (hb : b < l.length) : bestStep l b i = if (l.take i).all (indep l[i]) && lt l[i] l[b] then i else b := by
  unfold bestStep
  rw [List.getElem?_eq_getElem hi, List.getElem?_eq_getElem hb, freeAt_some hi]

theorem f17 (l : List Inter) (hl : l.length ≤ 1000000) : Impl Try.prog 17 [.one (.sl (l.map encI))] (.one (.one (.ow 3 ((normal l).map encI)))) := by
  refine impl_intro Try.func17 b17 e17 r17 n17 Try.ntmps17 d17 (by simp) fun hs => ?_
  clear hs
  simp only [c17, slotsOf]
  repeat' first
    | with_reducible first | refine awp_seq ?_ | refine awp_reg ?_ | refine awp_block ?_ | refine awp_ret ?_ | refine awp_exit ?_ | refine awp_skip ?_ | refine awp_scp ?_ | refine scpQ_normal ?_ | refine scpQ_ret ?_ | refine scpQ_exit ?_ | refine seqQ_normal ?_ | refine seqQ_ret ?_ | refine seqQ_exit ?_ | refine blockQ_normal ?_ | refine blockQ_ret ?_ | refine blockQ_same ?_ | refine blockQ_other (by decide) ?_ | refine loopQ_ret ?_ | refine loopQ_exit ?_ | refine arun_nil ?_ | refine arunA_nil ?_ | refine arunB_nil ?_ | refine drwQ_intro ?_ | refine deadQ_nil ?_
    | ((with_reducible refine awp_cond2 (t := ?_) ?hc (fun h => ?_) (fun h => ?_))
       case hc => rfl
       all_goals (try simp [go_sem] at h)
       all_goals try omega)
    | ((with_reducible first | refine arun_cons fun K hK => ?_ | refine arunA_cons fun K hK => ?_ | refine arunB_cons fun K hK => ?_ | refine awp_drw fun K hK => ?_ | refine deadQ_some fun K hK => ?_ | refine pruneQ_intro fun K hK => ?_)
       simp [go_sem]
       try simp (disch := omega) only [wrap_i64, okRefs, eq_self, true_and]
       first
         | refine hK _ ?_
         | refine hK _ _ ?_
         | (refine ⟨_, f32 l hl, ?_⟩; (first | refine hK _ ?_ | refine hK _ _ ?_ | refine ⟨by simp [go_sem], hK _ ?_⟩ | refine ⟨by simp [go_sem], hK _ _ ?_⟩ | refine ⟨by simp [go_sem], by simp [go_sem], hK _ _ ?_⟩))
         | (refine .inl ⟨_, f32 l hl, ?_⟩; (first | refine hK _ ?_ | refine hK _ _ ?_ | refine ⟨by simp [go_sem], hK _ ?_⟩ | refine ⟨by simp [go_sem], hK _ _ ?_⟩ | refine ⟨by simp [go_sem], by simp [go_sem], hK _ _ ?_⟩))
         | (refine .inr ⟨_, f32 l hl, ?_⟩; (first | refine hK _ ?_ | refine hK _ _ ?_ | refine ⟨by simp [go_sem], hK _ ?_⟩ | refine ⟨by simp [go_sem], hK _ _ ?_⟩ | refine ⟨by simp [go_sem], by simp [go_sem], hK _ _ ?_⟩))
         | (refine ⟨_, ⟨f32 l hl, by simp [go_sem]⟩, ?_⟩; (first | refine hK _ ?_ | refine hK _ _ ?_ | refine ⟨by simp [go_sem], hK _ ?_⟩ | refine ⟨by simp [go_sem], hK _ _ ?_⟩ | refine ⟨by simp [go_sem], by simp [go_sem], hK _ _ ?_⟩))
         | (refine ⟨_, fun _ => f32 l hl, ?_⟩; (first | refine hK _ ?_ | refine hK _ _ ?_ | refine ⟨by simp [go_sem], hK _ ?_⟩ | refine ⟨by simp [go_sem], hK _ _ ?_⟩ | refine ⟨by simp [go_sem], by simp [go_sem], hK _ _ ?_⟩))
         | (refine ⟨_, fun hc => ⟨hc, f32 l hl⟩, ?_⟩; (first | refine hK _ ?_ | refine hK _ _ ?_ | refine ⟨by simp [go_sem], hK _ ?_⟩ | refine ⟨by simp [go_sem], hK _ _ ?_⟩ | refine ⟨by simp [go_sem], by simp [go_sem], hK _ _ ?_⟩))
         | (refine ⟨_, fun hc => ⟨f32 l hl, by simp [go_sem]⟩, ?_⟩; (first | refine hK _ ?_ | refine hK _ _ ?_ | refine ⟨by simp [go_sem], hK _ ?_⟩ | refine ⟨by simp [go_sem], hK _ _ ?_⟩ | refine ⟨by simp [go_sem], by simp [go_sem], hK _ _ ?_⟩))
         | (refine ⟨_, fun hc => ⟨hc, f32 l hl, by simp [go_sem]⟩, ?_⟩; (first | refine hK _ ?_ | refine hK _ _ ?_ | refine ⟨by simp [go_sem], hK _ ?_⟩ | refine ⟨by simp [go_sem], hK _ _ ?_⟩ | refine ⟨by simp [go_sem], by simp [go_sem], hK _ _ ?_⟩))
         | refine ⟨.one (.one (.bool false)), by simp [go_sem], hK _ _ ?_⟩
         | refine ⟨by (first | (simp [appendOk, flatEls]; done) | (simp [appendOk, flatEls]; omega)), hK _ ?_⟩
         | refine ⟨hK _ ?_, fun h => hK _ ?_⟩
         | refine ⟨by omega, hK _ ?_⟩
         | refine ⟨by omega, hK _ _ ?_⟩
         | refine ⟨?_, hK _ ?_⟩
         | refine ⟨?_, hK _ _ ?_⟩
       all_goals clear hK K)
  refine awp_loop (fun n e => ∃ (rest out : List Inter), n = rest.length ∧ out.length + rest.length = l.length ∧ out ++ normal rest = normal l ∧ e = [(4, .sv (.one (.ow 3 (out.map encI)))), (3, .sv (.one (.ow 3 (rest.map encI))))]) _ _ ⟨l, [], rfl, by simp, by simp, rfl⟩ (by simp [go_sem]) ?_
  rintro n e ⟨rest, out, rfl, hlen, hout, rfl⟩
  by_cases hlt : 0 < rest.length
  · have hbl := bestTo_lt hlt
    repeat' first
      | with_reducible first | refine awp_seq ?_ | refine awp_reg ?_ | refine awp_block ?_ | refine awp_ret ?_ | refine awp_exit ?_ | refine awp_skip ?_ | refine awp_scp ?_ | refine scpQ_normal ?_ | refine scpQ_ret ?_ | refine scpQ_exit ?_ | refine seqQ_normal ?_ | refine seqQ_ret ?_ | refine seqQ_exit ?_ | refine blockQ_normal ?_ | refine blockQ_ret ?_ | refine blockQ_same ?_ | refine blockQ_other (by decide) ?_ | refine loopQ_ret ?_ | refine loopQ_exit ?_ | refine arun_nil ?_ | refine arunA_nil ?_ | refine arunB_nil ?_ | refine drwQ_intro ?_ | refine deadQ_nil ?_
      | ((with_reducible refine awp_cond2 (t := ?_) ?hc (fun h => ?_) (fun h => ?_))
         case hc => rfl
         all_goals (try simp [go_sem, hlt] at h)
         all_goals try omega)
      | ((with_reducible first | refine arun_cons fun K hK => ?_ | refine arunA_cons fun K hK => ?_ | refine arunB_cons fun K hK => ?_ | refine awp_drw fun K hK => ?_ | refine deadQ_some fun K hK => ?_ | refine pruneQ_intro fun K hK => ?_)
         simp [go_sem, hlt]
         try simp (disch := omega) only [wrap_i64, okRefs, eq_self, true_and]
         first
           | refine hK _ ?_
           | refine hK _ _ ?_
           | refine ⟨by (first | (simp [appendOk, flatEls, hlt]; done) | (simp [appendOk, flatEls, hlt]; omega)), hK _ ?_⟩
           | refine ⟨hK _ ?_, fun h => hK _ ?_⟩
           | refine ⟨by omega, hK _ ?_⟩
           | refine ⟨by omega, hK _ _ ?_⟩
           | refine ⟨?_, hK _ ?_⟩
           | refine ⟨?_, hK _ _ ?_⟩
         all_goals clear hK K)
    refine awp_loop (fun m e => ∃ i, i + m = rest.length ∧ e = [(17, .sv (.one (.int .i64 (i : Nat)))), (16, .sv (.one (.int .i64 rest.length))), (15, .al 3 []), (5, .sv (.one (.int .i64 (bestTo rest i : Nat)))), (4, .sv (.one (.ow 3 (out.map encI)))), (3, .sv (.one (.ow 3 (rest.map encI))))]) _ _ ⟨0, by simp; rfl, rfl⟩ (by simp [go_sem, bestTo]) ?_
    rintro m e ⟨i, hi, rfl⟩
    by_cases hli : i < rest.length
    · have hbi := hbl i
      repeat' first
        | with_reducible first | refine awp_seq ?_ | refine awp_reg ?_ | refine awp_block ?_ | refine awp_ret ?_ | refine awp_exit ?_ | refine awp_skip ?_ | refine awp_scp ?_ | refine scpQ_normal ?_ | refine scpQ_ret ?_ | refine scpQ_exit ?_ | refine seqQ_normal ?_ | refine seqQ_ret ?_ | refine seqQ_exit ?_ | refine blockQ_normal ?_ | refine blockQ_ret ?_ | refine blockQ_same ?_ | refine blockQ_other (by decide) ?_ | refine loopQ_ret ?_ | refine loopQ_exit ?_ | refine arun_nil ?_ | refine arunA_nil ?_ | refine arunB_nil ?_ | refine drwQ_intro ?_ | refine deadQ_nil ?_
        | ((with_reducible refine awp_cond2 (t := ?_) ?hc (fun h => ?_) (fun h => ?_))
           case hc => rfl
           all_goals (try simp [go_sem, hli, encI] at h)
           all_goals try omega)
        | ((with_reducible first | refine arun_cons fun K hK => ?_ | refine arunA_cons fun K hK => ?_ | refine arunB_cons fun K hK => ?_ | refine awp_drw fun K hK => ?_ | refine deadQ_some fun K hK => ?_ | refine pruneQ_intro fun K hK => ?_)
           simp [go_sem, hli, encI]
           try simp (disch := omega) only [wrap_i64, okRefs, eq_self, true_and]
           first
             | refine hK _ ?_
             | refine hK _ _ ?_
             | refine ⟨by (first | (simp [appendOk, flatEls, hli, encI]; done) | (simp [appendOk, flatEls, hli, encI]; omega)), hK _ ?_⟩
             | refine ⟨hK _ ?_, fun h => hK _ ?_⟩
             | refine ⟨by omega, hK _ ?_⟩
             | refine ⟨by omega, hK _ _ ?_⟩
             | refine ⟨?_, hK _ ?_⟩
             | refine ⟨?_, hK _ _ ?_⟩
           all_goals clear hK K)
      refine awp_loop (fun q e => ∃ j, j + q = i ∧ (rest.take j).all (indep rest[i]) = true ∧ e = [(26, .sv (.one (.int .i64 (j : Nat)))), (25, .sv (.one (.int .i64 i))), (24, .sub 3 [] 0 i), (7, .sv (.one (.bx (encI rest[i])))), (6, .sv (.one (.int .i64 i))), (17, .sv (.one (.int .i64 (i : Nat)))), (16, .sv (.one (.int .i64 rest.length))), (15, .al 3 []), (5, .sv (.one (.int .i64 (bestTo rest i : Nat)))), (4, .sv (.one (.ow 3 (out.map encI)))), (3, .sv (.one (.ow 3 (rest.map encI))))]) i _ ⟨0, by simp, by simp, rfl⟩ (by simp [go_sem, encI]; omega) ?_
      rintro q e ⟨j, hj, hfree, rfl⟩
      by_cases hlj : j < i
      · have hlj' : j < rest.length := by omega
        repeat' first
          | with_reducible first | refine awp_seq ?_ | refine awp_reg ?_ | refine awp_block ?_ | refine awp_ret ?_ | refine awp_exit ?_ | refine awp_skip ?_ | refine awp_scp ?_ | refine scpQ_normal ?_ | refine scpQ_ret ?_ | refine scpQ_exit ?_ | refine seqQ_normal ?_ | refine seqQ_ret ?_ | refine seqQ_exit ?_ | refine blockQ_normal ?_ | refine blockQ_ret ?_ | refine blockQ_same ?_ | refine blockQ_other (by decide) ?_ | refine loopQ_ret ?_ | refine loopQ_exit ?_ | refine arun_nil ?_ | refine arunA_nil ?_ | refine arunB_nil ?_ | refine drwQ_intro ?_ | refine deadQ_nil ?_
          | ((with_reducible refine awp_cond2 (t := ?_) ?hc (fun h => ?_) (fun h => ?_))
             case hc => rfl
             all_goals (try simp [go_sem, hlj, hlj', hli, encI] at h)
             all_goals try omega)
          | ((with_reducible first | refine arun_cons fun K hK => ?_ | refine arunA_cons fun K hK => ?_ | refine arunB_cons fun K hK => ?_ | refine awp_drw fun K hK => ?_ | refine deadQ_some fun K hK => ?_ | refine pruneQ_intro fun K hK => ?_)
             simp [go_sem, hlj, hlj', hli, encI]
             try simp (disch := omega) only [wrap_i64, okRefs, eq_self, true_and]
             first
               | refine hK _ ?_
               | refine hK _ _ ?_
               | (refine ⟨_, f20 _ _, ?_⟩; (first | refine hK _ ?_ | refine hK _ _ ?_ | refine ⟨by simp [go_sem, hlj, hlj', hli, encI], hK _ ?_⟩ | refine ⟨by simp [go_sem, hlj, hlj', hli, encI], hK _ _ ?_⟩ | refine ⟨by simp [go_sem, hlj, hlj', hli, encI], by simp [go_sem, hlj, hlj', hli, encI], hK _ _ ?_⟩))
               | (refine .inl ⟨_, f20 _ _, ?_⟩; (first | refine hK _ ?_ | refine hK _ _ ?_ | refine ⟨by simp [go_sem, hlj, hlj', hli, encI], hK _ ?_⟩ | refine ⟨by simp [go_sem, hlj, hlj', hli, encI], hK _ _ ?_⟩ | refine ⟨by simp [go_sem, hlj, hlj', hli, encI], by simp [go_sem, hlj, hlj', hli, encI], hK _ _ ?_⟩))
               | (refine .inr ⟨_, f20 _ _, ?_⟩; (first | refine hK _ ?_ | refine hK _ _ ?_ | refine ⟨by simp [go_sem, hlj, hlj', hli, encI], hK _ ?_⟩ | refine ⟨by simp [go_sem, hlj, hlj', hli, encI], hK _ _ ?_⟩ | refine ⟨by simp [go_sem, hlj, hlj', hli, encI], by simp [go_sem, hlj, hlj', hli, encI], hK _ _ ?_⟩))
               | (refine ⟨_, ⟨f20 _ _, by simp [go_sem, hlj, hlj', hli, encI]⟩, ?_⟩; (first | refine hK _ ?_ | refine hK _ _ ?_ | refine ⟨by simp [go_sem, hlj, hlj', hli, encI], hK _ ?_⟩ | refine ⟨by simp [go_sem, hlj, hlj', hli, encI], hK _ _ ?_⟩ | refine ⟨by simp [go_sem, hlj, hlj', hli, encI], by simp [go_sem, hlj, hlj', hli, encI], hK _ _ ?_⟩))
               | (refine ⟨_, fun _ => f20 _ _, ?_⟩; (first | refine hK _ ?_ | refine hK _ _ ?_ | refine ⟨by simp [go_sem, hlj, hlj', hli, encI], hK _ ?_⟩ | refine ⟨by simp [go_sem, hlj, hlj', hli, encI], hK _ _ ?_⟩ | refine ⟨by simp [go_sem, hlj, hlj', hli, encI], by simp [go_sem, hlj, hlj', hli, encI], hK _ _ ?_⟩))
               | (refine ⟨_, fun hc => ⟨hc, f20 _ _⟩, ?_⟩; (first | refine hK _ ?_ | refine hK _ _ ?_ | refine ⟨by simp [go_sem, hlj, hlj', hli, encI], hK _ ?_⟩ | refine ⟨by simp [go_sem, hlj, hlj', hli, encI], hK _ _ ?_⟩ | refine ⟨by simp [go_sem, hlj, hlj', hli, encI], by simp [go_sem, hlj, hlj', hli, encI], hK _ _ ?_⟩))
               | (refine ⟨_, fun hc => ⟨f20 _ _, by simp [go_sem, hlj, hlj', hli, encI]⟩, ?_⟩; (first | refine hK _ ?_ | refine hK _ _ ?_ | refine ⟨by simp [go_sem, hlj, hlj', hli, encI], hK _ ?_⟩ | refine ⟨by simp [go_sem, hlj, hlj', hli, encI], hK _ _ ?_⟩ | refine ⟨by simp [go_sem, hlj, hlj', hli, encI], by simp [go_sem, hlj, hlj', hli, encI], hK _ _ ?_⟩))
               | (refine ⟨_, fun hc => ⟨hc, f20 _ _, by simp [go_sem, hlj, hlj', hli, encI]⟩, ?_⟩; (first | refine hK _ ?_ | refine hK _ _ ?_ | refine ⟨by simp [go_sem, hlj, hlj', hli, encI], hK _ ?_⟩ | refine ⟨by simp [go_sem, hlj, hlj', hli, encI], hK _ _ ?_⟩ | refine ⟨by simp [go_sem, hlj, hlj', hli, encI], by simp [go_sem, hlj, hlj', hli, encI], hK _ _ ?_⟩))
               | refine ⟨.one (.one (.bool false)), by simp [go_sem, hlj, hlj', hli, encI], hK _ _ ?_⟩
               | refine ⟨by (first | (simp [appendOk, flatEls, hlj, hlj', hli, encI]; done) | (simp [appendOk, flatEls, hlj, hlj', hli, encI]; omega)), hK _ ?_⟩
               | refine ⟨hK _ ?_, fun h => hK _ ?_⟩
               | refine ⟨by omega, hK _ ?_⟩
               | refine ⟨by omega, hK _ _ ?_⟩
               | refine ⟨?_, hK _ ?_⟩
               | refine ⟨?_, hK _ _ ?_⟩
             all_goals clear hK K)
        · have hf : (rest.take i).all (indep rest[i]) = false := by
            rw [List.all_eq_false]
            refine ⟨rest[j], ?_, by simp [h]⟩
            rw [List.mem_iff_getElem]
            exact ⟨j, by simp; omega, by simp⟩
          have hst : bestStep rest (bestTo rest i) i = bestTo rest i := by rw [bestStep_eq hli hbi, hf]; rfl
          refine loopQ_normal (m - 1) _ (by omega) ⟨i + 1, by omega, rfl⟩ ?_
          simp [go_sem, bestTo_succ, hst]
        · refine loopQ_normal (q - 1) _ (by omega) ⟨j + 1, by omega, ?_, rfl⟩ ?_
          · rw [all_succ hlj', hfree, h]; rfl
          · simp [go_sem, encI]
      · have hij : j = i := by omega
        subst hij
        repeat' first
          | with_reducible first | refine awp_seq ?_ | refine awp_reg ?_ | refine awp_block ?_ | refine awp_ret ?_ | refine awp_exit ?_ | refine awp_skip ?_ | refine awp_scp ?_ | refine scpQ_normal ?_ | refine scpQ_ret ?_ | refine scpQ_exit ?_ | refine seqQ_normal ?_ | refine seqQ_ret ?_ | refine seqQ_exit ?_ | refine blockQ_normal ?_ | refine blockQ_ret ?_ | refine blockQ_same ?_ | refine blockQ_other (by decide) ?_ | refine loopQ_ret ?_ | refine loopQ_exit ?_ | refine arun_nil ?_ | refine arunA_nil ?_ | refine arunB_nil ?_ | refine drwQ_intro ?_ | refine deadQ_nil ?_
          | ((with_reducible refine awp_cond2 (t := ?_) ?hc (fun h => ?_) (fun h => ?_))
             case hc => rfl
             all_goals (try simp [go_sem, hlj, hli, hbi, encI] at h)
             all_goals try omega)
          | ((with_reducible first | refine arun_cons fun K hK => ?_ | refine arunA_cons fun K hK => ?_ | refine arunB_cons fun K hK => ?_ | refine awp_drw fun K hK => ?_ | refine deadQ_some fun K hK => ?_ | refine pruneQ_intro fun K hK => ?_)
             simp [go_sem, hlj, hli, hbi, encI]
             try simp (disch := omega) only [wrap_i64, okRefs, eq_self, true_and]
             first
               | refine hK _ ?_
               | refine hK _ _ ?_
               | (refine ⟨_, f33 _ _, ?_⟩; (first | refine hK _ ?_ | refine hK _ _ ?_ | refine ⟨by simp [go_sem, hlj, hli, hbi, encI], hK _ ?_⟩ | refine ⟨by simp [go_sem, hlj, hli, hbi, encI], hK _ _ ?_⟩ | refine ⟨by simp [go_sem, hlj, hli, hbi, encI], by simp [go_sem, hlj, hli, hbi, encI], hK _ _ ?_⟩))
               | (refine .inl ⟨_, f33 _ _, ?_⟩; (first | refine hK _ ?_ | refine hK _ _ ?_ | refine ⟨by simp [go_sem, hlj, hli, hbi, encI], hK _ ?_⟩ | refine ⟨by simp [go_sem, hlj, hli, hbi, encI], hK _ _ ?_⟩ | refine ⟨by simp [go_sem, hlj, hli, hbi, encI], by simp [go_sem, hlj, hli, hbi, encI], hK _ _ ?_⟩))
               | (refine .inr ⟨_, f33 _ _, ?_⟩; (first | refine hK _ ?_ | refine hK _ _ ?_ | refine ⟨by simp [go_sem, hlj, hli, hbi, encI], hK _ ?_⟩ | refine ⟨by simp [go_sem, hlj, hli, hbi, encI], hK _ _ ?_⟩ | refine ⟨by simp [go_sem, hlj, hli, hbi, encI], by simp [go_sem, hlj, hli, hbi, encI], hK _ _ ?_⟩))
               | (refine ⟨_, ⟨f33 _ _, by simp [go_sem, hlj, hli, hbi, encI]⟩, ?_⟩; (first | refine hK _ ?_ | refine hK _ _ ?_ | refine ⟨by simp [go_sem, hlj, hli, hbi, encI], hK _ ?_⟩ | refine ⟨by simp [go_sem, hlj, hli, hbi, encI], hK _ _ ?_⟩ | refine ⟨by simp [go_sem, hlj, hli, hbi, encI], by simp [go_sem, hlj, hli, hbi, encI], hK _ _ ?_⟩))
               | (refine ⟨_, fun _ => f33 _ _, ?_⟩; (first | refine hK _ ?_ | refine hK _ _ ?_ | refine ⟨by simp [go_sem, hlj, hli, hbi, encI], hK _ ?_⟩ | refine ⟨by simp [go_sem, hlj, hli, hbi, encI], hK _ _ ?_⟩ | refine ⟨by simp [go_sem, hlj, hli, hbi, encI], by simp [go_sem, hlj, hli, hbi, encI], hK _ _ ?_⟩))
               | (refine ⟨_, fun hc => ⟨hc, f33 _ _⟩, ?_⟩; (first | refine hK _ ?_ | refine hK _ _ ?_ | refine ⟨by simp [go_sem, hlj, hli, hbi, encI], hK _ ?_⟩ | refine ⟨by simp [go_sem, hlj, hli, hbi, encI], hK _ _ ?_⟩ | refine ⟨by simp [go_sem, hlj, hli, hbi, encI], by simp [go_sem, hlj, hli, hbi, encI], hK _ _ ?_⟩))
               | (refine ⟨_, fun hc => ⟨f33 _ _, by simp [go_sem, hlj, hli, hbi, encI]⟩, ?_⟩; (first | refine hK _ ?_ | refine hK _ _ ?_ | refine ⟨by simp [go_sem, hlj, hli, hbi, encI], hK _ ?_⟩ | refine ⟨by simp [go_sem, hlj, hli, hbi, encI], hK _ _ ?_⟩ | refine ⟨by simp [go_sem, hlj, hli, hbi, encI], by simp [go_sem, hlj, hli, hbi, encI], hK _ _ ?_⟩))
               | (refine ⟨_, fun hc => ⟨hc, f33 _ _, by simp [go_sem, hlj, hli, hbi, encI]⟩, ?_⟩; (first | refine hK _ ?_ | refine hK _ _ ?_ | refine ⟨by simp [go_sem, hlj, hli, hbi, encI], hK _ ?_⟩ | refine ⟨by simp [go_sem, hlj, hli, hbi, encI], hK _ _ ?_⟩ | refine ⟨by simp [go_sem, hlj, hli, hbi, encI], by simp [go_sem, hlj, hli, hbi, encI], hK _ _ ?_⟩))
               | refine ⟨.one (.one (.bool false)), by simp [go_sem, hlj, hli, hbi, encI], hK _ _ ?_⟩
               | refine ⟨by (first | (simp [appendOk, flatEls, hlj, hli, hbi, encI]; done) | (simp [appendOk, flatEls, hlj, hli, hbi, encI]; omega)), hK _ ?_⟩
               | refine ⟨hK _ ?_, fun h => hK _ ?_⟩
               | refine ⟨by omega, hK _ ?_⟩
               | refine ⟨by omega, hK _ _ ?_⟩
               | refine ⟨?_, hK _ ?_⟩
               | refine ⟨?_, hK _ _ ?_⟩
             all_goals clear hK K)
        · have hst : bestStep rest (bestTo rest j) j = j := by rw [bestStep_eq hli hbi, hfree]; simp [lt, h]
          refine loopQ_normal (m - 1) _ (by omega) ⟨j + 1, by omega, rfl⟩ ?_
          simp [go_sem, bestTo_succ, hst]
        · have hst : bestStep rest (bestTo rest j) j = bestTo rest j := by rw [bestStep_eq hli hbi, hfree]; simp [lt]; omega
          refine loopQ_normal (m - 1) _ (by omega) ⟨j + 1, by omega, rfl⟩ ?_
          simp [go_sem, bestTo_succ, hst]
    · have hie : i = rest.length := by omega
      subst hie
      have hb := hbl rest.length
      have hdel : ImplC Try.prog 34 (.ow 3 (rest.map encI)) [.one (.int .i64 (bestTo rest rest.length : Nat)), .one (.int .i64 ((bestTo rest rest.length : Nat) + 1))] (.ow 3 ((rest.eraseIdx (bestTo rest rest.length)).map encI)) := by
        have := f34 (rest.map encI) (bestTo rest rest.length) (bestTo rest rest.length + 1) (by simp [encI]) (by omega) (by simp; omega)
        rw [eraseIdx_eq, List.map_append, List.map_take, List.map_drop]
        exact this
      repeat' first
        | with_reducible first | refine awp_seq ?_ | refine awp_reg ?_ | refine awp_block ?_ | refine awp_ret ?_ | refine awp_exit ?_ | refine awp_skip ?_ | refine awp_scp ?_ | refine scpQ_normal ?_ | refine scpQ_ret ?_ | refine scpQ_exit ?_ | refine seqQ_normal ?_ | refine seqQ_ret ?_ | refine seqQ_exit ?_ | refine blockQ_normal ?_ | refine blockQ_ret ?_ | refine blockQ_same ?_ | refine blockQ_other (by decide) ?_ | refine loopQ_ret ?_ | refine loopQ_exit ?_ | refine arun_nil ?_ | refine arunA_nil ?_ | refine arunB_nil ?_ | refine drwQ_intro ?_ | refine deadQ_nil ?_
        | ((with_reducible refine awp_cond2 (t := ?_) ?hc (fun h => ?_) (fun h => ?_))
           case hc => rfl
           all_goals (try simp [go_sem, hb, encI] at h)
           all_goals try omega)
        | ((with_reducible first | refine arun_cons fun K hK => ?_ | refine arunA_cons fun K hK => ?_ | refine arunB_cons fun K hK => ?_ | refine awp_drw fun K hK => ?_ | refine deadQ_some fun K hK => ?_ | refine pruneQ_intro fun K hK => ?_)
           simp [go_sem, hb, encI]
           try simp (disch := omega) only [wrap_i64, okRefs, eq_self, true_and]
           first
             | refine hK _ ?_
             | refine hK _ _ ?_
             | (refine ⟨_, hdel, ?_⟩; (first | refine hK _ ?_ | refine hK _ _ ?_ | refine ⟨by simp [go_sem, hb, encI], hK _ ?_⟩ | refine ⟨by simp [go_sem, hb, encI], hK _ _ ?_⟩ | refine ⟨by simp [go_sem, hb, encI], by simp [go_sem, hb, encI], hK _ _ ?_⟩))
             | (refine .inl ⟨_, hdel, ?_⟩; (first | refine hK _ ?_ | refine hK _ _ ?_ | refine ⟨by simp [go_sem, hb, encI], hK _ ?_⟩ | refine ⟨by simp [go_sem, hb, encI], hK _ _ ?_⟩ | refine ⟨by simp [go_sem, hb, encI], by simp [go_sem, hb, encI], hK _ _ ?_⟩))
             | (refine .inr ⟨_, hdel, ?_⟩; (first | refine hK _ ?_ | refine hK _ _ ?_ | refine ⟨by simp [go_sem, hb, encI], hK _ ?_⟩ | refine ⟨by simp [go_sem, hb, encI], hK _ _ ?_⟩ | refine ⟨by simp [go_sem, hb, encI], by simp [go_sem, hb, encI], hK _ _ ?_⟩))
             | (refine ⟨_, ⟨hdel, by simp [go_sem, hb, encI]⟩, ?_⟩; (first | refine hK _ ?_ | refine hK _ _ ?_ | refine ⟨by simp [go_sem, hb, encI], hK _ ?_⟩ | refine ⟨by simp [go_sem, hb, encI], hK _ _ ?_⟩ | refine ⟨by simp [go_sem, hb, encI], by simp [go_sem, hb, encI], hK _ _ ?_⟩))
             | (refine ⟨_, fun _ => hdel, ?_⟩; (first | refine hK _ ?_ | refine hK _ _ ?_ | refine ⟨by simp [go_sem, hb, encI], hK _ ?_⟩ | refine ⟨by simp [go_sem, hb, encI], hK _ _ ?_⟩ | refine ⟨by simp [go_sem, hb, encI], by simp [go_sem, hb, encI], hK _ _ ?_⟩))
             | (refine ⟨_, fun hc => ⟨hc, hdel⟩, ?_⟩; (first | refine hK _ ?_ | refine hK _ _ ?_ | refine ⟨by simp [go_sem, hb, encI], hK _ ?_⟩ | refine ⟨by simp [go_sem, hb, encI], hK _ _ ?_⟩ | refine ⟨by simp [go_sem, hb, encI], by simp [go_sem, hb, encI], hK _ _ ?_⟩))
             | (refine ⟨_, fun hc => ⟨hdel, by simp [go_sem, hb, encI]⟩, ?_⟩; (first | refine hK _ ?_ | refine hK _ _ ?_ | refine ⟨by simp [go_sem, hb, encI], hK _ ?_⟩ | refine ⟨by simp [go_sem, hb, encI], hK _ _ ?_⟩ | refine ⟨by simp [go_sem, hb, encI], by simp [go_sem, hb, encI], hK _ _ ?_⟩))
             | (refine ⟨_, fun hc => ⟨hc, hdel, by simp [go_sem, hb, encI]⟩, ?_⟩; (first | refine hK _ ?_ | refine hK _ _ ?_ | refine ⟨by simp [go_sem, hb, encI], hK _ ?_⟩ | refine ⟨by simp [go_sem, hb, encI], hK _ _ ?_⟩ | refine ⟨by simp [go_sem, hb, encI], by simp [go_sem, hb, encI], hK _ _ ?_⟩))
             | refine ⟨.one (.one (.bool false)), by simp [go_sem, hb, encI], hK _ _ ?_⟩
             | refine ⟨by (first | (simp [appendOk, flatEls, hb, encI, maxLen, DV.flat]; done) | (simp [appendOk, flatEls, hb, encI, maxLen, DV.flat]; omega)), hK _ ?_⟩
             | refine ⟨hK _ ?_, fun h => hK _ ?_⟩
             | refine ⟨by omega, hK _ ?_⟩
             | refine ⟨by omega, hK _ _ ?_⟩
             | refine ⟨?_, hK _ ?_⟩
             | refine ⟨?_, hK _ _ ?_⟩
           all_goals clear hK K)
      have hE : (rest.eraseIdx (bestTo rest rest.length)).length = rest.length - 1 := by rw [List.length_eraseIdx, if_pos hb]
      refine loopQ_normal (rest.length - 1) _ (by omega) ⟨rest.eraseIdx (bestTo rest rest.length), out ++ [rest[bestTo rest rest.length]], hE.symm, by simp [hE]; omega, ?_, rfl⟩ ?_
      · rw [← hout, normal_cons (l := rest) hb]
        simp [best]
      · simp [go_sem, encI]

  · have : rest = [] := List.eq_nil_of_length_eq_zero (by omega)
    subst this
    repeat' first
      | with_reducible first | refine awp_seq ?_ | refine awp_reg ?_ | refine awp_block ?_ | refine awp_ret ?_ | refine awp_exit ?_ | refine awp_skip ?_ | refine awp_scp ?_ | refine scpQ_normal ?_ | refine scpQ_ret ?_ | refine scpQ_exit ?_ | refine seqQ_normal ?_ | refine seqQ_ret ?_ | refine seqQ_exit ?_ | refine blockQ_normal ?_ | refine blockQ_ret ?_ | refine blockQ_same ?_ | refine blockQ_other (by decide) ?_ | refine loopQ_ret ?_ | refine loopQ_exit ?_ | refine arun_nil ?_ | refine arunA_nil ?_ | refine arunB_nil ?_ | refine drwQ_intro ?_ | refine deadQ_nil ?_
      | ((with_reducible refine awp_cond2 (t := ?_) ?hc (fun h => ?_) (fun h => ?_))
         case hc => rfl
         all_goals (try simp [go_sem] at h)
         all_goals try omega)
      | ((with_reducible first | refine arun_cons fun K hK => ?_ | refine arunA_cons fun K hK => ?_ | refine arunB_cons fun K hK => ?_ | refine awp_drw fun K hK => ?_ | refine deadQ_some fun K hK => ?_ | refine pruneQ_intro fun K hK => ?_)
         simp [go_sem]
         try simp (disch := omega) only [wrap_i64, okRefs, eq_self, true_and]
         first
           | refine hK _ ?_
           | refine hK _ _ ?_
           | refine ⟨by (first | (simp [appendOk, flatEls]; done) | (simp [appendOk, flatEls]; omega)), hK _ ?_⟩
           | refine ⟨hK _ ?_, fun h => hK _ ?_⟩
           | refine ⟨by omega, hK _ ?_⟩
           | refine ⟨by omega, hK _ _ ?_⟩
           | refine ⟨?_, hK _ ?_⟩
           | refine ⟨?_, hK _ _ ?_⟩
         all_goals clear hK K)
    rw [← hout]
    simp [go_sem, normal_nil]
end Go.Av
