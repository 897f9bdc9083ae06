/- Part of a proof by symbolic walks on plain data. -/
import Derived.Test.YtpnpnldabhmojaaCW9
import Derived.Test.YtpnpnldabhmojaaWN
import Derived.Test.YtpnpnldabhmojaaW4
set_option linter.unusedVariables false
set_option linter.unusedSimpArgs false
namespace Go.Av
open Go Go.RowKit Go.Proofs

theorem freeAt_some' {l : List Inter} {i : Nat} (h : i < l.length) : freeAt l i = (l.take i).all (fun y => indep y l[i]) := by
  unfold freeAt
  rw [List.getElem?_eq_getElem h]
  simp only
  congr 1
  funext y
  exact indep_comm _ _

theorem bestStep_eq' {l : List Inter} {b i : Nat} (hi : i < l.length) (hb : b < l.length) : bestStep l b i = if (l.take i).all (fun y => indep y l[i]) && less l[i] l[b] then i else b := by
  unfold bestStep
  rw [List.getElem?_eq_getElem hi, List.getElem?_eq_getElem hb]
  simp only [freeAt_some' hi, lt_less]

theorem bestTo_one {l : List Inter} (hl : 0 < l.length) : bestTo l 1 = 0 := by
  rw [bestTo_succ]
  have : bestTo l 0 = 0 := rfl
  rw [this, bestStep_eq' hl hl]
  have : less l[0] l[0] = false := by simp [less]
  simp [this]

theorem f18 (l : List Inter) (hl : l.length ≤ 1000000) : Impl Try.prog 18 [.one (.sl (l.map encI))] (.one (.one (.ow 3 ((normal l).map encI)))) := by
  refine impl_intro Try.func18 b18 e18 r18 n18 Try.ntmps18 d18 (by simp) fun hs => ?_
  clear hs
  simp only [c18, slotsOf]
  repeat' first
    | with_reducible first | refine awp_seq ?_ | refine awp_reg ?_ | refine awp_block ?_ | refine awp_ret ?_ | refine awp_exit ?_ | refine awp_skip ?_ | refine awp_scp ?_ | refine scpQ_normal ?_ | refine scpQ_ret ?_ | refine scpQ_exit ?_ | refine seqQ_normal ?_ | refine seqQ_ret ?_ | refine seqQ_exit ?_ | refine blockQ_normal ?_ | refine blockQ_ret ?_ | refine blockQ_same ?_ | refine blockQ_other (by decide) ?_ | refine loopQ_ret ?_ | refine loopQ_exit ?_ | refine arun_nil ?_ | refine arunA_nil ?_ | refine arunB_nil ?_ | refine drwQ_intro ?_ | refine deadQ_nil ?_
    | ((with_reducible refine awp_cond2 (t := ?_) ?hc (fun h => ?_) (fun h => ?_))
       case hc => rfl
       all_goals (try simp [go_sem, encI] at h)
       all_goals try omega)
    | ((with_reducible first | refine arun_cons fun K hK => ?_ | refine arunA_cons fun K hK => ?_ | refine arunB_cons fun K hK => ?_ | refine awp_drw fun K hK => ?_ | refine deadQ_some fun K hK => ?_ | refine pruneQ_intro fun K hK => ?_)
       simp [go_sem, encI]
       try simp (disch := omega) only [wrap_i64, okRefs, eq_self, true_and]
       first
         | refine hK _ ?_
         | refine hK _ _ ?_
         | refine ⟨by (first | (simp [appendOk, flatEls, encI, maxLen, DV.flat]; done) | (simp [appendOk, flatEls, encI, maxLen, DV.flat]; omega)), hK _ ?_⟩
         | refine ⟨hK _ ?_, fun h => hK _ ?_⟩
         | refine ⟨by omega, hK _ ?_⟩
         | refine ⟨by omega, hK _ _ ?_⟩
         | refine ⟨?_, hK _ ?_⟩
         | refine ⟨?_, hK _ _ ?_⟩
       all_goals clear hK K)
  refine awp_loop (fun n e => ∃ (rest out : List Inter), n = rest.length ∧ out.length + rest.length = l.length ∧ out ++ normal rest = normal l ∧ e = [(4, .sv (.one (.ow 3 (out.map encI)))), (3, .sv (.one (.ow 3 (rest.map encI))))]) l.length _ ⟨l, [], rfl, by simp, by simp, rfl⟩ (by simp [go_sem, encI]) ?_
  rintro n e ⟨rest, out, rfl, hlen, hout, rfl⟩
  by_cases hlt : 0 < rest.length
  · have hbl := bestTo_lt hlt
    repeat' first
      | with_reducible first | refine awp_seq ?_ | refine awp_reg ?_ | refine awp_block ?_ | refine awp_ret ?_ | refine awp_exit ?_ | refine awp_skip ?_ | refine awp_scp ?_ | refine scpQ_normal ?_ | refine scpQ_ret ?_ | refine scpQ_exit ?_ | refine seqQ_normal ?_ | refine seqQ_ret ?_ | refine seqQ_exit ?_ | refine blockQ_normal ?_ | refine blockQ_ret ?_ | refine blockQ_same ?_ | refine blockQ_other (by decide) ?_ | refine loopQ_ret ?_ | refine loopQ_exit ?_ | refine arun_nil ?_ | refine arunA_nil ?_ | refine arunB_nil ?_ | refine drwQ_intro ?_ | refine deadQ_nil ?_
      | ((with_reducible refine awp_cond2 (t := ?_) ?hc (fun h => ?_) (fun h => ?_))
         case hc => rfl
         all_goals (try simp [go_sem, hlt] at h)
         all_goals try omega)
      | ((with_reducible first | refine arun_cons fun K hK => ?_ | refine arunA_cons fun K hK => ?_ | refine arunB_cons fun K hK => ?_ | refine awp_drw fun K hK => ?_ | refine deadQ_some fun K hK => ?_ | refine pruneQ_intro fun K hK => ?_)
         simp [go_sem, hlt]
         try simp (disch := omega) only [wrap_i64, okRefs, eq_self, true_and]
         first
           | refine hK _ ?_
           | refine hK _ _ ?_
           | refine ⟨by (first | (simp [appendOk, flatEls, hlt]; done) | (simp [appendOk, flatEls, hlt]; omega)), hK _ ?_⟩
           | refine ⟨hK _ ?_, fun h => hK _ ?_⟩
           | refine ⟨by omega, hK _ ?_⟩
           | refine ⟨by omega, hK _ _ ?_⟩
           | refine ⟨?_, hK _ ?_⟩
           | refine ⟨?_, hK _ _ ?_⟩
         all_goals clear hK K)
    refine awp_loop (fun m e => ∃ (i : Nat) (bi : Int), i + m = rest.length ∧ ((i = 0 ∧ bi = -1) ∨ (0 < i ∧ bi = (bestTo rest i : Nat))) ∧ e = [(6, .sv (.one (.int .i64 (i : Nat)))), (5, .sv (.one (.int .i64 bi))), (4, .sv (.one (.ow 3 (out.map encI)))), (3, .sv (.one (.ow 3 (rest.map encI))))]) rest.length _ ⟨0, -1, by simp, by simp, rfl⟩ (by simp [go_sem]) ?_
    rintro m e ⟨i, bi, hi, hbi, rfl⟩
    by_cases hli : i < rest.length
    · skip
      repeat' first
        | with_reducible first | refine awp_seq ?_ | refine awp_reg ?_ | refine awp_block ?_ | refine awp_ret ?_ | refine awp_exit ?_ | refine awp_skip ?_ | refine awp_scp ?_ | refine scpQ_normal ?_ | refine scpQ_ret ?_ | refine scpQ_exit ?_ | refine seqQ_normal ?_ | refine seqQ_ret ?_ | refine seqQ_exit ?_ | refine blockQ_normal ?_ | refine blockQ_ret ?_ | refine blockQ_same ?_ | refine blockQ_other (by decide) ?_ | refine loopQ_ret ?_ | refine loopQ_exit ?_ | refine arun_nil ?_ | refine arunA_nil ?_ | refine arunB_nil ?_ | refine drwQ_intro ?_ | refine deadQ_nil ?_
        | ((with_reducible refine awp_cond2 (t := ?_) ?hc (fun h => ?_) (fun h => ?_))
           case hc => rfl
           all_goals (try simp [go_sem, hli, encI] at h)
           all_goals try omega)
        | ((with_reducible first | refine arun_cons fun K hK => ?_ | refine arunA_cons fun K hK => ?_ | refine arunB_cons fun K hK => ?_ | refine awp_drw fun K hK => ?_ | refine deadQ_some fun K hK => ?_ | refine pruneQ_intro fun K hK => ?_)
           simp [go_sem, hli, encI]
           try simp (disch := omega) only [wrap_i64, okRefs, eq_self, true_and]
           first
             | refine hK _ ?_
             | refine hK _ _ ?_
             | refine ⟨by (first | (simp [appendOk, flatEls, hli, encI]; done) | (simp [appendOk, flatEls, hli, encI]; omega)), hK _ ?_⟩
             | refine ⟨hK _ ?_, fun h => hK _ ?_⟩
             | refine ⟨by omega, hK _ ?_⟩
             | refine ⟨by omega, hK _ _ ?_⟩
             | refine ⟨?_, hK _ ?_⟩
             | refine ⟨?_, hK _ _ ?_⟩
           all_goals clear hK K)
      refine awp_loop (fun q e => ∃ j, j + q = i ∧ e = [(8, .sv (.one (.int .i64 (j : Nat)))), (7, .sv (.one (.bool ((rest.take j).all (fun y => indep y rest[i]))))), (6, .sv (.one (.int .i64 (i : Nat)))), (5, .sv (.one (.int .i64 bi))), (4, .sv (.one (.ow 3 (out.map encI)))), (3, .sv (.one (.ow 3 (rest.map encI))))]) i _ ⟨0, by simp, rfl⟩ (by simp [go_sem, encI]) ?_
      rintro q e ⟨j, hj, rfl⟩
      by_cases hlj : j < i
      · have hlj' : j < rest.length := by omega
        repeat' first
          | with_reducible first | refine awp_seq ?_ | refine awp_reg ?_ | refine awp_block ?_ | refine awp_ret ?_ | refine awp_exit ?_ | refine awp_skip ?_ | refine awp_scp ?_ | refine scpQ_normal ?_ | refine scpQ_ret ?_ | refine scpQ_exit ?_ | refine seqQ_normal ?_ | refine seqQ_ret ?_ | refine seqQ_exit ?_ | refine blockQ_normal ?_ | refine blockQ_ret ?_ | refine blockQ_same ?_ | refine blockQ_other (by decide) ?_ | refine loopQ_ret ?_ | refine loopQ_exit ?_ | refine arun_nil ?_ | refine arunA_nil ?_ | refine arunB_nil ?_ | refine drwQ_intro ?_ | refine deadQ_nil ?_
          | ((with_reducible refine awp_cond2 (t := ?_) ?hc (fun h => ?_) (fun h => ?_))
             case hc => rfl
             all_goals (try simp [go_sem, hlj, hlj', hli, encI] at h)
             all_goals try omega)
          | ((with_reducible first | refine arun_cons fun K hK => ?_ | refine arunA_cons fun K hK => ?_ | refine arunB_cons fun K hK => ?_ | refine awp_drw fun K hK => ?_ | refine deadQ_some fun K hK => ?_ | refine pruneQ_intro fun K hK => ?_)
             simp [go_sem, hlj, hlj', hli, encI]
             try simp (disch := omega) only [wrap_i64, okRefs, eq_self, true_and]
             first
               | refine hK _ ?_
               | refine hK _ _ ?_
               | (refine ⟨_, f21 _ _, ?_⟩; (first | refine hK _ ?_ | refine hK _ _ ?_ | refine ⟨by simp [go_sem, hlj, hlj', hli, encI], hK _ ?_⟩ | refine ⟨by simp [go_sem, hlj, hlj', hli, encI], hK _ _ ?_⟩ | refine ⟨by simp [go_sem, hlj, hlj', hli, encI], by simp [go_sem, hlj, hlj', hli, encI], hK _ _ ?_⟩))
               | (refine .inl ⟨_, f21 _ _, ?_⟩; (first | refine hK _ ?_ | refine hK _ _ ?_ | refine ⟨by simp [go_sem, hlj, hlj', hli, encI], hK _ ?_⟩ | refine ⟨by simp [go_sem, hlj, hlj', hli, encI], hK _ _ ?_⟩ | refine ⟨by simp [go_sem, hlj, hlj', hli, encI], by simp [go_sem, hlj, hlj', hli, encI], hK _ _ ?_⟩))
               | (refine .inr ⟨_, f21 _ _, ?_⟩; (first | refine hK _ ?_ | refine hK _ _ ?_ | refine ⟨by simp [go_sem, hlj, hlj', hli, encI], hK _ ?_⟩ | refine ⟨by simp [go_sem, hlj, hlj', hli, encI], hK _ _ ?_⟩ | refine ⟨by simp [go_sem, hlj, hlj', hli, encI], by simp [go_sem, hlj, hlj', hli, encI], hK _ _ ?_⟩))
               | (refine ⟨_, ⟨f21 _ _, by simp [go_sem, hlj, hlj', hli, encI]⟩, ?_⟩; (first | refine hK _ ?_ | refine hK _ _ ?_ | refine ⟨by simp [go_sem, hlj, hlj', hli, encI], hK _ ?_⟩ | refine ⟨by simp [go_sem, hlj, hlj', hli, encI], hK _ _ ?_⟩ | refine ⟨by simp [go_sem, hlj, hlj', hli, encI], by simp [go_sem, hlj, hlj', hli, encI], hK _ _ ?_⟩))
               | (refine ⟨_, fun _ => f21 _ _, ?_⟩; (first | refine hK _ ?_ | refine hK _ _ ?_ | refine ⟨by simp [go_sem, hlj, hlj', hli, encI], hK _ ?_⟩ | refine ⟨by simp [go_sem, hlj, hlj', hli, encI], hK _ _ ?_⟩ | refine ⟨by simp [go_sem, hlj, hlj', hli, encI], by simp [go_sem, hlj, hlj', hli, encI], hK _ _ ?_⟩))
               | (refine ⟨_, fun hc => ⟨hc, f21 _ _⟩, ?_⟩; (first | refine hK _ ?_ | refine hK _ _ ?_ | refine ⟨by simp [go_sem, hlj, hlj', hli, encI], hK _ ?_⟩ | refine ⟨by simp [go_sem, hlj, hlj', hli, encI], hK _ _ ?_⟩ | refine ⟨by simp [go_sem, hlj, hlj', hli, encI], by simp [go_sem, hlj, hlj', hli, encI], hK _ _ ?_⟩))
               | (refine ⟨_, fun hc => ⟨f21 _ _, by simp [go_sem, hlj, hlj', hli, encI]⟩, ?_⟩; (first | refine hK _ ?_ | refine hK _ _ ?_ | refine ⟨by simp [go_sem, hlj, hlj', hli, encI], hK _ ?_⟩ | refine ⟨by simp [go_sem, hlj, hlj', hli, encI], hK _ _ ?_⟩ | refine ⟨by simp [go_sem, hlj, hlj', hli, encI], by simp [go_sem, hlj, hlj', hli, encI], hK _ _ ?_⟩))
               | (refine ⟨_, fun hc => ⟨hc, f21 _ _, by simp [go_sem, hlj, hlj', hli, encI]⟩, ?_⟩; (first | refine hK _ ?_ | refine hK _ _ ?_ | refine ⟨by simp [go_sem, hlj, hlj', hli, encI], hK _ ?_⟩ | refine ⟨by simp [go_sem, hlj, hlj', hli, encI], hK _ _ ?_⟩ | refine ⟨by simp [go_sem, hlj, hlj', hli, encI], by simp [go_sem, hlj, hlj', hli, encI], hK _ _ ?_⟩))
               | refine ⟨.one (.one (.bool false)), by simp [go_sem, hlj, hlj', hli, encI], hK _ _ ?_⟩
               | refine ⟨by (first | (simp [appendOk, flatEls, hlj, hlj', hli, encI]; done) | (simp [appendOk, flatEls, hlj, hlj', hli, encI]; omega)), hK _ ?_⟩
               | refine ⟨hK _ ?_, fun h => hK _ ?_⟩
               | refine ⟨by omega, hK _ ?_⟩
               | refine ⟨by omega, hK _ _ ?_⟩
               | refine ⟨?_, hK _ ?_⟩
               | refine ⟨?_, hK _ _ ?_⟩
             all_goals clear hK K)
        refine loopQ_normal (q - 1) _ (by omega) ⟨j + 1, by omega, rfl⟩ ?_
        simp [go_sem, all_succ hlj', encI]
      · have hij : j = i := by omega
        subst hij
        rcases hbi with ⟨rfl, rfl⟩ | ⟨h0, rfl⟩
        · skip
          repeat' first
            | with_reducible first | refine awp_seq ?_ | refine awp_reg ?_ | refine awp_block ?_ | refine awp_ret ?_ | refine awp_exit ?_ | refine awp_skip ?_ | refine awp_scp ?_ | refine scpQ_normal ?_ | refine scpQ_ret ?_ | refine scpQ_exit ?_ | refine seqQ_normal ?_ | refine seqQ_ret ?_ | refine seqQ_exit ?_ | refine blockQ_normal ?_ | refine blockQ_ret ?_ | refine blockQ_same ?_ | refine blockQ_other (by decide) ?_ | refine loopQ_ret ?_ | refine loopQ_exit ?_ | refine arun_nil ?_ | refine arunA_nil ?_ | refine arunB_nil ?_ | refine drwQ_intro ?_ | refine deadQ_nil ?_
            | ((with_reducible refine awp_cond2 (t := ?_) ?hc (fun h => ?_) (fun h => ?_))
               case hc => rfl
               all_goals (try simp [go_sem, hlj, hlt, encI] at h)
               all_goals try omega)
            | ((with_reducible first | refine arun_cons fun K hK => ?_ | refine arunA_cons fun K hK => ?_ | refine arunB_cons fun K hK => ?_ | refine awp_drw fun K hK => ?_ | refine deadQ_some fun K hK => ?_ | refine pruneQ_intro fun K hK => ?_)
               simp [go_sem, hlj, hlt, encI]
               try simp (disch := omega) only [wrap_i64, okRefs, eq_self, true_and]
               first
                 | refine hK _ ?_
                 | refine hK _ _ ?_
                 | (refine ⟨_, f24 _ _, ?_⟩; (first | refine hK _ ?_ | refine hK _ _ ?_ | refine ⟨by simp [go_sem, hlj, hlt, encI], hK _ ?_⟩ | refine ⟨by simp [go_sem, hlj, hlt, encI], hK _ _ ?_⟩ | refine ⟨by simp [go_sem, hlj, hlt, encI], by simp [go_sem, hlj, hlt, encI], hK _ _ ?_⟩))
                 | (refine .inl ⟨_, f24 _ _, ?_⟩; (first | refine hK _ ?_ | refine hK _ _ ?_ | refine ⟨by simp [go_sem, hlj, hlt, encI], hK _ ?_⟩ | refine ⟨by simp [go_sem, hlj, hlt, encI], hK _ _ ?_⟩ | refine ⟨by simp [go_sem, hlj, hlt, encI], by simp [go_sem, hlj, hlt, encI], hK _ _ ?_⟩))
                 | (refine .inr ⟨_, f24 _ _, ?_⟩; (first | refine hK _ ?_ | refine hK _ _ ?_ | refine ⟨by simp [go_sem, hlj, hlt, encI], hK _ ?_⟩ | refine ⟨by simp [go_sem, hlj, hlt, encI], hK _ _ ?_⟩ | refine ⟨by simp [go_sem, hlj, hlt, encI], by simp [go_sem, hlj, hlt, encI], hK _ _ ?_⟩))
                 | (refine ⟨_, ⟨f24 _ _, by simp [go_sem, hlj, hlt, encI]⟩, ?_⟩; (first | refine hK _ ?_ | refine hK _ _ ?_ | refine ⟨by simp [go_sem, hlj, hlt, encI], hK _ ?_⟩ | refine ⟨by simp [go_sem, hlj, hlt, encI], hK _ _ ?_⟩ | refine ⟨by simp [go_sem, hlj, hlt, encI], by simp [go_sem, hlj, hlt, encI], hK _ _ ?_⟩))
                 | (refine ⟨_, fun _ => f24 _ _, ?_⟩; (first | refine hK _ ?_ | refine hK _ _ ?_ | refine ⟨by simp [go_sem, hlj, hlt, encI], hK _ ?_⟩ | refine ⟨by simp [go_sem, hlj, hlt, encI], hK _ _ ?_⟩ | refine ⟨by simp [go_sem, hlj, hlt, encI], by simp [go_sem, hlj, hlt, encI], hK _ _ ?_⟩))
                 | (refine ⟨_, fun hc => ⟨hc, f24 _ _⟩, ?_⟩; (first | refine hK _ ?_ | refine hK _ _ ?_ | refine ⟨by simp [go_sem, hlj, hlt, encI], hK _ ?_⟩ | refine ⟨by simp [go_sem, hlj, hlt, encI], hK _ _ ?_⟩ | refine ⟨by simp [go_sem, hlj, hlt, encI], by simp [go_sem, hlj, hlt, encI], hK _ _ ?_⟩))
                 | (refine ⟨_, fun hc => ⟨f24 _ _, by simp [go_sem, hlj, hlt, encI]⟩, ?_⟩; (first | refine hK _ ?_ | refine hK _ _ ?_ | refine ⟨by simp [go_sem, hlj, hlt, encI], hK _ ?_⟩ | refine ⟨by simp [go_sem, hlj, hlt, encI], hK _ _ ?_⟩ | refine ⟨by simp [go_sem, hlj, hlt, encI], by simp [go_sem, hlj, hlt, encI], hK _ _ ?_⟩))
                 | (refine ⟨_, fun hc => ⟨hc, f24 _ _, by simp [go_sem, hlj, hlt, encI]⟩, ?_⟩; (first | refine hK _ ?_ | refine hK _ _ ?_ | refine ⟨by simp [go_sem, hlj, hlt, encI], hK _ ?_⟩ | refine ⟨by simp [go_sem, hlj, hlt, encI], hK _ _ ?_⟩ | refine ⟨by simp [go_sem, hlj, hlt, encI], by simp [go_sem, hlj, hlt, encI], hK _ _ ?_⟩))
                 | refine ⟨.one (.one (.bool false)), by simp [go_sem, hlj, hlt, encI], hK _ _ ?_⟩
                 | refine ⟨by (first | (simp [appendOk, flatEls, hlj, hlt, encI]; done) | (simp [appendOk, flatEls, hlj, hlt, encI]; omega)), hK _ ?_⟩
                 | refine ⟨hK _ ?_, fun h => hK _ ?_⟩
                 | refine ⟨by omega, hK _ ?_⟩
                 | refine ⟨by omega, hK _ _ ?_⟩
                 | refine ⟨?_, hK _ ?_⟩
                 | refine ⟨?_, hK _ _ ?_⟩
               all_goals clear hK K)
          refine loopQ_normal (m - 1) _ (by omega) ⟨1, 0, by omega, .inr ⟨by omega, by rw [bestTo_one hlt]; rfl⟩, rfl⟩ ?_
          simp [go_sem]
        · have hb := hbl j
          repeat' first
            | with_reducible first | refine awp_seq ?_ | refine awp_reg ?_ | refine awp_block ?_ | refine awp_ret ?_ | refine awp_exit ?_ | refine awp_skip ?_ | refine awp_scp ?_ | refine scpQ_normal ?_ | refine scpQ_ret ?_ | refine scpQ_exit ?_ | refine seqQ_normal ?_ | refine seqQ_ret ?_ | refine seqQ_exit ?_ | refine blockQ_normal ?_ | refine blockQ_ret ?_ | refine blockQ_same ?_ | refine blockQ_other (by decide) ?_ | refine loopQ_ret ?_ | refine loopQ_exit ?_ | refine arun_nil ?_ | refine arunA_nil ?_ | refine arunB_nil ?_ | refine drwQ_intro ?_ | refine deadQ_nil ?_
            | ((with_reducible refine awp_cond2 (t := ?_) ?hc (fun h => ?_) (fun h => ?_))
               case hc => rfl
               all_goals (try simp [go_sem, hlj, hli, hb, encI] at h)
               all_goals try omega)
            | ((with_reducible first | refine arun_cons fun K hK => ?_ | refine arunA_cons fun K hK => ?_ | refine arunB_cons fun K hK => ?_ | refine awp_drw fun K hK => ?_ | refine deadQ_some fun K hK => ?_ | refine pruneQ_intro fun K hK => ?_)
               simp [go_sem, hlj, hli, hb, encI]
               try simp (disch := omega) only [wrap_i64, okRefs, eq_self, true_and]
               first
                 | refine hK _ ?_
                 | refine hK _ _ ?_
                 | (refine ⟨_, f24 _ _, ?_⟩; (first | refine hK _ ?_ | refine hK _ _ ?_ | refine ⟨by simp [go_sem, hlj, hli, hb, encI], hK _ ?_⟩ | refine ⟨by simp [go_sem, hlj, hli, hb, encI], hK _ _ ?_⟩ | refine ⟨by simp [go_sem, hlj, hli, hb, encI], by simp [go_sem, hlj, hli, hb, encI], hK _ _ ?_⟩))
                 | (refine .inl ⟨_, f24 _ _, ?_⟩; (first | refine hK _ ?_ | refine hK _ _ ?_ | refine ⟨by simp [go_sem, hlj, hli, hb, encI], hK _ ?_⟩ | refine ⟨by simp [go_sem, hlj, hli, hb, encI], hK _ _ ?_⟩ | refine ⟨by simp [go_sem, hlj, hli, hb, encI], by simp [go_sem, hlj, hli, hb, encI], hK _ _ ?_⟩))
                 | (refine .inr ⟨_, f24 _ _, ?_⟩; (first | refine hK _ ?_ | refine hK _ _ ?_ | refine ⟨by simp [go_sem, hlj, hli, hb, encI], hK _ ?_⟩ | refine ⟨by simp [go_sem, hlj, hli, hb, encI], hK _ _ ?_⟩ | refine ⟨by simp [go_sem, hlj, hli, hb, encI], by simp [go_sem, hlj, hli, hb, encI], hK _ _ ?_⟩))
                 | (refine ⟨_, ⟨f24 _ _, by simp [go_sem, hlj, hli, hb, encI]⟩, ?_⟩; (first | refine hK _ ?_ | refine hK _ _ ?_ | refine ⟨by simp [go_sem, hlj, hli, hb, encI], hK _ ?_⟩ | refine ⟨by simp [go_sem, hlj, hli, hb, encI], hK _ _ ?_⟩ | refine ⟨by simp [go_sem, hlj, hli, hb, encI], by simp [go_sem, hlj, hli, hb, encI], hK _ _ ?_⟩))
                 | (refine ⟨_, fun _ => f24 _ _, ?_⟩; (first | refine hK _ ?_ | refine hK _ _ ?_ | refine ⟨by simp [go_sem, hlj, hli, hb, encI], hK _ ?_⟩ | refine ⟨by simp [go_sem, hlj, hli, hb, encI], hK _ _ ?_⟩ | refine ⟨by simp [go_sem, hlj, hli, hb, encI], by simp [go_sem, hlj, hli, hb, encI], hK _ _ ?_⟩))
                 | (refine ⟨_, fun hc => ⟨hc, f24 _ _⟩, ?_⟩; (first | refine hK _ ?_ | refine hK _ _ ?_ | refine ⟨by simp [go_sem, hlj, hli, hb, encI], hK _ ?_⟩ | refine ⟨by simp [go_sem, hlj, hli, hb, encI], hK _ _ ?_⟩ | refine ⟨by simp [go_sem, hlj, hli, hb, encI], by simp [go_sem, hlj, hli, hb, encI], hK _ _ ?_⟩))
                 | (refine ⟨_, fun hc => ⟨f24 _ _, by simp [go_sem, hlj, hli, hb, encI]⟩, ?_⟩; (first | refine hK _ ?_ | refine hK _ _ ?_ | refine ⟨by simp [go_sem, hlj, hli, hb, encI], hK _ ?_⟩ | refine ⟨by simp [go_sem, hlj, hli, hb, encI], hK _ _ ?_⟩ | refine ⟨by simp [go_sem, hlj, hli, hb, encI], by simp [go_sem, hlj, hli, hb, encI], hK _ _ ?_⟩))
                 | (refine ⟨_, fun hc => ⟨hc, f24 _ _, by simp [go_sem, hlj, hli, hb, encI]⟩, ?_⟩; (first | refine hK _ ?_ | refine hK _ _ ?_ | refine ⟨by simp [go_sem, hlj, hli, hb, encI], hK _ ?_⟩ | refine ⟨by simp [go_sem, hlj, hli, hb, encI], hK _ _ ?_⟩ | refine ⟨by simp [go_sem, hlj, hli, hb, encI], by simp [go_sem, hlj, hli, hb, encI], hK _ _ ?_⟩))
                 | refine ⟨.one (.one (.bool false)), by simp [go_sem, hlj, hli, hb, encI], hK _ _ ?_⟩
                 | refine ⟨by (first | (simp [appendOk, flatEls, hlj, hli, hb, encI]; done) | (simp [appendOk, flatEls, hlj, hli, hb, encI]; omega)), hK _ ?_⟩
                 | refine ⟨hK _ ?_, fun h => hK _ ?_⟩
                 | refine ⟨by omega, hK _ ?_⟩
                 | refine ⟨by omega, hK _ _ ?_⟩
                 | refine ⟨?_, hK _ ?_⟩
                 | refine ⟨?_, hK _ _ ?_⟩
               all_goals clear hK K)
          · have hst : bestTo rest (j + 1) = j := by
              rw [bestTo_succ, bestStep_eq' hli hb]
              have h2 : less rest[j] rest[bestTo rest j] = true := by
                rcases h.2 with h2 | h2
                · omega
                · exact h2
              have h1 : (rest.take j).all (fun y => indep y rest[j]) = true := by rw [List.all_eq_true]; exact h.1
              rw [h1, h2]; rfl
            refine loopQ_normal (m - 1) _ (by omega) ⟨j + 1, j, by omega, .inr ⟨by omega, by rw [hst]⟩, rfl⟩ ?_
            simp [go_sem]
          · have hst : bestTo rest (j + 1) = bestTo rest j := by
              rw [bestTo_succ, bestStep_eq' hli hb]
              rw [if_neg]
              intro hc
              simp only [Bool.and_eq_true, List.all_eq_true] at hc
              simp_all
            refine loopQ_normal (m - 1) _ (by omega) ⟨j + 1, _, by omega, .inr ⟨by omega, by rw [hst]⟩, rfl⟩ ?_
            simp [go_sem]
    · have hie : i = rest.length := by omega
      subst hie
      rcases hbi with ⟨h0, _⟩ | ⟨_, rfl⟩
      · omega
      have hb := hbl rest.length
      repeat' first
        | with_reducible first | refine awp_seq ?_ | refine awp_reg ?_ | refine awp_block ?_ | refine awp_ret ?_ | refine awp_exit ?_ | refine awp_skip ?_ | refine awp_scp ?_ | refine scpQ_normal ?_ | refine scpQ_ret ?_ | refine scpQ_exit ?_ | refine seqQ_normal ?_ | refine seqQ_ret ?_ | refine seqQ_exit ?_ | refine blockQ_normal ?_ | refine blockQ_ret ?_ | refine blockQ_same ?_ | refine blockQ_other (by decide) ?_ | refine loopQ_ret ?_ | refine loopQ_exit ?_ | refine arun_nil ?_ | refine arunA_nil ?_ | refine arunB_nil ?_ | refine drwQ_intro ?_ | refine deadQ_nil ?_
        | ((with_reducible refine awp_cond2 (t := ?_) ?hc (fun h => ?_) (fun h => ?_))
           case hc => rfl
           all_goals (try simp [go_sem, hb, hlt, encI] at h)
           all_goals try omega)
        | ((with_reducible first | refine arun_cons fun K hK => ?_ | refine arunA_cons fun K hK => ?_ | refine arunB_cons fun K hK => ?_ | refine awp_drw fun K hK => ?_ | refine deadQ_some fun K hK => ?_ | refine pruneQ_intro fun K hK => ?_)
           simp [go_sem, hb, hlt, encI]
           try simp (disch := omega) only [wrap_i64, okRefs, eq_self, true_and]
           first
             | refine hK _ ?_
             | refine hK _ _ ?_
             | refine ⟨by (first | (simp [appendOk, flatEls, hb, hlt, encI, maxLen, DV.flat]; done) | (simp [appendOk, flatEls, hb, hlt, encI, maxLen, DV.flat]; omega)), hK _ ?_⟩
             | refine ⟨hK _ ?_, fun h => hK _ ?_⟩
             | refine ⟨by omega, hK _ ?_⟩
             | refine ⟨by omega, hK _ _ ?_⟩
             | refine ⟨?_, hK _ ?_⟩
             | refine ⟨?_, hK _ _ ?_⟩
           all_goals clear hK K)
      · refine okI_of (fun e he => ?_) (by simp; omega)
        obtain ⟨x, _, rfl⟩ := List.mem_map.1 (List.mem_of_mem_take he)
        exact ⟨x, rfl⟩
      · refine okI_of (fun e he => ?_) (by simp; omega)
        obtain ⟨x, _, rfl⟩ := List.mem_map.1 (List.mem_of_mem_drop (List.mem_of_mem_take he))
        exact ⟨x, rfl⟩
      · have hE : (rest.eraseIdx (bestTo rest rest.length)).length = rest.length - 1 := by rw [List.length_eraseIdx, if_pos hb]
        have hE2 : (rest.take (bestTo rest rest.length)).map encI ++ ((rest.drop (bestTo rest rest.length + 1)).take (rest.length - (bestTo rest rest.length + 1))).map encI = (rest.eraseIdx (bestTo rest rest.length)).map encI := by
          rw [eraseIdx_eq, List.map_append, List.take_of_length_le (l := rest.drop (bestTo rest rest.length + 1)) (by simp)]
        rw [← List.map_take, ← List.map_drop, ← List.map_take, hE2]
        refine loopQ_normal (rest.length - 1) _ (by omega) ⟨rest.eraseIdx (bestTo rest rest.length), out ++ [rest[bestTo rest rest.length]], hE.symm, by simp [hE]; omega, ?_, rfl⟩ ?_
        · rw [← hout, normal_cons (l := rest) hb]
          simp [best]
        · simp [go_sem, encI]
  · have : rest = [] := List.eq_nil_of_length_eq_zero (by omega)
    subst this
    repeat' first
      | with_reducible first | refine awp_seq ?_ | refine awp_reg ?_ | refine awp_block ?_ | refine awp_ret ?_ | refine awp_exit ?_ | refine awp_skip ?_ | refine awp_scp ?_ | refine scpQ_normal ?_ | refine scpQ_ret ?_ | refine scpQ_exit ?_ | refine seqQ_normal ?_ | refine seqQ_ret ?_ | refine seqQ_exit ?_ | refine blockQ_normal ?_ | refine blockQ_ret ?_ | refine blockQ_same ?_ | refine blockQ_other (by decide) ?_ | refine loopQ_ret ?_ | refine loopQ_exit ?_ | refine arun_nil ?_ | refine arunA_nil ?_ | refine arunB_nil ?_ | refine drwQ_intro ?_ | refine deadQ_nil ?_
      | ((with_reducible refine awp_cond2 (t := ?_) ?hc (fun h => ?_) (fun h => ?_))
         case hc => rfl
         all_goals (try simp [go_sem] at h)
         all_goals try omega)
      | ((with_reducible first | refine arun_cons fun K hK => ?_ | refine arunA_cons fun K hK => ?_ | refine arunB_cons fun K hK => ?_ | refine awp_drw fun K hK => ?_ | refine deadQ_some fun K hK => ?_ | refine pruneQ_intro fun K hK => ?_)
         simp [go_sem]
         try simp (disch := omega) only [wrap_i64, okRefs, eq_self, true_and]
         first
           | refine hK _ ?_
           | refine hK _ _ ?_
           | refine ⟨by (first | (simp [appendOk, flatEls]; done) | (simp [appendOk, flatEls]; omega)), hK _ ?_⟩
           | refine ⟨hK _ ?_, fun h => hK _ ?_⟩
           | refine ⟨by omega, hK _ ?_⟩
           | refine ⟨by omega, hK _ _ ?_⟩
           | refine ⟨?_, hK _ ?_⟩
           | refine ⟨?_, hK _ _ ?_⟩
         all_goals clear hK K)
    rw [← hout]
    simp [go_sem, normal_nil]
end Go.Av
