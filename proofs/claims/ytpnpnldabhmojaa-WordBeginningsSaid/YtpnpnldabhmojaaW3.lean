/- Part of a proof by symbolic walks on plain data. -/
import Derived.Test.YtpnpnldabhmojaaWB
set_option linter.unusedVariables false
set_option linter.unusedSimpArgs false
namespace Go.Av
open Go Go.RowKit Go.Proofs

def cmpI (a b : Int) : Int := if a < b then -1 else if b < a then 1 else 0

theorem f43 (a : Int) : Impl Try.prog 43 [.one (.int .i64 a)] (.one (.one (.bool false))) := by
  refine impl_intro Try.func43 b43 e43 r43 n43 Try.ntmps43 d43 (by simp) fun hs => ?_
  simp only [c43, slotsOf]
  repeat' first
    | with_reducible first | refine awp_seq ?_ | refine awp_reg ?_ | refine awp_block ?_ | refine awp_ret ?_ | refine awp_exit ?_ | refine awp_skip ?_ | refine awp_scp ?_ | refine scpQ_normal ?_ | refine scpQ_ret ?_ | refine scpQ_exit ?_ | refine seqQ_normal ?_ | refine seqQ_ret ?_ | refine seqQ_exit ?_ | refine blockQ_normal ?_ | refine blockQ_ret ?_ | refine blockQ_same ?_ | refine blockQ_other (by decide) ?_ | refine loopQ_ret ?_ | refine loopQ_exit ?_ | refine arun_nil ?_ | refine arunA_nil ?_ | refine arunB_nil ?_ | refine drwQ_intro ?_ | refine deadQ_nil ?_
    | ((with_reducible refine awp_cond2 (t := ?_) ?hc (fun h => ?_) (fun h => ?_))
       case hc => rfl
       all_goals (try simp [go_sem] at h)
       all_goals try omega)
    | ((with_reducible first | refine arun_cons fun K hK => ?_ | refine arunA_cons fun K hK => ?_ | refine arunB_cons fun K hK => ?_ | refine awp_drw fun K hK => ?_ | refine deadQ_some fun K hK => ?_ | refine pruneQ_intro fun K hK => ?_)
       simp [go_sem]
       try simp (disch := omega) only [wrap_i64, okRefs, eq_self, true_and]
       first
         | refine hK _ ?_
         | refine hK _ _ ?_
         | refine ⟨by (first | (simp [appendOk, flatEls]; done) | (simp [appendOk, flatEls]; omega)), hK _ ?_⟩
         | refine ⟨hK _ ?_, fun h => hK _ ?_⟩
         | refine ⟨by omega, hK _ ?_⟩
         | refine ⟨by omega, hK _ _ ?_⟩
         | refine ⟨?_, hK _ ?_⟩
         | refine ⟨?_, hK _ _ ?_⟩
       all_goals clear hK K)
  simp [go_sem]

theorem f39 (a b : Int) : Impl Try.prog 39 [.one (.int .i64 a), .one (.int .i64 b)] (.one (.one (.int .i64 (cmpI a b)))) := by
  refine impl_intro Try.func39 b39 e39 r39 n39 Try.ntmps39 d39 (by simp) fun hs => ?_
  clear hs
  simp only [c39, slotsOf]
  repeat' first
    | with_reducible first | refine awp_seq ?_ | refine awp_reg ?_ | refine awp_block ?_ | refine awp_ret ?_ | refine awp_exit ?_ | refine awp_skip ?_ | refine awp_scp ?_ | refine scpQ_normal ?_ | refine scpQ_ret ?_ | refine scpQ_exit ?_ | refine seqQ_normal ?_ | refine seqQ_ret ?_ | refine seqQ_exit ?_ | refine blockQ_normal ?_ | refine blockQ_ret ?_ | refine blockQ_same ?_ | refine blockQ_other (by decide) ?_ | refine loopQ_ret ?_ | refine loopQ_exit ?_ | refine arun_nil ?_ | refine arunA_nil ?_ | refine arunB_nil ?_ | refine drwQ_intro ?_ | refine deadQ_nil ?_
    | ((with_reducible refine awp_cond2 (t := ?_) ?hc (fun h => ?_) (fun h => ?_))
       case hc => rfl
       all_goals (try simp [go_sem] at h)
       all_goals try omega)
    | ((with_reducible first | refine arun_cons fun K hK => ?_ | refine arunA_cons fun K hK => ?_ | refine arunB_cons fun K hK => ?_ | refine awp_drw fun K hK => ?_ | refine deadQ_some fun K hK => ?_ | refine pruneQ_intro fun K hK => ?_)
       simp [go_sem]
       try simp (disch := omega) only [wrap_i64, okRefs, eq_self, true_and]
       first
         | refine hK _ ?_
         | refine hK _ _ ?_
         | (refine ⟨_, f43 _, ?_⟩; (first | refine hK _ ?_ | refine hK _ _ ?_ | refine ⟨by simp [go_sem], hK _ ?_⟩ | refine ⟨by simp [go_sem], hK _ _ ?_⟩ | refine ⟨by simp [go_sem], by simp [go_sem], hK _ _ ?_⟩))
         | (refine .inl ⟨_, f43 _, ?_⟩; (first | refine hK _ ?_ | refine hK _ _ ?_ | refine ⟨by simp [go_sem], hK _ ?_⟩ | refine ⟨by simp [go_sem], hK _ _ ?_⟩ | refine ⟨by simp [go_sem], by simp [go_sem], hK _ _ ?_⟩))
         | (refine .inr ⟨_, f43 _, ?_⟩; (first | refine hK _ ?_ | refine hK _ _ ?_ | refine ⟨by simp [go_sem], hK _ ?_⟩ | refine ⟨by simp [go_sem], hK _ _ ?_⟩ | refine ⟨by simp [go_sem], by simp [go_sem], hK _ _ ?_⟩))
         | (refine ⟨_, ⟨f43 _, by simp [go_sem]⟩, ?_⟩; (first | refine hK _ ?_ | refine hK _ _ ?_ | refine ⟨by simp [go_sem], hK _ ?_⟩ | refine ⟨by simp [go_sem], hK _ _ ?_⟩ | refine ⟨by simp [go_sem], by simp [go_sem], hK _ _ ?_⟩))
         | (refine ⟨_, fun _ => f43 _, ?_⟩; (first | refine hK _ ?_ | refine hK _ _ ?_ | refine ⟨by simp [go_sem], hK _ ?_⟩ | refine ⟨by simp [go_sem], hK _ _ ?_⟩ | refine ⟨by simp [go_sem], by simp [go_sem], hK _ _ ?_⟩))
         | (refine ⟨_, fun hc => ⟨hc, f43 _⟩, ?_⟩; (first | refine hK _ ?_ | refine hK _ _ ?_ | refine ⟨by simp [go_sem], hK _ ?_⟩ | refine ⟨by simp [go_sem], hK _ _ ?_⟩ | refine ⟨by simp [go_sem], by simp [go_sem], hK _ _ ?_⟩))
         | (refine ⟨_, fun hc => ⟨f43 _, by simp [go_sem]⟩, ?_⟩; (first | refine hK _ ?_ | refine hK _ _ ?_ | refine ⟨by simp [go_sem], hK _ ?_⟩ | refine ⟨by simp [go_sem], hK _ _ ?_⟩ | refine ⟨by simp [go_sem], by simp [go_sem], hK _ _ ?_⟩))
         | (refine ⟨_, fun hc => ⟨hc, f43 _, by simp [go_sem]⟩, ?_⟩; (first | refine hK _ ?_ | refine hK _ _ ?_ | refine ⟨by simp [go_sem], hK _ ?_⟩ | refine ⟨by simp [go_sem], hK _ _ ?_⟩ | refine ⟨by simp [go_sem], by simp [go_sem], hK _ _ ?_⟩))
         | refine ⟨.one (.one (.bool false)), by simp [go_sem], hK _ _ ?_⟩
         | refine ⟨by (first | (simp [appendOk, flatEls]; done) | (simp [appendOk, flatEls]; omega)), hK _ ?_⟩
         | refine ⟨hK _ ?_, fun h => hK _ ?_⟩
         | refine ⟨by omega, hK _ ?_⟩
         | refine ⟨by omega, hK _ _ ?_⟩
         | refine ⟨?_, hK _ ?_⟩
         | refine ⟨?_, hK _ _ ?_⟩
       all_goals clear hK K)
  all_goals
    simp [go_sem]
    unfold cmpI
    repeat' split
    all_goals omega


def cmpL : List Int → List Int → Int
  | [], [] => 0
  | [], _ :: _ => -1
  | _ :: _, [] => 1
  | x :: xs, y :: ys => if cmpI x y = 0 then cmpL xs ys else cmpI x y

theorem cmpL_drop {a b : List Int} {k : Nat} (ha : k < a.length) (hb : k < b.length) : cmpL (a.drop k) (b.drop k) = if cmpI a[k] b[k] = 0 then cmpL (a.drop (k + 1)) (b.drop (k + 1)) else cmpI a[k] b[k] := by
  rw [List.drop_eq_getElem_cons ha, List.drop_eq_getElem_cons hb, cmpL]
theorem cmpL_short {a b : List Int} {k : Nat} (ha : k < a.length) (hb : b.length ≤ k) : cmpL (a.drop k) (b.drop k) = 1 := by
  rw [List.drop_eq_getElem_cons ha, List.drop_eq_nil_of_le hb, cmpL]
theorem cmpL_end {a b : List Int} {k : Nat} (ha : a.length ≤ k) : cmpL (a.drop k) (b.drop k) = if k < b.length then -1 else 0 := by
  rw [List.drop_eq_nil_of_le ha]
  split
  · rename_i h; rw [List.drop_eq_getElem_cons h, cmpL]
  · rename_i h; rw [List.drop_eq_nil_of_le (by omega), cmpL]

theorem f42 (a b : List Int) (ha : a.length ≤ 1000000) (hb : b.length ≤ 1000000) : Impl Try.prog 42 [.one (.sl (a.map encN)), .one (.sl (b.map encN))] (.one (.one (.int .i64 (cmpL a b)))) := by
  refine impl_intro Try.func42 b42 e42 r42 n42 Try.ntmps42 d42 (by simp) fun hs => ?_
  clear hs
  simp only [c42, slotsOf]
  repeat' first
    | with_reducible first | refine awp_seq ?_ | refine awp_reg ?_ | refine awp_block ?_ | refine awp_ret ?_ | refine awp_exit ?_ | refine awp_skip ?_ | refine awp_scp ?_ | refine scpQ_normal ?_ | refine scpQ_ret ?_ | refine scpQ_exit ?_ | refine seqQ_normal ?_ | refine seqQ_ret ?_ | refine seqQ_exit ?_ | refine blockQ_normal ?_ | refine blockQ_ret ?_ | refine blockQ_same ?_ | refine blockQ_other (by decide) ?_ | refine loopQ_ret ?_ | refine loopQ_exit ?_ | refine arun_nil ?_ | refine arunA_nil ?_ | refine arunB_nil ?_ | refine drwQ_intro ?_ | refine deadQ_nil ?_
    | ((with_reducible refine awp_cond2 (t := ?_) ?hc (fun h => ?_) (fun h => ?_))
       case hc => rfl
       all_goals (try simp [go_sem] at h)
       all_goals try omega)
    | ((with_reducible first | refine arun_cons fun K hK => ?_ | refine arunA_cons fun K hK => ?_ | refine arunB_cons fun K hK => ?_ | refine awp_drw fun K hK => ?_ | refine deadQ_some fun K hK => ?_ | refine pruneQ_intro fun K hK => ?_)
       simp [go_sem]
       try simp (disch := omega) only [wrap_i64, okRefs, eq_self, true_and]
       first
         | refine hK _ ?_
         | refine hK _ _ ?_
         | refine ⟨by (first | (simp [appendOk, flatEls]; done) | (simp [appendOk, flatEls]; omega)), hK _ ?_⟩
         | refine ⟨hK _ ?_, fun h => hK _ ?_⟩
         | refine ⟨by omega, hK _ ?_⟩
         | refine ⟨by omega, hK _ _ ?_⟩
         | refine ⟨?_, hK _ ?_⟩
         | refine ⟨?_, hK _ _ ?_⟩
       all_goals clear hK K)
  refine awp_loop (fun n e => ∃ k, k + n = a.length ∧ k ≤ b.length ∧ cmpL a b = cmpL (a.drop k) (b.drop k) ∧ e = [(11, .sv (.one (.int .i64 (k : Nat)))), (10, .sv (.one (.int .i64 a.length))), (9, .sv (.one (.sl (a.map encN)))), (4, .sv (.one (.int .i64 0))), (0, .sv (.one (.sl (a.map encN)))), (1, .sv (.one (.sl (b.map encN))))]) a.length _ ⟨0, by simp, by simp, by simp, rfl⟩ (by simp [go_sem]) ?_
  rintro n e ⟨k, hk, hkb, hc, rfl⟩
  by_cases hlt : k < a.length
  · by_cases hlt' : k < b.length
    · skip
      repeat' first
        | with_reducible first | refine awp_seq ?_ | refine awp_reg ?_ | refine awp_block ?_ | refine awp_ret ?_ | refine awp_exit ?_ | refine awp_skip ?_ | refine awp_scp ?_ | refine scpQ_normal ?_ | refine scpQ_ret ?_ | refine scpQ_exit ?_ | refine seqQ_normal ?_ | refine seqQ_ret ?_ | refine seqQ_exit ?_ | refine blockQ_normal ?_ | refine blockQ_ret ?_ | refine blockQ_same ?_ | refine blockQ_other (by decide) ?_ | refine loopQ_ret ?_ | refine loopQ_exit ?_ | refine arun_nil ?_ | refine arunA_nil ?_ | refine arunB_nil ?_ | refine drwQ_intro ?_ | refine deadQ_nil ?_
        | ((with_reducible refine awp_cond2 (t := ?_) ?hc (fun h => ?_) (fun h => ?_))
           case hc => rfl
           all_goals (try simp [go_sem, hlt, hlt', encN] at h)
           all_goals try omega)
        | ((with_reducible first | refine arun_cons fun K hK => ?_ | refine arunA_cons fun K hK => ?_ | refine arunB_cons fun K hK => ?_ | refine awp_drw fun K hK => ?_ | refine deadQ_some fun K hK => ?_ | refine pruneQ_intro fun K hK => ?_)
           simp [go_sem, hlt, hlt', encN]
           try simp (disch := omega) only [wrap_i64, okRefs, eq_self, true_and]
           first
             | refine hK _ ?_
             | refine hK _ _ ?_
             | (refine ⟨_, f39 _ _, ?_⟩; (first | refine hK _ ?_ | refine hK _ _ ?_ | refine ⟨by simp [go_sem, hlt, hlt', encN], hK _ ?_⟩ | refine ⟨by simp [go_sem, hlt, hlt', encN], hK _ _ ?_⟩ | refine ⟨by simp [go_sem, hlt, hlt', encN], by simp [go_sem, hlt, hlt', encN], hK _ _ ?_⟩))
             | (refine .inl ⟨_, f39 _ _, ?_⟩; (first | refine hK _ ?_ | refine hK _ _ ?_ | refine ⟨by simp [go_sem, hlt, hlt', encN], hK _ ?_⟩ | refine ⟨by simp [go_sem, hlt, hlt', encN], hK _ _ ?_⟩ | refine ⟨by simp [go_sem, hlt, hlt', encN], by simp [go_sem, hlt, hlt', encN], hK _ _ ?_⟩))
             | (refine .inr ⟨_, f39 _ _, ?_⟩; (first | refine hK _ ?_ | refine hK _ _ ?_ | refine ⟨by simp [go_sem, hlt, hlt', encN], hK _ ?_⟩ | refine ⟨by simp [go_sem, hlt, hlt', encN], hK _ _ ?_⟩ | refine ⟨by simp [go_sem, hlt, hlt', encN], by simp [go_sem, hlt, hlt', encN], hK _ _ ?_⟩))
             | (refine ⟨_, ⟨f39 _ _, by simp [go_sem, hlt, hlt', encN]⟩, ?_⟩; (first | refine hK _ ?_ | refine hK _ _ ?_ | refine ⟨by simp [go_sem, hlt, hlt', encN], hK _ ?_⟩ | refine ⟨by simp [go_sem, hlt, hlt', encN], hK _ _ ?_⟩ | refine ⟨by simp [go_sem, hlt, hlt', encN], by simp [go_sem, hlt, hlt', encN], hK _ _ ?_⟩))
             | (refine ⟨_, fun _ => f39 _ _, ?_⟩; (first | refine hK _ ?_ | refine hK _ _ ?_ | refine ⟨by simp [go_sem, hlt, hlt', encN], hK _ ?_⟩ | refine ⟨by simp [go_sem, hlt, hlt', encN], hK _ _ ?_⟩ | refine ⟨by simp [go_sem, hlt, hlt', encN], by simp [go_sem, hlt, hlt', encN], hK _ _ ?_⟩))
             | (refine ⟨_, fun hc => ⟨hc, f39 _ _⟩, ?_⟩; (first | refine hK _ ?_ | refine hK _ _ ?_ | refine ⟨by simp [go_sem, hlt, hlt', encN], hK _ ?_⟩ | refine ⟨by simp [go_sem, hlt, hlt', encN], hK _ _ ?_⟩ | refine ⟨by simp [go_sem, hlt, hlt', encN], by simp [go_sem, hlt, hlt', encN], hK _ _ ?_⟩))
             | (refine ⟨_, fun hc => ⟨f39 _ _, by simp [go_sem, hlt, hlt', encN]⟩, ?_⟩; (first | refine hK _ ?_ | refine hK _ _ ?_ | refine ⟨by simp [go_sem, hlt, hlt', encN], hK _ ?_⟩ | refine ⟨by simp [go_sem, hlt, hlt', encN], hK _ _ ?_⟩ | refine ⟨by simp [go_sem, hlt, hlt', encN], by simp [go_sem, hlt, hlt', encN], hK _ _ ?_⟩))
             | (refine ⟨_, fun hc => ⟨hc, f39 _ _, by simp [go_sem, hlt, hlt', encN]⟩, ?_⟩; (first | refine hK _ ?_ | refine hK _ _ ?_ | refine ⟨by simp [go_sem, hlt, hlt', encN], hK _ ?_⟩ | refine ⟨by simp [go_sem, hlt, hlt', encN], hK _ _ ?_⟩ | refine ⟨by simp [go_sem, hlt, hlt', encN], by simp [go_sem, hlt, hlt', encN], hK _ _ ?_⟩))
             | refine ⟨.one (.one (.bool false)), by simp [go_sem, hlt, hlt', encN], hK _ _ ?_⟩
             | refine ⟨by (first | (simp [appendOk, flatEls, hlt, hlt', encN]; done) | (simp [appendOk, flatEls, hlt, hlt', encN]; omega)), hK _ ?_⟩
             | refine ⟨hK _ ?_, fun h => hK _ ?_⟩
             | refine ⟨by omega, hK _ ?_⟩
             | refine ⟨by omega, hK _ _ ?_⟩
             | refine ⟨?_, hK _ ?_⟩
             | refine ⟨?_, hK _ _ ?_⟩
           all_goals clear hK K)
      · rw [hc, cmpL_drop hlt hlt', if_neg h]
        simp [go_sem]
      · refine loopQ_normal (n - 1) _ (by omega) ⟨k + 1, by omega, by omega, ?_, rfl⟩ ?_
        · rw [hc, cmpL_drop hlt hlt', if_pos h]
        · simp [go_sem, encN]
    · have : k = b.length := by omega
      subst this
      repeat' first
        | with_reducible first | refine awp_seq ?_ | refine awp_reg ?_ | refine awp_block ?_ | refine awp_ret ?_ | refine awp_exit ?_ | refine awp_skip ?_ | refine awp_scp ?_ | refine scpQ_normal ?_ | refine scpQ_ret ?_ | refine scpQ_exit ?_ | refine seqQ_normal ?_ | refine seqQ_ret ?_ | refine seqQ_exit ?_ | refine blockQ_normal ?_ | refine blockQ_ret ?_ | refine blockQ_same ?_ | refine blockQ_other (by decide) ?_ | refine loopQ_ret ?_ | refine loopQ_exit ?_ | refine arun_nil ?_ | refine arunA_nil ?_ | refine arunB_nil ?_ | refine drwQ_intro ?_ | refine deadQ_nil ?_
        | ((with_reducible refine awp_cond2 (t := ?_) ?hc (fun h => ?_) (fun h => ?_))
           case hc => rfl
           all_goals (try simp [go_sem, hlt, encN] at h)
           all_goals try omega)
        | ((with_reducible first | refine arun_cons fun K hK => ?_ | refine arunA_cons fun K hK => ?_ | refine arunB_cons fun K hK => ?_ | refine awp_drw fun K hK => ?_ | refine deadQ_some fun K hK => ?_ | refine pruneQ_intro fun K hK => ?_)
           simp [go_sem, hlt, encN]
           try simp (disch := omega) only [wrap_i64, okRefs, eq_self, true_and]
           first
             | refine hK _ ?_
             | refine hK _ _ ?_
             | refine ⟨by (first | (simp [appendOk, flatEls, hlt, encN]; done) | (simp [appendOk, flatEls, hlt, encN]; omega)), hK _ ?_⟩
             | refine ⟨hK _ ?_, fun h => hK _ ?_⟩
             | refine ⟨by omega, hK _ ?_⟩
             | refine ⟨by omega, hK _ _ ?_⟩
             | refine ⟨?_, hK _ ?_⟩
             | refine ⟨?_, hK _ _ ?_⟩
           all_goals clear hK K)
      · rw [hc, cmpL_short hlt (by omega)]
        simp [go_sem]
  · have hka : k = a.length := by omega
    subst hka
    repeat' first
      | with_reducible first | refine awp_seq ?_ | refine awp_reg ?_ | refine awp_block ?_ | refine awp_ret ?_ | refine awp_exit ?_ | refine awp_skip ?_ | refine awp_scp ?_ | refine scpQ_normal ?_ | refine scpQ_ret ?_ | refine scpQ_exit ?_ | refine seqQ_normal ?_ | refine seqQ_ret ?_ | refine seqQ_exit ?_ | refine blockQ_normal ?_ | refine blockQ_ret ?_ | refine blockQ_same ?_ | refine blockQ_other (by decide) ?_ | refine loopQ_ret ?_ | refine loopQ_exit ?_ | refine arun_nil ?_ | refine arunA_nil ?_ | refine arunB_nil ?_ | refine drwQ_intro ?_ | refine deadQ_nil ?_
      | ((with_reducible refine awp_cond2 (t := ?_) ?hc (fun h => ?_) (fun h => ?_))
         case hc => rfl
         all_goals (try simp [go_sem] at h)
         all_goals try omega)
      | ((with_reducible first | refine arun_cons fun K hK => ?_ | refine arunA_cons fun K hK => ?_ | refine arunB_cons fun K hK => ?_ | refine awp_drw fun K hK => ?_ | refine deadQ_some fun K hK => ?_ | refine pruneQ_intro fun K hK => ?_)
         simp [go_sem]
         try simp (disch := omega) only [wrap_i64, okRefs, eq_self, true_and]
         first
           | refine hK _ ?_
           | refine hK _ _ ?_
           | refine ⟨by (first | (simp [appendOk, flatEls]; done) | (simp [appendOk, flatEls]; omega)), hK _ ?_⟩
           | refine ⟨hK _ ?_, fun h => hK _ ?_⟩
           | refine ⟨by omega, hK _ ?_⟩
           | refine ⟨by omega, hK _ _ ?_⟩
           | refine ⟨?_, hK _ ?_⟩
           | refine ⟨?_, hK _ _ ?_⟩
         all_goals clear hK K)
    · rw [hc, cmpL_end (by omega), if_pos (by omega)]
      simp [go_sem]
    · rw [hc, cmpL_end (by omega), if_neg (by omega)]
      simp [go_sem]

def key (x : Inter) : List Int := [x.from_, x.to, x.label]

theorem f33 (a b : Inter) : Impl Try.prog 33 [.ag (encI a), .ag (encI b)] (.one (.one (.int .i64 (cmpL (key a) (key b))))) := by
  refine impl_intro Try.func33 b33 e33 r33 n33 Try.ntmps33 d33 (by simp) fun hs => ?_
  clear hs
  simp only [c33, slotsOf, encI]
  repeat' first
    | with_reducible first | refine awp_seq ?_ | refine awp_reg ?_ | refine awp_block ?_ | refine awp_ret ?_ | refine awp_exit ?_ | refine awp_skip ?_ | refine awp_scp ?_ | refine scpQ_normal ?_ | refine scpQ_ret ?_ | refine scpQ_exit ?_ | refine seqQ_normal ?_ | refine seqQ_ret ?_ | refine seqQ_exit ?_ | refine blockQ_normal ?_ | refine blockQ_ret ?_ | refine blockQ_same ?_ | refine blockQ_other (by decide) ?_ | refine loopQ_ret ?_ | refine loopQ_exit ?_ | refine arun_nil ?_ | refine arunA_nil ?_ | refine arunB_nil ?_ | refine drwQ_intro ?_ | refine deadQ_nil ?_
    | ((with_reducible refine awp_cond2 (t := ?_) ?hc (fun h => ?_) (fun h => ?_))
       case hc => rfl
       all_goals (try simp [go_sem] at h)
       all_goals try omega)
    | ((with_reducible first | refine arun_cons fun K hK => ?_ | refine arunA_cons fun K hK => ?_ | refine arunB_cons fun K hK => ?_ | refine awp_drw fun K hK => ?_ | refine deadQ_some fun K hK => ?_ | refine pruneQ_intro fun K hK => ?_)
       simp [go_sem]
       try simp (disch := omega) only [wrap_i64, okRefs, eq_self, true_and]
       first
         | refine hK _ ?_
         | refine hK _ _ ?_
         | (refine ⟨_, f42 (key a) (key b) (by simp [key]) (by simp [key]), ?_⟩; (first | refine hK _ ?_ | refine hK _ _ ?_ | refine ⟨by simp [go_sem], hK _ ?_⟩ | refine ⟨by simp [go_sem], hK _ _ ?_⟩ | refine ⟨by simp [go_sem], by simp [go_sem], hK _ _ ?_⟩))
         | (refine .inl ⟨_, f42 (key a) (key b) (by simp [key]) (by simp [key]), ?_⟩; (first | refine hK _ ?_ | refine hK _ _ ?_ | refine ⟨by simp [go_sem], hK _ ?_⟩ | refine ⟨by simp [go_sem], hK _ _ ?_⟩ | refine ⟨by simp [go_sem], by simp [go_sem], hK _ _ ?_⟩))
         | (refine .inr ⟨_, f42 (key a) (key b) (by simp [key]) (by simp [key]), ?_⟩; (first | refine hK _ ?_ | refine hK _ _ ?_ | refine ⟨by simp [go_sem], hK _ ?_⟩ | refine ⟨by simp [go_sem], hK _ _ ?_⟩ | refine ⟨by simp [go_sem], by simp [go_sem], hK _ _ ?_⟩))
         | (refine ⟨_, ⟨f42 (key a) (key b) (by simp [key]) (by simp [key]), by simp [go_sem]⟩, ?_⟩; (first | refine hK _ ?_ | refine hK _ _ ?_ | refine ⟨by simp [go_sem], hK _ ?_⟩ | refine ⟨by simp [go_sem], hK _ _ ?_⟩ | refine ⟨by simp [go_sem], by simp [go_sem], hK _ _ ?_⟩))
         | (refine ⟨_, fun _ => f42 (key a) (key b) (by simp [key]) (by simp [key]), ?_⟩; (first | refine hK _ ?_ | refine hK _ _ ?_ | refine ⟨by simp [go_sem], hK _ ?_⟩ | refine ⟨by simp [go_sem], hK _ _ ?_⟩ | refine ⟨by simp [go_sem], by simp [go_sem], hK _ _ ?_⟩))
         | (refine ⟨_, fun hc => ⟨hc, f42 (key a) (key b) (by simp [key]) (by simp [key])⟩, ?_⟩; (first | refine hK _ ?_ | refine hK _ _ ?_ | refine ⟨by simp [go_sem], hK _ ?_⟩ | refine ⟨by simp [go_sem], hK _ _ ?_⟩ | refine ⟨by simp [go_sem], by simp [go_sem], hK _ _ ?_⟩))
         | (refine ⟨_, fun hc => ⟨f42 (key a) (key b) (by simp [key]) (by simp [key]), by simp [go_sem]⟩, ?_⟩; (first | refine hK _ ?_ | refine hK _ _ ?_ | refine ⟨by simp [go_sem], hK _ ?_⟩ | refine ⟨by simp [go_sem], hK _ _ ?_⟩ | refine ⟨by simp [go_sem], by simp [go_sem], hK _ _ ?_⟩))
         | (refine ⟨_, fun hc => ⟨hc, f42 (key a) (key b) (by simp [key]) (by simp [key]), by simp [go_sem]⟩, ?_⟩; (first | refine hK _ ?_ | refine hK _ _ ?_ | refine ⟨by simp [go_sem], hK _ ?_⟩ | refine ⟨by simp [go_sem], hK _ _ ?_⟩ | refine ⟨by simp [go_sem], by simp [go_sem], hK _ _ ?_⟩))
         | refine ⟨.one (.one (.bool false)), by simp [go_sem], hK _ _ ?_⟩
         | refine ⟨by (first | (simp [appendOk, flatEls]; done) | (simp [appendOk, flatEls]; omega)), hK _ ?_⟩
         | refine ⟨hK _ ?_, fun h => hK _ ?_⟩
         | refine ⟨by omega, hK _ ?_⟩
         | refine ⟨by omega, hK _ _ ?_⟩
         | refine ⟨?_, hK _ ?_⟩
         | refine ⟨?_, hK _ _ ?_⟩
       all_goals clear hK K)
  simp [go_sem]
end Go.Av
