/- Part of a proof by symbolic walks on plain data. -/
import Derived.Test.YtpnpnldabhmojaaW8
import Derived.Test.YtpnpnldabhmojaaW10
import Derived.Test.YtpnpnldabhmojaaW5
set_option linter.unusedVariables false
set_option linter.unusedSimpArgs false
namespace Go.Av
open Go Go.RowKit Go.Proofs

theorem f14 (a b : List Inter) (ha : a.length ≤ 1000000) (hb : b.length ≤ 1000000) : Impl Try.prog 14 [.one (.sl (a.map encI)), .one (.sl (b.map encI))] (.one (.one (.bool (decide (normal a = normal b))))) := by
  refine impl_intro Try.func14 b14 e14 r14 n14 Try.ntmps14 d14 (by simp) fun hs => ?_
  clear hs
  have hna := normal_len _ a rfl
  have hnb := normal_len _ b rfl
  simp only [c14, slotsOf]
  repeat' first
    | with_reducible first | refine awp_seq ?_ | refine awp_reg ?_ | refine awp_block ?_ | refine awp_ret ?_ | refine awp_exit ?_ | refine awp_skip ?_ | refine awp_scp ?_ | refine scpQ_normal ?_ | refine scpQ_ret ?_ | refine scpQ_exit ?_ | refine seqQ_normal ?_ | refine seqQ_ret ?_ | refine seqQ_exit ?_ | refine blockQ_normal ?_ | refine blockQ_ret ?_ | refine blockQ_same ?_ | refine blockQ_other (by decide) ?_ | refine loopQ_ret ?_ | refine loopQ_exit ?_ | refine arun_nil ?_ | refine arunA_nil ?_ | refine arunB_nil ?_ | refine drwQ_intro ?_ | refine deadQ_nil ?_
    | ((with_reducible refine awp_cond2 (t := ?_) ?hc (fun h => ?_) (fun h => ?_))
       case hc => rfl
       all_goals (try simp [go_sem] at h)
       all_goals try omega)
    | ((with_reducible first | refine arun_cons fun K hK => ?_ | refine arunA_cons fun K hK => ?_ | refine arunB_cons fun K hK => ?_ | refine awp_drw fun K hK => ?_ | refine deadQ_some fun K hK => ?_ | refine pruneQ_intro fun K hK => ?_)
       simp [go_sem]
       try simp (disch := omega) only [wrap_i64, okRefs, eq_self, true_and]
       first
         | refine hK _ ?_
         | refine hK _ _ ?_
         | (refine ⟨_, f17 a ha, ?_⟩; (first | refine hK _ ?_ | refine hK _ _ ?_ | refine ⟨by simp [go_sem], hK _ ?_⟩ | refine ⟨by simp [go_sem], hK _ _ ?_⟩ | refine ⟨by simp [go_sem], by simp [go_sem], hK _ _ ?_⟩))
         | (refine .inl ⟨_, f17 a ha, ?_⟩; (first | refine hK _ ?_ | refine hK _ _ ?_ | refine ⟨by simp [go_sem], hK _ ?_⟩ | refine ⟨by simp [go_sem], hK _ _ ?_⟩ | refine ⟨by simp [go_sem], by simp [go_sem], hK _ _ ?_⟩))
         | (refine .inr ⟨_, f17 a ha, ?_⟩; (first | refine hK _ ?_ | refine hK _ _ ?_ | refine ⟨by simp [go_sem], hK _ ?_⟩ | refine ⟨by simp [go_sem], hK _ _ ?_⟩ | refine ⟨by simp [go_sem], by simp [go_sem], hK _ _ ?_⟩))
         | (refine ⟨_, ⟨f17 a ha, by simp [go_sem]⟩, ?_⟩; (first | refine hK _ ?_ | refine hK _ _ ?_ | refine ⟨by simp [go_sem], hK _ ?_⟩ | refine ⟨by simp [go_sem], hK _ _ ?_⟩ | refine ⟨by simp [go_sem], by simp [go_sem], hK _ _ ?_⟩))
         | (refine ⟨_, fun _ => f17 a ha, ?_⟩; (first | refine hK _ ?_ | refine hK _ _ ?_ | refine ⟨by simp [go_sem], hK _ ?_⟩ | refine ⟨by simp [go_sem], hK _ _ ?_⟩ | refine ⟨by simp [go_sem], by simp [go_sem], hK _ _ ?_⟩))
         | (refine ⟨_, fun hc => ⟨hc, f17 a ha⟩, ?_⟩; (first | refine hK _ ?_ | refine hK _ _ ?_ | refine ⟨by simp [go_sem], hK _ ?_⟩ | refine ⟨by simp [go_sem], hK _ _ ?_⟩ | refine ⟨by simp [go_sem], by simp [go_sem], hK _ _ ?_⟩))
         | (refine ⟨_, fun hc => ⟨f17 a ha, by simp [go_sem]⟩, ?_⟩; (first | refine hK _ ?_ | refine hK _ _ ?_ | refine ⟨by simp [go_sem], hK _ ?_⟩ | refine ⟨by simp [go_sem], hK _ _ ?_⟩ | refine ⟨by simp [go_sem], by simp [go_sem], hK _ _ ?_⟩))
         | (refine ⟨_, fun hc => ⟨hc, f17 a ha, by simp [go_sem]⟩, ?_⟩; (first | refine hK _ ?_ | refine hK _ _ ?_ | refine ⟨by simp [go_sem], hK _ ?_⟩ | refine ⟨by simp [go_sem], hK _ _ ?_⟩ | refine ⟨by simp [go_sem], by simp [go_sem], hK _ _ ?_⟩))
         | (refine ⟨_, f17 b hb, ?_⟩; (first | refine hK _ ?_ | refine hK _ _ ?_ | refine ⟨by simp [go_sem], hK _ ?_⟩ | refine ⟨by simp [go_sem], hK _ _ ?_⟩ | refine ⟨by simp [go_sem], by simp [go_sem], hK _ _ ?_⟩))
         | (refine .inl ⟨_, f17 b hb, ?_⟩; (first | refine hK _ ?_ | refine hK _ _ ?_ | refine ⟨by simp [go_sem], hK _ ?_⟩ | refine ⟨by simp [go_sem], hK _ _ ?_⟩ | refine ⟨by simp [go_sem], by simp [go_sem], hK _ _ ?_⟩))
         | (refine .inr ⟨_, f17 b hb, ?_⟩; (first | refine hK _ ?_ | refine hK _ _ ?_ | refine ⟨by simp [go_sem], hK _ ?_⟩ | refine ⟨by simp [go_sem], hK _ _ ?_⟩ | refine ⟨by simp [go_sem], by simp [go_sem], hK _ _ ?_⟩))
         | (refine ⟨_, ⟨f17 b hb, by simp [go_sem]⟩, ?_⟩; (first | refine hK _ ?_ | refine hK _ _ ?_ | refine ⟨by simp [go_sem], hK _ ?_⟩ | refine ⟨by simp [go_sem], hK _ _ ?_⟩ | refine ⟨by simp [go_sem], by simp [go_sem], hK _ _ ?_⟩))
         | (refine ⟨_, fun _ => f17 b hb, ?_⟩; (first | refine hK _ ?_ | refine hK _ _ ?_ | refine ⟨by simp [go_sem], hK _ ?_⟩ | refine ⟨by simp [go_sem], hK _ _ ?_⟩ | refine ⟨by simp [go_sem], by simp [go_sem], hK _ _ ?_⟩))
         | (refine ⟨_, fun hc => ⟨hc, f17 b hb⟩, ?_⟩; (first | refine hK _ ?_ | refine hK _ _ ?_ | refine ⟨by simp [go_sem], hK _ ?_⟩ | refine ⟨by simp [go_sem], hK _ _ ?_⟩ | refine ⟨by simp [go_sem], by simp [go_sem], hK _ _ ?_⟩))
         | (refine ⟨_, fun hc => ⟨f17 b hb, by simp [go_sem]⟩, ?_⟩; (first | refine hK _ ?_ | refine hK _ _ ?_ | refine ⟨by simp [go_sem], hK _ ?_⟩ | refine ⟨by simp [go_sem], hK _ _ ?_⟩ | refine ⟨by simp [go_sem], by simp [go_sem], hK _ _ ?_⟩))
         | (refine ⟨_, fun hc => ⟨hc, f17 b hb, by simp [go_sem]⟩, ?_⟩; (first | refine hK _ ?_ | refine hK _ _ ?_ | refine ⟨by simp [go_sem], hK _ ?_⟩ | refine ⟨by simp [go_sem], hK _ _ ?_⟩ | refine ⟨by simp [go_sem], by simp [go_sem], hK _ _ ?_⟩))
         | (refine ⟨_, f31 (normal a) (normal b) (by omega) (by omega), ?_⟩; (first | refine hK _ ?_ | refine hK _ _ ?_ | refine ⟨by simp [go_sem], hK _ ?_⟩ | refine ⟨by simp [go_sem], hK _ _ ?_⟩ | refine ⟨by simp [go_sem], by simp [go_sem], hK _ _ ?_⟩))
         | (refine .inl ⟨_, f31 (normal a) (normal b) (by omega) (by omega), ?_⟩; (first | refine hK _ ?_ | refine hK _ _ ?_ | refine ⟨by simp [go_sem], hK _ ?_⟩ | refine ⟨by simp [go_sem], hK _ _ ?_⟩ | refine ⟨by simp [go_sem], by simp [go_sem], hK _ _ ?_⟩))
         | (refine .inr ⟨_, f31 (normal a) (normal b) (by omega) (by omega), ?_⟩; (first | refine hK _ ?_ | refine hK _ _ ?_ | refine ⟨by simp [go_sem], hK _ ?_⟩ | refine ⟨by simp [go_sem], hK _ _ ?_⟩ | refine ⟨by simp [go_sem], by simp [go_sem], hK _ _ ?_⟩))
         | (refine ⟨_, ⟨f31 (normal a) (normal b) (by omega) (by omega), by simp [go_sem]⟩, ?_⟩; (first | refine hK _ ?_ | refine hK _ _ ?_ | refine ⟨by simp [go_sem], hK _ ?_⟩ | refine ⟨by simp [go_sem], hK _ _ ?_⟩ | refine ⟨by simp [go_sem], by simp [go_sem], hK _ _ ?_⟩))
         | (refine ⟨_, fun _ => f31 (normal a) (normal b) (by omega) (by omega), ?_⟩; (first | refine hK _ ?_ | refine hK _ _ ?_ | refine ⟨by simp [go_sem], hK _ ?_⟩ | refine ⟨by simp [go_sem], hK _ _ ?_⟩ | refine ⟨by simp [go_sem], by simp [go_sem], hK _ _ ?_⟩))
         | (refine ⟨_, fun hc => ⟨hc, f31 (normal a) (normal b) (by omega) (by omega)⟩, ?_⟩; (first | refine hK _ ?_ | refine hK _ _ ?_ | refine ⟨by simp [go_sem], hK _ ?_⟩ | refine ⟨by simp [go_sem], hK _ _ ?_⟩ | refine ⟨by simp [go_sem], by simp [go_sem], hK _ _ ?_⟩))
         | (refine ⟨_, fun hc => ⟨f31 (normal a) (normal b) (by omega) (by omega), by simp [go_sem]⟩, ?_⟩; (first | refine hK _ ?_ | refine hK _ _ ?_ | refine ⟨by simp [go_sem], hK _ ?_⟩ | refine ⟨by simp [go_sem], hK _ _ ?_⟩ | refine ⟨by simp [go_sem], by simp [go_sem], hK _ _ ?_⟩))
         | (refine ⟨_, fun hc => ⟨hc, f31 (normal a) (normal b) (by omega) (by omega), by simp [go_sem]⟩, ?_⟩; (first | refine hK _ ?_ | refine hK _ _ ?_ | refine ⟨by simp [go_sem], hK _ ?_⟩ | refine ⟨by simp [go_sem], hK _ _ ?_⟩ | refine ⟨by simp [go_sem], by simp [go_sem], hK _ _ ?_⟩))
         | refine ⟨.one (.one (.bool false)), by simp [go_sem], hK _ _ ?_⟩
         | refine ⟨by (first | (simp [appendOk, flatEls]; done) | (simp [appendOk, flatEls]; omega)), hK _ ?_⟩
         | refine ⟨hK _ ?_, fun h => hK _ ?_⟩
         | refine ⟨by omega, hK _ ?_⟩
         | refine ⟨by omega, hK _ _ ?_⟩
         | refine ⟨?_, hK _ ?_⟩
         | refine ⟨?_, hK _ _ ?_⟩
       all_goals clear hK K)
  all_goals simp [go_sem]

def wa : Inter := ⟨0, 1, 0⟩
def wb : Inter := ⟨2, 3, 1⟩

theorem n_ba : normal [wb, wa] = [wa, wb] := by decide
theorem n_ab : normal [wa, wb] = [wa, wb] := by decide

theorem m_ab : merge (histories [wa, wb] 4) = some [wa, wb] := by rfl

theorem f11 : Impl Try.prog 11 [] (.one (.one (.bool true))) := by
  have h17 : Impl Try.prog 17 [.one (.sl [[.int .i64 2, .int .i64 3, .int .i64 1], [.int .i64 0, .int .i64 1, .int .i64 0]])] (.one (.one (.ow 3 [[.int .i64 0, .int .i64 1, .int .i64 0], [.int .i64 2, .int .i64 3, .int .i64 1]]))) := by
    have := f17 [wb, wa] (by simp)
    rwa [n_ba] at this
  have h12 : Impl Try.prog 12 [.one (.sl [[.int .i64 0, .int .i64 1, .int .i64 0], [.int .i64 2, .int .i64 3, .int .i64 1]]), .one (.int .i64 4)]
      (.one (.one (.ow 1 [[.ow 5 [[.int .i64 0, .bool true, .int .i64 1, .int .i64 0, .nil]]], [.ow 5 [[.int .i64 1, .bool false, .int .i64 0, .int .i64 0, .nil]]], [.ow 5 [[.int .i64 2, .bool true, .int .i64 3, .int .i64 1, .nil]]], [.ow 5 [[.int .i64 3, .bool false, .int .i64 2, .int .i64 1, .nil]]]]))) := f12 [wa, wb] 4 (by simp)
  have h23 := f23 (histories [wa, wb] 4) (by simp [histories, hists]) (by
    intro l hl
    simp only [histories, hists] at hl
    simp at hl
    rcases hl with ⟨i, _, rfl⟩
    have := project_len i [wa, wb]
    simp at this
    omega)
  rw [m_ab] at h23
  have h23' : Impl Try.prog 23 [.one (.sl [[.sl [[.int .i64 0, .bool true, .int .i64 1, .int .i64 0, .nil]]], [.sl [[.int .i64 1, .bool false, .int .i64 0, .int .i64 0, .nil]]], [.sl [[.int .i64 2, .bool true, .int .i64 3, .int .i64 1, .nil]]], [.sl [[.int .i64 3, .bool false, .int .i64 2, .int .i64 1, .nil]]]])]
      (.tup [.one (.ow 3 [[.int .i64 0, .int .i64 1, .int .i64 0], [.int .i64 2, .int .i64 3, .int .i64 1]]), .one (.bool true)]) := h23
  have h14' := f14 [wa, wb] [wb, wa] (by simp) (by simp)
  rw [n_ba, n_ab] at h14'
  have h14 : Impl Try.prog 14 [.one (.sl [[.int .i64 0, .int .i64 1, .int .i64 0], [.int .i64 2, .int .i64 3, .int .i64 1]]), .one (.sl [[.int .i64 2, .int .i64 3, .int .i64 1], [.int .i64 0, .int .i64 1, .int .i64 0]])] (.one (.one (.bool true))) := by
    have e : decide ([wa, wb] = [wa, wb]) = true := by simp
    rw [e] at h14'
    exact h14'
  have h25 : Impl Try.prog 25 [.one (.sl [[.int .i64 0, .int .i64 1, .int .i64 0], [.int .i64 2, .int .i64 3, .int .i64 1]]), .one (.int .i64 2)] (.one (.one (.ow 5 [[.int .i64 2, .bool true, .int .i64 3, .int .i64 1, .nil]]))) := f25 [wa, wb] 2 (by simp)
  have h20 : Impl Try.prog 20 [.ag [.int .i64 0, .int .i64 1, .int .i64 0], .ag [.int .i64 2, .int .i64 3, .int .i64 1]] (.one (.one (.bool true))) := f20 wa wb
  refine impl_intro Try.func11 b11 e11 r11 n11 Try.ntmps11 d11 (by simp) fun hs => ?_
  clear hs
  simp only [c11, slotsOf]
  repeat' first
    | with_reducible first | refine awp_seq ?_ | refine awp_reg ?_ | refine awp_block ?_ | refine awp_ret ?_ | refine awp_exit ?_ | refine awp_skip ?_ | refine awp_scp ?_ | refine scpQ_normal ?_ | refine scpQ_ret ?_ | refine scpQ_exit ?_ | refine seqQ_normal ?_ | refine seqQ_ret ?_ | refine seqQ_exit ?_ | refine blockQ_normal ?_ | refine blockQ_ret ?_ | refine blockQ_same ?_ | refine blockQ_other (by decide) ?_ | refine loopQ_ret ?_ | refine loopQ_exit ?_ | refine arun_nil ?_ | refine arunA_nil ?_ | refine arunB_nil ?_ | refine drwQ_intro ?_ | refine deadQ_nil ?_
    | ((with_reducible refine awp_cond2 (t := ?_) ?hc (fun h => ?_) (fun h => ?_))
       case hc => rfl
       all_goals (try simp [go_sem] at h)
       all_goals try omega)
    | ((with_reducible first | refine arun_cons fun K hK => ?_ | refine arunA_cons fun K hK => ?_ | refine arunB_cons fun K hK => ?_ | refine awp_drw fun K hK => ?_ | refine deadQ_some fun K hK => ?_ | refine pruneQ_intro fun K hK => ?_)
       simp [go_sem]
       try simp (disch := omega) only [wrap_i64, okRefs, eq_self, true_and]
       first
         | refine hK _ ?_
         | refine hK _ _ ?_
         | (refine ⟨_, h17, ?_⟩; (first | refine hK _ ?_ | refine hK _ _ ?_ | refine ⟨by simp [go_sem], hK _ ?_⟩ | refine ⟨by simp [go_sem], hK _ _ ?_⟩ | refine ⟨by simp [go_sem], by simp [go_sem], hK _ _ ?_⟩))
         | (refine .inl ⟨_, h17, ?_⟩; (first | refine hK _ ?_ | refine hK _ _ ?_ | refine ⟨by simp [go_sem], hK _ ?_⟩ | refine ⟨by simp [go_sem], hK _ _ ?_⟩ | refine ⟨by simp [go_sem], by simp [go_sem], hK _ _ ?_⟩))
         | (refine .inr ⟨_, h17, ?_⟩; (first | refine hK _ ?_ | refine hK _ _ ?_ | refine ⟨by simp [go_sem], hK _ ?_⟩ | refine ⟨by simp [go_sem], hK _ _ ?_⟩ | refine ⟨by simp [go_sem], by simp [go_sem], hK _ _ ?_⟩))
         | (refine ⟨_, ⟨h17, by simp [go_sem]⟩, ?_⟩; (first | refine hK _ ?_ | refine hK _ _ ?_ | refine ⟨by simp [go_sem], hK _ ?_⟩ | refine ⟨by simp [go_sem], hK _ _ ?_⟩ | refine ⟨by simp [go_sem], by simp [go_sem], hK _ _ ?_⟩))
         | (refine ⟨_, fun _ => h17, ?_⟩; (first | refine hK _ ?_ | refine hK _ _ ?_ | refine ⟨by simp [go_sem], hK _ ?_⟩ | refine ⟨by simp [go_sem], hK _ _ ?_⟩ | refine ⟨by simp [go_sem], by simp [go_sem], hK _ _ ?_⟩))
         | (refine ⟨_, fun hc => ⟨hc, h17⟩, ?_⟩; (first | refine hK _ ?_ | refine hK _ _ ?_ | refine ⟨by simp [go_sem], hK _ ?_⟩ | refine ⟨by simp [go_sem], hK _ _ ?_⟩ | refine ⟨by simp [go_sem], by simp [go_sem], hK _ _ ?_⟩))
         | (refine ⟨_, fun hc => ⟨h17, by simp [go_sem]⟩, ?_⟩; (first | refine hK _ ?_ | refine hK _ _ ?_ | refine ⟨by simp [go_sem], hK _ ?_⟩ | refine ⟨by simp [go_sem], hK _ _ ?_⟩ | refine ⟨by simp [go_sem], by simp [go_sem], hK _ _ ?_⟩))
         | (refine ⟨_, fun hc => ⟨hc, h17, by simp [go_sem]⟩, ?_⟩; (first | refine hK _ ?_ | refine hK _ _ ?_ | refine ⟨by simp [go_sem], hK _ ?_⟩ | refine ⟨by simp [go_sem], hK _ _ ?_⟩ | refine ⟨by simp [go_sem], by simp [go_sem], hK _ _ ?_⟩))
         | (refine ⟨_, h12, ?_⟩; (first | refine hK _ ?_ | refine hK _ _ ?_ | refine ⟨by simp [go_sem], hK _ ?_⟩ | refine ⟨by simp [go_sem], hK _ _ ?_⟩ | refine ⟨by simp [go_sem], by simp [go_sem], hK _ _ ?_⟩))
         | (refine .inl ⟨_, h12, ?_⟩; (first | refine hK _ ?_ | refine hK _ _ ?_ | refine ⟨by simp [go_sem], hK _ ?_⟩ | refine ⟨by simp [go_sem], hK _ _ ?_⟩ | refine ⟨by simp [go_sem], by simp [go_sem], hK _ _ ?_⟩))
         | (refine .inr ⟨_, h12, ?_⟩; (first | refine hK _ ?_ | refine hK _ _ ?_ | refine ⟨by simp [go_sem], hK _ ?_⟩ | refine ⟨by simp [go_sem], hK _ _ ?_⟩ | refine ⟨by simp [go_sem], by simp [go_sem], hK _ _ ?_⟩))
         | (refine ⟨_, ⟨h12, by simp [go_sem]⟩, ?_⟩; (first | refine hK _ ?_ | refine hK _ _ ?_ | refine ⟨by simp [go_sem], hK _ ?_⟩ | refine ⟨by simp [go_sem], hK _ _ ?_⟩ | refine ⟨by simp [go_sem], by simp [go_sem], hK _ _ ?_⟩))
         | (refine ⟨_, fun _ => h12, ?_⟩; (first | refine hK _ ?_ | refine hK _ _ ?_ | refine ⟨by simp [go_sem], hK _ ?_⟩ | refine ⟨by simp [go_sem], hK _ _ ?_⟩ | refine ⟨by simp [go_sem], by simp [go_sem], hK _ _ ?_⟩))
         | (refine ⟨_, fun hc => ⟨hc, h12⟩, ?_⟩; (first | refine hK _ ?_ | refine hK _ _ ?_ | refine ⟨by simp [go_sem], hK _ ?_⟩ | refine ⟨by simp [go_sem], hK _ _ ?_⟩ | refine ⟨by simp [go_sem], by simp [go_sem], hK _ _ ?_⟩))
         | (refine ⟨_, fun hc => ⟨h12, by simp [go_sem]⟩, ?_⟩; (first | refine hK _ ?_ | refine hK _ _ ?_ | refine ⟨by simp [go_sem], hK _ ?_⟩ | refine ⟨by simp [go_sem], hK _ _ ?_⟩ | refine ⟨by simp [go_sem], by simp [go_sem], hK _ _ ?_⟩))
         | (refine ⟨_, fun hc => ⟨hc, h12, by simp [go_sem]⟩, ?_⟩; (first | refine hK _ ?_ | refine hK _ _ ?_ | refine ⟨by simp [go_sem], hK _ ?_⟩ | refine ⟨by simp [go_sem], hK _ _ ?_⟩ | refine ⟨by simp [go_sem], by simp [go_sem], hK _ _ ?_⟩))
         | (refine ⟨_, h23', ?_⟩; (first | refine hK _ ?_ | refine hK _ _ ?_ | refine ⟨by simp [go_sem], hK _ ?_⟩ | refine ⟨by simp [go_sem], hK _ _ ?_⟩ | refine ⟨by simp [go_sem], by simp [go_sem], hK _ _ ?_⟩))
         | (refine .inl ⟨_, h23', ?_⟩; (first | refine hK _ ?_ | refine hK _ _ ?_ | refine ⟨by simp [go_sem], hK _ ?_⟩ | refine ⟨by simp [go_sem], hK _ _ ?_⟩ | refine ⟨by simp [go_sem], by simp [go_sem], hK _ _ ?_⟩))
         | (refine .inr ⟨_, h23', ?_⟩; (first | refine hK _ ?_ | refine hK _ _ ?_ | refine ⟨by simp [go_sem], hK _ ?_⟩ | refine ⟨by simp [go_sem], hK _ _ ?_⟩ | refine ⟨by simp [go_sem], by simp [go_sem], hK _ _ ?_⟩))
         | (refine ⟨_, ⟨h23', by simp [go_sem]⟩, ?_⟩; (first | refine hK _ ?_ | refine hK _ _ ?_ | refine ⟨by simp [go_sem], hK _ ?_⟩ | refine ⟨by simp [go_sem], hK _ _ ?_⟩ | refine ⟨by simp [go_sem], by simp [go_sem], hK _ _ ?_⟩))
         | (refine ⟨_, fun _ => h23', ?_⟩; (first | refine hK _ ?_ | refine hK _ _ ?_ | refine ⟨by simp [go_sem], hK _ ?_⟩ | refine ⟨by simp [go_sem], hK _ _ ?_⟩ | refine ⟨by simp [go_sem], by simp [go_sem], hK _ _ ?_⟩))
         | (refine ⟨_, fun hc => ⟨hc, h23'⟩, ?_⟩; (first | refine hK _ ?_ | refine hK _ _ ?_ | refine ⟨by simp [go_sem], hK _ ?_⟩ | refine ⟨by simp [go_sem], hK _ _ ?_⟩ | refine ⟨by simp [go_sem], by simp [go_sem], hK _ _ ?_⟩))
         | (refine ⟨_, fun hc => ⟨h23', by simp [go_sem]⟩, ?_⟩; (first | refine hK _ ?_ | refine hK _ _ ?_ | refine ⟨by simp [go_sem], hK _ ?_⟩ | refine ⟨by simp [go_sem], hK _ _ ?_⟩ | refine ⟨by simp [go_sem], by simp [go_sem], hK _ _ ?_⟩))
         | (refine ⟨_, fun hc => ⟨hc, h23', by simp [go_sem]⟩, ?_⟩; (first | refine hK _ ?_ | refine hK _ _ ?_ | refine ⟨by simp [go_sem], hK _ ?_⟩ | refine ⟨by simp [go_sem], hK _ _ ?_⟩ | refine ⟨by simp [go_sem], by simp [go_sem], hK _ _ ?_⟩))
         | (refine ⟨_, h20, ?_⟩; (first | refine hK _ ?_ | refine hK _ _ ?_ | refine ⟨by simp [go_sem], hK _ ?_⟩ | refine ⟨by simp [go_sem], hK _ _ ?_⟩ | refine ⟨by simp [go_sem], by simp [go_sem], hK _ _ ?_⟩))
         | (refine .inl ⟨_, h20, ?_⟩; (first | refine hK _ ?_ | refine hK _ _ ?_ | refine ⟨by simp [go_sem], hK _ ?_⟩ | refine ⟨by simp [go_sem], hK _ _ ?_⟩ | refine ⟨by simp [go_sem], by simp [go_sem], hK _ _ ?_⟩))
         | (refine .inr ⟨_, h20, ?_⟩; (first | refine hK _ ?_ | refine hK _ _ ?_ | refine ⟨by simp [go_sem], hK _ ?_⟩ | refine ⟨by simp [go_sem], hK _ _ ?_⟩ | refine ⟨by simp [go_sem], by simp [go_sem], hK _ _ ?_⟩))
         | (refine ⟨_, ⟨h20, by simp [go_sem]⟩, ?_⟩; (first | refine hK _ ?_ | refine hK _ _ ?_ | refine ⟨by simp [go_sem], hK _ ?_⟩ | refine ⟨by simp [go_sem], hK _ _ ?_⟩ | refine ⟨by simp [go_sem], by simp [go_sem], hK _ _ ?_⟩))
         | (refine ⟨_, fun _ => h20, ?_⟩; (first | refine hK _ ?_ | refine hK _ _ ?_ | refine ⟨by simp [go_sem], hK _ ?_⟩ | refine ⟨by simp [go_sem], hK _ _ ?_⟩ | refine ⟨by simp [go_sem], by simp [go_sem], hK _ _ ?_⟩))
         | (refine ⟨_, fun hc => ⟨hc, h20⟩, ?_⟩; (first | refine hK _ ?_ | refine hK _ _ ?_ | refine ⟨by simp [go_sem], hK _ ?_⟩ | refine ⟨by simp [go_sem], hK _ _ ?_⟩ | refine ⟨by simp [go_sem], by simp [go_sem], hK _ _ ?_⟩))
         | (refine ⟨_, fun hc => ⟨h20, by simp [go_sem]⟩, ?_⟩; (first | refine hK _ ?_ | refine hK _ _ ?_ | refine ⟨by simp [go_sem], hK _ ?_⟩ | refine ⟨by simp [go_sem], hK _ _ ?_⟩ | refine ⟨by simp [go_sem], by simp [go_sem], hK _ _ ?_⟩))
         | (refine ⟨_, fun hc => ⟨hc, h20, by simp [go_sem]⟩, ?_⟩; (first | refine hK _ ?_ | refine hK _ _ ?_ | refine ⟨by simp [go_sem], hK _ ?_⟩ | refine ⟨by simp [go_sem], hK _ _ ?_⟩ | refine ⟨by simp [go_sem], by simp [go_sem], hK _ _ ?_⟩))
         | (refine ⟨_, h14, ?_⟩; (first | refine hK _ ?_ | refine hK _ _ ?_ | refine ⟨by simp [go_sem], hK _ ?_⟩ | refine ⟨by simp [go_sem], hK _ _ ?_⟩ | refine ⟨by simp [go_sem], by simp [go_sem], hK _ _ ?_⟩))
         | (refine .inl ⟨_, h14, ?_⟩; (first | refine hK _ ?_ | refine hK _ _ ?_ | refine ⟨by simp [go_sem], hK _ ?_⟩ | refine ⟨by simp [go_sem], hK _ _ ?_⟩ | refine ⟨by simp [go_sem], by simp [go_sem], hK _ _ ?_⟩))
         | (refine .inr ⟨_, h14, ?_⟩; (first | refine hK _ ?_ | refine hK _ _ ?_ | refine ⟨by simp [go_sem], hK _ ?_⟩ | refine ⟨by simp [go_sem], hK _ _ ?_⟩ | refine ⟨by simp [go_sem], by simp [go_sem], hK _ _ ?_⟩))
         | (refine ⟨_, ⟨h14, by simp [go_sem]⟩, ?_⟩; (first | refine hK _ ?_ | refine hK _ _ ?_ | refine ⟨by simp [go_sem], hK _ ?_⟩ | refine ⟨by simp [go_sem], hK _ _ ?_⟩ | refine ⟨by simp [go_sem], by simp [go_sem], hK _ _ ?_⟩))
         | (refine ⟨_, fun _ => h14, ?_⟩; (first | refine hK _ ?_ | refine hK _ _ ?_ | refine ⟨by simp [go_sem], hK _ ?_⟩ | refine ⟨by simp [go_sem], hK _ _ ?_⟩ | refine ⟨by simp [go_sem], by simp [go_sem], hK _ _ ?_⟩))
         | (refine ⟨_, fun hc => ⟨hc, h14⟩, ?_⟩; (first | refine hK _ ?_ | refine hK _ _ ?_ | refine ⟨by simp [go_sem], hK _ ?_⟩ | refine ⟨by simp [go_sem], hK _ _ ?_⟩ | refine ⟨by simp [go_sem], by simp [go_sem], hK _ _ ?_⟩))
         | (refine ⟨_, fun hc => ⟨h14, by simp [go_sem]⟩, ?_⟩; (first | refine hK _ ?_ | refine hK _ _ ?_ | refine ⟨by simp [go_sem], hK _ ?_⟩ | refine ⟨by simp [go_sem], hK _ _ ?_⟩ | refine ⟨by simp [go_sem], by simp [go_sem], hK _ _ ?_⟩))
         | (refine ⟨_, fun hc => ⟨hc, h14, by simp [go_sem]⟩, ?_⟩; (first | refine hK _ ?_ | refine hK _ _ ?_ | refine ⟨by simp [go_sem], hK _ ?_⟩ | refine ⟨by simp [go_sem], hK _ _ ?_⟩ | refine ⟨by simp [go_sem], by simp [go_sem], hK _ _ ?_⟩))
         | (refine ⟨_, h25, ?_⟩; (first | refine hK _ ?_ | refine hK _ _ ?_ | refine ⟨by simp [go_sem], hK _ ?_⟩ | refine ⟨by simp [go_sem], hK _ _ ?_⟩ | refine ⟨by simp [go_sem], by simp [go_sem], hK _ _ ?_⟩))
         | (refine .inl ⟨_, h25, ?_⟩; (first | refine hK _ ?_ | refine hK _ _ ?_ | refine ⟨by simp [go_sem], hK _ ?_⟩ | refine ⟨by simp [go_sem], hK _ _ ?_⟩ | refine ⟨by simp [go_sem], by simp [go_sem], hK _ _ ?_⟩))
         | (refine .inr ⟨_, h25, ?_⟩; (first | refine hK _ ?_ | refine hK _ _ ?_ | refine ⟨by simp [go_sem], hK _ ?_⟩ | refine ⟨by simp [go_sem], hK _ _ ?_⟩ | refine ⟨by simp [go_sem], by simp [go_sem], hK _ _ ?_⟩))
         | (refine ⟨_, ⟨h25, by simp [go_sem]⟩, ?_⟩; (first | refine hK _ ?_ | refine hK _ _ ?_ | refine ⟨by simp [go_sem], hK _ ?_⟩ | refine ⟨by simp [go_sem], hK _ _ ?_⟩ | refine ⟨by simp [go_sem], by simp [go_sem], hK _ _ ?_⟩))
         | (refine ⟨_, fun _ => h25, ?_⟩; (first | refine hK _ ?_ | refine hK _ _ ?_ | refine ⟨by simp [go_sem], hK _ ?_⟩ | refine ⟨by simp [go_sem], hK _ _ ?_⟩ | refine ⟨by simp [go_sem], by simp [go_sem], hK _ _ ?_⟩))
         | (refine ⟨_, fun hc => ⟨hc, h25⟩, ?_⟩; (first | refine hK _ ?_ | refine hK _ _ ?_ | refine ⟨by simp [go_sem], hK _ ?_⟩ | refine ⟨by simp [go_sem], hK _ _ ?_⟩ | refine ⟨by simp [go_sem], by simp [go_sem], hK _ _ ?_⟩))
         | (refine ⟨_, fun hc => ⟨h25, by simp [go_sem]⟩, ?_⟩; (first | refine hK _ ?_ | refine hK _ _ ?_ | refine ⟨by simp [go_sem], hK _ ?_⟩ | refine ⟨by simp [go_sem], hK _ _ ?_⟩ | refine ⟨by simp [go_sem], by simp [go_sem], hK _ _ ?_⟩))
         | (refine ⟨_, fun hc => ⟨hc, h25, by simp [go_sem]⟩, ?_⟩; (first | refine hK _ ?_ | refine hK _ _ ?_ | refine ⟨by simp [go_sem], hK _ ?_⟩ | refine ⟨by simp [go_sem], hK _ _ ?_⟩ | refine ⟨by simp [go_sem], by simp [go_sem], hK _ _ ?_⟩))
         | refine ⟨.one (.one (.bool false)), by simp [go_sem], hK _ _ ?_⟩
         | refine ⟨by (first | (simp [appendOk, flatEls]; done) | (simp [appendOk, flatEls]; omega)), hK _ ?_⟩
         | refine ⟨hK _ ?_, fun h => hK _ ?_⟩
         | refine ⟨by omega, hK _ ?_⟩
         | refine ⟨by omega, hK _ _ ?_⟩
         | refine ⟨?_, hK _ ?_⟩
         | refine ⟨?_, hK _ _ ?_⟩
       all_goals clear hK K)
  all_goals simp [go_sem]
end Go.Av
