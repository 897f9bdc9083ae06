/- Part of a proof by symbolic walks on plain data. -/
import Derived.Test.YtpnpnldabhmojaaWB
set_option linter.unusedVariables false
set_option linter.unusedSimpArgs false
namespace Go.Av
open Go Go.RowKit Go.Proofs

def indep (a b : Inter) : Bool := (a.from_ != b.from_) && (a.from_ != b.to) && (a.to != b.from_) && (a.to != b.to)

theorem f20 (a b : Inter) : Impl Try.prog 20 [.ag (encI a), .ag (encI b)] (.one (.one (.bool (indep a b)))) := by
  refine impl_intro (N := 31) Try.func20 b20 e20 r20 n20 Try.ntmps20 d20 (by simp) fun hs => ?_
  simp only [c20, slotsOf, encI]
  repeat' first
    | with_reducible first | refine awp_seq ?_ | refine awp_reg ?_ | refine awp_block ?_ | refine awp_ret ?_ | refine awp_exit ?_ | refine awp_skip ?_ | refine awp_scp ?_ | refine scpQ_normal ?_ | refine scpQ_ret ?_ | refine scpQ_exit ?_ | refine seqQ_normal ?_ | refine seqQ_ret ?_ | refine seqQ_exit ?_ | refine blockQ_normal ?_ | refine blockQ_ret ?_ | refine blockQ_same ?_ | refine blockQ_other (by decide) ?_ | refine loopQ_ret ?_ | refine loopQ_exit ?_ | refine arun_nil ?_ | refine arunA_nil ?_ | refine arunB_nil ?_ | refine drwQ_intro ?_ | refine deadQ_nil ?_
    | ((with_reducible refine awp_cond2 (t := ?_) ?hc (fun h => ?_) (fun h => ?_))
       case hc => rfl
       all_goals (try simp [go_sem] at h)
       all_goals try omega)
    | ((with_reducible first | refine arun_cons fun K hK => ?_ | refine arunA_cons fun K hK => ?_ | refine arunB_cons fun K hK => ?_ | refine awp_drw fun K hK => ?_ | refine deadQ_some fun K hK => ?_ | refine pruneQ_intro fun K hK => ?_)
       simp [go_sem]
       try simp (disch := omega) only [wrap_i64, okRefs, eq_self, true_and]
       first
         | refine hK _ ?_
         | refine hK _ _ ?_
         | refine ⟨by (first | (simp [appendOk, flatEls]; done) | (simp [appendOk, flatEls]; omega)), hK _ ?_⟩
         | refine ⟨hK _ ?_, fun h => hK _ ?_⟩
         | refine ⟨by omega, hK _ ?_⟩
         | refine ⟨by omega, hK _ _ ?_⟩
         | refine ⟨?_, hK _ ?_⟩
         | refine ⟨?_, hK _ _ ?_⟩
       all_goals clear hK K)
  simp [go_sem, indep]

def less (a b : Inter) : Bool := if a.from_ ≠ b.from_ then decide (a.from_ < b.from_) else if a.to ≠ b.to then decide (a.to < b.to) else decide (a.label < b.label)

theorem f24 (a b : Inter) : Impl Try.prog 24 [.ag (encI a), .ag (encI b)] (.one (.one (.bool (less a b)))) := by
  refine impl_intro (N := 30) Try.func24 b24 e24 r24 n24 Try.ntmps24 d24 (by simp) fun hs => ?_
  simp only [c24, slotsOf, encI]
  repeat' first
    | with_reducible first | refine awp_seq ?_ | refine awp_reg ?_ | refine awp_block ?_ | refine awp_ret ?_ | refine awp_exit ?_ | refine awp_skip ?_ | refine awp_scp ?_ | refine scpQ_normal ?_ | refine scpQ_ret ?_ | refine scpQ_exit ?_ | refine seqQ_normal ?_ | refine seqQ_ret ?_ | refine seqQ_exit ?_ | refine blockQ_normal ?_ | refine blockQ_ret ?_ | refine blockQ_same ?_ | refine blockQ_other (by decide) ?_ | refine loopQ_ret ?_ | refine loopQ_exit ?_ | refine arun_nil ?_ | refine arunA_nil ?_ | refine arunB_nil ?_ | refine drwQ_intro ?_ | refine deadQ_nil ?_
    | ((with_reducible refine awp_cond2 (t := ?_) ?hc (fun h => ?_) (fun h => ?_))
       case hc => rfl
       all_goals (try simp [go_sem] at h)
       all_goals try omega)
    | ((with_reducible first | refine arun_cons fun K hK => ?_ | refine arunA_cons fun K hK => ?_ | refine arunB_cons fun K hK => ?_ | refine awp_drw fun K hK => ?_ | refine deadQ_some fun K hK => ?_ | refine pruneQ_intro fun K hK => ?_)
       simp [go_sem]
       try simp (disch := omega) only [wrap_i64, okRefs, eq_self, true_and]
       first
         | refine hK _ ?_
         | refine hK _ _ ?_
         | refine ⟨by (first | (simp [appendOk, flatEls]; done) | (simp [appendOk, flatEls]; omega)), hK _ ?_⟩
         | refine ⟨hK _ ?_, fun h => hK _ ?_⟩
         | refine ⟨by omega, hK _ ?_⟩
         | refine ⟨by omega, hK _ _ ?_⟩
         | refine ⟨?_, hK _ ?_⟩
         | refine ⟨?_, hK _ _ ?_⟩
       all_goals clear hK K)
  all_goals simp [go_sem, less, *]

def ev1 (role : Int) (x : Inter) : List Ev := (if x.from_ = role then [⟨role, true, x.to, x.label, none⟩] else []) ++ (if x.to = role then [⟨role, false, x.from_, x.label, none⟩] else [])
def project (l : List Inter) (role : Int) : List Ev := l.flatMap (ev1 role)

theorem project_succ {l : List Inter} {k : Nat} (h : k < l.length) (role : Int) : project (l.take (k + 1)) role = project (l.take k) role ++ ev1 role l[k] := by
  unfold project
  rw [List.take_succ_eq_append_getElem h, List.flatMap_append]
  simp only [List.flatMap_cons, List.flatMap_nil, List.append_nil]
theorem ev1_len (role : Int) (x : Inter) : (ev1 role x).length ≤ 2 := by
  unfold ev1; split <;> split <;> simp
theorem project_len (role : Int) : ∀ (l : List Inter), (project l role).length ≤ 2 * l.length
  | [] => by simp [project]
  | x :: l => by
    have h1 := ev1_len role x
    have h2 := project_len role l
    simp only [project, List.flatMap_cons, List.length_append, List.length_cons] at *
    omega

theorem project_vals (l : List Inter) (role : Int) : ∀ x ∈ project l role, x.vals = none := by
  intro x hx
  unfold project at hx
  obtain ⟨y, _, hy⟩ := List.mem_flatMap.1 hx
  unfold ev1 at hy
  rcases List.mem_append.1 hy with hy | hy
  · split at hy
    · simp only [List.mem_singleton] at hy; rw [hy]
    · cases hy
  · split at hy
    · simp only [List.mem_singleton] at hy; rw [hy]
    · cases hy
@[go_sem] theorem clo_project (l : List Inter) (role : Int) : clo ((project l role).map encE) ↔ True := by
  simp only [iff_true]
  exact clo_encE (project_vals l role)

theorem f25 (l : List Inter) (role : Int) (hl : l.length ≤ 1000000) : Impl Try.prog 25 [.one (.sl (l.map encI)), .one (.int .i64 role)] (.one (.one (.ow 5 ((project l role).map encE)))) := by
  refine impl_intro (N := 42) Try.func25 b25 e25 r25 n25 Try.ntmps25 d25 (by simp) fun hs => ?_
  clear hs
  simp only [c25, slotsOf]
  repeat' first
    | with_reducible first | refine awp_seq ?_ | refine awp_reg ?_ | refine awp_block ?_ | refine awp_ret ?_ | refine awp_exit ?_ | refine awp_skip ?_ | refine awp_scp ?_ | refine scpQ_normal ?_ | refine scpQ_ret ?_ | refine scpQ_exit ?_ | refine seqQ_normal ?_ | refine seqQ_ret ?_ | refine seqQ_exit ?_ | refine blockQ_normal ?_ | refine blockQ_ret ?_ | refine blockQ_same ?_ | refine blockQ_other (by decide) ?_ | refine loopQ_ret ?_ | refine loopQ_exit ?_ | refine arun_nil ?_ | refine arunA_nil ?_ | refine arunB_nil ?_ | refine drwQ_intro ?_ | refine deadQ_nil ?_
    | ((with_reducible refine awp_cond2 (t := ?_) ?hc (fun h => ?_) (fun h => ?_))
       case hc => rfl
       all_goals (try simp [go_sem] at h)
       all_goals try omega)
    | ((with_reducible first | refine arun_cons fun K hK => ?_ | refine arunA_cons fun K hK => ?_ | refine arunB_cons fun K hK => ?_ | refine awp_drw fun K hK => ?_ | refine deadQ_some fun K hK => ?_ | refine pruneQ_intro fun K hK => ?_)
       simp [go_sem]
       try simp (disch := omega) only [wrap_i64, okRefs, eq_self, true_and]
       first
         | refine hK _ ?_
         | refine hK _ _ ?_
         | refine ⟨by (first | (simp [appendOk, flatEls]; done) | (simp [appendOk, flatEls]; omega)), hK _ ?_⟩
         | refine ⟨hK _ ?_, fun h => hK _ ?_⟩
         | refine ⟨by omega, hK _ ?_⟩
         | refine ⟨by omega, hK _ _ ?_⟩
         | refine ⟨?_, hK _ ?_⟩
         | refine ⟨?_, hK _ _ ?_⟩
       all_goals clear hK K)
  refine awp_loop (fun n e => ∃ k, k + n = l.length ∧ e = [(10, .sv (.one (.int .i64 (k : Nat)))), (9, .sv (.one (.int .i64 l.length))), (8, .sv (.one (.sl (l.map encI)))), (5, .sv (.one (.ow 5 ((project (l.take k) role).map encE)))), (1, .sv (.one (.int .i64 role)))]) l.length _ ⟨0, by simp, rfl⟩ (by simp [go_sem, project]) ?_
  rintro n e ⟨k, hk, rfl⟩
  have hlen := project_len role (l.take k)
  have hlk : (l.take k).length ≤ k := List.length_take_le _ _
  by_cases hlt : k < l.length
  · skip
    repeat' first
      | with_reducible first | refine awp_seq ?_ | refine awp_reg ?_ | refine awp_block ?_ | refine awp_ret ?_ | refine awp_exit ?_ | refine awp_skip ?_ | refine awp_scp ?_ | refine scpQ_normal ?_ | refine scpQ_ret ?_ | refine scpQ_exit ?_ | refine seqQ_normal ?_ | refine seqQ_ret ?_ | refine seqQ_exit ?_ | refine blockQ_normal ?_ | refine blockQ_ret ?_ | refine blockQ_same ?_ | refine blockQ_other (by decide) ?_ | refine loopQ_ret ?_ | refine loopQ_exit ?_ | refine arun_nil ?_ | refine arunA_nil ?_ | refine arunB_nil ?_ | refine drwQ_intro ?_ | refine deadQ_nil ?_
      | ((with_reducible refine awp_cond2 (t := ?_) ?hc (fun h => ?_) (fun h => ?_))
         case hc => rfl
         all_goals (try simp [go_sem, hlt, encI] at h)
         all_goals try omega)
      | ((with_reducible first | refine arun_cons fun K hK => ?_ | refine arunA_cons fun K hK => ?_ | refine arunB_cons fun K hK => ?_ | refine awp_drw fun K hK => ?_ | refine deadQ_some fun K hK => ?_ | refine pruneQ_intro fun K hK => ?_)
         simp [go_sem, hlt, encI]
         try simp (disch := omega) only [wrap_i64, okRefs, eq_self, true_and]
         first
           | refine hK _ ?_
           | refine hK _ _ ?_
           | refine ⟨by (first | (simp [appendOk, flatEls, hlt, encI, maxLen, DV.flat]; done) | (simp [appendOk, flatEls, hlt, encI, maxLen, DV.flat]; omega)), hK _ ?_⟩
           | refine ⟨hK _ ?_, fun h => hK _ ?_⟩
           | refine ⟨by omega, hK _ ?_⟩
           | refine ⟨by omega, hK _ _ ?_⟩
           | refine ⟨?_, hK _ ?_⟩
           | refine ⟨?_, hK _ _ ?_⟩
         all_goals clear hK K)
    all_goals refine loopQ_normal (n - 1) _ (by omega) ⟨k + 1, by omega, rfl⟩ ?_
    all_goals simp [go_sem, project_succ hlt, ev1, encE, valsDV, *]
  · have hkl : l.take k = l := List.take_of_length_le (by omega)
    repeat' first
      | with_reducible first | refine awp_seq ?_ | refine awp_reg ?_ | refine awp_block ?_ | refine awp_ret ?_ | refine awp_exit ?_ | refine awp_skip ?_ | refine awp_scp ?_ | refine scpQ_normal ?_ | refine scpQ_ret ?_ | refine scpQ_exit ?_ | refine seqQ_normal ?_ | refine seqQ_ret ?_ | refine seqQ_exit ?_ | refine blockQ_normal ?_ | refine blockQ_ret ?_ | refine blockQ_same ?_ | refine blockQ_other (by decide) ?_ | refine loopQ_ret ?_ | refine loopQ_exit ?_ | refine arun_nil ?_ | refine arunA_nil ?_ | refine arunB_nil ?_ | refine drwQ_intro ?_ | refine deadQ_nil ?_
      | ((with_reducible refine awp_cond2 (t := ?_) ?hc (fun h => ?_) (fun h => ?_))
         case hc => rfl
         all_goals (try simp [go_sem, hlt] at h)
         all_goals try omega)
      | ((with_reducible first | refine arun_cons fun K hK => ?_ | refine arunA_cons fun K hK => ?_ | refine arunB_cons fun K hK => ?_ | refine awp_drw fun K hK => ?_ | refine deadQ_some fun K hK => ?_ | refine pruneQ_intro fun K hK => ?_)
         simp [go_sem, hlt]
         try simp (disch := omega) only [wrap_i64, okRefs, eq_self, true_and]
         first
           | refine hK _ ?_
           | refine hK _ _ ?_
           | refine ⟨by (first | (simp [appendOk, flatEls, hlt]; done) | (simp [appendOk, flatEls, hlt]; omega)), hK _ ?_⟩
           | refine ⟨hK _ ?_, fun h => hK _ ?_⟩
           | refine ⟨by omega, hK _ ?_⟩
           | refine ⟨by omega, hK _ _ ?_⟩
           | refine ⟨?_, hK _ ?_⟩
           | refine ⟨?_, hK _ _ ?_⟩
         all_goals clear hK K)
    simp [go_sem, hkl]


theorem f21 (a b : Inter) : Impl Try.prog 21 [.ag (encI a), .ag (encI b)] (.one (.one (.bool (indep a b)))) := by
  refine impl_intro (N := 31) Try.func21 b21 e21 r21 n21 Try.ntmps21 d21 (by simp) fun hs => ?_
  simp only [c21, slotsOf, encI]
  repeat' first
    | with_reducible first | refine awp_seq ?_ | refine awp_reg ?_ | refine awp_block ?_ | refine awp_ret ?_ | refine awp_exit ?_ | refine awp_skip ?_ | refine awp_scp ?_ | refine scpQ_normal ?_ | refine scpQ_ret ?_ | refine scpQ_exit ?_ | refine seqQ_normal ?_ | refine seqQ_ret ?_ | refine seqQ_exit ?_ | refine blockQ_normal ?_ | refine blockQ_ret ?_ | refine blockQ_same ?_ | refine blockQ_other (by decide) ?_ | refine loopQ_ret ?_ | refine loopQ_exit ?_ | refine arun_nil ?_ | refine arunA_nil ?_ | refine arunB_nil ?_ | refine drwQ_intro ?_ | refine deadQ_nil ?_
    | ((with_reducible refine awp_cond2 (t := ?_) ?hc (fun h => ?_) (fun h => ?_))
       case hc => rfl
       all_goals (try simp [go_sem] at h)
       all_goals try omega)
    | ((with_reducible first | refine arun_cons fun K hK => ?_ | refine arunA_cons fun K hK => ?_ | refine arunB_cons fun K hK => ?_ | refine awp_drw fun K hK => ?_ | refine deadQ_some fun K hK => ?_ | refine pruneQ_intro fun K hK => ?_)
       simp [go_sem]
       try simp (disch := omega) only [wrap_i64, okRefs, eq_self, true_and]
       first
         | refine hK _ ?_
         | refine hK _ _ ?_
         | refine ⟨by (first | (simp [appendOk, flatEls]; done) | (simp [appendOk, flatEls]; omega)), hK _ ?_⟩
         | refine ⟨hK _ ?_, fun h => hK _ ?_⟩
         | refine ⟨by omega, hK _ ?_⟩
         | refine ⟨by omega, hK _ _ ?_⟩
         | refine ⟨?_, hK _ ?_⟩
         | refine ⟨?_, hK _ _ ?_⟩
       all_goals clear hK K)
  simp [go_sem, indep]

theorem f30 (l : List Inter) (role : Int) (hl : l.length ≤ 1000000) : Impl Try.prog 30 [.one (.sl (l.map encI)), .one (.int .i64 role)] (.one (.one (.ow 5 ((project l role).map encE)))) := by
  refine impl_intro (N := 45) Try.func30 b30 e30 r30 n30 Try.ntmps30 d30 (by simp) fun hs => ?_
  clear hs
  simp only [c30, slotsOf]
  repeat' first
    | with_reducible first | refine awp_seq ?_ | refine awp_reg ?_ | refine awp_block ?_ | refine awp_ret ?_ | refine awp_exit ?_ | refine awp_skip ?_ | refine awp_scp ?_ | refine scpQ_normal ?_ | refine scpQ_ret ?_ | refine scpQ_exit ?_ | refine seqQ_normal ?_ | refine seqQ_ret ?_ | refine seqQ_exit ?_ | refine blockQ_normal ?_ | refine blockQ_ret ?_ | refine blockQ_same ?_ | refine blockQ_other (by decide) ?_ | refine loopQ_ret ?_ | refine loopQ_exit ?_ | refine arun_nil ?_ | refine arunA_nil ?_ | refine arunB_nil ?_ | refine drwQ_intro ?_ | refine deadQ_nil ?_
    | ((with_reducible refine awp_cond2 (t := ?_) ?hc (fun h => ?_) (fun h => ?_))
       case hc => rfl
       all_goals (try simp [go_sem] at h)
       all_goals try omega)
    | ((with_reducible first | refine arun_cons fun K hK => ?_ | refine arunA_cons fun K hK => ?_ | refine arunB_cons fun K hK => ?_ | refine awp_drw fun K hK => ?_ | refine deadQ_some fun K hK => ?_ | refine pruneQ_intro fun K hK => ?_)
       simp [go_sem]
       try simp (disch := omega) only [wrap_i64, okRefs, eq_self, true_and]
       first
         | refine hK _ ?_
         | refine hK _ _ ?_
         | refine ⟨by (first | (simp [appendOk, flatEls]; done) | (simp [appendOk, flatEls]; omega)), hK _ ?_⟩
         | refine ⟨hK _ ?_, fun h => hK _ ?_⟩
         | refine ⟨by omega, hK _ ?_⟩
         | refine ⟨by omega, hK _ _ ?_⟩
         | refine ⟨?_, hK _ ?_⟩
         | refine ⟨?_, hK _ _ ?_⟩
       all_goals clear hK K)
  refine awp_loop (fun n e => ∃ k, k + n = l.length ∧ e = [(6, .sv (.one (.int .i64 (k : Nat)))), (5, .sv (.one (.ow 5 ((project (l.take k) role).map encE)))), (0, .sv (.one (.sl (l.map encI)))), (1, .sv (.one (.int .i64 role)))]) l.length _ ⟨0, by simp, rfl⟩ (by simp [go_sem, project]) ?_
  rintro n e ⟨k, hk, rfl⟩
  have hlen := project_len role (l.take k)
  have hlk : (l.take k).length ≤ k := List.length_take_le _ _
  by_cases hlt : k < l.length
  · skip
    repeat' first
      | with_reducible first | refine awp_seq ?_ | refine awp_reg ?_ | refine awp_block ?_ | refine awp_ret ?_ | refine awp_exit ?_ | refine awp_skip ?_ | refine awp_scp ?_ | refine scpQ_normal ?_ | refine scpQ_ret ?_ | refine scpQ_exit ?_ | refine seqQ_normal ?_ | refine seqQ_ret ?_ | refine seqQ_exit ?_ | refine blockQ_normal ?_ | refine blockQ_ret ?_ | refine blockQ_same ?_ | refine blockQ_other (by decide) ?_ | refine loopQ_ret ?_ | refine loopQ_exit ?_ | refine arun_nil ?_ | refine arunA_nil ?_ | refine arunB_nil ?_ | refine drwQ_intro ?_ | refine deadQ_nil ?_
      | ((with_reducible refine awp_cond2 (t := ?_) ?hc (fun h => ?_) (fun h => ?_))
         case hc => rfl
         all_goals (try simp [go_sem, hlt, encI] at h)
         all_goals try omega)
      | ((with_reducible first | refine arun_cons fun K hK => ?_ | refine arunA_cons fun K hK => ?_ | refine arunB_cons fun K hK => ?_ | refine awp_drw fun K hK => ?_ | refine deadQ_some fun K hK => ?_ | refine pruneQ_intro fun K hK => ?_)
         simp [go_sem, hlt, encI]
         try simp (disch := omega) only [wrap_i64, okRefs, eq_self, true_and]
         first
           | refine hK _ ?_
           | refine hK _ _ ?_
           | refine ⟨by (first | (simp [appendOk, flatEls, hlt, encI, maxLen, DV.flat]; done) | (simp [appendOk, flatEls, hlt, encI, maxLen, DV.flat]; omega)), hK _ ?_⟩
           | refine ⟨hK _ ?_, fun h => hK _ ?_⟩
           | refine ⟨by omega, hK _ ?_⟩
           | refine ⟨by omega, hK _ _ ?_⟩
           | refine ⟨?_, hK _ ?_⟩
           | refine ⟨?_, hK _ _ ?_⟩
         all_goals clear hK K)
    all_goals refine loopQ_normal (n - 1) _ (by omega) ⟨k + 1, by omega, rfl⟩ ?_
    all_goals simp [go_sem, project_succ hlt, ev1, encE, valsDV, *]
  · have hkl : l.take k = l := List.take_of_length_le (by omega)
    repeat' first
      | with_reducible first | refine awp_seq ?_ | refine awp_reg ?_ | refine awp_block ?_ | refine awp_ret ?_ | refine awp_exit ?_ | refine awp_skip ?_ | refine awp_scp ?_ | refine scpQ_normal ?_ | refine scpQ_ret ?_ | refine scpQ_exit ?_ | refine seqQ_normal ?_ | refine seqQ_ret ?_ | refine seqQ_exit ?_ | refine blockQ_normal ?_ | refine blockQ_ret ?_ | refine blockQ_same ?_ | refine blockQ_other (by decide) ?_ | refine loopQ_ret ?_ | refine loopQ_exit ?_ | refine arun_nil ?_ | refine arunA_nil ?_ | refine arunB_nil ?_ | refine drwQ_intro ?_ | refine deadQ_nil ?_
      | ((with_reducible refine awp_cond2 (t := ?_) ?hc (fun h => ?_) (fun h => ?_))
         case hc => rfl
         all_goals (try simp [go_sem, hlt] at h)
         all_goals try omega)
      | ((with_reducible first | refine arun_cons fun K hK => ?_ | refine arunA_cons fun K hK => ?_ | refine arunB_cons fun K hK => ?_ | refine awp_drw fun K hK => ?_ | refine deadQ_some fun K hK => ?_ | refine pruneQ_intro fun K hK => ?_)
         simp [go_sem, hlt]
         try simp (disch := omega) only [wrap_i64, okRefs, eq_self, true_and]
         first
           | refine hK _ ?_
           | refine hK _ _ ?_
           | refine ⟨by (first | (simp [appendOk, flatEls, hlt]; done) | (simp [appendOk, flatEls, hlt]; omega)), hK _ ?_⟩
           | refine ⟨hK _ ?_, fun h => hK _ ?_⟩
           | refine ⟨by omega, hK _ ?_⟩
           | refine ⟨by omega, hK _ _ ?_⟩
           | refine ⟨?_, hK _ ?_⟩
           | refine ⟨?_, hK _ _ ?_⟩
         all_goals clear hK K)
    simp [go_sem, hkl]

end Go.Av
