/- Part of a proof by symbolic walks on plain data. -/
import Derived.Test.YtpnpnldabhmojaaCL8
import Derived.Test.YtpnpnldabhmojaaWF
import Derived.Test.YtpnpnldabhmojaaW2
import Derived.Test.YtpnpnldabhmojaaW15
import Derived.Test.YtpnpnldabhmojaaW13
import Derived.Test.YtpnpnldabhmojaaLM
set_option linter.unusedVariables false
set_option linter.unusedSimpArgs false
namespace Go.Av
open Go Go.RowKit Go.Proofs

theorem total_take_le {H : List (List Ev)} {k B : Nat} (hh : ∀ l ∈ H, l.length ≤ B) : total (H.take k) ≤ H.length * B := by
  have h1 := total_leN B (H.take k) fun l hl => hh l (List.mem_of_mem_take hl)
  have h2 : (H.take k).length ≤ H.length := by rw [List.length_take]; omega
  exact Nat.le_trans h1 (Nat.mul_le_mul_right B h2)

theorem f26b (H : List (List Ev)) (hl : H.length ≤ 140737488351232) (hh : ∀ l ∈ H, l.length ≤ 140737488351232) : Impl Try.prog 26 [.one (.sl (H.map encH))] (.one (.one (.bool (decide (H.length ≤ 8) && decide (total H ≤ 60))))) := by
  refine impl_intro Try.func26 b26 e26 r26 n26 Try.ntmps26 d26 (by simp) fun hs => ?_
  clear hs
  simp only [c26, slotsOf]
  repeat' first
    | with_reducible first | refine awp_seq ?_ | refine awp_reg ?_ | refine awp_block ?_ | refine awp_ret ?_ | refine awp_exit ?_ | refine awp_skip ?_ | refine awp_scp ?_ | refine scpQ_normal ?_ | refine scpQ_ret ?_ | refine scpQ_exit ?_ | refine seqQ_normal ?_ | refine seqQ_ret ?_ | refine seqQ_exit ?_ | refine blockQ_normal ?_ | refine blockQ_ret ?_ | refine blockQ_same ?_ | refine blockQ_other (by decide) ?_ | refine loopQ_ret ?_ | refine loopQ_exit ?_ | refine arun_nil ?_ | refine arunA_nil ?_ | refine arunB_nil ?_ | refine drwQ_intro ?_ | refine deadQ_nil ?_
    | ((with_reducible refine awp_cond2 (t := ?_) ?hc (fun h => ?_) (fun h => ?_))
       case hc => rfl
       all_goals (try simp [go_sem] at h)
       all_goals try omega)
    | ((with_reducible first | refine arun_cons fun K hK => ?_ | refine arunA_cons fun K hK => ?_ | refine arunB_cons fun K hK => ?_ | refine awp_drw fun K hK => ?_ | refine deadQ_some fun K hK => ?_ | refine pruneQ_intro fun K hK => ?_)
       simp [go_sem]
       try simp (disch := omega) only [wrap_i64, okRefs, eq_self, true_and]
       first
         | refine hK _ ?_
         | refine hK _ _ ?_
         | refine ⟨by (first | (simp [appendOk, flatEls]; done) | (simp [appendOk, flatEls]; omega)), hK _ ?_⟩
         | refine ⟨hK _ ?_, fun h => hK _ ?_⟩
         | refine ⟨by omega, hK _ ?_⟩
         | refine ⟨by omega, hK _ _ ?_⟩
         | refine ⟨?_, hK _ ?_⟩
         | refine ⟨?_, hK _ _ ?_⟩
       all_goals clear hK K)
  refine awp_loop (fun n e => ∃ (k : Nat) (v : Int), k + n = H.length ∧ (H.length ≤ 8 → v = (total (H.take k) : Nat)) ∧ e = [(4, .sv (.one (.int .i64 (k : Nat)))), (3, .sv (.one (.int .i64 v))), (0, .sv (.one (.sl (H.map encH))))]) H.length _ ⟨0, 0, by simp, by simp [total], rfl⟩ (by simp [go_sem, total]) ?_
  rintro n e ⟨k, v, hk, hv, rfl⟩
  by_cases hlt : k < H.length
  · have hh' := hh H[k] (List.getElem_mem hlt)
    repeat' first
      | with_reducible first | refine awp_seq ?_ | refine awp_reg ?_ | refine awp_block ?_ | refine awp_ret ?_ | refine awp_exit ?_ | refine awp_skip ?_ | refine awp_scp ?_ | refine scpQ_normal ?_ | refine scpQ_ret ?_ | refine scpQ_exit ?_ | refine seqQ_normal ?_ | refine seqQ_ret ?_ | refine seqQ_exit ?_ | refine blockQ_normal ?_ | refine blockQ_ret ?_ | refine blockQ_same ?_ | refine blockQ_other (by decide) ?_ | refine loopQ_ret ?_ | refine loopQ_exit ?_ | refine arun_nil ?_ | refine arunA_nil ?_ | refine arunB_nil ?_ | refine drwQ_intro ?_ | refine deadQ_nil ?_
      | ((with_reducible refine awp_cond2 (t := ?_) ?hc (fun h => ?_) (fun h => ?_))
         case hc => rfl
         all_goals (try simp [go_sem, hlt, encH] at h)
         all_goals try omega)
      | ((with_reducible first | refine arun_cons fun K hK => ?_ | refine arunA_cons fun K hK => ?_ | refine arunB_cons fun K hK => ?_ | refine awp_drw fun K hK => ?_ | refine deadQ_some fun K hK => ?_ | refine pruneQ_intro fun K hK => ?_)
         simp [go_sem, hlt, encH]
         try simp (disch := omega) only [wrap_i64, okRefs, eq_self, true_and]
         first
           | refine hK _ ?_
           | refine hK _ _ ?_
           | refine ⟨by (first | (simp [appendOk, flatEls, hlt, encH]; done) | (simp [appendOk, flatEls, hlt, encH]; omega)), hK _ ?_⟩
           | refine ⟨hK _ ?_, fun h => hK _ ?_⟩
           | refine ⟨by omega, hK _ ?_⟩
           | refine ⟨by omega, hK _ _ ?_⟩
           | refine ⟨?_, hK _ ?_⟩
           | refine ⟨?_, hK _ _ ?_⟩
         all_goals clear hK K)
    refine loopQ_normal (n - 1) _ (by omega) ⟨k + 1, IntKind.i64.wrap (v + H[k].length), by omega, fun h8 => ?_, rfl⟩ ?_
    · have ht := total_take_le (k := k + 1) hh
      rw [total_succ hlt] at ht ⊢
      rw [hv h8]
      have : H.length * 140737488351232 ≤ 8 * 140737488351232 := Nat.mul_le_mul_right _ h8
      rw [wrap_i64 (by omega) (by omega)]
      omega
    · simp [go_sem]
  · have hkl : H.take k = H := List.take_of_length_le (by omega)
    rw [hkl] at hv
    by_cases h8 : H.length ≤ 8
    · have hv' := hv h8
      subst hv'
      have h8' : ((H.length : Nat) : Int) ≤ 8 := by omega
      repeat' first
        | with_reducible first | refine awp_seq ?_ | refine awp_reg ?_ | refine awp_block ?_ | refine awp_ret ?_ | refine awp_exit ?_ | refine awp_skip ?_ | refine awp_scp ?_ | refine scpQ_normal ?_ | refine scpQ_ret ?_ | refine scpQ_exit ?_ | refine seqQ_normal ?_ | refine seqQ_ret ?_ | refine seqQ_exit ?_ | refine blockQ_normal ?_ | refine blockQ_ret ?_ | refine blockQ_same ?_ | refine blockQ_other (by decide) ?_ | refine loopQ_ret ?_ | refine loopQ_exit ?_ | refine arun_nil ?_ | refine arunA_nil ?_ | refine arunB_nil ?_ | refine drwQ_intro ?_ | refine deadQ_nil ?_
        | ((with_reducible refine awp_cond2 (t := ?_) ?hc (fun h => ?_) (fun h => ?_))
           case hc => rfl
           all_goals (try simp [go_sem, hlt, h8'] at h)
           all_goals try omega)
        | ((with_reducible first | refine arun_cons fun K hK => ?_ | refine arunA_cons fun K hK => ?_ | refine arunB_cons fun K hK => ?_ | refine awp_drw fun K hK => ?_ | refine deadQ_some fun K hK => ?_ | refine pruneQ_intro fun K hK => ?_)
           simp [go_sem, hlt, h8']
           try simp (disch := omega) only [wrap_i64, okRefs, eq_self, true_and]
           first
             | refine hK _ ?_
             | refine hK _ _ ?_
             | refine ⟨by (first | (simp [appendOk, flatEls, hlt, h8']; done) | (simp [appendOk, flatEls, hlt, h8']; omega)), hK _ ?_⟩
             | refine ⟨hK _ ?_, fun h => hK _ ?_⟩
             | refine ⟨by omega, hK _ ?_⟩
             | refine ⟨by omega, hK _ _ ?_⟩
             | refine ⟨?_, hK _ ?_⟩
             | refine ⟨?_, hK _ _ ?_⟩
           all_goals clear hK K)
      simp [go_sem, h8]
      omega
    · have h8' : ¬ ((H.length : Nat) : Int) ≤ 8 := by omega
      repeat' first
        | with_reducible first | refine awp_seq ?_ | refine awp_reg ?_ | refine awp_block ?_ | refine awp_ret ?_ | refine awp_exit ?_ | refine awp_skip ?_ | refine awp_scp ?_ | refine scpQ_normal ?_ | refine scpQ_ret ?_ | refine scpQ_exit ?_ | refine seqQ_normal ?_ | refine seqQ_ret ?_ | refine seqQ_exit ?_ | refine blockQ_normal ?_ | refine blockQ_ret ?_ | refine blockQ_same ?_ | refine blockQ_other (by decide) ?_ | refine loopQ_ret ?_ | refine loopQ_exit ?_ | refine arun_nil ?_ | refine arunA_nil ?_ | refine arunB_nil ?_ | refine drwQ_intro ?_ | refine deadQ_nil ?_
        | ((with_reducible refine awp_cond2 (t := ?_) ?hc (fun h => ?_) (fun h => ?_))
           case hc => rfl
           all_goals (try simp [go_sem, hlt, h8'] at h)
           all_goals try omega)
        | ((with_reducible first | refine arun_cons fun K hK => ?_ | refine arunA_cons fun K hK => ?_ | refine arunB_cons fun K hK => ?_ | refine awp_drw fun K hK => ?_ | refine deadQ_some fun K hK => ?_ | refine pruneQ_intro fun K hK => ?_)
           simp [go_sem, hlt, h8']
           try simp (disch := omega) only [wrap_i64, okRefs, eq_self, true_and]
           first
             | refine hK _ ?_
             | refine hK _ _ ?_
             | refine ⟨by (first | (simp [appendOk, flatEls, hlt, h8']; done) | (simp [appendOk, flatEls, hlt, h8']; omega)), hK _ ?_⟩
             | refine ⟨hK _ ?_, fun h => hK _ ?_⟩
             | refine ⟨by omega, hK _ ?_⟩
             | refine ⟨by omega, hK _ _ ?_⟩
             | refine ⟨?_, hK _ ?_⟩
             | refine ⟨?_, hK _ _ ?_⟩
           all_goals clear hK K)
      simp [go_sem, h8]

theorem law8 (H : List (List Ev)) (hl : H.length ≤ 140737488351232) (hh : ∀ l ∈ H, l.length ≤ 140737488351232) : Impl Try.prog 8 [.one (.sl (H.map encH))] (.one (.one (.bool true))) := by
  refine impl_intro Try.func8 b8 e8 r8 n8 Try.ntmps8 d8 (by simp) fun hs => ?_
  clear hs
  simp only [c8, slotsOf]
  have f26s := f26b H hl hh
  by_cases hsh : (decide (H.length ≤ 8) && decide (total H ≤ 60)) = true
  · rw [hsh] at f26s
    simp only [Bool.and_eq_true, decide_eq_true_eq] at hsh
    have hh2 : ∀ l ∈ H, l.length ≤ 1000 := fun l hl => by have := total_mem hl; omega
    have f23s := f23 H (by omega) (fun l hl => by have := hh2 l hl; omega)
    have f27s := f27 H (by omega) hh2
    have f28s := f28 H hsh.1 hh2 (f35 H (by omega) (fun l hl => by have := hh2 l hl; omega))
    have f29s := f29 H hsh.1 hh2 (f37 H (by omega) (fun l hl => by have := hh2 l hl; omega))
    have hml : ((merge H).getD []).length ≤ 1000000 := by
      cases hm : merge H with
      | none => simp
      | some m => have := merge_len2 hm; simp; omega
    have f16s := f16 ((merge H).getD []) ((merge H).getD []) hml hml
    have e1 : decide ((merge H).getD [] = (merge H).getD []) = true := by simp
    rw [e1] at f16s
    unfold mResult at f23s f27s
    unfold nResult at f28s f29s
    generalize (merge H).getD [] = M at *
    generalize (merge H).isSome = B at *
    repeat' first
      | with_reducible first | refine awp_seq ?_ | refine awp_reg ?_ | refine awp_block ?_ | refine awp_ret ?_ | refine awp_exit ?_ | refine awp_skip ?_ | refine awp_scp ?_ | refine scpQ_normal ?_ | refine scpQ_ret ?_ | refine scpQ_exit ?_ | refine seqQ_normal ?_ | refine seqQ_ret ?_ | refine seqQ_exit ?_ | refine blockQ_normal ?_ | refine blockQ_ret ?_ | refine blockQ_same ?_ | refine blockQ_other (by decide) ?_ | refine loopQ_ret ?_ | refine loopQ_exit ?_ | refine arun_nil ?_ | refine arunA_nil ?_ | refine arunB_nil ?_ | refine drwQ_intro ?_ | refine deadQ_nil ?_
      | ((with_reducible refine awp_cond2 (t := ?_) ?hc (fun h => ?_) (fun h => ?_))
         case hc => rfl
         all_goals (try simp [go_sem, hsh] at h)
         all_goals try omega)
      | ((with_reducible first | refine arun_cons fun K hK => ?_ | refine arunA_cons fun K hK => ?_ | refine arunB_cons fun K hK => ?_ | refine awp_drw fun K hK => ?_ | refine deadQ_some fun K hK => ?_ | refine pruneQ_intro fun K hK => ?_)
         simp [go_sem, hsh]
         try simp (disch := omega) only [wrap_i64, okRefs, eq_self, true_and]
         first
           | refine hK _ ?_
           | refine hK _ _ ?_
           | (refine ⟨_, f11, ?_⟩; (first | refine hK _ ?_ | refine hK _ _ ?_ | refine ⟨by simp [go_sem, hsh], hK _ ?_⟩ | refine ⟨by simp [go_sem, hsh], hK _ _ ?_⟩ | refine ⟨by simp [go_sem, hsh], by simp [go_sem, hsh], hK _ _ ?_⟩))
           | (refine .inl ⟨_, f11, ?_⟩; (first | refine hK _ ?_ | refine hK _ _ ?_ | refine ⟨by simp [go_sem, hsh], hK _ ?_⟩ | refine ⟨by simp [go_sem, hsh], hK _ _ ?_⟩ | refine ⟨by simp [go_sem, hsh], by simp [go_sem, hsh], hK _ _ ?_⟩))
           | (refine .inr ⟨_, f11, ?_⟩; (first | refine hK _ ?_ | refine hK _ _ ?_ | refine ⟨by simp [go_sem, hsh], hK _ ?_⟩ | refine ⟨by simp [go_sem, hsh], hK _ _ ?_⟩ | refine ⟨by simp [go_sem, hsh], by simp [go_sem, hsh], hK _ _ ?_⟩))
           | (refine ⟨_, ⟨f11, by simp [go_sem, hsh]⟩, ?_⟩; (first | refine hK _ ?_ | refine hK _ _ ?_ | refine ⟨by simp [go_sem, hsh], hK _ ?_⟩ | refine ⟨by simp [go_sem, hsh], hK _ _ ?_⟩ | refine ⟨by simp [go_sem, hsh], by simp [go_sem, hsh], hK _ _ ?_⟩))
           | (refine ⟨_, fun _ => f11, ?_⟩; (first | refine hK _ ?_ | refine hK _ _ ?_ | refine ⟨by simp [go_sem, hsh], hK _ ?_⟩ | refine ⟨by simp [go_sem, hsh], hK _ _ ?_⟩ | refine ⟨by simp [go_sem, hsh], by simp [go_sem, hsh], hK _ _ ?_⟩))
           | (refine ⟨_, fun hc => ⟨hc, f11⟩, ?_⟩; (first | refine hK _ ?_ | refine hK _ _ ?_ | refine ⟨by simp [go_sem, hsh], hK _ ?_⟩ | refine ⟨by simp [go_sem, hsh], hK _ _ ?_⟩ | refine ⟨by simp [go_sem, hsh], by simp [go_sem, hsh], hK _ _ ?_⟩))
           | (refine ⟨_, fun hc => ⟨f11, by simp [go_sem, hsh]⟩, ?_⟩; (first | refine hK _ ?_ | refine hK _ _ ?_ | refine ⟨by simp [go_sem, hsh], hK _ ?_⟩ | refine ⟨by simp [go_sem, hsh], hK _ _ ?_⟩ | refine ⟨by simp [go_sem, hsh], by simp [go_sem, hsh], hK _ _ ?_⟩))
           | (refine ⟨_, fun hc => ⟨hc, f11, by simp [go_sem, hsh]⟩, ?_⟩; (first | refine hK _ ?_ | refine hK _ _ ?_ | refine ⟨by simp [go_sem, hsh], hK _ ?_⟩ | refine ⟨by simp [go_sem, hsh], hK _ _ ?_⟩ | refine ⟨by simp [go_sem, hsh], by simp [go_sem, hsh], hK _ _ ?_⟩))
           | (refine ⟨_, f26s, ?_⟩; (first | refine hK _ ?_ | refine hK _ _ ?_ | refine ⟨by simp [go_sem, hsh], hK _ ?_⟩ | refine ⟨by simp [go_sem, hsh], hK _ _ ?_⟩ | refine ⟨by simp [go_sem, hsh], by simp [go_sem, hsh], hK _ _ ?_⟩))
           | (refine .inl ⟨_, f26s, ?_⟩; (first | refine hK _ ?_ | refine hK _ _ ?_ | refine ⟨by simp [go_sem, hsh], hK _ ?_⟩ | refine ⟨by simp [go_sem, hsh], hK _ _ ?_⟩ | refine ⟨by simp [go_sem, hsh], by simp [go_sem, hsh], hK _ _ ?_⟩))
           | (refine .inr ⟨_, f26s, ?_⟩; (first | refine hK _ ?_ | refine hK _ _ ?_ | refine ⟨by simp [go_sem, hsh], hK _ ?_⟩ | refine ⟨by simp [go_sem, hsh], hK _ _ ?_⟩ | refine ⟨by simp [go_sem, hsh], by simp [go_sem, hsh], hK _ _ ?_⟩))
           | (refine ⟨_, ⟨f26s, by simp [go_sem, hsh]⟩, ?_⟩; (first | refine hK _ ?_ | refine hK _ _ ?_ | refine ⟨by simp [go_sem, hsh], hK _ ?_⟩ | refine ⟨by simp [go_sem, hsh], hK _ _ ?_⟩ | refine ⟨by simp [go_sem, hsh], by simp [go_sem, hsh], hK _ _ ?_⟩))
           | (refine ⟨_, fun _ => f26s, ?_⟩; (first | refine hK _ ?_ | refine hK _ _ ?_ | refine ⟨by simp [go_sem, hsh], hK _ ?_⟩ | refine ⟨by simp [go_sem, hsh], hK _ _ ?_⟩ | refine ⟨by simp [go_sem, hsh], by simp [go_sem, hsh], hK _ _ ?_⟩))
           | (refine ⟨_, fun hc => ⟨hc, f26s⟩, ?_⟩; (first | refine hK _ ?_ | refine hK _ _ ?_ | refine ⟨by simp [go_sem, hsh], hK _ ?_⟩ | refine ⟨by simp [go_sem, hsh], hK _ _ ?_⟩ | refine ⟨by simp [go_sem, hsh], by simp [go_sem, hsh], hK _ _ ?_⟩))
           | (refine ⟨_, fun hc => ⟨f26s, by simp [go_sem, hsh]⟩, ?_⟩; (first | refine hK _ ?_ | refine hK _ _ ?_ | refine ⟨by simp [go_sem, hsh], hK _ ?_⟩ | refine ⟨by simp [go_sem, hsh], hK _ _ ?_⟩ | refine ⟨by simp [go_sem, hsh], by simp [go_sem, hsh], hK _ _ ?_⟩))
           | (refine ⟨_, fun hc => ⟨hc, f26s, by simp [go_sem, hsh]⟩, ?_⟩; (first | refine hK _ ?_ | refine hK _ _ ?_ | refine ⟨by simp [go_sem, hsh], hK _ ?_⟩ | refine ⟨by simp [go_sem, hsh], hK _ _ ?_⟩ | refine ⟨by simp [go_sem, hsh], by simp [go_sem, hsh], hK _ _ ?_⟩))
           | (refine ⟨_, f23s, ?_⟩; (first | refine hK _ ?_ | refine hK _ _ ?_ | refine ⟨by simp [go_sem, hsh], hK _ ?_⟩ | refine ⟨by simp [go_sem, hsh], hK _ _ ?_⟩ | refine ⟨by simp [go_sem, hsh], by simp [go_sem, hsh], hK _ _ ?_⟩))
           | (refine .inl ⟨_, f23s, ?_⟩; (first | refine hK _ ?_ | refine hK _ _ ?_ | refine ⟨by simp [go_sem, hsh], hK _ ?_⟩ | refine ⟨by simp [go_sem, hsh], hK _ _ ?_⟩ | refine ⟨by simp [go_sem, hsh], by simp [go_sem, hsh], hK _ _ ?_⟩))
           | (refine .inr ⟨_, f23s, ?_⟩; (first | refine hK _ ?_ | refine hK _ _ ?_ | refine ⟨by simp [go_sem, hsh], hK _ ?_⟩ | refine ⟨by simp [go_sem, hsh], hK _ _ ?_⟩ | refine ⟨by simp [go_sem, hsh], by simp [go_sem, hsh], hK _ _ ?_⟩))
           | (refine ⟨_, ⟨f23s, by simp [go_sem, hsh]⟩, ?_⟩; (first | refine hK _ ?_ | refine hK _ _ ?_ | refine ⟨by simp [go_sem, hsh], hK _ ?_⟩ | refine ⟨by simp [go_sem, hsh], hK _ _ ?_⟩ | refine ⟨by simp [go_sem, hsh], by simp [go_sem, hsh], hK _ _ ?_⟩))
           | (refine ⟨_, fun _ => f23s, ?_⟩; (first | refine hK _ ?_ | refine hK _ _ ?_ | refine ⟨by simp [go_sem, hsh], hK _ ?_⟩ | refine ⟨by simp [go_sem, hsh], hK _ _ ?_⟩ | refine ⟨by simp [go_sem, hsh], by simp [go_sem, hsh], hK _ _ ?_⟩))
           | (refine ⟨_, fun hc => ⟨hc, f23s⟩, ?_⟩; (first | refine hK _ ?_ | refine hK _ _ ?_ | refine ⟨by simp [go_sem, hsh], hK _ ?_⟩ | refine ⟨by simp [go_sem, hsh], hK _ _ ?_⟩ | refine ⟨by simp [go_sem, hsh], by simp [go_sem, hsh], hK _ _ ?_⟩))
           | (refine ⟨_, fun hc => ⟨f23s, by simp [go_sem, hsh]⟩, ?_⟩; (first | refine hK _ ?_ | refine hK _ _ ?_ | refine ⟨by simp [go_sem, hsh], hK _ ?_⟩ | refine ⟨by simp [go_sem, hsh], hK _ _ ?_⟩ | refine ⟨by simp [go_sem, hsh], by simp [go_sem, hsh], hK _ _ ?_⟩))
           | (refine ⟨_, fun hc => ⟨hc, f23s, by simp [go_sem, hsh]⟩, ?_⟩; (first | refine hK _ ?_ | refine hK _ _ ?_ | refine ⟨by simp [go_sem, hsh], hK _ ?_⟩ | refine ⟨by simp [go_sem, hsh], hK _ _ ?_⟩ | refine ⟨by simp [go_sem, hsh], by simp [go_sem, hsh], hK _ _ ?_⟩))
           | (refine ⟨_, f27s, ?_⟩; (first | refine hK _ ?_ | refine hK _ _ ?_ | refine ⟨by simp [go_sem, hsh], hK _ ?_⟩ | refine ⟨by simp [go_sem, hsh], hK _ _ ?_⟩ | refine ⟨by simp [go_sem, hsh], by simp [go_sem, hsh], hK _ _ ?_⟩))
           | (refine .inl ⟨_, f27s, ?_⟩; (first | refine hK _ ?_ | refine hK _ _ ?_ | refine ⟨by simp [go_sem, hsh], hK _ ?_⟩ | refine ⟨by simp [go_sem, hsh], hK _ _ ?_⟩ | refine ⟨by simp [go_sem, hsh], by simp [go_sem, hsh], hK _ _ ?_⟩))
           | (refine .inr ⟨_, f27s, ?_⟩; (first | refine hK _ ?_ | refine hK _ _ ?_ | refine ⟨by simp [go_sem, hsh], hK _ ?_⟩ | refine ⟨by simp [go_sem, hsh], hK _ _ ?_⟩ | refine ⟨by simp [go_sem, hsh], by simp [go_sem, hsh], hK _ _ ?_⟩))
           | (refine ⟨_, ⟨f27s, by simp [go_sem, hsh]⟩, ?_⟩; (first | refine hK _ ?_ | refine hK _ _ ?_ | refine ⟨by simp [go_sem, hsh], hK _ ?_⟩ | refine ⟨by simp [go_sem, hsh], hK _ _ ?_⟩ | refine ⟨by simp [go_sem, hsh], by simp [go_sem, hsh], hK _ _ ?_⟩))
           | (refine ⟨_, fun _ => f27s, ?_⟩; (first | refine hK _ ?_ | refine hK _ _ ?_ | refine ⟨by simp [go_sem, hsh], hK _ ?_⟩ | refine ⟨by simp [go_sem, hsh], hK _ _ ?_⟩ | refine ⟨by simp [go_sem, hsh], by simp [go_sem, hsh], hK _ _ ?_⟩))
           | (refine ⟨_, fun hc => ⟨hc, f27s⟩, ?_⟩; (first | refine hK _ ?_ | refine hK _ _ ?_ | refine ⟨by simp [go_sem, hsh], hK _ ?_⟩ | refine ⟨by simp [go_sem, hsh], hK _ _ ?_⟩ | refine ⟨by simp [go_sem, hsh], by simp [go_sem, hsh], hK _ _ ?_⟩))
           | (refine ⟨_, fun hc => ⟨f27s, by simp [go_sem, hsh]⟩, ?_⟩; (first | refine hK _ ?_ | refine hK _ _ ?_ | refine ⟨by simp [go_sem, hsh], hK _ ?_⟩ | refine ⟨by simp [go_sem, hsh], hK _ _ ?_⟩ | refine ⟨by simp [go_sem, hsh], by simp [go_sem, hsh], hK _ _ ?_⟩))
           | (refine ⟨_, fun hc => ⟨hc, f27s, by simp [go_sem, hsh]⟩, ?_⟩; (first | refine hK _ ?_ | refine hK _ _ ?_ | refine ⟨by simp [go_sem, hsh], hK _ ?_⟩ | refine ⟨by simp [go_sem, hsh], hK _ _ ?_⟩ | refine ⟨by simp [go_sem, hsh], by simp [go_sem, hsh], hK _ _ ?_⟩))
           | (refine ⟨_, f28s, ?_⟩; (first | refine hK _ ?_ | refine hK _ _ ?_ | refine ⟨by simp [go_sem, hsh], hK _ ?_⟩ | refine ⟨by simp [go_sem, hsh], hK _ _ ?_⟩ | refine ⟨by simp [go_sem, hsh], by simp [go_sem, hsh], hK _ _ ?_⟩))
           | (refine .inl ⟨_, f28s, ?_⟩; (first | refine hK _ ?_ | refine hK _ _ ?_ | refine ⟨by simp [go_sem, hsh], hK _ ?_⟩ | refine ⟨by simp [go_sem, hsh], hK _ _ ?_⟩ | refine ⟨by simp [go_sem, hsh], by simp [go_sem, hsh], hK _ _ ?_⟩))
           | (refine .inr ⟨_, f28s, ?_⟩; (first | refine hK _ ?_ | refine hK _ _ ?_ | refine ⟨by simp [go_sem, hsh], hK _ ?_⟩ | refine ⟨by simp [go_sem, hsh], hK _ _ ?_⟩ | refine ⟨by simp [go_sem, hsh], by simp [go_sem, hsh], hK _ _ ?_⟩))
           | (refine ⟨_, ⟨f28s, by simp [go_sem, hsh]⟩, ?_⟩; (first | refine hK _ ?_ | refine hK _ _ ?_ | refine ⟨by simp [go_sem, hsh], hK _ ?_⟩ | refine ⟨by simp [go_sem, hsh], hK _ _ ?_⟩ | refine ⟨by simp [go_sem, hsh], by simp [go_sem, hsh], hK _ _ ?_⟩))
           | (refine ⟨_, fun _ => f28s, ?_⟩; (first | refine hK _ ?_ | refine hK _ _ ?_ | refine ⟨by simp [go_sem, hsh], hK _ ?_⟩ | refine ⟨by simp [go_sem, hsh], hK _ _ ?_⟩ | refine ⟨by simp [go_sem, hsh], by simp [go_sem, hsh], hK _ _ ?_⟩))
           | (refine ⟨_, fun hc => ⟨hc, f28s⟩, ?_⟩; (first | refine hK _ ?_ | refine hK _ _ ?_ | refine ⟨by simp [go_sem, hsh], hK _ ?_⟩ | refine ⟨by simp [go_sem, hsh], hK _ _ ?_⟩ | refine ⟨by simp [go_sem, hsh], by simp [go_sem, hsh], hK _ _ ?_⟩))
           | (refine ⟨_, fun hc => ⟨f28s, by simp [go_sem, hsh]⟩, ?_⟩; (first | refine hK _ ?_ | refine hK _ _ ?_ | refine ⟨by simp [go_sem, hsh], hK _ ?_⟩ | refine ⟨by simp [go_sem, hsh], hK _ _ ?_⟩ | refine ⟨by simp [go_sem, hsh], by simp [go_sem, hsh], hK _ _ ?_⟩))
           | (refine ⟨_, fun hc => ⟨hc, f28s, by simp [go_sem, hsh]⟩, ?_⟩; (first | refine hK _ ?_ | refine hK _ _ ?_ | refine ⟨by simp [go_sem, hsh], hK _ ?_⟩ | refine ⟨by simp [go_sem, hsh], hK _ _ ?_⟩ | refine ⟨by simp [go_sem, hsh], by simp [go_sem, hsh], hK _ _ ?_⟩))
           | (refine ⟨_, f29s, ?_⟩; (first | refine hK _ ?_ | refine hK _ _ ?_ | refine ⟨by simp [go_sem, hsh], hK _ ?_⟩ | refine ⟨by simp [go_sem, hsh], hK _ _ ?_⟩ | refine ⟨by simp [go_sem, hsh], by simp [go_sem, hsh], hK _ _ ?_⟩))
           | (refine .inl ⟨_, f29s, ?_⟩; (first | refine hK _ ?_ | refine hK _ _ ?_ | refine ⟨by simp [go_sem, hsh], hK _ ?_⟩ | refine ⟨by simp [go_sem, hsh], hK _ _ ?_⟩ | refine ⟨by simp [go_sem, hsh], by simp [go_sem, hsh], hK _ _ ?_⟩))
           | (refine .inr ⟨_, f29s, ?_⟩; (first | refine hK _ ?_ | refine hK _ _ ?_ | refine ⟨by simp [go_sem, hsh], hK _ ?_⟩ | refine ⟨by simp [go_sem, hsh], hK _ _ ?_⟩ | refine ⟨by simp [go_sem, hsh], by simp [go_sem, hsh], hK _ _ ?_⟩))
           | (refine ⟨_, ⟨f29s, by simp [go_sem, hsh]⟩, ?_⟩; (first | refine hK _ ?_ | refine hK _ _ ?_ | refine ⟨by simp [go_sem, hsh], hK _ ?_⟩ | refine ⟨by simp [go_sem, hsh], hK _ _ ?_⟩ | refine ⟨by simp [go_sem, hsh], by simp [go_sem, hsh], hK _ _ ?_⟩))
           | (refine ⟨_, fun _ => f29s, ?_⟩; (first | refine hK _ ?_ | refine hK _ _ ?_ | refine ⟨by simp [go_sem, hsh], hK _ ?_⟩ | refine ⟨by simp [go_sem, hsh], hK _ _ ?_⟩ | refine ⟨by simp [go_sem, hsh], by simp [go_sem, hsh], hK _ _ ?_⟩))
           | (refine ⟨_, fun hc => ⟨hc, f29s⟩, ?_⟩; (first | refine hK _ ?_ | refine hK _ _ ?_ | refine ⟨by simp [go_sem, hsh], hK _ ?_⟩ | refine ⟨by simp [go_sem, hsh], hK _ _ ?_⟩ | refine ⟨by simp [go_sem, hsh], by simp [go_sem, hsh], hK _ _ ?_⟩))
           | (refine ⟨_, fun hc => ⟨f29s, by simp [go_sem, hsh]⟩, ?_⟩; (first | refine hK _ ?_ | refine hK _ _ ?_ | refine ⟨by simp [go_sem, hsh], hK _ ?_⟩ | refine ⟨by simp [go_sem, hsh], hK _ _ ?_⟩ | refine ⟨by simp [go_sem, hsh], by simp [go_sem, hsh], hK _ _ ?_⟩))
           | (refine ⟨_, fun hc => ⟨hc, f29s, by simp [go_sem, hsh]⟩, ?_⟩; (first | refine hK _ ?_ | refine hK _ _ ?_ | refine ⟨by simp [go_sem, hsh], hK _ ?_⟩ | refine ⟨by simp [go_sem, hsh], hK _ _ ?_⟩ | refine ⟨by simp [go_sem, hsh], by simp [go_sem, hsh], hK _ _ ?_⟩))
           | (refine ⟨_, f16s, ?_⟩; (first | refine hK _ ?_ | refine hK _ _ ?_ | refine ⟨by simp [go_sem, hsh], hK _ ?_⟩ | refine ⟨by simp [go_sem, hsh], hK _ _ ?_⟩ | refine ⟨by simp [go_sem, hsh], by simp [go_sem, hsh], hK _ _ ?_⟩))
           | (refine .inl ⟨_, f16s, ?_⟩; (first | refine hK _ ?_ | refine hK _ _ ?_ | refine ⟨by simp [go_sem, hsh], hK _ ?_⟩ | refine ⟨by simp [go_sem, hsh], hK _ _ ?_⟩ | refine ⟨by simp [go_sem, hsh], by simp [go_sem, hsh], hK _ _ ?_⟩))
           | (refine .inr ⟨_, f16s, ?_⟩; (first | refine hK _ ?_ | refine hK _ _ ?_ | refine ⟨by simp [go_sem, hsh], hK _ ?_⟩ | refine ⟨by simp [go_sem, hsh], hK _ _ ?_⟩ | refine ⟨by simp [go_sem, hsh], by simp [go_sem, hsh], hK _ _ ?_⟩))
           | (refine ⟨_, ⟨f16s, by simp [go_sem, hsh]⟩, ?_⟩; (first | refine hK _ ?_ | refine hK _ _ ?_ | refine ⟨by simp [go_sem, hsh], hK _ ?_⟩ | refine ⟨by simp [go_sem, hsh], hK _ _ ?_⟩ | refine ⟨by simp [go_sem, hsh], by simp [go_sem, hsh], hK _ _ ?_⟩))
           | (refine ⟨_, fun _ => f16s, ?_⟩; (first | refine hK _ ?_ | refine hK _ _ ?_ | refine ⟨by simp [go_sem, hsh], hK _ ?_⟩ | refine ⟨by simp [go_sem, hsh], hK _ _ ?_⟩ | refine ⟨by simp [go_sem, hsh], by simp [go_sem, hsh], hK _ _ ?_⟩))
           | (refine ⟨_, fun hc => ⟨hc, f16s⟩, ?_⟩; (first | refine hK _ ?_ | refine hK _ _ ?_ | refine ⟨by simp [go_sem, hsh], hK _ ?_⟩ | refine ⟨by simp [go_sem, hsh], hK _ _ ?_⟩ | refine ⟨by simp [go_sem, hsh], by simp [go_sem, hsh], hK _ _ ?_⟩))
           | (refine ⟨_, fun hc => ⟨f16s, by simp [go_sem, hsh]⟩, ?_⟩; (first | refine hK _ ?_ | refine hK _ _ ?_ | refine ⟨by simp [go_sem, hsh], hK _ ?_⟩ | refine ⟨by simp [go_sem, hsh], hK _ _ ?_⟩ | refine ⟨by simp [go_sem, hsh], by simp [go_sem, hsh], hK _ _ ?_⟩))
           | (refine ⟨_, fun hc => ⟨hc, f16s, by simp [go_sem, hsh]⟩, ?_⟩; (first | refine hK _ ?_ | refine hK _ _ ?_ | refine ⟨by simp [go_sem, hsh], hK _ ?_⟩ | refine ⟨by simp [go_sem, hsh], hK _ _ ?_⟩ | refine ⟨by simp [go_sem, hsh], by simp [go_sem, hsh], hK _ _ ?_⟩))
           | refine ⟨.one (.one (.bool false)), by simp [go_sem, hsh], hK _ _ ?_⟩
           | refine ⟨by (first | (simp [appendOk, flatEls, hsh]; done) | (simp [appendOk, flatEls, hsh]; omega)), hK _ ?_⟩
           | refine ⟨hK _ ?_, fun h => hK _ ?_⟩
           | refine ⟨by omega, hK _ ?_⟩
           | refine ⟨by omega, hK _ _ ?_⟩
           | refine ⟨?_, hK _ ?_⟩
           | refine ⟨?_, hK _ _ ?_⟩
         all_goals clear hK K)
    simp [go_sem]
  · have hsh' : (decide (H.length ≤ 8) && decide (total H ≤ 60)) = false := by simpa using hsh
    rw [hsh'] at f26s
    repeat' first
      | with_reducible first | refine awp_seq ?_ | refine awp_reg ?_ | refine awp_block ?_ | refine awp_ret ?_ | refine awp_exit ?_ | refine awp_skip ?_ | refine awp_scp ?_ | refine scpQ_normal ?_ | refine scpQ_ret ?_ | refine scpQ_exit ?_ | refine seqQ_normal ?_ | refine seqQ_ret ?_ | refine seqQ_exit ?_ | refine blockQ_normal ?_ | refine blockQ_ret ?_ | refine blockQ_same ?_ | refine blockQ_other (by decide) ?_ | refine loopQ_ret ?_ | refine loopQ_exit ?_ | refine arun_nil ?_ | refine arunA_nil ?_ | refine arunB_nil ?_ | refine drwQ_intro ?_ | refine deadQ_nil ?_
      | ((with_reducible refine awp_cond2 (t := ?_) ?hc (fun h => ?_) (fun h => ?_))
         case hc => rfl
         all_goals (try simp [go_sem] at h)
         all_goals try omega)
      | ((with_reducible first | refine arun_cons fun K hK => ?_ | refine arunA_cons fun K hK => ?_ | refine arunB_cons fun K hK => ?_ | refine awp_drw fun K hK => ?_ | refine deadQ_some fun K hK => ?_ | refine pruneQ_intro fun K hK => ?_)
         simp [go_sem]
         try simp (disch := omega) only [wrap_i64, okRefs, eq_self, true_and]
         first
           | refine hK _ ?_
           | refine hK _ _ ?_
           | (refine ⟨_, f11, ?_⟩; (first | refine hK _ ?_ | refine hK _ _ ?_ | refine ⟨by simp [go_sem], hK _ ?_⟩ | refine ⟨by simp [go_sem], hK _ _ ?_⟩ | refine ⟨by simp [go_sem], by simp [go_sem], hK _ _ ?_⟩))
           | (refine .inl ⟨_, f11, ?_⟩; (first | refine hK _ ?_ | refine hK _ _ ?_ | refine ⟨by simp [go_sem], hK _ ?_⟩ | refine ⟨by simp [go_sem], hK _ _ ?_⟩ | refine ⟨by simp [go_sem], by simp [go_sem], hK _ _ ?_⟩))
           | (refine .inr ⟨_, f11, ?_⟩; (first | refine hK _ ?_ | refine hK _ _ ?_ | refine ⟨by simp [go_sem], hK _ ?_⟩ | refine ⟨by simp [go_sem], hK _ _ ?_⟩ | refine ⟨by simp [go_sem], by simp [go_sem], hK _ _ ?_⟩))
           | (refine ⟨_, ⟨f11, by simp [go_sem]⟩, ?_⟩; (first | refine hK _ ?_ | refine hK _ _ ?_ | refine ⟨by simp [go_sem], hK _ ?_⟩ | refine ⟨by simp [go_sem], hK _ _ ?_⟩ | refine ⟨by simp [go_sem], by simp [go_sem], hK _ _ ?_⟩))
           | (refine ⟨_, fun _ => f11, ?_⟩; (first | refine hK _ ?_ | refine hK _ _ ?_ | refine ⟨by simp [go_sem], hK _ ?_⟩ | refine ⟨by simp [go_sem], hK _ _ ?_⟩ | refine ⟨by simp [go_sem], by simp [go_sem], hK _ _ ?_⟩))
           | (refine ⟨_, fun hc => ⟨hc, f11⟩, ?_⟩; (first | refine hK _ ?_ | refine hK _ _ ?_ | refine ⟨by simp [go_sem], hK _ ?_⟩ | refine ⟨by simp [go_sem], hK _ _ ?_⟩ | refine ⟨by simp [go_sem], by simp [go_sem], hK _ _ ?_⟩))
           | (refine ⟨_, fun hc => ⟨f11, by simp [go_sem]⟩, ?_⟩; (first | refine hK _ ?_ | refine hK _ _ ?_ | refine ⟨by simp [go_sem], hK _ ?_⟩ | refine ⟨by simp [go_sem], hK _ _ ?_⟩ | refine ⟨by simp [go_sem], by simp [go_sem], hK _ _ ?_⟩))
           | (refine ⟨_, fun hc => ⟨hc, f11, by simp [go_sem]⟩, ?_⟩; (first | refine hK _ ?_ | refine hK _ _ ?_ | refine ⟨by simp [go_sem], hK _ ?_⟩ | refine ⟨by simp [go_sem], hK _ _ ?_⟩ | refine ⟨by simp [go_sem], by simp [go_sem], hK _ _ ?_⟩))
           | (refine ⟨_, f26s, ?_⟩; (first | refine hK _ ?_ | refine hK _ _ ?_ | refine ⟨by simp [go_sem], hK _ ?_⟩ | refine ⟨by simp [go_sem], hK _ _ ?_⟩ | refine ⟨by simp [go_sem], by simp [go_sem], hK _ _ ?_⟩))
           | (refine .inl ⟨_, f26s, ?_⟩; (first | refine hK _ ?_ | refine hK _ _ ?_ | refine ⟨by simp [go_sem], hK _ ?_⟩ | refine ⟨by simp [go_sem], hK _ _ ?_⟩ | refine ⟨by simp [go_sem], by simp [go_sem], hK _ _ ?_⟩))
           | (refine .inr ⟨_, f26s, ?_⟩; (first | refine hK _ ?_ | refine hK _ _ ?_ | refine ⟨by simp [go_sem], hK _ ?_⟩ | refine ⟨by simp [go_sem], hK _ _ ?_⟩ | refine ⟨by simp [go_sem], by simp [go_sem], hK _ _ ?_⟩))
           | (refine ⟨_, ⟨f26s, by simp [go_sem]⟩, ?_⟩; (first | refine hK _ ?_ | refine hK _ _ ?_ | refine ⟨by simp [go_sem], hK _ ?_⟩ | refine ⟨by simp [go_sem], hK _ _ ?_⟩ | refine ⟨by simp [go_sem], by simp [go_sem], hK _ _ ?_⟩))
           | (refine ⟨_, fun _ => f26s, ?_⟩; (first | refine hK _ ?_ | refine hK _ _ ?_ | refine ⟨by simp [go_sem], hK _ ?_⟩ | refine ⟨by simp [go_sem], hK _ _ ?_⟩ | refine ⟨by simp [go_sem], by simp [go_sem], hK _ _ ?_⟩))
           | (refine ⟨_, fun hc => ⟨hc, f26s⟩, ?_⟩; (first | refine hK _ ?_ | refine hK _ _ ?_ | refine ⟨by simp [go_sem], hK _ ?_⟩ | refine ⟨by simp [go_sem], hK _ _ ?_⟩ | refine ⟨by simp [go_sem], by simp [go_sem], hK _ _ ?_⟩))
           | (refine ⟨_, fun hc => ⟨f26s, by simp [go_sem]⟩, ?_⟩; (first | refine hK _ ?_ | refine hK _ _ ?_ | refine ⟨by simp [go_sem], hK _ ?_⟩ | refine ⟨by simp [go_sem], hK _ _ ?_⟩ | refine ⟨by simp [go_sem], by simp [go_sem], hK _ _ ?_⟩))
           | (refine ⟨_, fun hc => ⟨hc, f26s, by simp [go_sem]⟩, ?_⟩; (first | refine hK _ ?_ | refine hK _ _ ?_ | refine ⟨by simp [go_sem], hK _ ?_⟩ | refine ⟨by simp [go_sem], hK _ _ ?_⟩ | refine ⟨by simp [go_sem], by simp [go_sem], hK _ _ ?_⟩))
           | refine ⟨.one (.one (.bool false)), by simp [go_sem], hK _ _ ?_⟩
           | refine ⟨by (first | (simp [appendOk, flatEls]; done) | (simp [appendOk, flatEls]; omega)), hK _ ?_⟩
           | refine ⟨hK _ ?_, fun h => hK _ ?_⟩
           | refine ⟨by omega, hK _ ?_⟩
           | refine ⟨by omega, hK _ _ ?_⟩
           | refine ⟨?_, hK _ ?_⟩
           | refine ⟨?_, hK _ _ ?_⟩
         all_goals clear hK K)
    simp [go_sem]
end Go.Av
