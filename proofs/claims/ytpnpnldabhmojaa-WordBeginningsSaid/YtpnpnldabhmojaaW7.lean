/- Part of a proof by symbolic walks on plain data. -/
import Derived.Test.YtpnpnldabhmojaaW1
set_option linter.unusedVariables false
set_option linter.unusedSimpArgs false
namespace Go.Av
open Go Go.RowKit Go.Proofs

def total (H : List (List Ev)) : Nat := (H.map List.length).sum

theorem total_succ {H : List (List Ev)} {k : Nat} (h : k < H.length) : total (H.take (k + 1)) = total (H.take k) + H[k].length := by
  unfold total
  rw [List.take_succ_eq_append_getElem h, List.map_append, List.sum_append]
  simp

theorem total_le : ∀ (H : List (List Ev)), (∀ l ∈ H, l.length ≤ 1000000) → total H ≤ H.length * 1000000
  | [], _ => by simp [total]
  | l :: H, h => by
    have h1 := total_le H fun x hx => h x (by simp [hx])
    have h2 := h l (by simp)
    simp only [total, List.map_cons, List.sum_cons, List.length_cons] at *
    omega

theorem f26 (H : List (List Ev)) (hl : H.length ≤ 1000000) (hh : ∀ l ∈ H, l.length ≤ 1000000) : Impl Try.prog 26 [.one (.sl (H.map encH))] (.one (.one (.bool (decide (H.length ≤ 8) && decide (total H ≤ 60))))) := by
  refine impl_intro Try.func26 b26 e26 r26 n26 Try.ntmps26 d26 (by simp) fun hs => ?_
  clear hs
  simp only [c26, slotsOf]
  repeat' first
    | with_reducible first | refine awp_seq ?_ | refine awp_reg ?_ | refine awp_block ?_ | refine awp_ret ?_ | refine awp_exit ?_ | refine awp_skip ?_ | refine awp_scp ?_ | refine scpQ_normal ?_ | refine scpQ_ret ?_ | refine scpQ_exit ?_ | refine seqQ_normal ?_ | refine seqQ_ret ?_ | refine seqQ_exit ?_ | refine blockQ_normal ?_ | refine blockQ_ret ?_ | refine blockQ_same ?_ | refine blockQ_other (by decide) ?_ | refine loopQ_ret ?_ | refine loopQ_exit ?_ | refine arun_nil ?_ | refine arunA_nil ?_ | refine arunB_nil ?_ | refine drwQ_intro ?_ | refine deadQ_nil ?_
    | ((with_reducible refine awp_cond2 (t := ?_) ?hc (fun h => ?_) (fun h => ?_))
       case hc => rfl
       all_goals (try simp [go_sem] at h)
       all_goals try omega)
    | ((with_reducible first | refine arun_cons fun K hK => ?_ | refine arunA_cons fun K hK => ?_ | refine arunB_cons fun K hK => ?_ | refine awp_drw fun K hK => ?_ | refine deadQ_some fun K hK => ?_ | refine pruneQ_intro fun K hK => ?_)
       simp [go_sem]
       try simp (disch := omega) only [wrap_i64, okRefs, eq_self, true_and]
       first
         | refine hK _ ?_
         | refine hK _ _ ?_
         | refine ⟨by (first | (simp [appendOk, flatEls]; done) | (simp [appendOk, flatEls]; omega)), hK _ ?_⟩
         | refine ⟨hK _ ?_, fun h => hK _ ?_⟩
         | refine ⟨by omega, hK _ ?_⟩
         | refine ⟨by omega, hK _ _ ?_⟩
         | refine ⟨?_, hK _ ?_⟩
         | refine ⟨?_, hK _ _ ?_⟩
       all_goals clear hK K)
  refine awp_loop (fun n e => ∃ k, k + n = H.length ∧ e = [(4, .sv (.one (.int .i64 (k : Nat)))), (3, .sv (.one (.int .i64 (total (H.take k) : Nat)))), (0, .sv (.one (.sl (H.map encH))))]) H.length _ ⟨0, by simp, rfl⟩ (by simp [go_sem, total]) ?_
  rintro n e ⟨k, hk, rfl⟩
  have ht := total_le (H.take k) fun l hl => hh l (List.mem_of_mem_take hl)
  have hlk : (H.take k).length ≤ k := List.length_take_le _ _
  have htk : total (H.take k) ≤ 1000000000000 := by omega
  clear ht hlk
  by_cases hlt : k < H.length
  · have hh' := hh H[k] (List.getElem_mem hlt)
    repeat' first
      | with_reducible first | refine awp_seq ?_ | refine awp_reg ?_ | refine awp_block ?_ | refine awp_ret ?_ | refine awp_exit ?_ | refine awp_skip ?_ | refine awp_scp ?_ | refine scpQ_normal ?_ | refine scpQ_ret ?_ | refine scpQ_exit ?_ | refine seqQ_normal ?_ | refine seqQ_ret ?_ | refine seqQ_exit ?_ | refine blockQ_normal ?_ | refine blockQ_ret ?_ | refine blockQ_same ?_ | refine blockQ_other (by decide) ?_ | refine loopQ_ret ?_ | refine loopQ_exit ?_ | refine arun_nil ?_ | refine arunA_nil ?_ | refine arunB_nil ?_ | refine drwQ_intro ?_ | refine deadQ_nil ?_
      | ((with_reducible refine awp_cond2 (t := ?_) ?hc (fun h => ?_) (fun h => ?_))
         case hc => rfl
         all_goals (try simp [go_sem, hlt, encH] at h)
         all_goals try omega)
      | ((with_reducible first | refine arun_cons fun K hK => ?_ | refine arunA_cons fun K hK => ?_ | refine arunB_cons fun K hK => ?_ | refine awp_drw fun K hK => ?_ | refine deadQ_some fun K hK => ?_ | refine pruneQ_intro fun K hK => ?_)
         simp [go_sem, hlt, encH]
         try simp (disch := omega) only [wrap_i64, okRefs, eq_self, true_and]
         first
           | refine hK _ ?_
           | refine hK _ _ ?_
           | refine ⟨by (first | (simp [appendOk, flatEls, hlt, encH]; done) | (simp [appendOk, flatEls, hlt, encH]; omega)), hK _ ?_⟩
           | refine ⟨hK _ ?_, fun h => hK _ ?_⟩
           | refine ⟨by omega, hK _ ?_⟩
           | refine ⟨by omega, hK _ _ ?_⟩
           | refine ⟨?_, hK _ ?_⟩
           | refine ⟨?_, hK _ _ ?_⟩
         all_goals clear hK K)
    refine loopQ_normal (n - 1) _ (by omega) ⟨k + 1, by omega, rfl⟩ ?_
    simp [go_sem, total_succ hlt]
  · have hkl : H.take k = H := List.take_of_length_le (by omega)
    repeat' first
      | with_reducible first | refine awp_seq ?_ | refine awp_reg ?_ | refine awp_block ?_ | refine awp_ret ?_ | refine awp_exit ?_ | refine awp_skip ?_ | refine awp_scp ?_ | refine scpQ_normal ?_ | refine scpQ_ret ?_ | refine scpQ_exit ?_ | refine seqQ_normal ?_ | refine seqQ_ret ?_ | refine seqQ_exit ?_ | refine blockQ_normal ?_ | refine blockQ_ret ?_ | refine blockQ_same ?_ | refine blockQ_other (by decide) ?_ | refine loopQ_ret ?_ | refine loopQ_exit ?_ | refine arun_nil ?_ | refine arunA_nil ?_ | refine arunB_nil ?_ | refine drwQ_intro ?_ | refine deadQ_nil ?_
      | ((with_reducible refine awp_cond2 (t := ?_) ?hc (fun h => ?_) (fun h => ?_))
         case hc => rfl
         all_goals (try simp [go_sem, hlt] at h)
         all_goals try omega)
      | ((with_reducible first | refine arun_cons fun K hK => ?_ | refine arunA_cons fun K hK => ?_ | refine arunB_cons fun K hK => ?_ | refine awp_drw fun K hK => ?_ | refine deadQ_some fun K hK => ?_ | refine pruneQ_intro fun K hK => ?_)
         simp [go_sem, hlt]
         try simp (disch := omega) only [wrap_i64, okRefs, eq_self, true_and]
         first
           | refine hK _ ?_
           | refine hK _ _ ?_
           | refine ⟨by (first | (simp [appendOk, flatEls, hlt]; done) | (simp [appendOk, flatEls, hlt]; omega)), hK _ ?_⟩
           | refine ⟨hK _ ?_, fun h => hK _ ?_⟩
           | refine ⟨by omega, hK _ ?_⟩
           | refine ⟨by omega, hK _ _ ?_⟩
           | refine ⟨?_, hK _ ?_⟩
           | refine ⟨?_, hK _ _ ?_⟩
         all_goals clear hK K)
    simp [go_sem, hkl]
    rw [Bool.eq_iff_iff]
    simp
    omega

def okI (x : Inter) : Bool := decide (0 ≤ x.from_) && decide (x.from_ < 6) && decide (0 ≤ x.to) && decide (x.to < 6) && decide (x.from_ ≠ x.to)

theorem f22 (l : List Inter) (hl : l.length ≤ 1000000) : Impl Try.prog 22 [.one (.sl (l.map encI))] (.one (.one (.bool (l.all okI)))) := by
  refine impl_intro Try.func22 b22 e22 r22 n22 Try.ntmps22 d22 (by simp) fun hs => ?_
  clear hs
  simp only [c22, slotsOf]
  repeat' first
    | with_reducible first | refine awp_seq ?_ | refine awp_reg ?_ | refine awp_block ?_ | refine awp_ret ?_ | refine awp_exit ?_ | refine awp_skip ?_ | refine awp_scp ?_ | refine scpQ_normal ?_ | refine scpQ_ret ?_ | refine scpQ_exit ?_ | refine seqQ_normal ?_ | refine seqQ_ret ?_ | refine seqQ_exit ?_ | refine blockQ_normal ?_ | refine blockQ_ret ?_ | refine blockQ_same ?_ | refine blockQ_other (by decide) ?_ | refine loopQ_ret ?_ | refine loopQ_exit ?_ | refine arun_nil ?_ | refine arunA_nil ?_ | refine arunB_nil ?_ | refine drwQ_intro ?_ | refine deadQ_nil ?_
    | ((with_reducible refine awp_cond2 (t := ?_) ?hc (fun h => ?_) (fun h => ?_))
       case hc => rfl
       all_goals (try simp [go_sem] at h)
       all_goals try omega)
    | ((with_reducible first | refine arun_cons fun K hK => ?_ | refine arunA_cons fun K hK => ?_ | refine arunB_cons fun K hK => ?_ | refine awp_drw fun K hK => ?_ | refine deadQ_some fun K hK => ?_ | refine pruneQ_intro fun K hK => ?_)
       simp [go_sem]
       try simp (disch := omega) only [wrap_i64, okRefs, eq_self, true_and]
       first
         | refine hK _ ?_
         | refine hK _ _ ?_
         | refine ⟨by (first | (simp [appendOk, flatEls]; done) | (simp [appendOk, flatEls]; omega)), hK _ ?_⟩
         | refine ⟨hK _ ?_, fun h => hK _ ?_⟩
         | refine ⟨by omega, hK _ ?_⟩
         | refine ⟨by omega, hK _ _ ?_⟩
         | refine ⟨?_, hK _ ?_⟩
         | refine ⟨?_, hK _ _ ?_⟩
       all_goals clear hK K)
  refine awp_loop (fun n e => ∃ k, k + n = l.length ∧ (l.take k).all okI = true ∧ e = [(7, .sv (.one (.int .i64 (k : Nat)))), (6, .sv (.one (.int .i64 l.length))), (5, .sv (.one (.sl (l.map encI)))), (0, .sv (.one (.sl (l.map encI))))]) l.length _ ⟨0, by simp, by simp, rfl⟩ (by simp [go_sem]) ?_
  rintro n e ⟨k, hk, hok, rfl⟩
  by_cases hlt : k < l.length
  · skip
    repeat' first
      | with_reducible first | refine awp_seq ?_ | refine awp_reg ?_ | refine awp_block ?_ | refine awp_ret ?_ | refine awp_exit ?_ | refine awp_skip ?_ | refine awp_scp ?_ | refine scpQ_normal ?_ | refine scpQ_ret ?_ | refine scpQ_exit ?_ | refine seqQ_normal ?_ | refine seqQ_ret ?_ | refine seqQ_exit ?_ | refine blockQ_normal ?_ | refine blockQ_ret ?_ | refine blockQ_same ?_ | refine blockQ_other (by decide) ?_ | refine loopQ_ret ?_ | refine loopQ_exit ?_ | refine arun_nil ?_ | refine arunA_nil ?_ | refine arunB_nil ?_ | refine drwQ_intro ?_ | refine deadQ_nil ?_
      | ((with_reducible refine awp_cond2 (t := ?_) ?hc (fun h => ?_) (fun h => ?_))
         case hc => rfl
         all_goals (try simp [go_sem, hlt, encI] at h)
         all_goals try omega)
      | ((with_reducible first | refine arun_cons fun K hK => ?_ | refine arunA_cons fun K hK => ?_ | refine arunB_cons fun K hK => ?_ | refine awp_drw fun K hK => ?_ | refine deadQ_some fun K hK => ?_ | refine pruneQ_intro fun K hK => ?_)
         simp [go_sem, hlt, encI]
         try simp (disch := omega) only [wrap_i64, okRefs, eq_self, true_and]
         first
           | refine hK _ ?_
           | refine hK _ _ ?_
           | refine ⟨by (first | (simp [appendOk, flatEls, hlt, encI]; done) | (simp [appendOk, flatEls, hlt, encI]; omega)), hK _ ?_⟩
           | refine ⟨hK _ ?_, fun h => hK _ ?_⟩
           | refine ⟨by omega, hK _ ?_⟩
           | refine ⟨by omega, hK _ _ ?_⟩
           | refine ⟨?_, hK _ ?_⟩
           | refine ⟨?_, hK _ _ ?_⟩
         all_goals clear hK K)
    · have hb : okI l[k] = false := by
        simp only [okI]
        simp_all
        omega
      simp [go_sem, all_no hlt hb]
    · refine loopQ_normal (n - 1) _ (by omega) ⟨k + 1, by omega, ?_, rfl⟩ ?_
      · rw [all_succ hlt, hok]
        simp only [okI]
        simp_all
      · simp [go_sem]
  · have hkl : l.take k = l := List.take_of_length_le (by omega)
    repeat' first
      | with_reducible first | refine awp_seq ?_ | refine awp_reg ?_ | refine awp_block ?_ | refine awp_ret ?_ | refine awp_exit ?_ | refine awp_skip ?_ | refine awp_scp ?_ | refine scpQ_normal ?_ | refine scpQ_ret ?_ | refine scpQ_exit ?_ | refine seqQ_normal ?_ | refine seqQ_ret ?_ | refine seqQ_exit ?_ | refine blockQ_normal ?_ | refine blockQ_ret ?_ | refine blockQ_same ?_ | refine blockQ_other (by decide) ?_ | refine loopQ_ret ?_ | refine loopQ_exit ?_ | refine arun_nil ?_ | refine arunA_nil ?_ | refine arunB_nil ?_ | refine drwQ_intro ?_ | refine deadQ_nil ?_
      | ((with_reducible refine awp_cond2 (t := ?_) ?hc (fun h => ?_) (fun h => ?_))
         case hc => rfl
         all_goals (try simp [go_sem, hlt] at h)
         all_goals try omega)
      | ((with_reducible first | refine arun_cons fun K hK => ?_ | refine arunA_cons fun K hK => ?_ | refine arunB_cons fun K hK => ?_ | refine awp_drw fun K hK => ?_ | refine deadQ_some fun K hK => ?_ | refine pruneQ_intro fun K hK => ?_)
         simp [go_sem, hlt]
         try simp (disch := omega) only [wrap_i64, okRefs, eq_self, true_and]
         first
           | refine hK _ ?_
           | refine hK _ _ ?_
           | refine ⟨by (first | (simp [appendOk, flatEls, hlt]; done) | (simp [appendOk, flatEls, hlt]; omega)), hK _ ?_⟩
           | refine ⟨hK _ ?_, fun h => hK _ ?_⟩
           | refine ⟨by omega, hK _ ?_⟩
           | refine ⟨by omega, hK _ _ ?_⟩
           | refine ⟨?_, hK _ ?_⟩
           | refine ⟨?_, hK _ _ ?_⟩
         all_goals clear hK K)
    rw [hkl] at hok
    simp [go_sem, hok]

def hists (l : List Inter) (n : Nat) : List (List Ev) := (List.range n).map fun (i : Nat) => project l i
def encO (x : List Ev) : List DV := [.ow 5 (x.map encE)]
def histories (l : List Inter) (n : Int) : List (List Ev) := if n < 0 ∨ 6 < n then [] else hists l n.toNat

theorem hists_succ (l : List Inter) (n : Nat) : hists l (n + 1) = hists l n ++ [project l n] := by
  simp [hists, List.range_succ]
theorem hists_len (l : List Inter) (n : Nat) : (hists l n).length = n := by simp [hists]

def fillH (l : List Inter) (m k : Nat) : List (List DV) := (hists l k).map encO ++ List.replicate (m - k) [DV.nil]
theorem fillH_get {l : List Inter} {m k : Nat} (h : k < m) : (fillH l m k)[k]? = some [DV.nil] := by
  unfold fillH
  rw [List.getElem?_append_right (by simp [hists_len])]
  obtain ⟨j, hj⟩ : ∃ j, m - k = j + 1 := ⟨m - k - 1, by omega⟩
  simp [hists_len, hj, List.replicate_succ]
theorem fillH_set {l : List Inter} {m k : Nat} (h : k < m) : (fillH l m k).set k [.ow 5 ((project l k).map encE)] = fillH l m (k + 1) := by
  unfold fillH
  rw [List.set_append_right _ _ (by simp [hists_len]), hists_succ]
  obtain ⟨j, hj⟩ : ∃ j, m - k = j + 1 := ⟨m - k - 1, by omega⟩
  have : m - (k + 1) = j := by omega
  rw [hj, this]
  simp [hists_len, List.replicate_succ, encO]
theorem fillH_len (l : List Inter) (m k : Nat) (h : k ≤ m) : (fillH l m k).length = m := by
  simp [fillH, hists_len]; omega

theorem f12 (l : List Inter) (n : Int) (hl : l.length ≤ 1000000) : Impl Try.prog 12 [.one (.sl (l.map encI)), .one (.int .i64 n)] (.one (.one (.ow 1 ((histories l n).map encO)))) := by
  refine impl_intro Try.func12 b12 e12 r12 n12 Try.ntmps12 d12 (by simp) fun hs => ?_
  clear hs
  simp only [c12, slotsOf]
  repeat' first
    | with_reducible first | refine awp_seq ?_ | refine awp_reg ?_ | refine awp_block ?_ | refine awp_ret ?_ | refine awp_exit ?_ | refine awp_skip ?_ | refine awp_scp ?_ | refine scpQ_normal ?_ | refine scpQ_ret ?_ | refine scpQ_exit ?_ | refine seqQ_normal ?_ | refine seqQ_ret ?_ | refine seqQ_exit ?_ | refine blockQ_normal ?_ | refine blockQ_ret ?_ | refine blockQ_same ?_ | refine blockQ_other (by decide) ?_ | refine loopQ_ret ?_ | refine loopQ_exit ?_ | refine arun_nil ?_ | refine arunA_nil ?_ | refine arunB_nil ?_ | refine drwQ_intro ?_ | refine deadQ_nil ?_
    | ((with_reducible refine awp_cond2 (t := ?_) ?hc (fun h => ?_) (fun h => ?_))
       case hc => rfl
       all_goals (try simp [go_sem] at h)
       all_goals try omega)
    | ((with_reducible first | refine arun_cons fun K hK => ?_ | refine arunA_cons fun K hK => ?_ | refine arunB_cons fun K hK => ?_ | refine awp_drw fun K hK => ?_ | refine deadQ_some fun K hK => ?_ | refine pruneQ_intro fun K hK => ?_)
       simp [go_sem]
       try simp (disch := omega) only [wrap_i64, okRefs, eq_self, true_and]
       first
         | refine hK _ ?_
         | refine hK _ _ ?_
         | refine ⟨by (first | (simp [appendOk, flatEls]; done) | (simp [appendOk, flatEls]; omega)), hK _ ?_⟩
         | refine ⟨hK _ ?_, fun h => hK _ ?_⟩
         | refine ⟨by omega, hK _ ?_⟩
         | refine ⟨by omega, hK _ _ ?_⟩
         | refine ⟨?_, hK _ ?_⟩
         | refine ⟨?_, hK _ _ ?_⟩
       all_goals clear hK K)
  · simp [go_sem, histories, h]
  · obtain ⟨m, rfl⟩ : ∃ m : Nat, n = m := ⟨n.toNat, by omega⟩
    refine awp_loop (fun q e => ∃ k, k + q = m ∧ e = [(16, .sv (.one (.int .i64 (k : Nat)))), (15, .sv (.one (.int .i64 m))), (5, .sv (.one (.ow 1 (fillH l m k)))), (0, .sv (.one (.sl (l.map encI))))]) m _ ⟨0, by simp, rfl⟩ (by simp [go_sem, fillH, hists]) ?_
    rintro q e ⟨k, hk, rfl⟩
    by_cases hlt : k < m
    · have h1 := fillH_get (l := l) hlt
      have h2 := fillH_set (l := l) hlt
      repeat' first
        | with_reducible first | refine awp_seq ?_ | refine awp_reg ?_ | refine awp_block ?_ | refine awp_ret ?_ | refine awp_exit ?_ | refine awp_skip ?_ | refine awp_scp ?_ | refine scpQ_normal ?_ | refine scpQ_ret ?_ | refine scpQ_exit ?_ | refine seqQ_normal ?_ | refine seqQ_ret ?_ | refine seqQ_exit ?_ | refine blockQ_normal ?_ | refine blockQ_ret ?_ | refine blockQ_same ?_ | refine blockQ_other (by decide) ?_ | refine loopQ_ret ?_ | refine loopQ_exit ?_ | refine arun_nil ?_ | refine arunA_nil ?_ | refine arunB_nil ?_ | refine drwQ_intro ?_ | refine deadQ_nil ?_
        | ((with_reducible refine awp_cond2 (t := ?_) ?hc (fun h => ?_) (fun h => ?_))
           case hc => rfl
           all_goals (try simp [go_sem, hlt, h1] at h)
           all_goals try omega)
        | ((with_reducible first | refine arun_cons fun K hK => ?_ | refine arunA_cons fun K hK => ?_ | refine arunB_cons fun K hK => ?_ | refine awp_drw fun K hK => ?_ | refine deadQ_some fun K hK => ?_ | refine pruneQ_intro fun K hK => ?_)
           simp [go_sem, hlt, h1]
           try simp (disch := omega) only [wrap_i64, okRefs, eq_self, true_and]
           first
             | refine hK _ ?_
             | refine hK _ _ ?_
             | (refine ⟨_, f25 l _ hl, ?_⟩; (first | refine hK _ ?_ | refine hK _ _ ?_ | refine ⟨by simp [go_sem, hlt, h1], hK _ ?_⟩ | refine ⟨by simp [go_sem, hlt, h1], hK _ _ ?_⟩ | refine ⟨by simp [go_sem, hlt, h1], by simp [go_sem, hlt, h1], hK _ _ ?_⟩))
             | (refine .inl ⟨_, f25 l _ hl, ?_⟩; (first | refine hK _ ?_ | refine hK _ _ ?_ | refine ⟨by simp [go_sem, hlt, h1], hK _ ?_⟩ | refine ⟨by simp [go_sem, hlt, h1], hK _ _ ?_⟩ | refine ⟨by simp [go_sem, hlt, h1], by simp [go_sem, hlt, h1], hK _ _ ?_⟩))
             | (refine .inr ⟨_, f25 l _ hl, ?_⟩; (first | refine hK _ ?_ | refine hK _ _ ?_ | refine ⟨by simp [go_sem, hlt, h1], hK _ ?_⟩ | refine ⟨by simp [go_sem, hlt, h1], hK _ _ ?_⟩ | refine ⟨by simp [go_sem, hlt, h1], by simp [go_sem, hlt, h1], hK _ _ ?_⟩))
             | (refine ⟨_, ⟨f25 l _ hl, by simp [go_sem, hlt, h1]⟩, ?_⟩; (first | refine hK _ ?_ | refine hK _ _ ?_ | refine ⟨by simp [go_sem, hlt, h1], hK _ ?_⟩ | refine ⟨by simp [go_sem, hlt, h1], hK _ _ ?_⟩ | refine ⟨by simp [go_sem, hlt, h1], by simp [go_sem, hlt, h1], hK _ _ ?_⟩))
             | (refine ⟨_, fun _ => f25 l _ hl, ?_⟩; (first | refine hK _ ?_ | refine hK _ _ ?_ | refine ⟨by simp [go_sem, hlt, h1], hK _ ?_⟩ | refine ⟨by simp [go_sem, hlt, h1], hK _ _ ?_⟩ | refine ⟨by simp [go_sem, hlt, h1], by simp [go_sem, hlt, h1], hK _ _ ?_⟩))
             | (refine ⟨_, fun hc => ⟨hc, f25 l _ hl⟩, ?_⟩; (first | refine hK _ ?_ | refine hK _ _ ?_ | refine ⟨by simp [go_sem, hlt, h1], hK _ ?_⟩ | refine ⟨by simp [go_sem, hlt, h1], hK _ _ ?_⟩ | refine ⟨by simp [go_sem, hlt, h1], by simp [go_sem, hlt, h1], hK _ _ ?_⟩))
             | (refine ⟨_, fun hc => ⟨f25 l _ hl, by simp [go_sem, hlt, h1]⟩, ?_⟩; (first | refine hK _ ?_ | refine hK _ _ ?_ | refine ⟨by simp [go_sem, hlt, h1], hK _ ?_⟩ | refine ⟨by simp [go_sem, hlt, h1], hK _ _ ?_⟩ | refine ⟨by simp [go_sem, hlt, h1], by simp [go_sem, hlt, h1], hK _ _ ?_⟩))
             | (refine ⟨_, fun hc => ⟨hc, f25 l _ hl, by simp [go_sem, hlt, h1]⟩, ?_⟩; (first | refine hK _ ?_ | refine hK _ _ ?_ | refine ⟨by simp [go_sem, hlt, h1], hK _ ?_⟩ | refine ⟨by simp [go_sem, hlt, h1], hK _ _ ?_⟩ | refine ⟨by simp [go_sem, hlt, h1], by simp [go_sem, hlt, h1], hK _ _ ?_⟩))
             | refine ⟨.one (.one (.bool false)), by simp [go_sem, hlt, h1], hK _ _ ?_⟩
             | refine ⟨by (first | (simp [appendOk, flatEls, hlt, h1]; done) | (simp [appendOk, flatEls, hlt, h1]; omega)), hK _ ?_⟩
             | refine ⟨hK _ ?_, fun h => hK _ ?_⟩
             | refine ⟨by omega, hK _ ?_⟩
             | refine ⟨by omega, hK _ _ ?_⟩
             | refine ⟨?_, hK _ ?_⟩
             | refine ⟨?_, hK _ _ ?_⟩
           all_goals clear hK K)
      refine loopQ_normal (q - 1) _ (by omega) ⟨k + 1, by omega, rfl⟩ ?_
      simp [go_sem, h2]
    · skip
      repeat' first
        | with_reducible first | refine awp_seq ?_ | refine awp_reg ?_ | refine awp_block ?_ | refine awp_ret ?_ | refine awp_exit ?_ | refine awp_skip ?_ | refine awp_scp ?_ | refine scpQ_normal ?_ | refine scpQ_ret ?_ | refine scpQ_exit ?_ | refine seqQ_normal ?_ | refine seqQ_ret ?_ | refine seqQ_exit ?_ | refine blockQ_normal ?_ | refine blockQ_ret ?_ | refine blockQ_same ?_ | refine blockQ_other (by decide) ?_ | refine loopQ_ret ?_ | refine loopQ_exit ?_ | refine arun_nil ?_ | refine arunA_nil ?_ | refine arunB_nil ?_ | refine drwQ_intro ?_ | refine deadQ_nil ?_
        | ((with_reducible refine awp_cond2 (t := ?_) ?hc (fun h => ?_) (fun h => ?_))
           case hc => rfl
           all_goals (try simp [go_sem, hlt] at h)
           all_goals try omega)
        | ((with_reducible first | refine arun_cons fun K hK => ?_ | refine arunA_cons fun K hK => ?_ | refine arunB_cons fun K hK => ?_ | refine awp_drw fun K hK => ?_ | refine deadQ_some fun K hK => ?_ | refine pruneQ_intro fun K hK => ?_)
           simp [go_sem, hlt]
           try simp (disch := omega) only [wrap_i64, okRefs, eq_self, true_and]
           first
             | refine hK _ ?_
             | refine hK _ _ ?_
             | refine ⟨by (first | (simp [appendOk, flatEls, hlt]; done) | (simp [appendOk, flatEls, hlt]; omega)), hK _ ?_⟩
             | refine ⟨hK _ ?_, fun h => hK _ ?_⟩
             | refine ⟨by omega, hK _ ?_⟩
             | refine ⟨by omega, hK _ _ ?_⟩
             | refine ⟨?_, hK _ ?_⟩
             | refine ⟨?_, hK _ _ ?_⟩
           all_goals clear hK K)
      have hkm : k = m := by omega
      subst hkm
      have : histories l (k : Int) = hists l k := by
        unfold histories
        rw [if_neg (by omega)]
        simp
      simp [go_sem, this, fillH]

theorem f13 (l : List Inter) (n : Int) (hl : l.length ≤ 1000000) : Impl Try.prog 13 [.one (.sl (l.map encI)), .one (.int .i64 n)] (.one (.one (.ow 1 ((histories l n).map encH)))) := by
  refine impl_intro Try.func13 b13 e13 r13 n13 Try.ntmps13 d13 (by simp) fun hs => ?_
  clear hs
  simp only [c13, slotsOf]
  repeat' first
    | with_reducible first | refine awp_seq ?_ | refine awp_reg ?_ | refine awp_block ?_ | refine awp_ret ?_ | refine awp_exit ?_ | refine awp_skip ?_ | refine awp_scp ?_ | refine scpQ_normal ?_ | refine scpQ_ret ?_ | refine scpQ_exit ?_ | refine seqQ_normal ?_ | refine seqQ_ret ?_ | refine seqQ_exit ?_ | refine blockQ_normal ?_ | refine blockQ_ret ?_ | refine blockQ_same ?_ | refine blockQ_other (by decide) ?_ | refine loopQ_ret ?_ | refine loopQ_exit ?_ | refine arun_nil ?_ | refine arunA_nil ?_ | refine arunB_nil ?_ | refine drwQ_intro ?_ | refine deadQ_nil ?_
    | ((with_reducible refine awp_cond2 (t := ?_) ?hc (fun h => ?_) (fun h => ?_))
       case hc => rfl
       all_goals (try simp [go_sem] at h)
       all_goals try omega)
    | ((with_reducible first | refine arun_cons fun K hK => ?_ | refine arunA_cons fun K hK => ?_ | refine arunB_cons fun K hK => ?_ | refine awp_drw fun K hK => ?_ | refine deadQ_some fun K hK => ?_ | refine pruneQ_intro fun K hK => ?_)
       simp [go_sem]
       try simp (disch := omega) only [wrap_i64, okRefs, eq_self, true_and]
       first
         | refine hK _ ?_
         | refine hK _ _ ?_
         | refine ⟨by (first | (simp [appendOk, flatEls]; done) | (simp [appendOk, flatEls]; omega)), hK _ ?_⟩
         | refine ⟨hK _ ?_, fun h => hK _ ?_⟩
         | refine ⟨by omega, hK _ ?_⟩
         | refine ⟨by omega, hK _ _ ?_⟩
         | refine ⟨?_, hK _ ?_⟩
         | refine ⟨?_, hK _ _ ?_⟩
       all_goals clear hK K)
  refine awp_loop (fun q e => ∃ k : Nat, k + q = (if n < 0 ∨ 6 < n then 0 else n.toNat) ∧ e = [(6, .sv (.one (.int .i64 (k : Nat)))), (5, .sv (.one (.ow 1 ((hists l k).map encH)))), (1, .sv (.one (.int .i64 n))), (0, .sv (.one (.sl (l.map encI))))]) _ _ ⟨0, by simp; rfl, rfl⟩ (by simp [go_sem, hists]) ?_
  rintro q e ⟨k, hk, rfl⟩
  by_cases hlt : (k : Int) < n ∧ n ≤ 6
  · rw [if_neg (by omega)] at hk
    have hlen := hists_len l k
    repeat' first
      | with_reducible first | refine awp_seq ?_ | refine awp_reg ?_ | refine awp_block ?_ | refine awp_ret ?_ | refine awp_exit ?_ | refine awp_skip ?_ | refine awp_scp ?_ | refine scpQ_normal ?_ | refine scpQ_ret ?_ | refine scpQ_exit ?_ | refine seqQ_normal ?_ | refine seqQ_ret ?_ | refine seqQ_exit ?_ | refine blockQ_normal ?_ | refine blockQ_ret ?_ | refine blockQ_same ?_ | refine blockQ_other (by decide) ?_ | refine loopQ_ret ?_ | refine loopQ_exit ?_ | refine arun_nil ?_ | refine arunA_nil ?_ | refine arunB_nil ?_ | refine drwQ_intro ?_ | refine deadQ_nil ?_
      | ((with_reducible refine awp_cond2 (t := ?_) ?hc (fun h => ?_) (fun h => ?_))
         case hc => rfl
         all_goals (try simp [go_sem, hlt, encH] at h)
         all_goals try omega)
      | ((with_reducible first | refine arun_cons fun K hK => ?_ | refine arunA_cons fun K hK => ?_ | refine arunB_cons fun K hK => ?_ | refine awp_drw fun K hK => ?_ | refine deadQ_some fun K hK => ?_ | refine pruneQ_intro fun K hK => ?_)
         simp [go_sem, hlt, encH]
         try simp (disch := omega) only [wrap_i64, okRefs, eq_self, true_and]
         first
           | refine hK _ ?_
           | refine hK _ _ ?_
           | (refine ⟨_, f30 l _ hl, ?_⟩; (first | refine hK _ ?_ | refine hK _ _ ?_ | refine ⟨by simp [go_sem, hlt, encH], hK _ ?_⟩ | refine ⟨by simp [go_sem, hlt, encH], hK _ _ ?_⟩ | refine ⟨by simp [go_sem, hlt, encH], by simp [go_sem, hlt, encH], hK _ _ ?_⟩))
           | (refine .inl ⟨_, f30 l _ hl, ?_⟩; (first | refine hK _ ?_ | refine hK _ _ ?_ | refine ⟨by simp [go_sem, hlt, encH], hK _ ?_⟩ | refine ⟨by simp [go_sem, hlt, encH], hK _ _ ?_⟩ | refine ⟨by simp [go_sem, hlt, encH], by simp [go_sem, hlt, encH], hK _ _ ?_⟩))
           | (refine .inr ⟨_, f30 l _ hl, ?_⟩; (first | refine hK _ ?_ | refine hK _ _ ?_ | refine ⟨by simp [go_sem, hlt, encH], hK _ ?_⟩ | refine ⟨by simp [go_sem, hlt, encH], hK _ _ ?_⟩ | refine ⟨by simp [go_sem, hlt, encH], by simp [go_sem, hlt, encH], hK _ _ ?_⟩))
           | (refine ⟨_, ⟨f30 l _ hl, by simp [go_sem, hlt, encH]⟩, ?_⟩; (first | refine hK _ ?_ | refine hK _ _ ?_ | refine ⟨by simp [go_sem, hlt, encH], hK _ ?_⟩ | refine ⟨by simp [go_sem, hlt, encH], hK _ _ ?_⟩ | refine ⟨by simp [go_sem, hlt, encH], by simp [go_sem, hlt, encH], hK _ _ ?_⟩))
           | (refine ⟨_, fun _ => f30 l _ hl, ?_⟩; (first | refine hK _ ?_ | refine hK _ _ ?_ | refine ⟨by simp [go_sem, hlt, encH], hK _ ?_⟩ | refine ⟨by simp [go_sem, hlt, encH], hK _ _ ?_⟩ | refine ⟨by simp [go_sem, hlt, encH], by simp [go_sem, hlt, encH], hK _ _ ?_⟩))
           | (refine ⟨_, fun hc => ⟨hc, f30 l _ hl⟩, ?_⟩; (first | refine hK _ ?_ | refine hK _ _ ?_ | refine ⟨by simp [go_sem, hlt, encH], hK _ ?_⟩ | refine ⟨by simp [go_sem, hlt, encH], hK _ _ ?_⟩ | refine ⟨by simp [go_sem, hlt, encH], by simp [go_sem, hlt, encH], hK _ _ ?_⟩))
           | (refine ⟨_, fun hc => ⟨f30 l _ hl, by simp [go_sem, hlt, encH]⟩, ?_⟩; (first | refine hK _ ?_ | refine hK _ _ ?_ | refine ⟨by simp [go_sem, hlt, encH], hK _ ?_⟩ | refine ⟨by simp [go_sem, hlt, encH], hK _ _ ?_⟩ | refine ⟨by simp [go_sem, hlt, encH], by simp [go_sem, hlt, encH], hK _ _ ?_⟩))
           | (refine ⟨_, fun hc => ⟨hc, f30 l _ hl, by simp [go_sem, hlt, encH]⟩, ?_⟩; (first | refine hK _ ?_ | refine hK _ _ ?_ | refine ⟨by simp [go_sem, hlt, encH], hK _ ?_⟩ | refine ⟨by simp [go_sem, hlt, encH], hK _ _ ?_⟩ | refine ⟨by simp [go_sem, hlt, encH], by simp [go_sem, hlt, encH], hK _ _ ?_⟩))
           | refine ⟨.one (.one (.bool false)), by simp [go_sem, hlt, encH], hK _ _ ?_⟩
           | refine ⟨by (first | (simp [appendOk, flatEls, hlt, encH, maxLen, DV.flat, hists_len]; done) | (simp [appendOk, flatEls, hlt, encH, maxLen, DV.flat, hists_len]; omega)), hK _ ?_⟩
           | refine ⟨hK _ ?_, fun h => hK _ ?_⟩
           | refine ⟨by omega, hK _ ?_⟩
           | refine ⟨by omega, hK _ _ ?_⟩
           | refine ⟨?_, hK _ ?_⟩
           | refine ⟨?_, hK _ _ ?_⟩
         all_goals clear hK K)
    refine loopQ_normal (q - 1) _ (by omega) ⟨k + 1, ?_, rfl⟩ ?_
    · rw [if_neg (by omega)]; omega
    · simp [go_sem, hists_succ, encH]
  · have : histories l n = hists l k := by
      unfold histories
      split
      · rename_i h; rw [if_pos h] at hk
        have : k = 0 := by omega
        subst this
        rfl
      · rename_i h; rw [if_neg h] at hk
        congr 1
        omega
    repeat' first
      | with_reducible first | refine awp_seq ?_ | refine awp_reg ?_ | refine awp_block ?_ | refine awp_ret ?_ | refine awp_exit ?_ | refine awp_skip ?_ | refine awp_scp ?_ | refine scpQ_normal ?_ | refine scpQ_ret ?_ | refine scpQ_exit ?_ | refine seqQ_normal ?_ | refine seqQ_ret ?_ | refine seqQ_exit ?_ | refine blockQ_normal ?_ | refine blockQ_ret ?_ | refine blockQ_same ?_ | refine blockQ_other (by decide) ?_ | refine loopQ_ret ?_ | refine loopQ_exit ?_ | refine arun_nil ?_ | refine arunA_nil ?_ | refine arunB_nil ?_ | refine drwQ_intro ?_ | refine deadQ_nil ?_
      | ((with_reducible refine awp_cond2 (t := ?_) ?hc (fun h => ?_) (fun h => ?_))
         case hc => rfl
         all_goals (try simp [go_sem, hlt] at h)
         all_goals try omega)
      | ((with_reducible first | refine arun_cons fun K hK => ?_ | refine arunA_cons fun K hK => ?_ | refine arunB_cons fun K hK => ?_ | refine awp_drw fun K hK => ?_ | refine deadQ_some fun K hK => ?_ | refine pruneQ_intro fun K hK => ?_)
         simp [go_sem, hlt]
         try simp (disch := omega) only [wrap_i64, okRefs, eq_self, true_and]
         first
           | refine hK _ ?_
           | refine hK _ _ ?_
           | refine ⟨by (first | (simp [appendOk, flatEls, hlt]; done) | (simp [appendOk, flatEls, hlt]; omega)), hK _ ?_⟩
           | refine ⟨hK _ ?_, fun h => hK _ ?_⟩
           | refine ⟨by omega, hK _ ?_⟩
           | refine ⟨by omega, hK _ _ ?_⟩
           | refine ⟨?_, hK _ ?_⟩
           | refine ⟨?_, hK _ _ ?_⟩
         all_goals clear hK K)
    all_goals simp [go_sem, this]
end Go.Av
