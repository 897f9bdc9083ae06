/- Part of a proof by symbolic walks on plain data. -/
import Derived.Test.YtpnpnldabhmojaaCW15
import Derived.Test.YtpnpnldabhmojaaW14
import Derived.Test.YtpnpnldabhmojaaW6
set_option linter.unusedVariables false
set_option linter.unusedSimpArgs false
namespace Go.Av
open Go Go.RowKit Go.Proofs

theorem total_leN (N : Nat) : ∀ (H : List (List Ev)), (∀ l ∈ H, l.length ≤ N) → total H ≤ H.length * N
  | [], _ => by simp [total]
  | l :: H, h => by
    have h1 := total_leN N H fun x hx => h x (by simp [hx])
    have h2 := h l (by simp)
    simp only [total, List.map_cons, List.sum_cons, List.length_cons, Nat.succ_mul] at *
    omega

set_option maxHeartbeats 16000000 in
theorem f27 (H : List (List Ev)) (hl : H.length ≤ 1000) (hh : ∀ l ∈ H, l.length ≤ 1000) : Impl Try.prog 27 [.one (.sl (H.map encH))] (mResult (merge H)) := by
  refine impl_intro Try.func27 b27 e27 r27 n27 Try.ntmps27 d27 (by simp) fun hs => ?_
  clear hs
  simp only [c27, slotsOf]
  have f37s := f37 H (by omega) (fun l hl => by have := hh l hl; omega)
  by_cases hp : properH H = true
  · have hok : okR H := by
      intro i hi
      unfold properH at hp
      simp only [Bool.and_eq_true, List.all_eq_true] at hp
      have := hp.1 i (by simp [hi])
      simpa [hi] using this
    have htot : total H ≤ 1000000 := by
      exact Nat.le_trans (total_leN 1000 H hh) (Nat.mul_le_mul_right 1000 hl)
    repeat' first
      | with_reducible first | refine awp_seq ?_ | refine awp_reg ?_ | refine awp_block ?_ | refine awp_ret ?_ | refine awp_exit ?_ | refine awp_skip ?_ | refine awp_scp ?_ | refine scpQ_normal ?_ | refine scpQ_ret ?_ | refine scpQ_exit ?_ | refine seqQ_normal ?_ | refine seqQ_ret ?_ | refine seqQ_exit ?_ | refine blockQ_normal ?_ | refine blockQ_ret ?_ | refine blockQ_same ?_ | refine blockQ_other (by decide) ?_ | refine loopQ_ret ?_ | refine loopQ_exit ?_ | refine arun_nil ?_ | refine arunA_nil ?_ | refine arunB_nil ?_ | refine drwQ_intro ?_ | refine deadQ_nil ?_
      | ((with_reducible refine awp_cond2 (t := ?_) ?hc (fun h => ?_) (fun h => ?_))
         case hc => rfl
         all_goals (try simp [go_sem, hp, encH] at h)
         all_goals try omega)
      | ((with_reducible first | refine arun_cons fun K hK => ?_ | refine arunA_cons fun K hK => ?_ | refine arunB_cons fun K hK => ?_ | refine awp_drw fun K hK => ?_ | refine deadQ_some fun K hK => ?_ | refine pruneQ_intro fun K hK => ?_)
         simp [go_sem, hp, encH]
         try simp (disch := omega) only [wrap_i64, okRefs, eq_self, true_and]
         first
           | refine hK _ ?_
           | refine hK _ _ ?_
           | (refine ⟨_, f37s, ?_⟩; (first | refine hK _ ?_ | refine hK _ _ ?_ | refine ⟨by simp [go_sem, hp, encH], hK _ ?_⟩ | refine ⟨by simp [go_sem, hp, encH], hK _ _ ?_⟩ | refine ⟨by simp [go_sem, hp, encH], by simp [go_sem, hp, encH], hK _ _ ?_⟩))
           | (refine .inl ⟨_, f37s, ?_⟩; (first | refine hK _ ?_ | refine hK _ _ ?_ | refine ⟨by simp [go_sem, hp, encH], hK _ ?_⟩ | refine ⟨by simp [go_sem, hp, encH], hK _ _ ?_⟩ | refine ⟨by simp [go_sem, hp, encH], by simp [go_sem, hp, encH], hK _ _ ?_⟩))
           | (refine .inr ⟨_, f37s, ?_⟩; (first | refine hK _ ?_ | refine hK _ _ ?_ | refine ⟨by simp [go_sem, hp, encH], hK _ ?_⟩ | refine ⟨by simp [go_sem, hp, encH], hK _ _ ?_⟩ | refine ⟨by simp [go_sem, hp, encH], by simp [go_sem, hp, encH], hK _ _ ?_⟩))
           | (refine ⟨_, ⟨f37s, by simp [go_sem, hp, encH]⟩, ?_⟩; (first | refine hK _ ?_ | refine hK _ _ ?_ | refine ⟨by simp [go_sem, hp, encH], hK _ ?_⟩ | refine ⟨by simp [go_sem, hp, encH], hK _ _ ?_⟩ | refine ⟨by simp [go_sem, hp, encH], by simp [go_sem, hp, encH], hK _ _ ?_⟩))
           | (refine ⟨_, fun _ => f37s, ?_⟩; (first | refine hK _ ?_ | refine hK _ _ ?_ | refine ⟨by simp [go_sem, hp, encH], hK _ ?_⟩ | refine ⟨by simp [go_sem, hp, encH], hK _ _ ?_⟩ | refine ⟨by simp [go_sem, hp, encH], by simp [go_sem, hp, encH], hK _ _ ?_⟩))
           | (refine ⟨_, fun hc => ⟨hc, f37s⟩, ?_⟩; (first | refine hK _ ?_ | refine hK _ _ ?_ | refine ⟨by simp [go_sem, hp, encH], hK _ ?_⟩ | refine ⟨by simp [go_sem, hp, encH], hK _ _ ?_⟩ | refine ⟨by simp [go_sem, hp, encH], by simp [go_sem, hp, encH], hK _ _ ?_⟩))
           | (refine ⟨_, fun hc => ⟨f37s, by simp [go_sem, hp, encH]⟩, ?_⟩; (first | refine hK _ ?_ | refine hK _ _ ?_ | refine ⟨by simp [go_sem, hp, encH], hK _ ?_⟩ | refine ⟨by simp [go_sem, hp, encH], hK _ _ ?_⟩ | refine ⟨by simp [go_sem, hp, encH], by simp [go_sem, hp, encH], hK _ _ ?_⟩))
           | (refine ⟨_, fun hc => ⟨hc, f37s, by simp [go_sem, hp, encH]⟩, ?_⟩; (first | refine hK _ ?_ | refine hK _ _ ?_ | refine ⟨by simp [go_sem, hp, encH], hK _ ?_⟩ | refine ⟨by simp [go_sem, hp, encH], hK _ _ ?_⟩ | refine ⟨by simp [go_sem, hp, encH], by simp [go_sem, hp, encH], hK _ _ ?_⟩))
           | refine ⟨.one (.one (.bool false)), by simp [go_sem, hp, encH], hK _ _ ?_⟩
           | refine ⟨by (first | (simp [appendOk, flatEls, hp, encH]; done) | (simp [appendOk, flatEls, hp, encH]; omega)), hK _ ?_⟩
           | refine ⟨hK _ ?_, fun h => hK _ ?_⟩
           | refine ⟨by omega, hK _ ?_⟩
           | refine ⟨by omega, hK _ _ ?_⟩
           | refine ⟨?_, hK _ ?_⟩
           | refine ⟨?_, hK _ _ ?_⟩
         all_goals clear hK K)
    refine awp_loop (fun m e => ∃ (A : List Nat) (out : List Inter), m = total (restOf H A) ∧ A.length = H.length ∧ okR (restOf H A) ∧ (∀ (i : Nat) (h : i < H.length) (h' : i < A.length), A[i] ≤ H[i].length) ∧ 2 * out.length + total (restOf H A) ≤ 1000000 ∧ (mergeN m (restOf H A)).map (out ++ ·) = merge H ∧ e = [(5, .sv (.one (.ow 3 (out.map encI)))), (4, .sv (.one (.ow 1 (A.map encA)))), (0, .sv (.one (.sl (H.map encH))))]) (total H) _ ⟨List.replicate H.length 0, [], by rw [restOf_zero], by simp, by rw [restOf_zero]; exact hok, by simp, by rw [restOf_zero]; simpa using htot, by rw [restOf_zero]; simp [merge, hp], rfl⟩ (by simp [go_sem, encA]) ?_
    rintro m e ⟨A, out, rfl, hA, hR, hAl, hout, hm, rfl⟩
    repeat' first
      | with_reducible first | refine awp_seq ?_ | refine awp_reg ?_ | refine awp_block ?_ | refine awp_ret ?_ | refine awp_exit ?_ | refine awp_skip ?_ | refine awp_scp ?_ | refine scpQ_normal ?_ | refine scpQ_ret ?_ | refine scpQ_exit ?_ | refine seqQ_normal ?_ | refine seqQ_ret ?_ | refine seqQ_exit ?_ | refine blockQ_normal ?_ | refine blockQ_ret ?_ | refine blockQ_same ?_ | refine blockQ_other (by decide) ?_ | refine loopQ_ret ?_ | refine loopQ_exit ?_ | refine arun_nil ?_ | refine arunA_nil ?_ | refine arunB_nil ?_ | refine drwQ_intro ?_ | refine deadQ_nil ?_
      | ((with_reducible refine awp_cond2 (t := ?_) ?hc (fun h => ?_) (fun h => ?_))
         case hc => rfl
         all_goals (try simp [go_sem] at h)
         all_goals try omega)
      | ((with_reducible first | refine arun_cons fun K hK => ?_ | refine arunA_cons fun K hK => ?_ | refine arunB_cons fun K hK => ?_ | refine awp_drw fun K hK => ?_ | refine deadQ_some fun K hK => ?_ | refine pruneQ_intro fun K hK => ?_)
         simp [go_sem]
         try simp (disch := omega) only [wrap_i64, okRefs, eq_self, true_and]
         first
           | refine hK _ ?_
           | refine hK _ _ ?_
           | refine ⟨by (first | (simp [appendOk, flatEls]; done) | (simp [appendOk, flatEls]; omega)), hK _ ?_⟩
           | refine ⟨hK _ ?_, fun h => hK _ ?_⟩
           | refine ⟨by omega, hK _ ?_⟩
           | refine ⟨by omega, hK _ _ ?_⟩
           | refine ⟨?_, hK _ ?_⟩
           | refine ⟨?_, hK _ _ ?_⟩
         all_goals clear hK K)
    refine awp_loop (fun q e => ∃ k, k + q = H.length ∧ e = [(8, .sv (.one (.int .i64 (k : Nat)))), (6, .sv (.one (.bool (bestM (restOf H A) k).isSome))), (7, .sv (.one (.bx (encB (bestM (restOf H A) k))))), (5, .sv (.one (.ow 3 (out.map encI)))), (4, .sv (.one (.ow 1 (A.map encA)))), (0, .sv (.one (.sl (H.map encH))))]) H.length _ ⟨0, by simp, rfl⟩ (by simp [go_sem, bestM, encB, encI]) ?_
    rintro q e ⟨k, hk, rfl⟩
    by_cases hlt : k < H.length
    · have hkA : k < A.length := by omega
      have hkR : k < (restOf H A).length := by rw [restOf_len]; exact hlt
      have hget := restOf_get hA hlt
      have hnone : cand (restOf H A) k = none → bestM (restOf H A) (k + 1) = bestM (restOf H A) k := fun h => by simp [bestM, h]
      by_cases h1 : A[k] < H[k].length
      · obtain ⟨x, hx⟩ : ∃ x, H[k][A[k]] = x := ⟨_, rfl⟩
        rw [drop_cons h1, hx] at hget
        obtain ⟨g1, g2, g3, g4⟩ := okR_head hR hkR hget
        rw [restOf_len] at g4
        have h1' : ¬ H[k].length ≤ A[k] := by omega
        obtain ⟨p, hpx⟩ : ∃ p : Nat, x.peer = p := ⟨x.peer.toNat, by omega⟩
        cases hsend : x.send with
        | false =>
          have hc : cand (restOf H A) k = none := by
            unfold cand
            rw [List.getElem?_eq_getElem hkR, hget]
            simp [hsend]
          repeat' first
            | with_reducible first | refine awp_seq ?_ | refine awp_reg ?_ | refine awp_block ?_ | refine awp_ret ?_ | refine awp_exit ?_ | refine awp_skip ?_ | refine awp_scp ?_ | refine scpQ_normal ?_ | refine scpQ_ret ?_ | refine scpQ_exit ?_ | refine seqQ_normal ?_ | refine seqQ_ret ?_ | refine seqQ_exit ?_ | refine blockQ_normal ?_ | refine blockQ_ret ?_ | refine blockQ_same ?_ | refine blockQ_other (by decide) ?_ | refine loopQ_ret ?_ | refine loopQ_exit ?_ | refine arun_nil ?_ | refine arunA_nil ?_ | refine arunB_nil ?_ | refine drwQ_intro ?_ | refine deadQ_nil ?_
            | ((with_reducible refine awp_cond2 (t := ?_) ?hc (fun h => ?_) (fun h => ?_))
               case hc => rfl
               all_goals (try simp [go_sem, hlt, hkA, h1, h1', hx, hsend, encH, encA_len, encA, encE] at h)
               all_goals try omega)
            | ((with_reducible first | refine arun_cons fun K hK => ?_ | refine arunA_cons fun K hK => ?_ | refine arunB_cons fun K hK => ?_ | refine awp_drw fun K hK => ?_ | refine deadQ_some fun K hK => ?_ | refine pruneQ_intro fun K hK => ?_)
               simp [go_sem, hlt, hkA, h1, h1', hx, hsend, encH, encA_len, encA, encE]
               try simp (disch := omega) only [wrap_i64, okRefs, eq_self, true_and]
               first
                 | refine hK _ ?_
                 | refine hK _ _ ?_
                 | refine ⟨by (first | (simp [appendOk, flatEls, hlt, hkA, h1, h1', hx, hsend, encH, encA_len, encA, encE]; done) | (simp [appendOk, flatEls, hlt, hkA, h1, h1', hx, hsend, encH, encA_len, encA, encE]; omega)), hK _ ?_⟩
                 | refine ⟨hK _ ?_, fun h => hK _ ?_⟩
                 | refine ⟨by omega, hK _ ?_⟩
                 | refine ⟨by omega, hK _ _ ?_⟩
                 | refine ⟨?_, hK _ ?_⟩
                 | refine ⟨?_, hK _ _ ?_⟩
               all_goals clear hK K)
          refine loopQ_normal (q - 1) _ (by omega) ⟨k + 1, by omega, rfl⟩ ?_
          simp [go_sem, hnone hc]
        | true =>
          have hpl : p < H.length := by omega
          have hpA : p < A.length := by omega
          have hpR : p < (restOf H A).length := by rw [restOf_len]; exact hpl
          have hpt : x.peer.toNat = p := by omega
          have hgetp := restOf_get hA hpl
          by_cases h2 : A[p] < H[p].length
          · obtain ⟨y, hy⟩ : ∃ y, H[p][A[p]] = y := ⟨_, rfl⟩
            rw [drop_cons h2, hy] at hgetp
            have h2' : ¬ H[p].length ≤ A[p] := by omega
            have hcd : cand (restOf H A) k = if y.send = false ∧ y.peer = x.role ∧ y.label = x.label then some ⟨x.role, x.peer, x.label⟩ else none := by
              unfold cand
              rw [List.getElem?_eq_getElem hkR, hget]
              simp only
              rw [if_pos hsend, hpt, List.getElem?_eq_getElem hpR, hgetp]
            rw [g1, hpx] at hcd
            cases hbk : bestM (restOf H A) k with
            | none =>
              repeat' first
                | with_reducible first | refine awp_seq ?_ | refine awp_reg ?_ | refine awp_block ?_ | refine awp_ret ?_ | refine awp_exit ?_ | refine awp_skip ?_ | refine awp_scp ?_ | refine scpQ_normal ?_ | refine scpQ_ret ?_ | refine scpQ_exit ?_ | refine seqQ_normal ?_ | refine seqQ_ret ?_ | refine seqQ_exit ?_ | refine blockQ_normal ?_ | refine blockQ_ret ?_ | refine blockQ_same ?_ | refine blockQ_other (by decide) ?_ | refine loopQ_ret ?_ | refine loopQ_exit ?_ | refine arun_nil ?_ | refine arunA_nil ?_ | refine arunB_nil ?_ | refine drwQ_intro ?_ | refine deadQ_nil ?_
                | ((with_reducible refine awp_cond2 (t := ?_) ?hc (fun h => ?_) (fun h => ?_))
                   case hc => rfl
                   all_goals (try simp [go_sem, hlt, hkA, h1, h1', hx, hsend, hpx, hpl, hpA, h2, h2', hy, encH, encA, encE, encB, encI] at h)
                   all_goals try omega)
                | ((with_reducible first | refine arun_cons fun K hK => ?_ | refine arunA_cons fun K hK => ?_ | refine arunB_cons fun K hK => ?_ | refine awp_drw fun K hK => ?_ | refine deadQ_some fun K hK => ?_ | refine pruneQ_intro fun K hK => ?_)
                   simp [go_sem, hlt, hkA, h1, h1', hx, hsend, hpx, hpl, hpA, h2, h2', hy, encH, encA, encE, encB, encI]
                   try simp (disch := omega) only [wrap_i64, okRefs, eq_self, true_and]
                   first
                     | refine hK _ ?_
                     | refine hK _ _ ?_
                     | (refine ⟨_, f24 _ _, ?_⟩; (first | refine hK _ ?_ | refine hK _ _ ?_ | refine ⟨by simp [go_sem, hlt, hkA, h1, h1', hx, hsend, hpx, hpl, hpA, h2, h2', hy, encH, encA, encE, encB, encI], hK _ ?_⟩ | refine ⟨by simp [go_sem, hlt, hkA, h1, h1', hx, hsend, hpx, hpl, hpA, h2, h2', hy, encH, encA, encE, encB, encI], hK _ _ ?_⟩ | refine ⟨by simp [go_sem, hlt, hkA, h1, h1', hx, hsend, hpx, hpl, hpA, h2, h2', hy, encH, encA, encE, encB, encI], by simp [go_sem, hlt, hkA, h1, h1', hx, hsend, hpx, hpl, hpA, h2, h2', hy, encH, encA, encE, encB, encI], hK _ _ ?_⟩))
                     | (refine .inl ⟨_, f24 _ _, ?_⟩; (first | refine hK _ ?_ | refine hK _ _ ?_ | refine ⟨by simp [go_sem, hlt, hkA, h1, h1', hx, hsend, hpx, hpl, hpA, h2, h2', hy, encH, encA, encE, encB, encI], hK _ ?_⟩ | refine ⟨by simp [go_sem, hlt, hkA, h1, h1', hx, hsend, hpx, hpl, hpA, h2, h2', hy, encH, encA, encE, encB, encI], hK _ _ ?_⟩ | refine ⟨by simp [go_sem, hlt, hkA, h1, h1', hx, hsend, hpx, hpl, hpA, h2, h2', hy, encH, encA, encE, encB, encI], by simp [go_sem, hlt, hkA, h1, h1', hx, hsend, hpx, hpl, hpA, h2, h2', hy, encH, encA, encE, encB, encI], hK _ _ ?_⟩))
                     | (refine .inr ⟨_, f24 _ _, ?_⟩; (first | refine hK _ ?_ | refine hK _ _ ?_ | refine ⟨by simp [go_sem, hlt, hkA, h1, h1', hx, hsend, hpx, hpl, hpA, h2, h2', hy, encH, encA, encE, encB, encI], hK _ ?_⟩ | refine ⟨by simp [go_sem, hlt, hkA, h1, h1', hx, hsend, hpx, hpl, hpA, h2, h2', hy, encH, encA, encE, encB, encI], hK _ _ ?_⟩ | refine ⟨by simp [go_sem, hlt, hkA, h1, h1', hx, hsend, hpx, hpl, hpA, h2, h2', hy, encH, encA, encE, encB, encI], by simp [go_sem, hlt, hkA, h1, h1', hx, hsend, hpx, hpl, hpA, h2, h2', hy, encH, encA, encE, encB, encI], hK _ _ ?_⟩))
                     | (refine ⟨_, ⟨f24 _ _, by simp [go_sem, hlt, hkA, h1, h1', hx, hsend, hpx, hpl, hpA, h2, h2', hy, encH, encA, encE, encB, encI]⟩, ?_⟩; (first | refine hK _ ?_ | refine hK _ _ ?_ | refine ⟨by simp [go_sem, hlt, hkA, h1, h1', hx, hsend, hpx, hpl, hpA, h2, h2', hy, encH, encA, encE, encB, encI], hK _ ?_⟩ | refine ⟨by simp [go_sem, hlt, hkA, h1, h1', hx, hsend, hpx, hpl, hpA, h2, h2', hy, encH, encA, encE, encB, encI], hK _ _ ?_⟩ | refine ⟨by simp [go_sem, hlt, hkA, h1, h1', hx, hsend, hpx, hpl, hpA, h2, h2', hy, encH, encA, encE, encB, encI], by simp [go_sem, hlt, hkA, h1, h1', hx, hsend, hpx, hpl, hpA, h2, h2', hy, encH, encA, encE, encB, encI], hK _ _ ?_⟩))
                     | (refine ⟨_, fun _ => f24 _ _, ?_⟩; (first | refine hK _ ?_ | refine hK _ _ ?_ | refine ⟨by simp [go_sem, hlt, hkA, h1, h1', hx, hsend, hpx, hpl, hpA, h2, h2', hy, encH, encA, encE, encB, encI], hK _ ?_⟩ | refine ⟨by simp [go_sem, hlt, hkA, h1, h1', hx, hsend, hpx, hpl, hpA, h2, h2', hy, encH, encA, encE, encB, encI], hK _ _ ?_⟩ | refine ⟨by simp [go_sem, hlt, hkA, h1, h1', hx, hsend, hpx, hpl, hpA, h2, h2', hy, encH, encA, encE, encB, encI], by simp [go_sem, hlt, hkA, h1, h1', hx, hsend, hpx, hpl, hpA, h2, h2', hy, encH, encA, encE, encB, encI], hK _ _ ?_⟩))
                     | (refine ⟨_, fun hc => ⟨hc, f24 _ _⟩, ?_⟩; (first | refine hK _ ?_ | refine hK _ _ ?_ | refine ⟨by simp [go_sem, hlt, hkA, h1, h1', hx, hsend, hpx, hpl, hpA, h2, h2', hy, encH, encA, encE, encB, encI], hK _ ?_⟩ | refine ⟨by simp [go_sem, hlt, hkA, h1, h1', hx, hsend, hpx, hpl, hpA, h2, h2', hy, encH, encA, encE, encB, encI], hK _ _ ?_⟩ | refine ⟨by simp [go_sem, hlt, hkA, h1, h1', hx, hsend, hpx, hpl, hpA, h2, h2', hy, encH, encA, encE, encB, encI], by simp [go_sem, hlt, hkA, h1, h1', hx, hsend, hpx, hpl, hpA, h2, h2', hy, encH, encA, encE, encB, encI], hK _ _ ?_⟩))
                     | (refine ⟨_, fun hc => ⟨f24 _ _, by simp [go_sem, hlt, hkA, h1, h1', hx, hsend, hpx, hpl, hpA, h2, h2', hy, encH, encA, encE, encB, encI]⟩, ?_⟩; (first | refine hK _ ?_ | refine hK _ _ ?_ | refine ⟨by simp [go_sem, hlt, hkA, h1, h1', hx, hsend, hpx, hpl, hpA, h2, h2', hy, encH, encA, encE, encB, encI], hK _ ?_⟩ | refine ⟨by simp [go_sem, hlt, hkA, h1, h1', hx, hsend, hpx, hpl, hpA, h2, h2', hy, encH, encA, encE, encB, encI], hK _ _ ?_⟩ | refine ⟨by simp [go_sem, hlt, hkA, h1, h1', hx, hsend, hpx, hpl, hpA, h2, h2', hy, encH, encA, encE, encB, encI], by simp [go_sem, hlt, hkA, h1, h1', hx, hsend, hpx, hpl, hpA, h2, h2', hy, encH, encA, encE, encB, encI], hK _ _ ?_⟩))
                     | (refine ⟨_, fun hc => ⟨hc, f24 _ _, by simp [go_sem, hlt, hkA, h1, h1', hx, hsend, hpx, hpl, hpA, h2, h2', hy, encH, encA, encE, encB, encI]⟩, ?_⟩; (first | refine hK _ ?_ | refine hK _ _ ?_ | refine ⟨by simp [go_sem, hlt, hkA, h1, h1', hx, hsend, hpx, hpl, hpA, h2, h2', hy, encH, encA, encE, encB, encI], hK _ ?_⟩ | refine ⟨by simp [go_sem, hlt, hkA, h1, h1', hx, hsend, hpx, hpl, hpA, h2, h2', hy, encH, encA, encE, encB, encI], hK _ _ ?_⟩ | refine ⟨by simp [go_sem, hlt, hkA, h1, h1', hx, hsend, hpx, hpl, hpA, h2, h2', hy, encH, encA, encE, encB, encI], by simp [go_sem, hlt, hkA, h1, h1', hx, hsend, hpx, hpl, hpA, h2, h2', hy, encH, encA, encE, encB, encI], hK _ _ ?_⟩))
                     | refine ⟨.one (.one (.bool false)), by simp [go_sem, hlt, hkA, h1, h1', hx, hsend, hpx, hpl, hpA, h2, h2', hy, encH, encA, encE, encB, encI], hK _ _ ?_⟩
                     | refine ⟨by (first | (simp [appendOk, flatEls, hlt, hkA, h1, h1', hx, hsend, hpx, hpl, hpA, h2, h2', hy, encH, encA, encE, encB, encI]; done) | (simp [appendOk, flatEls, hlt, hkA, h1, h1', hx, hsend, hpx, hpl, hpA, h2, h2', hy, encH, encA, encE, encB, encI]; omega)), hK _ ?_⟩
                     | refine ⟨hK _ ?_, fun h => hK _ ?_⟩
                     | refine ⟨by omega, hK _ ?_⟩
                     | refine ⟨by omega, hK _ _ ?_⟩
                     | refine ⟨?_, hK _ ?_⟩
                     | refine ⟨?_, hK _ _ ?_⟩
                   all_goals clear hK K)
              · have hc : cand (restOf H A) k = none := by
                  rw [hcd, if_neg]
                  rintro ⟨e1, e2, e3⟩
                  simp [e1, e2, e3] at h
                have hb := hnone hc
                rw [hbk] at hb
                refine loopQ_normal (q - 1) _ (by omega) ⟨k + 1, by omega, rfl⟩ ?_
                simp [go_sem, hb, encB, encI]
              · rename_i g
                have hc : cand (restOf H A) k = some ⟨k, p, x.label⟩ := by rw [hcd, if_pos ⟨g.1.1, g.1.2, g.2⟩]
                have hb : bestM (restOf H A) (k + 1) = some ⟨k, p, x.label⟩ := by simp [bestM, hc, hbk, better]
                refine loopQ_normal (q - 1) _ (by omega) ⟨k + 1, by omega, rfl⟩ ?_
                simp [go_sem, hb, encB, encI]
            | some b =>
              repeat' first
                | with_reducible first | refine awp_seq ?_ | refine awp_reg ?_ | refine awp_block ?_ | refine awp_ret ?_ | refine awp_exit ?_ | refine awp_skip ?_ | refine awp_scp ?_ | refine scpQ_normal ?_ | refine scpQ_ret ?_ | refine scpQ_exit ?_ | refine seqQ_normal ?_ | refine seqQ_ret ?_ | refine seqQ_exit ?_ | refine blockQ_normal ?_ | refine blockQ_ret ?_ | refine blockQ_same ?_ | refine blockQ_other (by decide) ?_ | refine loopQ_ret ?_ | refine loopQ_exit ?_ | refine arun_nil ?_ | refine arunA_nil ?_ | refine arunB_nil ?_ | refine drwQ_intro ?_ | refine deadQ_nil ?_
                | ((with_reducible refine awp_cond2 (t := ?_) ?hc (fun h => ?_) (fun h => ?_))
                   case hc => rfl
                   all_goals (try simp [go_sem, hlt, hkA, h1, h1', hx, hsend, hpx, hpl, hpA, h2, h2', hy, encH, encA, encE, encB, encI] at h)
                   all_goals try omega)
                | ((with_reducible first | refine arun_cons fun K hK => ?_ | refine arunA_cons fun K hK => ?_ | refine arunB_cons fun K hK => ?_ | refine awp_drw fun K hK => ?_ | refine deadQ_some fun K hK => ?_ | refine pruneQ_intro fun K hK => ?_)
                   simp [go_sem, hlt, hkA, h1, h1', hx, hsend, hpx, hpl, hpA, h2, h2', hy, encH, encA, encE, encB, encI]
                   try simp (disch := omega) only [wrap_i64, okRefs, eq_self, true_and]
                   first
                     | refine hK _ ?_
                     | refine hK _ _ ?_
                     | (refine ⟨_, f24 ⟨k, p, x.label⟩ b, ?_⟩; (first | refine hK _ ?_ | refine hK _ _ ?_ | refine ⟨by simp [go_sem, hlt, hkA, h1, h1', hx, hsend, hpx, hpl, hpA, h2, h2', hy, encH, encA, encE, encB, encI], hK _ ?_⟩ | refine ⟨by simp [go_sem, hlt, hkA, h1, h1', hx, hsend, hpx, hpl, hpA, h2, h2', hy, encH, encA, encE, encB, encI], hK _ _ ?_⟩ | refine ⟨by simp [go_sem, hlt, hkA, h1, h1', hx, hsend, hpx, hpl, hpA, h2, h2', hy, encH, encA, encE, encB, encI], by simp [go_sem, hlt, hkA, h1, h1', hx, hsend, hpx, hpl, hpA, h2, h2', hy, encH, encA, encE, encB, encI], hK _ _ ?_⟩))
                     | (refine .inl ⟨_, f24 ⟨k, p, x.label⟩ b, ?_⟩; (first | refine hK _ ?_ | refine hK _ _ ?_ | refine ⟨by simp [go_sem, hlt, hkA, h1, h1', hx, hsend, hpx, hpl, hpA, h2, h2', hy, encH, encA, encE, encB, encI], hK _ ?_⟩ | refine ⟨by simp [go_sem, hlt, hkA, h1, h1', hx, hsend, hpx, hpl, hpA, h2, h2', hy, encH, encA, encE, encB, encI], hK _ _ ?_⟩ | refine ⟨by simp [go_sem, hlt, hkA, h1, h1', hx, hsend, hpx, hpl, hpA, h2, h2', hy, encH, encA, encE, encB, encI], by simp [go_sem, hlt, hkA, h1, h1', hx, hsend, hpx, hpl, hpA, h2, h2', hy, encH, encA, encE, encB, encI], hK _ _ ?_⟩))
                     | (refine .inr ⟨_, f24 ⟨k, p, x.label⟩ b, ?_⟩; (first | refine hK _ ?_ | refine hK _ _ ?_ | refine ⟨by simp [go_sem, hlt, hkA, h1, h1', hx, hsend, hpx, hpl, hpA, h2, h2', hy, encH, encA, encE, encB, encI], hK _ ?_⟩ | refine ⟨by simp [go_sem, hlt, hkA, h1, h1', hx, hsend, hpx, hpl, hpA, h2, h2', hy, encH, encA, encE, encB, encI], hK _ _ ?_⟩ | refine ⟨by simp [go_sem, hlt, hkA, h1, h1', hx, hsend, hpx, hpl, hpA, h2, h2', hy, encH, encA, encE, encB, encI], by simp [go_sem, hlt, hkA, h1, h1', hx, hsend, hpx, hpl, hpA, h2, h2', hy, encH, encA, encE, encB, encI], hK _ _ ?_⟩))
                     | (refine ⟨_, ⟨f24 ⟨k, p, x.label⟩ b, by simp [go_sem, hlt, hkA, h1, h1', hx, hsend, hpx, hpl, hpA, h2, h2', hy, encH, encA, encE, encB, encI]⟩, ?_⟩; (first | refine hK _ ?_ | refine hK _ _ ?_ | refine ⟨by simp [go_sem, hlt, hkA, h1, h1', hx, hsend, hpx, hpl, hpA, h2, h2', hy, encH, encA, encE, encB, encI], hK _ ?_⟩ | refine ⟨by simp [go_sem, hlt, hkA, h1, h1', hx, hsend, hpx, hpl, hpA, h2, h2', hy, encH, encA, encE, encB, encI], hK _ _ ?_⟩ | refine ⟨by simp [go_sem, hlt, hkA, h1, h1', hx, hsend, hpx, hpl, hpA, h2, h2', hy, encH, encA, encE, encB, encI], by simp [go_sem, hlt, hkA, h1, h1', hx, hsend, hpx, hpl, hpA, h2, h2', hy, encH, encA, encE, encB, encI], hK _ _ ?_⟩))
                     | (refine ⟨_, fun _ => f24 ⟨k, p, x.label⟩ b, ?_⟩; (first | refine hK _ ?_ | refine hK _ _ ?_ | refine ⟨by simp [go_sem, hlt, hkA, h1, h1', hx, hsend, hpx, hpl, hpA, h2, h2', hy, encH, encA, encE, encB, encI], hK _ ?_⟩ | refine ⟨by simp [go_sem, hlt, hkA, h1, h1', hx, hsend, hpx, hpl, hpA, h2, h2', hy, encH, encA, encE, encB, encI], hK _ _ ?_⟩ | refine ⟨by simp [go_sem, hlt, hkA, h1, h1', hx, hsend, hpx, hpl, hpA, h2, h2', hy, encH, encA, encE, encB, encI], by simp [go_sem, hlt, hkA, h1, h1', hx, hsend, hpx, hpl, hpA, h2, h2', hy, encH, encA, encE, encB, encI], hK _ _ ?_⟩))
                     | (refine ⟨_, fun hc => ⟨hc, f24 ⟨k, p, x.label⟩ b⟩, ?_⟩; (first | refine hK _ ?_ | refine hK _ _ ?_ | refine ⟨by simp [go_sem, hlt, hkA, h1, h1', hx, hsend, hpx, hpl, hpA, h2, h2', hy, encH, encA, encE, encB, encI], hK _ ?_⟩ | refine ⟨by simp [go_sem, hlt, hkA, h1, h1', hx, hsend, hpx, hpl, hpA, h2, h2', hy, encH, encA, encE, encB, encI], hK _ _ ?_⟩ | refine ⟨by simp [go_sem, hlt, hkA, h1, h1', hx, hsend, hpx, hpl, hpA, h2, h2', hy, encH, encA, encE, encB, encI], by simp [go_sem, hlt, hkA, h1, h1', hx, hsend, hpx, hpl, hpA, h2, h2', hy, encH, encA, encE, encB, encI], hK _ _ ?_⟩))
                     | (refine ⟨_, fun hc => ⟨f24 ⟨k, p, x.label⟩ b, by simp [go_sem, hlt, hkA, h1, h1', hx, hsend, hpx, hpl, hpA, h2, h2', hy, encH, encA, encE, encB, encI]⟩, ?_⟩; (first | refine hK _ ?_ | refine hK _ _ ?_ | refine ⟨by simp [go_sem, hlt, hkA, h1, h1', hx, hsend, hpx, hpl, hpA, h2, h2', hy, encH, encA, encE, encB, encI], hK _ ?_⟩ | refine ⟨by simp [go_sem, hlt, hkA, h1, h1', hx, hsend, hpx, hpl, hpA, h2, h2', hy, encH, encA, encE, encB, encI], hK _ _ ?_⟩ | refine ⟨by simp [go_sem, hlt, hkA, h1, h1', hx, hsend, hpx, hpl, hpA, h2, h2', hy, encH, encA, encE, encB, encI], by simp [go_sem, hlt, hkA, h1, h1', hx, hsend, hpx, hpl, hpA, h2, h2', hy, encH, encA, encE, encB, encI], hK _ _ ?_⟩))
                     | (refine ⟨_, fun hc => ⟨hc, f24 ⟨k, p, x.label⟩ b, by simp [go_sem, hlt, hkA, h1, h1', hx, hsend, hpx, hpl, hpA, h2, h2', hy, encH, encA, encE, encB, encI]⟩, ?_⟩; (first | refine hK _ ?_ | refine hK _ _ ?_ | refine ⟨by simp [go_sem, hlt, hkA, h1, h1', hx, hsend, hpx, hpl, hpA, h2, h2', hy, encH, encA, encE, encB, encI], hK _ ?_⟩ | refine ⟨by simp [go_sem, hlt, hkA, h1, h1', hx, hsend, hpx, hpl, hpA, h2, h2', hy, encH, encA, encE, encB, encI], hK _ _ ?_⟩ | refine ⟨by simp [go_sem, hlt, hkA, h1, h1', hx, hsend, hpx, hpl, hpA, h2, h2', hy, encH, encA, encE, encB, encI], by simp [go_sem, hlt, hkA, h1, h1', hx, hsend, hpx, hpl, hpA, h2, h2', hy, encH, encA, encE, encB, encI], hK _ _ ?_⟩))
                     | refine ⟨.one (.one (.bool false)), by simp [go_sem, hlt, hkA, h1, h1', hx, hsend, hpx, hpl, hpA, h2, h2', hy, encH, encA, encE, encB, encI], hK _ _ ?_⟩
                     | refine ⟨by (first | (simp [appendOk, flatEls, hlt, hkA, h1, h1', hx, hsend, hpx, hpl, hpA, h2, h2', hy, encH, encA, encE, encB, encI]; done) | (simp [appendOk, flatEls, hlt, hkA, h1, h1', hx, hsend, hpx, hpl, hpA, h2, h2', hy, encH, encA, encE, encB, encI]; omega)), hK _ ?_⟩
                     | refine ⟨hK _ ?_, fun h => hK _ ?_⟩
                     | refine ⟨by omega, hK _ ?_⟩
                     | refine ⟨by omega, hK _ _ ?_⟩
                     | refine ⟨?_, hK _ ?_⟩
                     | refine ⟨?_, hK _ _ ?_⟩
                   all_goals clear hK K)
              · have hc : cand (restOf H A) k = none := by
                  rw [hcd, if_neg]
                  rintro ⟨e1, e2, e3⟩
                  simp [e1, e2, e3] at h
                have hb := hnone hc
                rw [hbk] at hb
                refine loopQ_normal (q - 1) _ (by omega) ⟨k + 1, by omega, rfl⟩ ?_
                simp [go_sem, hb, encB, encI]
              · rename_i g
                have hc : cand (restOf H A) k = some ⟨k, p, x.label⟩ := by rw [hcd, if_pos ⟨g.1.1, g.1.2, g.2⟩]
                have hb : bestM (restOf H A) (k + 1) = some ⟨k, p, x.label⟩ := by simp [bestM, hc, hbk, better, lt_less, h]
                refine loopQ_normal (q - 1) _ (by omega) ⟨k + 1, by omega, rfl⟩ ?_
                simp [go_sem, hb, encB, encI]
              · rename_i g
                have hc : cand (restOf H A) k = some ⟨k, p, x.label⟩ := by rw [hcd, if_pos ⟨g.1.1, g.1.2, g.2⟩]
                have hb : bestM (restOf H A) (k + 1) = some b := by simp [bestM, hc, hbk, better, lt_less, h]
                refine loopQ_normal (q - 1) _ (by omega) ⟨k + 1, by omega, rfl⟩ ?_
                simp [go_sem, hb, encB, encI]
          · have h2' : H[p].length ≤ A[p] := by omega
            have hc : cand (restOf H A) k = none := by
              have e : (restOf H A)[p] = [] := by rw [hgetp]; exact List.drop_eq_nil_of_le h2'
              unfold cand
              rw [List.getElem?_eq_getElem hkR, hget]
              simp only
              rw [if_pos hsend, hpt, List.getElem?_eq_getElem hpR, e]
            repeat' first
              | with_reducible first | refine awp_seq ?_ | refine awp_reg ?_ | refine awp_block ?_ | refine awp_ret ?_ | refine awp_exit ?_ | refine awp_skip ?_ | refine awp_scp ?_ | refine scpQ_normal ?_ | refine scpQ_ret ?_ | refine scpQ_exit ?_ | refine seqQ_normal ?_ | refine seqQ_ret ?_ | refine seqQ_exit ?_ | refine blockQ_normal ?_ | refine blockQ_ret ?_ | refine blockQ_same ?_ | refine blockQ_other (by decide) ?_ | refine loopQ_ret ?_ | refine loopQ_exit ?_ | refine arun_nil ?_ | refine arunA_nil ?_ | refine arunB_nil ?_ | refine drwQ_intro ?_ | refine deadQ_nil ?_
              | ((with_reducible refine awp_cond2 (t := ?_) ?hc (fun h => ?_) (fun h => ?_))
                 case hc => rfl
                 all_goals (try simp [go_sem, hlt, hkA, h1, h1', hx, hsend, hpx, hpl, hpA, h2, h2', encH, encA, encE] at h)
                 all_goals try omega)
              | ((with_reducible first | refine arun_cons fun K hK => ?_ | refine arunA_cons fun K hK => ?_ | refine arunB_cons fun K hK => ?_ | refine awp_drw fun K hK => ?_ | refine deadQ_some fun K hK => ?_ | refine pruneQ_intro fun K hK => ?_)
                 simp [go_sem, hlt, hkA, h1, h1', hx, hsend, hpx, hpl, hpA, h2, h2', encH, encA, encE]
                 try simp (disch := omega) only [wrap_i64, okRefs, eq_self, true_and]
                 first
                   | refine hK _ ?_
                   | refine hK _ _ ?_
                   | refine ⟨by (first | (simp [appendOk, flatEls, hlt, hkA, h1, h1', hx, hsend, hpx, hpl, hpA, h2, h2', encH, encA, encE]; done) | (simp [appendOk, flatEls, hlt, hkA, h1, h1', hx, hsend, hpx, hpl, hpA, h2, h2', encH, encA, encE]; omega)), hK _ ?_⟩
                   | refine ⟨hK _ ?_, fun h => hK _ ?_⟩
                   | refine ⟨by omega, hK _ ?_⟩
                   | refine ⟨by omega, hK _ _ ?_⟩
                   | refine ⟨?_, hK _ ?_⟩
                   | refine ⟨?_, hK _ _ ?_⟩
                 all_goals clear hK K)
            refine loopQ_normal (q - 1) _ (by omega) ⟨k + 1, by omega, rfl⟩ ?_
            simp [go_sem, hnone hc]
      · have hc : cand (restOf H A) k = none := by
          have : (restOf H A)[k] = [] := by rw [hget]; exact List.drop_eq_nil_of_le (by omega)
          simp [cand, hkR, this]
        have h1' : H[k].length ≤ A[k] := by omega
        repeat' first
          | with_reducible first | refine awp_seq ?_ | refine awp_reg ?_ | refine awp_block ?_ | refine awp_ret ?_ | refine awp_exit ?_ | refine awp_skip ?_ | refine awp_scp ?_ | refine scpQ_normal ?_ | refine scpQ_ret ?_ | refine scpQ_exit ?_ | refine seqQ_normal ?_ | refine seqQ_ret ?_ | refine seqQ_exit ?_ | refine blockQ_normal ?_ | refine blockQ_ret ?_ | refine blockQ_same ?_ | refine blockQ_other (by decide) ?_ | refine loopQ_ret ?_ | refine loopQ_exit ?_ | refine arun_nil ?_ | refine arunA_nil ?_ | refine arunB_nil ?_ | refine drwQ_intro ?_ | refine deadQ_nil ?_
          | ((with_reducible refine awp_cond2 (t := ?_) ?hc (fun h => ?_) (fun h => ?_))
             case hc => rfl
             all_goals (try simp [go_sem, hlt, hkA, h1', encH, encA_len, encA] at h)
             all_goals try omega)
          | ((with_reducible first | refine arun_cons fun K hK => ?_ | refine arunA_cons fun K hK => ?_ | refine arunB_cons fun K hK => ?_ | refine awp_drw fun K hK => ?_ | refine deadQ_some fun K hK => ?_ | refine pruneQ_intro fun K hK => ?_)
             simp [go_sem, hlt, hkA, h1', encH, encA_len, encA]
             try simp (disch := omega) only [wrap_i64, okRefs, eq_self, true_and]
             first
               | refine hK _ ?_
               | refine hK _ _ ?_
               | refine ⟨by (first | (simp [appendOk, flatEls, hlt, hkA, h1', encH, encA_len, encA]; done) | (simp [appendOk, flatEls, hlt, hkA, h1', encH, encA_len, encA]; omega)), hK _ ?_⟩
               | refine ⟨hK _ ?_, fun h => hK _ ?_⟩
               | refine ⟨by omega, hK _ ?_⟩
               | refine ⟨by omega, hK _ _ ?_⟩
               | refine ⟨?_, hK _ ?_⟩
               | refine ⟨?_, hK _ _ ?_⟩
             all_goals clear hK K)
        refine loopQ_normal (q - 1) _ (by omega) ⟨k + 1, by omega, rfl⟩ ?_
        simp [go_sem, hnone hc]
    · have hke : k = H.length := by omega
      subst hke
      have hlenR := restOf_len H A
      cases hb : bestM (restOf H A) H.length with
      | none =>
        repeat' first
          | with_reducible first | refine awp_seq ?_ | refine awp_reg ?_ | refine awp_block ?_ | refine awp_ret ?_ | refine awp_exit ?_ | refine awp_skip ?_ | refine awp_scp ?_ | refine scpQ_normal ?_ | refine scpQ_ret ?_ | refine scpQ_exit ?_ | refine seqQ_normal ?_ | refine seqQ_ret ?_ | refine seqQ_exit ?_ | refine blockQ_normal ?_ | refine blockQ_ret ?_ | refine blockQ_same ?_ | refine blockQ_other (by decide) ?_ | refine loopQ_ret ?_ | refine loopQ_exit ?_ | refine arun_nil ?_ | refine arunA_nil ?_ | refine arunB_nil ?_ | refine drwQ_intro ?_ | refine deadQ_nil ?_
          | ((with_reducible refine awp_cond2 (t := ?_) ?hc (fun h => ?_) (fun h => ?_))
             case hc => rfl
             all_goals (try simp [go_sem, hb] at h)
             all_goals try omega)
          | ((with_reducible first | refine arun_cons fun K hK => ?_ | refine arunA_cons fun K hK => ?_ | refine arunB_cons fun K hK => ?_ | refine awp_drw fun K hK => ?_ | refine deadQ_some fun K hK => ?_ | refine pruneQ_intro fun K hK => ?_)
             simp [go_sem, hb]
             try simp (disch := omega) only [wrap_i64, okRefs, eq_self, true_and]
             first
               | refine hK _ ?_
               | refine hK _ _ ?_
               | refine ⟨by (first | (simp [appendOk, flatEls, hb]; done) | (simp [appendOk, flatEls, hb]; omega)), hK _ ?_⟩
               | refine ⟨hK _ ?_, fun h => hK _ ?_⟩
               | refine ⟨by omega, hK _ ?_⟩
               | refine ⟨by omega, hK _ _ ?_⟩
               | refine ⟨?_, hK _ ?_⟩
               | refine ⟨?_, hK _ _ ?_⟩
             all_goals clear hK K)
        refine awp_loop (fun q e => ∃ r, r + q = H.length ∧ (∀ (i : Nat) (h : i < H.length) (h' : i < A.length), i < r → H[i].length ≤ A[i]) ∧ e = [(12, .sv (.one (.int .i64 (r : Nat)))), (5, .sv (.one (.ow 3 (out.map encI)))), (4, .sv (.one (.ow 1 (A.map encA)))), (0, .sv (.one (.sl (H.map encH))))]) H.length _ ⟨0, by simp, by simp, rfl⟩ (by simp [go_sem]) ?_
        rintro q2 e ⟨r, hr, hge, rfl⟩
        by_cases hlr : r < H.length
        · have hrA : r < A.length := by omega
          by_cases hlt2 : A[r] < H[r].length
          · have hne0 : total (restOf H A) ≠ 0 := by
              refine total_pos (i := r) (by rw [restOf_len]; exact hlr) ?_
              rw [restOf_get hA hlr, drop_cons hlt2]
              exact List.cons_ne_nil _ _
            have hmn : merge H = none := by
              rw [← hm, mergeN_none hne0 (by rw [hlenR]; exact hb)]
              rfl
            repeat' first
              | with_reducible first | refine awp_seq ?_ | refine awp_reg ?_ | refine awp_block ?_ | refine awp_ret ?_ | refine awp_exit ?_ | refine awp_skip ?_ | refine awp_scp ?_ | refine scpQ_normal ?_ | refine scpQ_ret ?_ | refine scpQ_exit ?_ | refine seqQ_normal ?_ | refine seqQ_ret ?_ | refine seqQ_exit ?_ | refine blockQ_normal ?_ | refine blockQ_ret ?_ | refine blockQ_same ?_ | refine blockQ_other (by decide) ?_ | refine loopQ_ret ?_ | refine loopQ_exit ?_ | refine arun_nil ?_ | refine arunA_nil ?_ | refine arunB_nil ?_ | refine drwQ_intro ?_ | refine deadQ_nil ?_
              | ((with_reducible refine awp_cond2 (t := ?_) ?hc (fun h => ?_) (fun h => ?_))
                 case hc => rfl
                 all_goals (try simp [go_sem, hlr, hrA, hlt2, encH, encA] at h)
                 all_goals try omega)
              | ((with_reducible first | refine arun_cons fun K hK => ?_ | refine arunA_cons fun K hK => ?_ | refine arunB_cons fun K hK => ?_ | refine awp_drw fun K hK => ?_ | refine deadQ_some fun K hK => ?_ | refine pruneQ_intro fun K hK => ?_)
                 simp [go_sem, hlr, hrA, hlt2, encH, encA]
                 try simp (disch := omega) only [wrap_i64, okRefs, eq_self, true_and]
                 first
                   | refine hK _ ?_
                   | refine hK _ _ ?_
                   | refine ⟨by (first | (simp [appendOk, flatEls, hlr, hrA, hlt2, encH, encA]; done) | (simp [appendOk, flatEls, hlr, hrA, hlt2, encH, encA]; omega)), hK _ ?_⟩
                   | refine ⟨hK _ ?_, fun h => hK _ ?_⟩
                   | refine ⟨by omega, hK _ ?_⟩
                   | refine ⟨by omega, hK _ _ ?_⟩
                   | refine ⟨?_, hK _ ?_⟩
                   | refine ⟨?_, hK _ _ ?_⟩
                 all_goals clear hK K)
            simp [go_sem, hmn, mResult]
          · have hlt3 : H[r].length ≤ A[r] := by omega
            repeat' first
              | with_reducible first | refine awp_seq ?_ | refine awp_reg ?_ | refine awp_block ?_ | refine awp_ret ?_ | refine awp_exit ?_ | refine awp_skip ?_ | refine awp_scp ?_ | refine scpQ_normal ?_ | refine scpQ_ret ?_ | refine scpQ_exit ?_ | refine seqQ_normal ?_ | refine seqQ_ret ?_ | refine seqQ_exit ?_ | refine blockQ_normal ?_ | refine blockQ_ret ?_ | refine blockQ_same ?_ | refine blockQ_other (by decide) ?_ | refine loopQ_ret ?_ | refine loopQ_exit ?_ | refine arun_nil ?_ | refine arunA_nil ?_ | refine arunB_nil ?_ | refine drwQ_intro ?_ | refine deadQ_nil ?_
              | ((with_reducible refine awp_cond2 (t := ?_) ?hc (fun h => ?_) (fun h => ?_))
                 case hc => rfl
                 all_goals (try simp [go_sem, hlr, hrA, hlt2, encH, encA] at h)
                 all_goals try omega)
              | ((with_reducible first | refine arun_cons fun K hK => ?_ | refine arunA_cons fun K hK => ?_ | refine arunB_cons fun K hK => ?_ | refine awp_drw fun K hK => ?_ | refine deadQ_some fun K hK => ?_ | refine pruneQ_intro fun K hK => ?_)
                 simp [go_sem, hlr, hrA, hlt2, encH, encA]
                 try simp (disch := omega) only [wrap_i64, okRefs, eq_self, true_and]
                 first
                   | refine hK _ ?_
                   | refine hK _ _ ?_
                   | refine ⟨by (first | (simp [appendOk, flatEls, hlr, hrA, hlt2, encH, encA]; done) | (simp [appendOk, flatEls, hlr, hrA, hlt2, encH, encA]; omega)), hK _ ?_⟩
                   | refine ⟨hK _ ?_, fun h => hK _ ?_⟩
                   | refine ⟨by omega, hK _ ?_⟩
                   | refine ⟨by omega, hK _ _ ?_⟩
                   | refine ⟨?_, hK _ ?_⟩
                   | refine ⟨?_, hK _ _ ?_⟩
                 all_goals clear hK K)
            refine loopQ_normal (q2 - 1) _ (by omega) ⟨r + 1, by omega, ?_, rfl⟩ ?_
            · intro i h h' hir
              by_cases e : i = r
              · subst e; exact hlt3
              · exact hge i h h' (by omega)
            · simp [go_sem]
        · have h0 : total (restOf H A) = 0 := by
            refine total_nil fun i hi => ?_
            rw [restOf_len] at hi
            rw [restOf_get hA hi]
            exact List.drop_eq_nil_of_le (hge i hi (by omega) (by omega))
          have hms : merge H = some out := by
            rw [← hm, mergeN_zero h0]
            simp
          repeat' first
            | with_reducible first | refine awp_seq ?_ | refine awp_reg ?_ | refine awp_block ?_ | refine awp_ret ?_ | refine awp_exit ?_ | refine awp_skip ?_ | refine awp_scp ?_ | refine scpQ_normal ?_ | refine scpQ_ret ?_ | refine scpQ_exit ?_ | refine seqQ_normal ?_ | refine seqQ_ret ?_ | refine seqQ_exit ?_ | refine blockQ_normal ?_ | refine blockQ_ret ?_ | refine blockQ_same ?_ | refine blockQ_other (by decide) ?_ | refine loopQ_ret ?_ | refine loopQ_exit ?_ | refine arun_nil ?_ | refine arunA_nil ?_ | refine arunB_nil ?_ | refine drwQ_intro ?_ | refine deadQ_nil ?_
            | ((with_reducible refine awp_cond2 (t := ?_) ?hc (fun h => ?_) (fun h => ?_))
               case hc => rfl
               all_goals (try simp [go_sem, hlr] at h)
               all_goals try omega)
            | ((with_reducible first | refine arun_cons fun K hK => ?_ | refine arunA_cons fun K hK => ?_ | refine arunB_cons fun K hK => ?_ | refine awp_drw fun K hK => ?_ | refine deadQ_some fun K hK => ?_ | refine pruneQ_intro fun K hK => ?_)
               simp [go_sem, hlr]
               try simp (disch := omega) only [wrap_i64, okRefs, eq_self, true_and]
               first
                 | refine hK _ ?_
                 | refine hK _ _ ?_
                 | refine ⟨by (first | (simp [appendOk, flatEls, hlr]; done) | (simp [appendOk, flatEls, hlr]; omega)), hK _ ?_⟩
                 | refine ⟨hK _ ?_, fun h => hK _ ?_⟩
                 | refine ⟨by omega, hK _ ?_⟩
                 | refine ⟨by omega, hK _ _ ?_⟩
                 | refine ⟨?_, hK _ ?_⟩
                 | refine ⟨?_, hK _ _ ?_⟩
               all_goals clear hK K)
          simp [go_sem, hms, mResult]
      | some a =>
        have hb' : bestM (restOf H A) (restOf H A).length = some a := by rw [hlenR]; exact hb
        obtain ⟨i0, _, hc0⟩ := bestM_some hb
        obtain ⟨p, x, y, tx, ty, hi, hp', hne, h1, h2, hx, hy⟩ := cand_some hR hc0
        have ht := step_total hR hb
        have hi' : i0 < A.length := by omega
        have hp2 : p < A.length := by omega
        have hiH : i0 < H.length := by omega
        have hpH : p < H.length := by omega
        have b1 := hAl i0 hiH hi'
        have b2 := hAl p hpH hp2
        have b3 := hh H[i0] (List.getElem_mem hiH)
        have b4 := hh H[p] (List.getElem_mem hpH)
        have w1 : IntKind.i64.wrap ((A[i0] : Int) + 1) = (A[i0] : Int) + 1 := wrap_i64 (by omega) (by omega)
        have w2 : IntKind.i64.wrap ((A[p] : Int) + 1) = (A[p] : Int) + 1 := wrap_i64 (by omega) (by omega)
        have hst := restOf_bump hA hi hp' hne h1 h2 hx hy
        have x1 : A[i0] < H[i0].length := by
          have := restOf_get hA hiH
          rw [hx] at this
          have := congrArg List.length this
          simp at this
          omega
        have x2 : A[p] < H[p].length := by
          have := restOf_get hA hpH
          rw [hy] at this
          have := congrArg List.length this
          simp at this
          omega
        have hmap : ((A.map encA).set i0 [.int .i64 ((A[i0] : Int) + 1)]).set p [.int .i64 ((A[p] : Int) + 1)] = (bump (bump A i0) p).map encA := by
          have e1 : (A.set i0 (A[i0] + 1))[p]?.getD 0 = A[p] := by
            rw [List.getElem?_set_ne hne, List.getElem?_eq_getElem hp2]
            rfl
          unfold bump
          rw [List.getElem?_eq_getElem hi', Option.getD_some, e1, List.map_set, List.map_set]
          rfl
        repeat' first
          | with_reducible first | refine awp_seq ?_ | refine awp_reg ?_ | refine awp_block ?_ | refine awp_ret ?_ | refine awp_exit ?_ | refine awp_skip ?_ | refine awp_scp ?_ | refine scpQ_normal ?_ | refine scpQ_ret ?_ | refine scpQ_exit ?_ | refine seqQ_normal ?_ | refine seqQ_ret ?_ | refine seqQ_exit ?_ | refine blockQ_normal ?_ | refine blockQ_ret ?_ | refine blockQ_same ?_ | refine blockQ_other (by decide) ?_ | refine loopQ_ret ?_ | refine loopQ_exit ?_ | refine arun_nil ?_ | refine arunA_nil ?_ | refine arunB_nil ?_ | refine drwQ_intro ?_ | refine deadQ_nil ?_
          | ((with_reducible refine awp_cond2 (t := ?_) ?hc (fun h => ?_) (fun h => ?_))
             case hc => rfl
             all_goals (try simp [go_sem, hb, encB, encI, encA, h1, h2, hi', hp2, hne, hne.symm, w1, w2] at h)
             all_goals try omega)
          | ((with_reducible first | refine arun_cons fun K hK => ?_ | refine arunA_cons fun K hK => ?_ | refine arunB_cons fun K hK => ?_ | refine awp_drw fun K hK => ?_ | refine deadQ_some fun K hK => ?_ | refine pruneQ_intro fun K hK => ?_)
             simp [go_sem, hb, encB, encI, encA, h1, h2, hi', hp2, hne, hne.symm, w1, w2]
             try simp (disch := omega) only [wrap_i64, okRefs, eq_self, true_and]
             first
               | refine hK _ ?_
               | refine hK _ _ ?_
               | refine ⟨by (first | (simp [appendOk, flatEls, hb, encB, encI, encA, h1, h2, hi', hp2, hne, hne.symm, w1, w2, maxLen, DV.flat]; done) | (simp [appendOk, flatEls, hb, encB, encI, encA, h1, h2, hi', hp2, hne, hne.symm, w1, w2, maxLen, DV.flat]; omega)), hK _ ?_⟩
               | refine ⟨hK _ ?_, fun h => hK _ ?_⟩
               | refine ⟨by omega, hK _ ?_⟩
               | refine ⟨by omega, hK _ _ ?_⟩
               | refine ⟨?_, hK _ ?_⟩
               | refine ⟨?_, hK _ _ ?_⟩
             all_goals clear hK K)
        rw [hmap]
        refine loopQ_normal (total (stepM (restOf H A) a)) _ (by omega) ⟨bump (bump A i0) p, out ++ [a], by rw [hst], by rw [bump_len, bump_len, hA], by rw [← hst]; exact okR_step hR hb, ?_, by rw [← hst]; simp; omega, ?_, rfl⟩ ?_
        · intro j hj hj'
          rw [bump_get hi' hp2 hne (by omega) hj']
          split
          · rename_i e; subst e; omega
          · split
            · rename_i e; subst e; omega
            · exact hAl j hj (by omega)
        · have h0 : total (restOf H A) - 2 = total (stepM (restOf H A) a) := by omega
          have hpos : total (restOf H A) ≠ 0 := by omega
          rw [← hm, mergeN_some hpos (Nat.le_refl _) hb' hR, h0, hst]
          cases mergeN (total (restOf H (bump (bump A i0) p))) (restOf H (bump (bump A i0) p)) <;> simp
        · simp [go_sem, encI, h1, h2]
  · have hp : properH H = false := by simpa using hp
    repeat' first
      | with_reducible first | refine awp_seq ?_ | refine awp_reg ?_ | refine awp_block ?_ | refine awp_ret ?_ | refine awp_exit ?_ | refine awp_skip ?_ | refine awp_scp ?_ | refine scpQ_normal ?_ | refine scpQ_ret ?_ | refine scpQ_exit ?_ | refine seqQ_normal ?_ | refine seqQ_ret ?_ | refine seqQ_exit ?_ | refine blockQ_normal ?_ | refine blockQ_ret ?_ | refine blockQ_same ?_ | refine blockQ_other (by decide) ?_ | refine loopQ_ret ?_ | refine loopQ_exit ?_ | refine arun_nil ?_ | refine arunA_nil ?_ | refine arunB_nil ?_ | refine drwQ_intro ?_ | refine deadQ_nil ?_
      | ((with_reducible refine awp_cond2 (t := ?_) ?hc (fun h => ?_) (fun h => ?_))
         case hc => rfl
         all_goals (try simp [go_sem, hp, encH] at h)
         all_goals try omega)
      | ((with_reducible first | refine arun_cons fun K hK => ?_ | refine arunA_cons fun K hK => ?_ | refine arunB_cons fun K hK => ?_ | refine awp_drw fun K hK => ?_ | refine deadQ_some fun K hK => ?_ | refine pruneQ_intro fun K hK => ?_)
         simp [go_sem, hp, encH]
         try simp (disch := omega) only [wrap_i64, okRefs, eq_self, true_and]
         first
           | refine hK _ ?_
           | refine hK _ _ ?_
           | (refine ⟨_, f37s, ?_⟩; (first | refine hK _ ?_ | refine hK _ _ ?_ | refine ⟨by simp [go_sem, hp, encH], hK _ ?_⟩ | refine ⟨by simp [go_sem, hp, encH], hK _ _ ?_⟩ | refine ⟨by simp [go_sem, hp, encH], by simp [go_sem, hp, encH], hK _ _ ?_⟩))
           | (refine .inl ⟨_, f37s, ?_⟩; (first | refine hK _ ?_ | refine hK _ _ ?_ | refine ⟨by simp [go_sem, hp, encH], hK _ ?_⟩ | refine ⟨by simp [go_sem, hp, encH], hK _ _ ?_⟩ | refine ⟨by simp [go_sem, hp, encH], by simp [go_sem, hp, encH], hK _ _ ?_⟩))
           | (refine .inr ⟨_, f37s, ?_⟩; (first | refine hK _ ?_ | refine hK _ _ ?_ | refine ⟨by simp [go_sem, hp, encH], hK _ ?_⟩ | refine ⟨by simp [go_sem, hp, encH], hK _ _ ?_⟩ | refine ⟨by simp [go_sem, hp, encH], by simp [go_sem, hp, encH], hK _ _ ?_⟩))
           | (refine ⟨_, ⟨f37s, by simp [go_sem, hp, encH]⟩, ?_⟩; (first | refine hK _ ?_ | refine hK _ _ ?_ | refine ⟨by simp [go_sem, hp, encH], hK _ ?_⟩ | refine ⟨by simp [go_sem, hp, encH], hK _ _ ?_⟩ | refine ⟨by simp [go_sem, hp, encH], by simp [go_sem, hp, encH], hK _ _ ?_⟩))
           | (refine ⟨_, fun _ => f37s, ?_⟩; (first | refine hK _ ?_ | refine hK _ _ ?_ | refine ⟨by simp [go_sem, hp, encH], hK _ ?_⟩ | refine ⟨by simp [go_sem, hp, encH], hK _ _ ?_⟩ | refine ⟨by simp [go_sem, hp, encH], by simp [go_sem, hp, encH], hK _ _ ?_⟩))
           | (refine ⟨_, fun hc => ⟨hc, f37s⟩, ?_⟩; (first | refine hK _ ?_ | refine hK _ _ ?_ | refine ⟨by simp [go_sem, hp, encH], hK _ ?_⟩ | refine ⟨by simp [go_sem, hp, encH], hK _ _ ?_⟩ | refine ⟨by simp [go_sem, hp, encH], by simp [go_sem, hp, encH], hK _ _ ?_⟩))
           | (refine ⟨_, fun hc => ⟨f37s, by simp [go_sem, hp, encH]⟩, ?_⟩; (first | refine hK _ ?_ | refine hK _ _ ?_ | refine ⟨by simp [go_sem, hp, encH], hK _ ?_⟩ | refine ⟨by simp [go_sem, hp, encH], hK _ _ ?_⟩ | refine ⟨by simp [go_sem, hp, encH], by simp [go_sem, hp, encH], hK _ _ ?_⟩))
           | (refine ⟨_, fun hc => ⟨hc, f37s, by simp [go_sem, hp, encH]⟩, ?_⟩; (first | refine hK _ ?_ | refine hK _ _ ?_ | refine ⟨by simp [go_sem, hp, encH], hK _ ?_⟩ | refine ⟨by simp [go_sem, hp, encH], hK _ _ ?_⟩ | refine ⟨by simp [go_sem, hp, encH], by simp [go_sem, hp, encH], hK _ _ ?_⟩))
           | refine ⟨.one (.one (.bool false)), by simp [go_sem, hp, encH], hK _ _ ?_⟩
           | refine ⟨by (first | (simp [appendOk, flatEls, hp, encH]; done) | (simp [appendOk, flatEls, hp, encH]; omega)), hK _ ?_⟩
           | refine ⟨hK _ ?_, fun h => hK _ ?_⟩
           | refine ⟨by omega, hK _ ?_⟩
           | refine ⟨by omega, hK _ _ ?_⟩
           | refine ⟨?_, hK _ ?_⟩
           | refine ⟨?_, hK _ _ ?_⟩
         all_goals clear hK K)
    simp [go_sem, merge, hp, mResult]
end Go.Av
