/- Part of a proof by symbolic walks on plain data. -/
import Derived.Test.YtpnpnldabhmojaaCL10
import Derived.Test.YtpnpnldabhmojaaL5
import Derived.Test.YtpnpnldabhmojaaLN
set_option linter.unusedVariables false
set_option linter.unusedSimpArgs false
namespace Go.Av
open Go Go.RowKit Go.Proofs

def cutAtB (l : List Inter) (c : List Int) (i : Nat) : Nat := ((c[i]?.getD 0).tmod ((project l i).length + 1)).toNat

set_option maxHeartbeats 16000000 in
theorem law10 (l : List Inter) (c : List Int) (hc6 : c.length = 6) (hc : ∀ n ∈ c, 0 ≤ n ∧ n ≤ 255) : Impl Try.prog 10 [.one (.sl (l.map encI)), .ag (c.map (DV.int .u8))] (.one (.one (.bool true))) := by
  refine impl_intro Try.func10 b10 e10 r10 n10 Try.ntmps10 d10 (by simp) fun hs => ?_
  clear hs
  simp only [c10, slotsOf]
  by_cases h20 : l.length ≤ 20
  · have h20' : ¬ (20 : Int) < (l.length : Int) := by omega
    by_cases hp : l.all okI = true
    · have hp2 : ∀ x ∈ l, okI x = true := by rwa [List.all_eq_true] at hp
      have f12s := f12 l 6 (by omega)
      have e12 : histories l 6 = hists l 6 := rfl
      have hlen : (hists l 6).length = 6 := hists_len l 6
      rw [e12] at f12s
      have hHS : ((hists l 6).map encO).length = 6 := by simp [hlen]
      obtain ⟨m, hm⟩ : ∃ m, m = cutAtB l c := ⟨_, rfl⟩
      have hfr : frzLL ((hists l 6).map encO) = (cutTo l m 0).map encH := by rw [cutTo_zero, encHO]
      generalize (hists l 6).map encO = HO at *
      repeat' first
        | with_reducible first | refine awp_seq ?_ | refine awp_reg ?_ | refine awp_block ?_ | refine awp_ret ?_ | refine awp_exit ?_ | refine awp_skip ?_ | refine awp_scp ?_ | refine scpQ_normal ?_ | refine scpQ_ret ?_ | refine scpQ_exit ?_ | refine seqQ_normal ?_ | refine seqQ_ret ?_ | refine seqQ_exit ?_ | refine blockQ_normal ?_ | refine blockQ_ret ?_ | refine blockQ_same ?_ | refine blockQ_other (by decide) ?_ | refine loopQ_ret ?_ | refine loopQ_exit ?_ | refine arun_nil ?_ | refine arunA_nil ?_ | refine arunB_nil ?_ | refine drwQ_intro ?_ | refine deadQ_nil ?_
        | ((with_reducible refine awp_cond2 (t := ?_) ?hc (fun h => ?_) (fun h => ?_))
           case hc => rfl
           all_goals (try simp [go_sem, h20', hp, hHS, hc6] at h)
           all_goals try omega)
        | ((with_reducible first | refine arun_cons fun K hK => ?_ | refine arunA_cons fun K hK => ?_ | refine arunB_cons fun K hK => ?_ | refine awp_drw fun K hK => ?_ | refine deadQ_some fun K hK => ?_ | refine pruneQ_intro fun K hK => ?_)
           simp [go_sem, h20', hp, hHS, hc6]
           try simp (disch := omega) only [wrap_i64, okRefs, eq_self, true_and]
           first
             | refine hK _ ?_
             | refine hK _ _ ?_
             | (refine ⟨_, f11, ?_⟩; (first | refine hK _ ?_ | refine hK _ _ ?_ | refine ⟨by simp [go_sem, h20', hp, hHS, hc6], hK _ ?_⟩ | refine ⟨by simp [go_sem, h20', hp, hHS, hc6], hK _ _ ?_⟩ | refine ⟨by simp [go_sem, h20', hp, hHS, hc6], by simp [go_sem, h20', hp, hHS, hc6], hK _ _ ?_⟩))
             | (refine .inl ⟨_, f11, ?_⟩; (first | refine hK _ ?_ | refine hK _ _ ?_ | refine ⟨by simp [go_sem, h20', hp, hHS, hc6], hK _ ?_⟩ | refine ⟨by simp [go_sem, h20', hp, hHS, hc6], hK _ _ ?_⟩ | refine ⟨by simp [go_sem, h20', hp, hHS, hc6], by simp [go_sem, h20', hp, hHS, hc6], hK _ _ ?_⟩))
             | (refine .inr ⟨_, f11, ?_⟩; (first | refine hK _ ?_ | refine hK _ _ ?_ | refine ⟨by simp [go_sem, h20', hp, hHS, hc6], hK _ ?_⟩ | refine ⟨by simp [go_sem, h20', hp, hHS, hc6], hK _ _ ?_⟩ | refine ⟨by simp [go_sem, h20', hp, hHS, hc6], by simp [go_sem, h20', hp, hHS, hc6], hK _ _ ?_⟩))
             | (refine ⟨_, ⟨f11, by simp [go_sem, h20', hp, hHS, hc6]⟩, ?_⟩; (first | refine hK _ ?_ | refine hK _ _ ?_ | refine ⟨by simp [go_sem, h20', hp, hHS, hc6], hK _ ?_⟩ | refine ⟨by simp [go_sem, h20', hp, hHS, hc6], hK _ _ ?_⟩ | refine ⟨by simp [go_sem, h20', hp, hHS, hc6], by simp [go_sem, h20', hp, hHS, hc6], hK _ _ ?_⟩))
             | (refine ⟨_, fun _ => f11, ?_⟩; (first | refine hK _ ?_ | refine hK _ _ ?_ | refine ⟨by simp [go_sem, h20', hp, hHS, hc6], hK _ ?_⟩ | refine ⟨by simp [go_sem, h20', hp, hHS, hc6], hK _ _ ?_⟩ | refine ⟨by simp [go_sem, h20', hp, hHS, hc6], by simp [go_sem, h20', hp, hHS, hc6], hK _ _ ?_⟩))
             | (refine ⟨_, fun hc => ⟨hc, f11⟩, ?_⟩; (first | refine hK _ ?_ | refine hK _ _ ?_ | refine ⟨by simp [go_sem, h20', hp, hHS, hc6], hK _ ?_⟩ | refine ⟨by simp [go_sem, h20', hp, hHS, hc6], hK _ _ ?_⟩ | refine ⟨by simp [go_sem, h20', hp, hHS, hc6], by simp [go_sem, h20', hp, hHS, hc6], hK _ _ ?_⟩))
             | (refine ⟨_, fun hc => ⟨f11, by simp [go_sem, h20', hp, hHS, hc6]⟩, ?_⟩; (first | refine hK _ ?_ | refine hK _ _ ?_ | refine ⟨by simp [go_sem, h20', hp, hHS, hc6], hK _ ?_⟩ | refine ⟨by simp [go_sem, h20', hp, hHS, hc6], hK _ _ ?_⟩ | refine ⟨by simp [go_sem, h20', hp, hHS, hc6], by simp [go_sem, h20', hp, hHS, hc6], hK _ _ ?_⟩))
             | (refine ⟨_, fun hc => ⟨hc, f11, by simp [go_sem, h20', hp, hHS, hc6]⟩, ?_⟩; (first | refine hK _ ?_ | refine hK _ _ ?_ | refine ⟨by simp [go_sem, h20', hp, hHS, hc6], hK _ ?_⟩ | refine ⟨by simp [go_sem, h20', hp, hHS, hc6], hK _ _ ?_⟩ | refine ⟨by simp [go_sem, h20', hp, hHS, hc6], by simp [go_sem, h20', hp, hHS, hc6], hK _ _ ?_⟩))
             | (refine ⟨_, f22 l (by omega), ?_⟩; (first | refine hK _ ?_ | refine hK _ _ ?_ | refine ⟨by simp [go_sem, h20', hp, hHS, hc6], hK _ ?_⟩ | refine ⟨by simp [go_sem, h20', hp, hHS, hc6], hK _ _ ?_⟩ | refine ⟨by simp [go_sem, h20', hp, hHS, hc6], by simp [go_sem, h20', hp, hHS, hc6], hK _ _ ?_⟩))
             | (refine .inl ⟨_, f22 l (by omega), ?_⟩; (first | refine hK _ ?_ | refine hK _ _ ?_ | refine ⟨by simp [go_sem, h20', hp, hHS, hc6], hK _ ?_⟩ | refine ⟨by simp [go_sem, h20', hp, hHS, hc6], hK _ _ ?_⟩ | refine ⟨by simp [go_sem, h20', hp, hHS, hc6], by simp [go_sem, h20', hp, hHS, hc6], hK _ _ ?_⟩))
             | (refine .inr ⟨_, f22 l (by omega), ?_⟩; (first | refine hK _ ?_ | refine hK _ _ ?_ | refine ⟨by simp [go_sem, h20', hp, hHS, hc6], hK _ ?_⟩ | refine ⟨by simp [go_sem, h20', hp, hHS, hc6], hK _ _ ?_⟩ | refine ⟨by simp [go_sem, h20', hp, hHS, hc6], by simp [go_sem, h20', hp, hHS, hc6], hK _ _ ?_⟩))
             | (refine ⟨_, ⟨f22 l (by omega), by simp [go_sem, h20', hp, hHS, hc6]⟩, ?_⟩; (first | refine hK _ ?_ | refine hK _ _ ?_ | refine ⟨by simp [go_sem, h20', hp, hHS, hc6], hK _ ?_⟩ | refine ⟨by simp [go_sem, h20', hp, hHS, hc6], hK _ _ ?_⟩ | refine ⟨by simp [go_sem, h20', hp, hHS, hc6], by simp [go_sem, h20', hp, hHS, hc6], hK _ _ ?_⟩))
             | (refine ⟨_, fun _ => f22 l (by omega), ?_⟩; (first | refine hK _ ?_ | refine hK _ _ ?_ | refine ⟨by simp [go_sem, h20', hp, hHS, hc6], hK _ ?_⟩ | refine ⟨by simp [go_sem, h20', hp, hHS, hc6], hK _ _ ?_⟩ | refine ⟨by simp [go_sem, h20', hp, hHS, hc6], by simp [go_sem, h20', hp, hHS, hc6], hK _ _ ?_⟩))
             | (refine ⟨_, fun hc => ⟨hc, f22 l (by omega)⟩, ?_⟩; (first | refine hK _ ?_ | refine hK _ _ ?_ | refine ⟨by simp [go_sem, h20', hp, hHS, hc6], hK _ ?_⟩ | refine ⟨by simp [go_sem, h20', hp, hHS, hc6], hK _ _ ?_⟩ | refine ⟨by simp [go_sem, h20', hp, hHS, hc6], by simp [go_sem, h20', hp, hHS, hc6], hK _ _ ?_⟩))
             | (refine ⟨_, fun hc => ⟨f22 l (by omega), by simp [go_sem, h20', hp, hHS, hc6]⟩, ?_⟩; (first | refine hK _ ?_ | refine hK _ _ ?_ | refine ⟨by simp [go_sem, h20', hp, hHS, hc6], hK _ ?_⟩ | refine ⟨by simp [go_sem, h20', hp, hHS, hc6], hK _ _ ?_⟩ | refine ⟨by simp [go_sem, h20', hp, hHS, hc6], by simp [go_sem, h20', hp, hHS, hc6], hK _ _ ?_⟩))
             | (refine ⟨_, fun hc => ⟨hc, f22 l (by omega), by simp [go_sem, h20', hp, hHS, hc6]⟩, ?_⟩; (first | refine hK _ ?_ | refine hK _ _ ?_ | refine ⟨by simp [go_sem, h20', hp, hHS, hc6], hK _ ?_⟩ | refine ⟨by simp [go_sem, h20', hp, hHS, hc6], hK _ _ ?_⟩ | refine ⟨by simp [go_sem, h20', hp, hHS, hc6], by simp [go_sem, h20', hp, hHS, hc6], hK _ _ ?_⟩))
             | (refine ⟨_, f12s, ?_⟩; (first | refine hK _ ?_ | refine hK _ _ ?_ | refine ⟨by simp [go_sem, h20', hp, hHS, hc6], hK _ ?_⟩ | refine ⟨by simp [go_sem, h20', hp, hHS, hc6], hK _ _ ?_⟩ | refine ⟨by simp [go_sem, h20', hp, hHS, hc6], by simp [go_sem, h20', hp, hHS, hc6], hK _ _ ?_⟩))
             | (refine .inl ⟨_, f12s, ?_⟩; (first | refine hK _ ?_ | refine hK _ _ ?_ | refine ⟨by simp [go_sem, h20', hp, hHS, hc6], hK _ ?_⟩ | refine ⟨by simp [go_sem, h20', hp, hHS, hc6], hK _ _ ?_⟩ | refine ⟨by simp [go_sem, h20', hp, hHS, hc6], by simp [go_sem, h20', hp, hHS, hc6], hK _ _ ?_⟩))
             | (refine .inr ⟨_, f12s, ?_⟩; (first | refine hK _ ?_ | refine hK _ _ ?_ | refine ⟨by simp [go_sem, h20', hp, hHS, hc6], hK _ ?_⟩ | refine ⟨by simp [go_sem, h20', hp, hHS, hc6], hK _ _ ?_⟩ | refine ⟨by simp [go_sem, h20', hp, hHS, hc6], by simp [go_sem, h20', hp, hHS, hc6], hK _ _ ?_⟩))
             | (refine ⟨_, ⟨f12s, by simp [go_sem, h20', hp, hHS, hc6]⟩, ?_⟩; (first | refine hK _ ?_ | refine hK _ _ ?_ | refine ⟨by simp [go_sem, h20', hp, hHS, hc6], hK _ ?_⟩ | refine ⟨by simp [go_sem, h20', hp, hHS, hc6], hK _ _ ?_⟩ | refine ⟨by simp [go_sem, h20', hp, hHS, hc6], by simp [go_sem, h20', hp, hHS, hc6], hK _ _ ?_⟩))
             | (refine ⟨_, fun _ => f12s, ?_⟩; (first | refine hK _ ?_ | refine hK _ _ ?_ | refine ⟨by simp [go_sem, h20', hp, hHS, hc6], hK _ ?_⟩ | refine ⟨by simp [go_sem, h20', hp, hHS, hc6], hK _ _ ?_⟩ | refine ⟨by simp [go_sem, h20', hp, hHS, hc6], by simp [go_sem, h20', hp, hHS, hc6], hK _ _ ?_⟩))
             | (refine ⟨_, fun hc => ⟨hc, f12s⟩, ?_⟩; (first | refine hK _ ?_ | refine hK _ _ ?_ | refine ⟨by simp [go_sem, h20', hp, hHS, hc6], hK _ ?_⟩ | refine ⟨by simp [go_sem, h20', hp, hHS, hc6], hK _ _ ?_⟩ | refine ⟨by simp [go_sem, h20', hp, hHS, hc6], by simp [go_sem, h20', hp, hHS, hc6], hK _ _ ?_⟩))
             | (refine ⟨_, fun hc => ⟨f12s, by simp [go_sem, h20', hp, hHS, hc6]⟩, ?_⟩; (first | refine hK _ ?_ | refine hK _ _ ?_ | refine ⟨by simp [go_sem, h20', hp, hHS, hc6], hK _ ?_⟩ | refine ⟨by simp [go_sem, h20', hp, hHS, hc6], hK _ _ ?_⟩ | refine ⟨by simp [go_sem, h20', hp, hHS, hc6], by simp [go_sem, h20', hp, hHS, hc6], hK _ _ ?_⟩))
             | (refine ⟨_, fun hc => ⟨hc, f12s, by simp [go_sem, h20', hp, hHS, hc6]⟩, ?_⟩; (first | refine hK _ ?_ | refine hK _ _ ?_ | refine ⟨by simp [go_sem, h20', hp, hHS, hc6], hK _ ?_⟩ | refine ⟨by simp [go_sem, h20', hp, hHS, hc6], hK _ _ ?_⟩ | refine ⟨by simp [go_sem, h20', hp, hHS, hc6], by simp [go_sem, h20', hp, hHS, hc6], hK _ _ ?_⟩))
             | refine ⟨.one (.one (.bool false)), by simp [go_sem, h20', hp, hHS, hc6], hK _ _ ?_⟩
             | refine ⟨by (first | (simp [appendOk, flatEls, h20', hp, hHS, hc6]; done) | (simp [appendOk, flatEls, h20', hp, hHS, hc6]; omega)), hK _ ?_⟩
             | refine ⟨hK _ ?_, fun h => hK _ ?_⟩
             | refine ⟨by omega, hK _ ?_⟩
             | refine ⟨by omega, hK _ _ ?_⟩
             | refine ⟨?_, hK _ ?_⟩
             | refine ⟨?_, hK _ _ ?_⟩
           all_goals clear hK K)
      refine awp_loopF 5 (fun n e => ∃ k : Nat, k + n = 6 ∧ e = [(39, .sv (.one (.int .i64 k))), (38, .sv (.one (.int .i64 6))), (5, .sv (.one (.ow 1 ((cutTo l m k).map encH)))), (3, .sv (.one (.bx (c.map (DV.int .u8))))), (0, .sv (.one (.sl (l.map encI))))]) 6 _ ⟨0, rfl, rfl⟩ (by simp [go_sem, hfr]) ?_
      clear hHS f12s hfr
      rintro n e ⟨k, hk, rfl⟩
      by_cases hk6 : k < 6
      · have hkc : k < c.length := by omega
        have hck := hc c[k] (List.getElem_mem hkc)
        have w1 : IntKind.i64.wrap c[k] = c[k] := wrap_i64 (by omega) (by omega)
        have hg : (cutTo l m k)[k]? = some (project l k) := by rw [cutTo_get _ _ _ hk6, if_neg (by omega)]
        have hpl := project_len k l
        have w2 : IntKind.i64.wrap (((project l k).length : Int) + 1) = (project l k).length + 1 := wrap_i64 (by omega) (by omega)
        have hmk : c[k].tmod ((project l k).length + 1) = (m k : Nat) := by
          rw [hm]
          unfold cutAtB
          rw [List.getElem?_eq_getElem hkc, Option.getD_some]
          exact (Int.toNat_of_nonneg (Int.tmod_nonneg _ hck.1)).symm
        have hml : m k ≤ (project l k).length := by
          have := Int.tmod_lt_of_pos c[k] (show (0 : Int) < ((project l k).length : Int) + 1 by omega)
          omega
        repeat' first
          | with_reducible first | refine awp_seq ?_ | refine awp_reg ?_ | refine awp_block ?_ | refine awp_ret ?_ | refine awp_exit ?_ | refine awp_skip ?_ | refine awp_scp ?_ | refine scpQ_normal ?_ | refine scpQ_ret ?_ | refine scpQ_exit ?_ | refine seqQ_normal ?_ | refine seqQ_ret ?_ | refine seqQ_exit ?_ | refine blockQ_normal ?_ | refine blockQ_ret ?_ | refine blockQ_same ?_ | refine blockQ_other (by decide) ?_ | refine loopQ_ret ?_ | refine loopQ_exit ?_ | refine arun_nil ?_ | refine arunA_nil ?_ | refine arunB_nil ?_ | refine drwQ_intro ?_ | refine deadQ_nil ?_
          | ((with_reducible refine awp_cond2 (t := ?_) ?hc (fun h => ?_) (fun h => ?_))
             case hc => rfl
             all_goals (try simp [go_sem, hk6, hkc, w1, hg, w2, hmk, hml, encH] at h)
             all_goals try omega)
          | ((with_reducible first | refine arun_cons fun K hK => ?_ | refine arunA_cons fun K hK => ?_ | refine arunB_cons fun K hK => ?_ | refine awp_drw fun K hK => ?_ | refine deadQ_some fun K hK => ?_ | refine pruneQ_intro fun K hK => ?_)
             simp [go_sem, hk6, hkc, w1, hg, w2, hmk, hml, encH]
             try simp (disch := omega) only [wrap_i64, okRefs, eq_self, true_and]
             first
               | refine hK _ ?_
               | refine hK _ _ ?_
               | refine ⟨by (first | (simp [appendOk, flatEls, hk6, hkc, w1, hg, w2, hmk, hml, encH]; done) | (simp [appendOk, flatEls, hk6, hkc, w1, hg, w2, hmk, hml, encH]; omega)), hK _ ?_⟩
               | refine ⟨hK _ ?_, fun h => hK _ ?_⟩
               | refine ⟨by omega, hK _ ?_⟩
               | refine ⟨by omega, hK _ _ ?_⟩
               | refine ⟨?_, hK _ ?_⟩
               | refine ⟨?_, hK _ _ ?_⟩
             all_goals clear hK K)
        · simp [encE]
        refine loopQ_normal (n - 1) _ (by omega) ⟨k + 1, by omega, rfl⟩ ?_
        have hset : ((cutTo l m k).map encH).set k [.sl (((project l k).map encE).take (m k))] = (cutTo l m (k + 1)).map encH := by
          rw [← cutTo_set hk6, List.map_set, encH, List.map_take]
        have hset' : ((cutTo l m k).map encH).set k [.sl (((project l k).take (m k)).map encE)] = (cutTo l m (k + 1)).map encH := by
          rw [← cutTo_set hk6, List.map_set, encH]
        simp [go_sem, hset, hset']
      · have hk6' : k = 6 := by omega
        subst hk6'
        have hsh : ∀ (i : Nat) (h : i < (cutTo l m 6).length), (cutTo l m 6)[i].length ≤ 2 * l.length := fun i h => cut_short l m (List.getElem?_eq_getElem h)
        have hCl := cutTo_len l m 6
        have hmt := cut_matched hp2 m
        have hcv := cut_vals l m 6
        have f28s := f28 (cutTo l m 6) (by omega) (fun h hh => by
          obtain ⟨i, hi, rfl⟩ := List.mem_iff_getElem.1 hh
          have := hsh i hi
          omega) (f35 _ (by omega) (fun h hh => by
          obtain ⟨i, hi, rfl⟩ := List.mem_iff_getElem.1 hh
          have := hsh i hi
          omega))
        rw [hmt] at f28s
        clear hmt hm
        generalize cutTo l m 6 = C at *
        repeat' first
          | with_reducible first | refine awp_seq ?_ | refine awp_reg ?_ | refine awp_block ?_ | refine awp_ret ?_ | refine awp_exit ?_ | refine awp_skip ?_ | refine awp_scp ?_ | refine scpQ_normal ?_ | refine scpQ_ret ?_ | refine scpQ_exit ?_ | refine seqQ_normal ?_ | refine seqQ_ret ?_ | refine seqQ_exit ?_ | refine blockQ_normal ?_ | refine blockQ_ret ?_ | refine blockQ_same ?_ | refine blockQ_other (by decide) ?_ | refine loopQ_ret ?_ | refine loopQ_exit ?_ | refine arun_nil ?_ | refine arunA_nil ?_ | refine arunB_nil ?_ | refine drwQ_intro ?_ | refine deadQ_nil ?_
          | ((with_reducible refine awp_cond2 (t := ?_) ?hc (fun h => ?_) (fun h => ?_))
             case hc => rfl
             all_goals (try simp [go_sem, hCl] at h)
             all_goals try omega)
          | ((with_reducible first | refine arun_cons fun K hK => ?_ | refine arunA_cons fun K hK => ?_ | refine arunB_cons fun K hK => ?_ | refine awp_drw fun K hK => ?_ | refine deadQ_some fun K hK => ?_ | refine pruneQ_intro fun K hK => ?_)
             simp [go_sem, hCl]
             try simp (disch := omega) only [wrap_i64, okRefs, eq_self, true_and]
             first
               | refine hK _ ?_
               | refine hK _ _ ?_
               | refine ⟨by (first | (simp [appendOk, flatEls, hCl]; done) | (simp [appendOk, flatEls, hCl]; omega)), hK _ ?_⟩
               | refine ⟨hK _ ?_, fun h => hK _ ?_⟩
               | refine ⟨by omega, hK _ ?_⟩
               | refine ⟨by omega, hK _ _ ?_⟩
               | refine ⟨?_, hK _ ?_⟩
               | refine ⟨?_, hK _ _ ?_⟩
             all_goals clear hK K)
        refine awp_loop (fun n e => ∃ r : Nat, r + n = 6 ∧ e = [(64, .sv (.one (.int .i64 r))), (63, .sv (.one (.int .i64 6))), (7, .sv (.one (.bool (wAll C r)))), (8, .sv (.one (.int .i64 (gAll C r : Nat)))), (5, .sv (.one (.ow 1 (C.map encH)))), (0, .sv (.one (.sl (l.map encI))))]) 6 _ ⟨0, rfl, rfl⟩ (by simp [go_sem, wAll, gAll]) ?_
        rintro n e ⟨r, hr, rfl⟩
        by_cases hr6 : r < 6
        · have hrC : r < C.length := by omega
          repeat' first
            | with_reducible first | refine awp_seq ?_ | refine awp_reg ?_ | refine awp_block ?_ | refine awp_ret ?_ | refine awp_exit ?_ | refine awp_skip ?_ | refine awp_scp ?_ | refine scpQ_normal ?_ | refine scpQ_ret ?_ | refine scpQ_exit ?_ | refine seqQ_normal ?_ | refine seqQ_ret ?_ | refine seqQ_exit ?_ | refine blockQ_normal ?_ | refine blockQ_ret ?_ | refine blockQ_same ?_ | refine blockQ_other (by decide) ?_ | refine loopQ_ret ?_ | refine loopQ_exit ?_ | refine arun_nil ?_ | refine arunA_nil ?_ | refine arunB_nil ?_ | refine drwQ_intro ?_ | refine deadQ_nil ?_
            | ((with_reducible refine awp_cond2 (t := ?_) ?hc (fun h => ?_) (fun h => ?_))
               case hc => rfl
               all_goals (try simp [go_sem, hr6, hCl] at h)
               all_goals try omega)
            | ((with_reducible first | refine arun_cons fun K hK => ?_ | refine arunA_cons fun K hK => ?_ | refine arunB_cons fun K hK => ?_ | refine awp_drw fun K hK => ?_ | refine deadQ_some fun K hK => ?_ | refine pruneQ_intro fun K hK => ?_)
               simp [go_sem, hr6, hCl]
               try simp (disch := omega) only [wrap_i64, okRefs, eq_self, true_and]
               first
                 | refine hK _ ?_
                 | refine hK _ _ ?_
                 | refine ⟨by (first | (simp [appendOk, flatEls, hr6, hCl]; done) | (simp [appendOk, flatEls, hr6, hCl]; omega)), hK _ ?_⟩
                 | refine ⟨hK _ ?_, fun h => hK _ ?_⟩
                 | refine ⟨by omega, hK _ ?_⟩
                 | refine ⟨by omega, hK _ _ ?_⟩
                 | refine ⟨?_, hK _ ?_⟩
                 | refine ⟨?_, hK _ _ ?_⟩
               all_goals clear hK K)
          refine awp_loop (fun q e => ∃ p : Nat, p + q = 6 ∧ e = [(69, .sv (.one (.int .i64 p))), (68, .sv (.one (.int .i64 6))), (9, .sv (.one (.int .i64 r))), (64, .sv (.one (.int .i64 r))), (63, .sv (.one (.int .i64 6))), (7, .sv (.one (.bool (wAll C r && wRow C r p)))), (8, .sv (.one (.int .i64 ((gAll C r + gRow C r p : Nat) : Int)))), (5, .sv (.one (.ow 1 (C.map encH)))), (0, .sv (.one (.sl (l.map encI))))]) 6 _ ⟨0, rfl, rfl⟩ (by simp [go_sem, wRow, gRow]) ?_
          rintro q e ⟨p, hpq, rfl⟩
          by_cases hp6 : p < 6
          · have hpC : p < C.length := by omega
            have hlr := hsh r hrC
            have hlp := hsh p hpC
            repeat' first
              | with_reducible first | refine awp_seq ?_ | refine awp_reg ?_ | refine awp_block ?_ | refine awp_ret ?_ | refine awp_exit ?_ | refine awp_skip ?_ | refine awp_scp ?_ | refine scpQ_normal ?_ | refine scpQ_ret ?_ | refine scpQ_exit ?_ | refine seqQ_normal ?_ | refine seqQ_ret ?_ | refine seqQ_exit ?_ | refine blockQ_normal ?_ | refine blockQ_ret ?_ | refine blockQ_same ?_ | refine blockQ_other (by decide) ?_ | refine loopQ_ret ?_ | refine loopQ_exit ?_ | refine arun_nil ?_ | refine arunA_nil ?_ | refine arunB_nil ?_ | refine drwQ_intro ?_ | refine deadQ_nil ?_
              | ((with_reducible refine awp_cond2 (t := ?_) ?hc (fun h => ?_) (fun h => ?_))
                 case hc => rfl
                 all_goals (try simp [go_sem, hp6, hrC, hpC, encH] at h)
                 all_goals try omega)
              | ((with_reducible first | refine arun_cons fun K hK => ?_ | refine arunA_cons fun K hK => ?_ | refine arunB_cons fun K hK => ?_ | refine awp_drw fun K hK => ?_ | refine deadQ_some fun K hK => ?_ | refine pruneQ_intro fun K hK => ?_)
                 simp [go_sem, hp6, hrC, hpC, encH]
                 try simp (disch := omega) only [wrap_i64, okRefs, eq_self, true_and]
                 first
                   | refine hK _ ?_
                   | refine hK _ _ ?_
                   | refine ⟨by (first | (simp [appendOk, flatEls, hp6, hrC, hpC, encH]; done) | (simp [appendOk, flatEls, hp6, hrC, hpC, encH]; omega)), hK _ ?_⟩
                   | refine ⟨hK _ ?_, fun h => hK _ ?_⟩
                   | refine ⟨by omega, hK _ ?_⟩
                   | refine ⟨by omega, hK _ _ ?_⟩
                   | refine ⟨?_, hK _ ?_⟩
                   | refine ⟨?_, hK _ _ ?_⟩
                 all_goals clear hK K)
            refine awp_loop (fun j' e => ∃ j : Nat, j + j' = C[r].length ∧ e = [(77, .sv (.one (.int .i64 j))), (76, .sv (.one (.int .i64 C[r].length))), (75, .sv (.one (.sl (C[r].map encE)))), (11, .sv (.one (.int .i64 ((labelsOf (C[r].take j) false p).length : Nat)))), (12, .sv (.one (.int .i64 0))), (10, .sv (.one (.int .i64 p))), (69, .sv (.one (.int .i64 p))), (68, .sv (.one (.int .i64 6))), (9, .sv (.one (.int .i64 r))), (64, .sv (.one (.int .i64 r))), (63, .sv (.one (.int .i64 6))), (7, .sv (.one (.bool (wAll C r && wRow C r p)))), (8, .sv (.one (.int .i64 ((gAll C r + gRow C r p : Nat) : Int)))), (5, .sv (.one (.ow 1 (C.map encH)))), (0, .sv (.one (.sl (l.map encI))))]) C[r].length _ ⟨0, by simp, rfl⟩ (by simp [go_sem, labelsOf]) ?_
            rintro j' e ⟨j, hj, rfl⟩
            have hll := labels_len false p (C[r].take j)
            have hlt : (C[r].take j).length ≤ j := List.length_take_le _ _
            by_cases hjl : j < C[r].length
            · have hs := labels_succ hjl false p
              have hlab := lab_count false p C[r][j]
              repeat' first
                | with_reducible first | refine awp_seq ?_ | refine awp_reg ?_ | refine awp_block ?_ | refine awp_ret ?_ | refine awp_exit ?_ | refine awp_skip ?_ | refine awp_scp ?_ | refine scpQ_normal ?_ | refine scpQ_ret ?_ | refine scpQ_exit ?_ | refine seqQ_normal ?_ | refine seqQ_ret ?_ | refine seqQ_exit ?_ | refine blockQ_normal ?_ | refine blockQ_ret ?_ | refine blockQ_same ?_ | refine blockQ_other (by decide) ?_ | refine loopQ_ret ?_ | refine loopQ_exit ?_ | refine arun_nil ?_ | refine arunA_nil ?_ | refine arunB_nil ?_ | refine drwQ_intro ?_ | refine deadQ_nil ?_
                | ((with_reducible refine awp_cond2 (t := ?_) ?hc (fun h => ?_) (fun h => ?_))
                   case hc => rfl
                   all_goals (try simp [go_sem, hjl, encE] at h)
                   all_goals try omega)
                | ((with_reducible first | refine arun_cons fun K hK => ?_ | refine arunA_cons fun K hK => ?_ | refine arunB_cons fun K hK => ?_ | refine awp_drw fun K hK => ?_ | refine deadQ_some fun K hK => ?_ | refine pruneQ_intro fun K hK => ?_)
                   simp [go_sem, hjl, encE]
                   try simp (disch := omega) only [wrap_i64, okRefs, eq_self, true_and]
                   first
                     | refine hK _ ?_
                     | refine hK _ _ ?_
                     | refine ⟨by (first | (simp [appendOk, flatEls, hjl, encE]; done) | (simp [appendOk, flatEls, hjl, encE]; omega)), hK _ ?_⟩
                     | refine ⟨hK _ ?_, fun h => hK _ ?_⟩
                     | refine ⟨by omega, hK _ ?_⟩
                     | refine ⟨by omega, hK _ _ ?_⟩
                     | refine ⟨?_, hK _ ?_⟩
                     | refine ⟨?_, hK _ _ ?_⟩
                   all_goals clear hK K)
              · refine loopQ_normal (j' - 1) _ (by omega) ⟨j + 1, by omega, rfl⟩ ?_
                rw [if_pos h] at hlab
                simp [go_sem, hs, hlab]
              · refine loopQ_normal (j' - 1) _ (by omega) ⟨j + 1, by omega, rfl⟩ ?_
                rw [if_neg (fun e => h e.1 e.2)] at hlab
                simp [go_sem, hs, hlab]
            · have htk : C[r].take j = C[r] := List.take_of_length_le (by omega)
              rw [htk] at hll ⊢
              clear hlt
              repeat' first
                | with_reducible first | refine awp_seq ?_ | refine awp_reg ?_ | refine awp_block ?_ | refine awp_ret ?_ | refine awp_exit ?_ | refine awp_skip ?_ | refine awp_scp ?_ | refine scpQ_normal ?_ | refine scpQ_ret ?_ | refine scpQ_exit ?_ | refine seqQ_normal ?_ | refine seqQ_ret ?_ | refine seqQ_exit ?_ | refine blockQ_normal ?_ | refine blockQ_ret ?_ | refine blockQ_same ?_ | refine blockQ_other (by decide) ?_ | refine loopQ_ret ?_ | refine loopQ_exit ?_ | refine arun_nil ?_ | refine arunA_nil ?_ | refine arunB_nil ?_ | refine drwQ_intro ?_ | refine deadQ_nil ?_
                | ((with_reducible refine awp_cond2 (t := ?_) ?hc (fun h => ?_) (fun h => ?_))
                   case hc => rfl
                   all_goals (try simp [go_sem, hjl, hpC, encH] at h)
                   all_goals try omega)
                | ((with_reducible first | refine arun_cons fun K hK => ?_ | refine arunA_cons fun K hK => ?_ | refine arunB_cons fun K hK => ?_ | refine awp_drw fun K hK => ?_ | refine deadQ_some fun K hK => ?_ | refine pruneQ_intro fun K hK => ?_)
                   simp [go_sem, hjl, hpC, encH]
                   try simp (disch := omega) only [wrap_i64, okRefs, eq_self, true_and]
                   first
                     | refine hK _ ?_
                     | refine hK _ _ ?_
                     | refine ⟨by (first | (simp [appendOk, flatEls, hjl, hpC, encH]; done) | (simp [appendOk, flatEls, hjl, hpC, encH]; omega)), hK _ ?_⟩
                     | refine ⟨hK _ ?_, fun h => hK _ ?_⟩
                     | refine ⟨by omega, hK _ ?_⟩
                     | refine ⟨by omega, hK _ _ ?_⟩
                     | refine ⟨?_, hK _ ?_⟩
                     | refine ⟨?_, hK _ _ ?_⟩
                   all_goals clear hK K)
              have gdef : gotOf C p r = labelsOf C[r] false p := by simp [gotOf, hrC]
              rw [← gdef] at hll ⊢
              refine awp_loop (fun j' e => ∃ j : Nat, j + j' = C[p].length ∧ e = [(98, .sv (.one (.int .i64 j))), (97, .sv (.one (.int .i64 C[p].length))), (96, .sv (.one (.sl (C[p].map encE)))), (11, .sv (.one (.int .i64 ((gotOf C p r).length : Nat)))), (12, .sv (.one (.int .i64 ((labelsOf (C[p].take j) true r).length : Nat)))), (10, .sv (.one (.int .i64 p))), (69, .sv (.one (.int .i64 p))), (68, .sv (.one (.int .i64 6))), (9, .sv (.one (.int .i64 r))), (64, .sv (.one (.int .i64 r))), (63, .sv (.one (.int .i64 6))), (7, .sv (.one (.bool (wAll C r && wRow C r p)))), (8, .sv (.one (.int .i64 ((gAll C r + gRow C r p : Nat) : Int)))), (5, .sv (.one (.ow 1 (C.map encH)))), (0, .sv (.one (.sl (l.map encI))))]) C[p].length _ ⟨0, by simp, rfl⟩ (by simp [go_sem, labelsOf]) ?_
              rintro i' e ⟨i, hi, rfl⟩
              have hll2 := labels_len true r (C[p].take i)
              have hlt : (C[p].take i).length ≤ i := List.length_take_le _ _
              by_cases hil : i < C[p].length
              · have hs := labels_succ hil true r
                have hlab := lab_count true r C[p][i]
                repeat' first
                  | with_reducible first | refine awp_seq ?_ | refine awp_reg ?_ | refine awp_block ?_ | refine awp_ret ?_ | refine awp_exit ?_ | refine awp_skip ?_ | refine awp_scp ?_ | refine scpQ_normal ?_ | refine scpQ_ret ?_ | refine scpQ_exit ?_ | refine seqQ_normal ?_ | refine seqQ_ret ?_ | refine seqQ_exit ?_ | refine blockQ_normal ?_ | refine blockQ_ret ?_ | refine blockQ_same ?_ | refine blockQ_other (by decide) ?_ | refine loopQ_ret ?_ | refine loopQ_exit ?_ | refine arun_nil ?_ | refine arunA_nil ?_ | refine arunB_nil ?_ | refine drwQ_intro ?_ | refine deadQ_nil ?_
                  | ((with_reducible refine awp_cond2 (t := ?_) ?hc (fun h => ?_) (fun h => ?_))
                     case hc => rfl
                     all_goals (try simp [go_sem, hil, encE] at h)
                     all_goals try omega)
                  | ((with_reducible first | refine arun_cons fun K hK => ?_ | refine arunA_cons fun K hK => ?_ | refine arunB_cons fun K hK => ?_ | refine awp_drw fun K hK => ?_ | refine deadQ_some fun K hK => ?_ | refine pruneQ_intro fun K hK => ?_)
                     simp [go_sem, hil, encE]
                     try simp (disch := omega) only [wrap_i64, okRefs, eq_self, true_and]
                     first
                       | refine hK _ ?_
                       | refine hK _ _ ?_
                       | refine ⟨by (first | (simp [appendOk, flatEls, hil, encE]; done) | (simp [appendOk, flatEls, hil, encE]; omega)), hK _ ?_⟩
                       | refine ⟨hK _ ?_, fun h => hK _ ?_⟩
                       | refine ⟨by omega, hK _ ?_⟩
                       | refine ⟨by omega, hK _ _ ?_⟩
                       | refine ⟨?_, hK _ ?_⟩
                       | refine ⟨?_, hK _ _ ?_⟩
                     all_goals clear hK K)
                · refine loopQ_normal (i' - 1) _ (by omega) ⟨i + 1, by omega, rfl⟩ ?_
                  rw [if_pos h] at hlab
                  simp [go_sem, hs, hlab]
                · refine loopQ_normal (i' - 1) _ (by omega) ⟨i + 1, by omega, rfl⟩ ?_
                  rw [if_neg (fun e => h e.1 e.2)] at hlab
                  simp [go_sem, hs, hlab]
              · have htk : C[p].take i = C[p] := List.take_of_length_le (by omega)
                rw [htk] at hll2 ⊢
                clear hlt
                have sdef : sentOf C p r = labelsOf C[p] true r := by simp [sentOf, hpC]
                rw [← sdef] at hll2 ⊢
                have hgr := gRow_le (B := 40) (fun i h => by have := hsh i h; omega) r p
                have hga := gAll_le (B := 40) (H := C) (fun i h => by have := hsh i h; omega) r
                have hgt := got_le (B := 40) (H := C) (fun i h => by have := hsh i h; omega) p r
                repeat' first
                  | with_reducible first | refine awp_seq ?_ | refine awp_reg ?_ | refine awp_block ?_ | refine awp_ret ?_ | refine awp_exit ?_ | refine awp_skip ?_ | refine awp_scp ?_ | refine scpQ_normal ?_ | refine scpQ_ret ?_ | refine scpQ_exit ?_ | refine seqQ_normal ?_ | refine seqQ_ret ?_ | refine seqQ_exit ?_ | refine blockQ_normal ?_ | refine blockQ_ret ?_ | refine blockQ_same ?_ | refine blockQ_other (by decide) ?_ | refine loopQ_ret ?_ | refine loopQ_exit ?_ | refine arun_nil ?_ | refine arunA_nil ?_ | refine arunB_nil ?_ | refine drwQ_intro ?_ | refine deadQ_nil ?_
                  | ((with_reducible refine awp_cond2 (t := ?_) ?hc (fun h => ?_) (fun h => ?_))
                     case hc => rfl
                     all_goals (try simp [go_sem, hil] at h)
                     all_goals try omega)
                  | ((with_reducible first | refine arun_cons fun K hK => ?_ | refine arunA_cons fun K hK => ?_ | refine arunB_cons fun K hK => ?_ | refine awp_drw fun K hK => ?_ | refine deadQ_some fun K hK => ?_ | refine pruneQ_intro fun K hK => ?_)
                     simp [go_sem, hil]
                     try simp (disch := omega) only [wrap_i64, okRefs, eq_self, true_and]
                     first
                       | refine hK _ ?_
                       | refine hK _ _ ?_
                       | refine ⟨by (first | (simp [appendOk, flatEls, hil]; done) | (simp [appendOk, flatEls, hil]; omega)), hK _ ?_⟩
                       | refine ⟨hK _ ?_, fun h => hK _ ?_⟩
                       | refine ⟨by omega, hK _ ?_⟩
                       | refine ⟨by omega, hK _ _ ?_⟩
                       | refine ⟨?_, hK _ ?_⟩
                       | refine ⟨?_, hK _ _ ?_⟩
                     all_goals clear hK K)
                refine loopQ_normal (q - 1) _ (by omega) ⟨p + 1, by omega, rfl⟩ ?_
                simp [go_sem, wRow_succ, gRow_succ, pairLe, Bool.and_assoc]
                omega
          · have hpe : p = 6 := by omega
            subst hpe
            repeat' first
              | with_reducible first | refine awp_seq ?_ | refine awp_reg ?_ | refine awp_block ?_ | refine awp_ret ?_ | refine awp_exit ?_ | refine awp_skip ?_ | refine awp_scp ?_ | refine scpQ_normal ?_ | refine scpQ_ret ?_ | refine scpQ_exit ?_ | refine seqQ_normal ?_ | refine seqQ_ret ?_ | refine seqQ_exit ?_ | refine blockQ_normal ?_ | refine blockQ_ret ?_ | refine blockQ_same ?_ | refine blockQ_other (by decide) ?_ | refine loopQ_ret ?_ | refine loopQ_exit ?_ | refine arun_nil ?_ | refine arunA_nil ?_ | refine arunB_nil ?_ | refine drwQ_intro ?_ | refine deadQ_nil ?_
              | ((with_reducible refine awp_cond2 (t := ?_) ?hc (fun h => ?_) (fun h => ?_))
                 case hc => rfl
                 all_goals (try simp [go_sem, hp6] at h)
                 all_goals try omega)
              | ((with_reducible first | refine arun_cons fun K hK => ?_ | refine arunA_cons fun K hK => ?_ | refine arunB_cons fun K hK => ?_ | refine awp_drw fun K hK => ?_ | refine deadQ_some fun K hK => ?_ | refine pruneQ_intro fun K hK => ?_)
                 simp [go_sem, hp6]
                 try simp (disch := omega) only [wrap_i64, okRefs, eq_self, true_and]
                 first
                   | refine hK _ ?_
                   | refine hK _ _ ?_
                   | refine ⟨by (first | (simp [appendOk, flatEls, hp6]; done) | (simp [appendOk, flatEls, hp6]; omega)), hK _ ?_⟩
                   | refine ⟨hK _ ?_, fun h => hK _ ?_⟩
                   | refine ⟨by omega, hK _ ?_⟩
                   | refine ⟨by omega, hK _ _ ?_⟩
                   | refine ⟨?_, hK _ ?_⟩
                   | refine ⟨?_, hK _ _ ?_⟩
                 all_goals clear hK K)
            refine loopQ_normal (n - 1) _ (by omega) ⟨r + 1, by omega, rfl⟩ ?_
            simp [go_sem, wAll_succ, gAll_succ]
        · have hre : r = 6 := by omega
          subst hre
          cases hw : wAll C 6 with
          | true =>
            rw [hw] at f28s
            simp only [nResult, if_true, Option.getD_some, Option.isSome_some] at f28s
            repeat' first
              | with_reducible first | refine awp_seq ?_ | refine awp_reg ?_ | refine awp_block ?_ | refine awp_ret ?_ | refine awp_exit ?_ | refine awp_skip ?_ | refine awp_scp ?_ | refine scpQ_normal ?_ | refine scpQ_ret ?_ | refine scpQ_exit ?_ | refine seqQ_normal ?_ | refine seqQ_ret ?_ | refine seqQ_exit ?_ | refine blockQ_normal ?_ | refine blockQ_ret ?_ | refine blockQ_same ?_ | refine blockQ_other (by decide) ?_ | refine loopQ_ret ?_ | refine loopQ_exit ?_ | refine arun_nil ?_ | refine arunA_nil ?_ | refine arunB_nil ?_ | refine drwQ_intro ?_ | refine deadQ_nil ?_
              | ((with_reducible refine awp_cond2 (t := ?_) ?hc (fun h => ?_) (fun h => ?_))
                 case hc => rfl
                 all_goals (try simp [go_sem, hr6, hw] at h)
                 all_goals try omega)
              | ((with_reducible first | refine arun_cons fun K hK => ?_ | refine arunA_cons fun K hK => ?_ | refine arunB_cons fun K hK => ?_ | refine awp_drw fun K hK => ?_ | refine deadQ_some fun K hK => ?_ | refine pruneQ_intro fun K hK => ?_)
                 simp [go_sem, hr6, hw]
                 try simp (disch := omega) only [wrap_i64, okRefs, eq_self, true_and]
                 first
                   | refine hK _ ?_
                   | refine hK _ _ ?_
                   | (refine ⟨_, f28s, ?_⟩; (first | refine hK _ ?_ | refine hK _ _ ?_ | refine ⟨by simp [go_sem, hr6, hw], hK _ ?_⟩ | refine ⟨by simp [go_sem, hr6, hw], hK _ _ ?_⟩ | refine ⟨by simp [go_sem, hr6, hw], by simp [go_sem, hr6, hw], hK _ _ ?_⟩))
                   | (refine .inl ⟨_, f28s, ?_⟩; (first | refine hK _ ?_ | refine hK _ _ ?_ | refine ⟨by simp [go_sem, hr6, hw], hK _ ?_⟩ | refine ⟨by simp [go_sem, hr6, hw], hK _ _ ?_⟩ | refine ⟨by simp [go_sem, hr6, hw], by simp [go_sem, hr6, hw], hK _ _ ?_⟩))
                   | (refine .inr ⟨_, f28s, ?_⟩; (first | refine hK _ ?_ | refine hK _ _ ?_ | refine ⟨by simp [go_sem, hr6, hw], hK _ ?_⟩ | refine ⟨by simp [go_sem, hr6, hw], hK _ _ ?_⟩ | refine ⟨by simp [go_sem, hr6, hw], by simp [go_sem, hr6, hw], hK _ _ ?_⟩))
                   | (refine ⟨_, ⟨f28s, by simp [go_sem, hr6, hw]⟩, ?_⟩; (first | refine hK _ ?_ | refine hK _ _ ?_ | refine ⟨by simp [go_sem, hr6, hw], hK _ ?_⟩ | refine ⟨by simp [go_sem, hr6, hw], hK _ _ ?_⟩ | refine ⟨by simp [go_sem, hr6, hw], by simp [go_sem, hr6, hw], hK _ _ ?_⟩))
                   | (refine ⟨_, fun _ => f28s, ?_⟩; (first | refine hK _ ?_ | refine hK _ _ ?_ | refine ⟨by simp [go_sem, hr6, hw], hK _ ?_⟩ | refine ⟨by simp [go_sem, hr6, hw], hK _ _ ?_⟩ | refine ⟨by simp [go_sem, hr6, hw], by simp [go_sem, hr6, hw], hK _ _ ?_⟩))
                   | (refine ⟨_, fun hc => ⟨hc, f28s⟩, ?_⟩; (first | refine hK _ ?_ | refine hK _ _ ?_ | refine ⟨by simp [go_sem, hr6, hw], hK _ ?_⟩ | refine ⟨by simp [go_sem, hr6, hw], hK _ _ ?_⟩ | refine ⟨by simp [go_sem, hr6, hw], by simp [go_sem, hr6, hw], hK _ _ ?_⟩))
                   | (refine ⟨_, fun hc => ⟨f28s, by simp [go_sem, hr6, hw]⟩, ?_⟩; (first | refine hK _ ?_ | refine hK _ _ ?_ | refine ⟨by simp [go_sem, hr6, hw], hK _ ?_⟩ | refine ⟨by simp [go_sem, hr6, hw], hK _ _ ?_⟩ | refine ⟨by simp [go_sem, hr6, hw], by simp [go_sem, hr6, hw], hK _ _ ?_⟩))
                   | (refine ⟨_, fun hc => ⟨hc, f28s, by simp [go_sem, hr6, hw]⟩, ?_⟩; (first | refine hK _ ?_ | refine hK _ _ ?_ | refine ⟨by simp [go_sem, hr6, hw], hK _ ?_⟩ | refine ⟨by simp [go_sem, hr6, hw], hK _ _ ?_⟩ | refine ⟨by simp [go_sem, hr6, hw], by simp [go_sem, hr6, hw], hK _ _ ?_⟩))
                   | refine ⟨.one (.one (.bool false)), by simp [go_sem, hr6, hw], hK _ _ ?_⟩
                   | refine ⟨by (first | (simp [appendOk, flatEls, hr6, hw]; done) | (simp [appendOk, flatEls, hr6, hw]; omega)), hK _ ?_⟩
                   | refine ⟨hK _ ?_, fun h => hK _ ?_⟩
                   | refine ⟨by omega, hK _ ?_⟩
                   | refine ⟨by omega, hK _ _ ?_⟩
                   | refine ⟨?_, hK _ ?_⟩
                   | refine ⟨?_, hK _ _ ?_⟩
                 all_goals clear hK K)
            simp [go_sem]
          | false =>
            rw [hw] at f28s
            simp only [nResult, Bool.false_eq_true, if_false, Option.getD_none, Option.isSome_none] at f28s
            repeat' first
              | with_reducible first | refine awp_seq ?_ | refine awp_reg ?_ | refine awp_block ?_ | refine awp_ret ?_ | refine awp_exit ?_ | refine awp_skip ?_ | refine awp_scp ?_ | refine scpQ_normal ?_ | refine scpQ_ret ?_ | refine scpQ_exit ?_ | refine seqQ_normal ?_ | refine seqQ_ret ?_ | refine seqQ_exit ?_ | refine blockQ_normal ?_ | refine blockQ_ret ?_ | refine blockQ_same ?_ | refine blockQ_other (by decide) ?_ | refine loopQ_ret ?_ | refine loopQ_exit ?_ | refine arun_nil ?_ | refine arunA_nil ?_ | refine arunB_nil ?_ | refine drwQ_intro ?_ | refine deadQ_nil ?_
              | ((with_reducible refine awp_cond2 (t := ?_) ?hc (fun h => ?_) (fun h => ?_))
                 case hc => rfl
                 all_goals (try simp [go_sem, hr6, hw] at h)
                 all_goals try omega)
              | ((with_reducible first | refine arun_cons fun K hK => ?_ | refine arunA_cons fun K hK => ?_ | refine arunB_cons fun K hK => ?_ | refine awp_drw fun K hK => ?_ | refine deadQ_some fun K hK => ?_ | refine pruneQ_intro fun K hK => ?_)
                 simp [go_sem, hr6, hw]
                 try simp (disch := omega) only [wrap_i64, okRefs, eq_self, true_and]
                 first
                   | refine hK _ ?_
                   | refine hK _ _ ?_
                   | (refine ⟨_, f28s, ?_⟩; (first | refine hK _ ?_ | refine hK _ _ ?_ | refine ⟨by simp [go_sem, hr6, hw], hK _ ?_⟩ | refine ⟨by simp [go_sem, hr6, hw], hK _ _ ?_⟩ | refine ⟨by simp [go_sem, hr6, hw], by simp [go_sem, hr6, hw], hK _ _ ?_⟩))
                   | (refine .inl ⟨_, f28s, ?_⟩; (first | refine hK _ ?_ | refine hK _ _ ?_ | refine ⟨by simp [go_sem, hr6, hw], hK _ ?_⟩ | refine ⟨by simp [go_sem, hr6, hw], hK _ _ ?_⟩ | refine ⟨by simp [go_sem, hr6, hw], by simp [go_sem, hr6, hw], hK _ _ ?_⟩))
                   | (refine .inr ⟨_, f28s, ?_⟩; (first | refine hK _ ?_ | refine hK _ _ ?_ | refine ⟨by simp [go_sem, hr6, hw], hK _ ?_⟩ | refine ⟨by simp [go_sem, hr6, hw], hK _ _ ?_⟩ | refine ⟨by simp [go_sem, hr6, hw], by simp [go_sem, hr6, hw], hK _ _ ?_⟩))
                   | (refine ⟨_, ⟨f28s, by simp [go_sem, hr6, hw]⟩, ?_⟩; (first | refine hK _ ?_ | refine hK _ _ ?_ | refine ⟨by simp [go_sem, hr6, hw], hK _ ?_⟩ | refine ⟨by simp [go_sem, hr6, hw], hK _ _ ?_⟩ | refine ⟨by simp [go_sem, hr6, hw], by simp [go_sem, hr6, hw], hK _ _ ?_⟩))
                   | (refine ⟨_, fun _ => f28s, ?_⟩; (first | refine hK _ ?_ | refine hK _ _ ?_ | refine ⟨by simp [go_sem, hr6, hw], hK _ ?_⟩ | refine ⟨by simp [go_sem, hr6, hw], hK _ _ ?_⟩ | refine ⟨by simp [go_sem, hr6, hw], by simp [go_sem, hr6, hw], hK _ _ ?_⟩))
                   | (refine ⟨_, fun hc => ⟨hc, f28s⟩, ?_⟩; (first | refine hK _ ?_ | refine hK _ _ ?_ | refine ⟨by simp [go_sem, hr6, hw], hK _ ?_⟩ | refine ⟨by simp [go_sem, hr6, hw], hK _ _ ?_⟩ | refine ⟨by simp [go_sem, hr6, hw], by simp [go_sem, hr6, hw], hK _ _ ?_⟩))
                   | (refine ⟨_, fun hc => ⟨f28s, by simp [go_sem, hr6, hw]⟩, ?_⟩; (first | refine hK _ ?_ | refine hK _ _ ?_ | refine ⟨by simp [go_sem, hr6, hw], hK _ ?_⟩ | refine ⟨by simp [go_sem, hr6, hw], hK _ _ ?_⟩ | refine ⟨by simp [go_sem, hr6, hw], by simp [go_sem, hr6, hw], hK _ _ ?_⟩))
                   | (refine ⟨_, fun hc => ⟨hc, f28s, by simp [go_sem, hr6, hw]⟩, ?_⟩; (first | refine hK _ ?_ | refine hK _ _ ?_ | refine ⟨by simp [go_sem, hr6, hw], hK _ ?_⟩ | refine ⟨by simp [go_sem, hr6, hw], hK _ _ ?_⟩ | refine ⟨by simp [go_sem, hr6, hw], by simp [go_sem, hr6, hw], hK _ _ ?_⟩))
                   | refine ⟨.one (.one (.bool false)), by simp [go_sem, hr6, hw], hK _ _ ?_⟩
                   | refine ⟨by (first | (simp [appendOk, flatEls, hr6, hw]; done) | (simp [appendOk, flatEls, hr6, hw]; omega)), hK _ ?_⟩
                   | refine ⟨hK _ ?_, fun h => hK _ ?_⟩
                   | refine ⟨by omega, hK _ ?_⟩
                   | refine ⟨by omega, hK _ _ ?_⟩
                   | refine ⟨?_, hK _ ?_⟩
                   | refine ⟨?_, hK _ _ ?_⟩
                 all_goals clear hK K)
            simp [go_sem]
    · have hp' : l.all okI = false := by simpa using hp
      repeat' first
        | with_reducible first | refine awp_seq ?_ | refine awp_reg ?_ | refine awp_block ?_ | refine awp_ret ?_ | refine awp_exit ?_ | refine awp_skip ?_ | refine awp_scp ?_ | refine scpQ_normal ?_ | refine scpQ_ret ?_ | refine scpQ_exit ?_ | refine seqQ_normal ?_ | refine seqQ_ret ?_ | refine seqQ_exit ?_ | refine blockQ_normal ?_ | refine blockQ_ret ?_ | refine blockQ_same ?_ | refine blockQ_other (by decide) ?_ | refine loopQ_ret ?_ | refine loopQ_exit ?_ | refine arun_nil ?_ | refine arunA_nil ?_ | refine arunB_nil ?_ | refine drwQ_intro ?_ | refine deadQ_nil ?_
        | ((with_reducible refine awp_cond2 (t := ?_) ?hc (fun h => ?_) (fun h => ?_))
           case hc => rfl
           all_goals (try simp [go_sem, h20', hp'] at h)
           all_goals try omega)
        | ((with_reducible first | refine arun_cons fun K hK => ?_ | refine arunA_cons fun K hK => ?_ | refine arunB_cons fun K hK => ?_ | refine awp_drw fun K hK => ?_ | refine deadQ_some fun K hK => ?_ | refine pruneQ_intro fun K hK => ?_)
           simp [go_sem, h20', hp']
           try simp (disch := omega) only [wrap_i64, okRefs, eq_self, true_and]
           first
             | refine hK _ ?_
             | refine hK _ _ ?_
             | (refine ⟨_, f11, ?_⟩; (first | refine hK _ ?_ | refine hK _ _ ?_ | refine ⟨by simp [go_sem, h20', hp'], hK _ ?_⟩ | refine ⟨by simp [go_sem, h20', hp'], hK _ _ ?_⟩ | refine ⟨by simp [go_sem, h20', hp'], by simp [go_sem, h20', hp'], hK _ _ ?_⟩))
             | (refine .inl ⟨_, f11, ?_⟩; (first | refine hK _ ?_ | refine hK _ _ ?_ | refine ⟨by simp [go_sem, h20', hp'], hK _ ?_⟩ | refine ⟨by simp [go_sem, h20', hp'], hK _ _ ?_⟩ | refine ⟨by simp [go_sem, h20', hp'], by simp [go_sem, h20', hp'], hK _ _ ?_⟩))
             | (refine .inr ⟨_, f11, ?_⟩; (first | refine hK _ ?_ | refine hK _ _ ?_ | refine ⟨by simp [go_sem, h20', hp'], hK _ ?_⟩ | refine ⟨by simp [go_sem, h20', hp'], hK _ _ ?_⟩ | refine ⟨by simp [go_sem, h20', hp'], by simp [go_sem, h20', hp'], hK _ _ ?_⟩))
             | (refine ⟨_, ⟨f11, by simp [go_sem, h20', hp']⟩, ?_⟩; (first | refine hK _ ?_ | refine hK _ _ ?_ | refine ⟨by simp [go_sem, h20', hp'], hK _ ?_⟩ | refine ⟨by simp [go_sem, h20', hp'], hK _ _ ?_⟩ | refine ⟨by simp [go_sem, h20', hp'], by simp [go_sem, h20', hp'], hK _ _ ?_⟩))
             | (refine ⟨_, fun _ => f11, ?_⟩; (first | refine hK _ ?_ | refine hK _ _ ?_ | refine ⟨by simp [go_sem, h20', hp'], hK _ ?_⟩ | refine ⟨by simp [go_sem, h20', hp'], hK _ _ ?_⟩ | refine ⟨by simp [go_sem, h20', hp'], by simp [go_sem, h20', hp'], hK _ _ ?_⟩))
             | (refine ⟨_, fun hc => ⟨hc, f11⟩, ?_⟩; (first | refine hK _ ?_ | refine hK _ _ ?_ | refine ⟨by simp [go_sem, h20', hp'], hK _ ?_⟩ | refine ⟨by simp [go_sem, h20', hp'], hK _ _ ?_⟩ | refine ⟨by simp [go_sem, h20', hp'], by simp [go_sem, h20', hp'], hK _ _ ?_⟩))
             | (refine ⟨_, fun hc => ⟨f11, by simp [go_sem, h20', hp']⟩, ?_⟩; (first | refine hK _ ?_ | refine hK _ _ ?_ | refine ⟨by simp [go_sem, h20', hp'], hK _ ?_⟩ | refine ⟨by simp [go_sem, h20', hp'], hK _ _ ?_⟩ | refine ⟨by simp [go_sem, h20', hp'], by simp [go_sem, h20', hp'], hK _ _ ?_⟩))
             | (refine ⟨_, fun hc => ⟨hc, f11, by simp [go_sem, h20', hp']⟩, ?_⟩; (first | refine hK _ ?_ | refine hK _ _ ?_ | refine ⟨by simp [go_sem, h20', hp'], hK _ ?_⟩ | refine ⟨by simp [go_sem, h20', hp'], hK _ _ ?_⟩ | refine ⟨by simp [go_sem, h20', hp'], by simp [go_sem, h20', hp'], hK _ _ ?_⟩))
             | (refine ⟨_, f22 l (by omega), ?_⟩; (first | refine hK _ ?_ | refine hK _ _ ?_ | refine ⟨by simp [go_sem, h20', hp'], hK _ ?_⟩ | refine ⟨by simp [go_sem, h20', hp'], hK _ _ ?_⟩ | refine ⟨by simp [go_sem, h20', hp'], by simp [go_sem, h20', hp'], hK _ _ ?_⟩))
             | (refine .inl ⟨_, f22 l (by omega), ?_⟩; (first | refine hK _ ?_ | refine hK _ _ ?_ | refine ⟨by simp [go_sem, h20', hp'], hK _ ?_⟩ | refine ⟨by simp [go_sem, h20', hp'], hK _ _ ?_⟩ | refine ⟨by simp [go_sem, h20', hp'], by simp [go_sem, h20', hp'], hK _ _ ?_⟩))
             | (refine .inr ⟨_, f22 l (by omega), ?_⟩; (first | refine hK _ ?_ | refine hK _ _ ?_ | refine ⟨by simp [go_sem, h20', hp'], hK _ ?_⟩ | refine ⟨by simp [go_sem, h20', hp'], hK _ _ ?_⟩ | refine ⟨by simp [go_sem, h20', hp'], by simp [go_sem, h20', hp'], hK _ _ ?_⟩))
             | (refine ⟨_, ⟨f22 l (by omega), by simp [go_sem, h20', hp']⟩, ?_⟩; (first | refine hK _ ?_ | refine hK _ _ ?_ | refine ⟨by simp [go_sem, h20', hp'], hK _ ?_⟩ | refine ⟨by simp [go_sem, h20', hp'], hK _ _ ?_⟩ | refine ⟨by simp [go_sem, h20', hp'], by simp [go_sem, h20', hp'], hK _ _ ?_⟩))
             | (refine ⟨_, fun _ => f22 l (by omega), ?_⟩; (first | refine hK _ ?_ | refine hK _ _ ?_ | refine ⟨by simp [go_sem, h20', hp'], hK _ ?_⟩ | refine ⟨by simp [go_sem, h20', hp'], hK _ _ ?_⟩ | refine ⟨by simp [go_sem, h20', hp'], by simp [go_sem, h20', hp'], hK _ _ ?_⟩))
             | (refine ⟨_, fun hc => ⟨hc, f22 l (by omega)⟩, ?_⟩; (first | refine hK _ ?_ | refine hK _ _ ?_ | refine ⟨by simp [go_sem, h20', hp'], hK _ ?_⟩ | refine ⟨by simp [go_sem, h20', hp'], hK _ _ ?_⟩ | refine ⟨by simp [go_sem, h20', hp'], by simp [go_sem, h20', hp'], hK _ _ ?_⟩))
             | (refine ⟨_, fun hc => ⟨f22 l (by omega), by simp [go_sem, h20', hp']⟩, ?_⟩; (first | refine hK _ ?_ | refine hK _ _ ?_ | refine ⟨by simp [go_sem, h20', hp'], hK _ ?_⟩ | refine ⟨by simp [go_sem, h20', hp'], hK _ _ ?_⟩ | refine ⟨by simp [go_sem, h20', hp'], by simp [go_sem, h20', hp'], hK _ _ ?_⟩))
             | (refine ⟨_, fun hc => ⟨hc, f22 l (by omega), by simp [go_sem, h20', hp']⟩, ?_⟩; (first | refine hK _ ?_ | refine hK _ _ ?_ | refine ⟨by simp [go_sem, h20', hp'], hK _ ?_⟩ | refine ⟨by simp [go_sem, h20', hp'], hK _ _ ?_⟩ | refine ⟨by simp [go_sem, h20', hp'], by simp [go_sem, h20', hp'], hK _ _ ?_⟩))
             | refine ⟨.one (.one (.bool false)), by simp [go_sem, h20', hp'], hK _ _ ?_⟩
             | refine ⟨by (first | (simp [appendOk, flatEls, h20', hp']; done) | (simp [appendOk, flatEls, h20', hp']; omega)), hK _ ?_⟩
             | refine ⟨hK _ ?_, fun h => hK _ ?_⟩
             | refine ⟨by omega, hK _ ?_⟩
             | refine ⟨by omega, hK _ _ ?_⟩
             | refine ⟨?_, hK _ ?_⟩
             | refine ⟨?_, hK _ _ ?_⟩
           all_goals clear hK K)
      simp [go_sem]
  · have h20' : (20 : Int) < (l.length : Int) := by omega
    repeat' first
      | with_reducible first | refine awp_seq ?_ | refine awp_reg ?_ | refine awp_block ?_ | refine awp_ret ?_ | refine awp_exit ?_ | refine awp_skip ?_ | refine awp_scp ?_ | refine scpQ_normal ?_ | refine scpQ_ret ?_ | refine scpQ_exit ?_ | refine seqQ_normal ?_ | refine seqQ_ret ?_ | refine seqQ_exit ?_ | refine blockQ_normal ?_ | refine blockQ_ret ?_ | refine blockQ_same ?_ | refine blockQ_other (by decide) ?_ | refine loopQ_ret ?_ | refine loopQ_exit ?_ | refine arun_nil ?_ | refine arunA_nil ?_ | refine arunB_nil ?_ | refine drwQ_intro ?_ | refine deadQ_nil ?_
      | ((with_reducible refine awp_cond2 (t := ?_) ?hc (fun h => ?_) (fun h => ?_))
         case hc => rfl
         all_goals (try simp [go_sem, h20'] at h)
         all_goals try omega)
      | ((with_reducible first | refine arun_cons fun K hK => ?_ | refine arunA_cons fun K hK => ?_ | refine arunB_cons fun K hK => ?_ | refine awp_drw fun K hK => ?_ | refine deadQ_some fun K hK => ?_ | refine pruneQ_intro fun K hK => ?_)
         simp [go_sem, h20']
         try simp (disch := omega) only [wrap_i64, okRefs, eq_self, true_and]
         first
           | refine hK _ ?_
           | refine hK _ _ ?_
           | (refine ⟨_, f11, ?_⟩; (first | refine hK _ ?_ | refine hK _ _ ?_ | refine ⟨by simp [go_sem, h20'], hK _ ?_⟩ | refine ⟨by simp [go_sem, h20'], hK _ _ ?_⟩ | refine ⟨by simp [go_sem, h20'], by simp [go_sem, h20'], hK _ _ ?_⟩))
           | (refine .inl ⟨_, f11, ?_⟩; (first | refine hK _ ?_ | refine hK _ _ ?_ | refine ⟨by simp [go_sem, h20'], hK _ ?_⟩ | refine ⟨by simp [go_sem, h20'], hK _ _ ?_⟩ | refine ⟨by simp [go_sem, h20'], by simp [go_sem, h20'], hK _ _ ?_⟩))
           | (refine .inr ⟨_, f11, ?_⟩; (first | refine hK _ ?_ | refine hK _ _ ?_ | refine ⟨by simp [go_sem, h20'], hK _ ?_⟩ | refine ⟨by simp [go_sem, h20'], hK _ _ ?_⟩ | refine ⟨by simp [go_sem, h20'], by simp [go_sem, h20'], hK _ _ ?_⟩))
           | (refine ⟨_, ⟨f11, by simp [go_sem, h20']⟩, ?_⟩; (first | refine hK _ ?_ | refine hK _ _ ?_ | refine ⟨by simp [go_sem, h20'], hK _ ?_⟩ | refine ⟨by simp [go_sem, h20'], hK _ _ ?_⟩ | refine ⟨by simp [go_sem, h20'], by simp [go_sem, h20'], hK _ _ ?_⟩))
           | (refine ⟨_, fun _ => f11, ?_⟩; (first | refine hK _ ?_ | refine hK _ _ ?_ | refine ⟨by simp [go_sem, h20'], hK _ ?_⟩ | refine ⟨by simp [go_sem, h20'], hK _ _ ?_⟩ | refine ⟨by simp [go_sem, h20'], by simp [go_sem, h20'], hK _ _ ?_⟩))
           | (refine ⟨_, fun hc => ⟨hc, f11⟩, ?_⟩; (first | refine hK _ ?_ | refine hK _ _ ?_ | refine ⟨by simp [go_sem, h20'], hK _ ?_⟩ | refine ⟨by simp [go_sem, h20'], hK _ _ ?_⟩ | refine ⟨by simp [go_sem, h20'], by simp [go_sem, h20'], hK _ _ ?_⟩))
           | (refine ⟨_, fun hc => ⟨f11, by simp [go_sem, h20']⟩, ?_⟩; (first | refine hK _ ?_ | refine hK _ _ ?_ | refine ⟨by simp [go_sem, h20'], hK _ ?_⟩ | refine ⟨by simp [go_sem, h20'], hK _ _ ?_⟩ | refine ⟨by simp [go_sem, h20'], by simp [go_sem, h20'], hK _ _ ?_⟩))
           | (refine ⟨_, fun hc => ⟨hc, f11, by simp [go_sem, h20']⟩, ?_⟩; (first | refine hK _ ?_ | refine hK _ _ ?_ | refine ⟨by simp [go_sem, h20'], hK _ ?_⟩ | refine ⟨by simp [go_sem, h20'], hK _ _ ?_⟩ | refine ⟨by simp [go_sem, h20'], by simp [go_sem, h20'], hK _ _ ?_⟩))
           | refine ⟨.one (.one (.bool false)), by simp [go_sem, h20'], hK _ _ ?_⟩
           | refine ⟨by (first | (simp [appendOk, flatEls, h20']; done) | (simp [appendOk, flatEls, h20']; omega)), hK _ ?_⟩
           | refine ⟨hK _ ?_, fun h => hK _ ?_⟩
           | refine ⟨by omega, hK _ ?_⟩
           | refine ⟨by omega, hK _ _ ?_⟩
           | refine ⟨?_, hK _ ?_⟩
           | refine ⟨?_, hK _ _ ?_⟩
         all_goals clear hK K)
    simp [go_sem]
end Go.Av
