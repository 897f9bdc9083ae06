/- Part of a proof by symbolic walks on plain data. -/
import Derived.Test.YtpnpnldabhmojaaCL5
import Derived.Test.YtpnpnldabhmojaaWF
import Derived.Test.YtpnpnldabhmojaaW2
import Derived.Test.YtpnpnldabhmojaaMM
set_option linter.unusedVariables false
set_option linter.unusedSimpArgs false
namespace Go.Av
open Go Go.RowKit Go.Proofs

theorem encHO (H : List (List Ev)) : frzLL (H.map encO) = H.map encH := by
  rw [frzLL_map]
  refine List.map_congr_left fun x _ => ?_
  simp only [encO, encH, frzL, DV.frz, frzLL_map]
  congr 2
  exact List.map_congr_left fun y _ => frz_encE y

theorem clo_encO {H : List (List Ev)} (h : ∀ l ∈ H, ∀ x ∈ l, x.vals = none) : clo (H.map encO) := by
  intro e he d hd
  obtain ⟨l, hl, rfl⟩ := List.mem_map.1 he
  simp only [encO, List.mem_singleton] at hd
  subst hd
  exact .ow _ _ (clo_encE (h l hl))

theorem hists_vals (l : List Inter) (n : Int) : ∀ h ∈ histories l n, ∀ x ∈ h, x.vals = none := by
  intro h hh
  unfold histories at hh
  split at hh
  · cases hh
  · simp only [hists, List.mem_map] at hh
    obtain ⟨i, _, rfl⟩ := hh
    exact project_vals l i

theorem hists_short (l : List Inter) (n : Int) (hl : l.length ≤ 20) : (histories l n).length ≤ 1000000 ∧ ∀ h ∈ histories l n, h.length ≤ 1000000 := by
  unfold histories
  split
  · exact ⟨by simp, fun h hh => by cases hh⟩
  · refine ⟨by rw [hists_len]; omega, fun h hh => ?_⟩
    simp only [hists, List.mem_map] at hh
    obtain ⟨i, _, rfl⟩ := hh
    have := project_len i l
    omega

theorem law5 (l : List Inter) : Impl Try.prog 5 [.one (.sl (l.map encI))] (.one (.one (.bool true))) := by
  refine impl_intro Try.func5 b5 e5 r5 n5 Try.ntmps5 d5 (by simp) fun hs => ?_
  clear hs
  simp only [c5, slotsOf]
  by_cases h20 : l.length ≤ 20
  · have h20' : ¬ (20 : Int) < (l.length : Int) := by omega
    by_cases hp : l.all okI = true
    · have hn := normal_len _ l rfl
      have hn2 := normal_len _ (normal l) rfl
      have f12s := f12 l 6 (by omega)
      have hsh := hists_short l 6 h20
      have f23s := f23 (histories l 6) hsh.1 hsh.2
      rw [merge_histories hp, ← encHO] at f23s
      have hclo : clo ((histories l 6).map encO) := clo_encO (hists_vals l 6)
      have f14s := f14 l (normal l) (by omega) (by omega)
      rw [normal_idem] at f14s
      have e1 : decide (normal l = normal l) = true := by simp
      rw [e1] at f14s
      have f17s := f17 (normal l) (by omega)
      rw [normal_idem] at f17s
      have f16s := f16 (normal l) (normal l) (by omega) (by omega)
      rw [e1] at f16s
      have f23' : Impl Try.prog 23 [.one (.sl (frzLL ((histories l 6).map encO)))] (.tup [.one (.ow 3 ((normal l).map encI)), .one (.bool true)]) := f23s
      generalize (histories l 6).map encO = HS at *
      repeat' first
        | with_reducible first | refine awp_seq ?_ | refine awp_reg ?_ | refine awp_block ?_ | refine awp_ret ?_ | refine awp_exit ?_ | refine awp_skip ?_ | refine awp_scp ?_ | refine scpQ_normal ?_ | refine scpQ_ret ?_ | refine scpQ_exit ?_ | refine seqQ_normal ?_ | refine seqQ_ret ?_ | refine seqQ_exit ?_ | refine blockQ_normal ?_ | refine blockQ_ret ?_ | refine blockQ_same ?_ | refine blockQ_other (by decide) ?_ | refine loopQ_ret ?_ | refine loopQ_exit ?_ | refine arun_nil ?_ | refine arunA_nil ?_ | refine arunB_nil ?_ | refine drwQ_intro ?_ | refine deadQ_nil ?_
        | ((with_reducible refine awp_cond2 (t := ?_) ?hc (fun h => ?_) (fun h => ?_))
           case hc => rfl
           all_goals (try simp [go_sem, h20', hp, hclo] at h)
           all_goals try omega)
        | ((with_reducible first | refine arun_cons fun K hK => ?_ | refine arunA_cons fun K hK => ?_ | refine arunB_cons fun K hK => ?_ | refine awp_drw fun K hK => ?_ | refine deadQ_some fun K hK => ?_ | refine pruneQ_intro fun K hK => ?_)
           simp [go_sem, h20', hp, hclo]
           try simp (disch := omega) only [wrap_i64, okRefs, eq_self, true_and]
           first
             | refine hK _ ?_
             | refine hK _ _ ?_
             | (refine ⟨_, f11, ?_⟩; (first | refine hK _ ?_ | refine hK _ _ ?_ | refine ⟨by simp [go_sem, h20', hp, hclo], hK _ ?_⟩ | refine ⟨by simp [go_sem, h20', hp, hclo], hK _ _ ?_⟩ | refine ⟨by simp [go_sem, h20', hp, hclo], by simp [go_sem, h20', hp, hclo], hK _ _ ?_⟩))
             | (refine .inl ⟨_, f11, ?_⟩; (first | refine hK _ ?_ | refine hK _ _ ?_ | refine ⟨by simp [go_sem, h20', hp, hclo], hK _ ?_⟩ | refine ⟨by simp [go_sem, h20', hp, hclo], hK _ _ ?_⟩ | refine ⟨by simp [go_sem, h20', hp, hclo], by simp [go_sem, h20', hp, hclo], hK _ _ ?_⟩))
             | (refine .inr ⟨_, f11, ?_⟩; (first | refine hK _ ?_ | refine hK _ _ ?_ | refine ⟨by simp [go_sem, h20', hp, hclo], hK _ ?_⟩ | refine ⟨by simp [go_sem, h20', hp, hclo], hK _ _ ?_⟩ | refine ⟨by simp [go_sem, h20', hp, hclo], by simp [go_sem, h20', hp, hclo], hK _ _ ?_⟩))
             | (refine ⟨_, ⟨f11, by simp [go_sem, h20', hp, hclo]⟩, ?_⟩; (first | refine hK _ ?_ | refine hK _ _ ?_ | refine ⟨by simp [go_sem, h20', hp, hclo], hK _ ?_⟩ | refine ⟨by simp [go_sem, h20', hp, hclo], hK _ _ ?_⟩ | refine ⟨by simp [go_sem, h20', hp, hclo], by simp [go_sem, h20', hp, hclo], hK _ _ ?_⟩))
             | (refine ⟨_, fun _ => f11, ?_⟩; (first | refine hK _ ?_ | refine hK _ _ ?_ | refine ⟨by simp [go_sem, h20', hp, hclo], hK _ ?_⟩ | refine ⟨by simp [go_sem, h20', hp, hclo], hK _ _ ?_⟩ | refine ⟨by simp [go_sem, h20', hp, hclo], by simp [go_sem, h20', hp, hclo], hK _ _ ?_⟩))
             | (refine ⟨_, fun hc => ⟨hc, f11⟩, ?_⟩; (first | refine hK _ ?_ | refine hK _ _ ?_ | refine ⟨by simp [go_sem, h20', hp, hclo], hK _ ?_⟩ | refine ⟨by simp [go_sem, h20', hp, hclo], hK _ _ ?_⟩ | refine ⟨by simp [go_sem, h20', hp, hclo], by simp [go_sem, h20', hp, hclo], hK _ _ ?_⟩))
             | (refine ⟨_, fun hc => ⟨f11, by simp [go_sem, h20', hp, hclo]⟩, ?_⟩; (first | refine hK _ ?_ | refine hK _ _ ?_ | refine ⟨by simp [go_sem, h20', hp, hclo], hK _ ?_⟩ | refine ⟨by simp [go_sem, h20', hp, hclo], hK _ _ ?_⟩ | refine ⟨by simp [go_sem, h20', hp, hclo], by simp [go_sem, h20', hp, hclo], hK _ _ ?_⟩))
             | (refine ⟨_, fun hc => ⟨hc, f11, by simp [go_sem, h20', hp, hclo]⟩, ?_⟩; (first | refine hK _ ?_ | refine hK _ _ ?_ | refine ⟨by simp [go_sem, h20', hp, hclo], hK _ ?_⟩ | refine ⟨by simp [go_sem, h20', hp, hclo], hK _ _ ?_⟩ | refine ⟨by simp [go_sem, h20', hp, hclo], by simp [go_sem, h20', hp, hclo], hK _ _ ?_⟩))
             | (refine ⟨_, f22 l (by omega), ?_⟩; (first | refine hK _ ?_ | refine hK _ _ ?_ | refine ⟨by simp [go_sem, h20', hp, hclo], hK _ ?_⟩ | refine ⟨by simp [go_sem, h20', hp, hclo], hK _ _ ?_⟩ | refine ⟨by simp [go_sem, h20', hp, hclo], by simp [go_sem, h20', hp, hclo], hK _ _ ?_⟩))
             | (refine .inl ⟨_, f22 l (by omega), ?_⟩; (first | refine hK _ ?_ | refine hK _ _ ?_ | refine ⟨by simp [go_sem, h20', hp, hclo], hK _ ?_⟩ | refine ⟨by simp [go_sem, h20', hp, hclo], hK _ _ ?_⟩ | refine ⟨by simp [go_sem, h20', hp, hclo], by simp [go_sem, h20', hp, hclo], hK _ _ ?_⟩))
             | (refine .inr ⟨_, f22 l (by omega), ?_⟩; (first | refine hK _ ?_ | refine hK _ _ ?_ | refine ⟨by simp [go_sem, h20', hp, hclo], hK _ ?_⟩ | refine ⟨by simp [go_sem, h20', hp, hclo], hK _ _ ?_⟩ | refine ⟨by simp [go_sem, h20', hp, hclo], by simp [go_sem, h20', hp, hclo], hK _ _ ?_⟩))
             | (refine ⟨_, ⟨f22 l (by omega), by simp [go_sem, h20', hp, hclo]⟩, ?_⟩; (first | refine hK _ ?_ | refine hK _ _ ?_ | refine ⟨by simp [go_sem, h20', hp, hclo], hK _ ?_⟩ | refine ⟨by simp [go_sem, h20', hp, hclo], hK _ _ ?_⟩ | refine ⟨by simp [go_sem, h20', hp, hclo], by simp [go_sem, h20', hp, hclo], hK _ _ ?_⟩))
             | (refine ⟨_, fun _ => f22 l (by omega), ?_⟩; (first | refine hK _ ?_ | refine hK _ _ ?_ | refine ⟨by simp [go_sem, h20', hp, hclo], hK _ ?_⟩ | refine ⟨by simp [go_sem, h20', hp, hclo], hK _ _ ?_⟩ | refine ⟨by simp [go_sem, h20', hp, hclo], by simp [go_sem, h20', hp, hclo], hK _ _ ?_⟩))
             | (refine ⟨_, fun hc => ⟨hc, f22 l (by omega)⟩, ?_⟩; (first | refine hK _ ?_ | refine hK _ _ ?_ | refine ⟨by simp [go_sem, h20', hp, hclo], hK _ ?_⟩ | refine ⟨by simp [go_sem, h20', hp, hclo], hK _ _ ?_⟩ | refine ⟨by simp [go_sem, h20', hp, hclo], by simp [go_sem, h20', hp, hclo], hK _ _ ?_⟩))
             | (refine ⟨_, fun hc => ⟨f22 l (by omega), by simp [go_sem, h20', hp, hclo]⟩, ?_⟩; (first | refine hK _ ?_ | refine hK _ _ ?_ | refine ⟨by simp [go_sem, h20', hp, hclo], hK _ ?_⟩ | refine ⟨by simp [go_sem, h20', hp, hclo], hK _ _ ?_⟩ | refine ⟨by simp [go_sem, h20', hp, hclo], by simp [go_sem, h20', hp, hclo], hK _ _ ?_⟩))
             | (refine ⟨_, fun hc => ⟨hc, f22 l (by omega), by simp [go_sem, h20', hp, hclo]⟩, ?_⟩; (first | refine hK _ ?_ | refine hK _ _ ?_ | refine ⟨by simp [go_sem, h20', hp, hclo], hK _ ?_⟩ | refine ⟨by simp [go_sem, h20', hp, hclo], hK _ _ ?_⟩ | refine ⟨by simp [go_sem, h20', hp, hclo], by simp [go_sem, h20', hp, hclo], hK _ _ ?_⟩))
             | (refine ⟨_, f17 l (by omega), ?_⟩; (first | refine hK _ ?_ | refine hK _ _ ?_ | refine ⟨by simp [go_sem, h20', hp, hclo], hK _ ?_⟩ | refine ⟨by simp [go_sem, h20', hp, hclo], hK _ _ ?_⟩ | refine ⟨by simp [go_sem, h20', hp, hclo], by simp [go_sem, h20', hp, hclo], hK _ _ ?_⟩))
             | (refine .inl ⟨_, f17 l (by omega), ?_⟩; (first | refine hK _ ?_ | refine hK _ _ ?_ | refine ⟨by simp [go_sem, h20', hp, hclo], hK _ ?_⟩ | refine ⟨by simp [go_sem, h20', hp, hclo], hK _ _ ?_⟩ | refine ⟨by simp [go_sem, h20', hp, hclo], by simp [go_sem, h20', hp, hclo], hK _ _ ?_⟩))
             | (refine .inr ⟨_, f17 l (by omega), ?_⟩; (first | refine hK _ ?_ | refine hK _ _ ?_ | refine ⟨by simp [go_sem, h20', hp, hclo], hK _ ?_⟩ | refine ⟨by simp [go_sem, h20', hp, hclo], hK _ _ ?_⟩ | refine ⟨by simp [go_sem, h20', hp, hclo], by simp [go_sem, h20', hp, hclo], hK _ _ ?_⟩))
             | (refine ⟨_, ⟨f17 l (by omega), by simp [go_sem, h20', hp, hclo]⟩, ?_⟩; (first | refine hK _ ?_ | refine hK _ _ ?_ | refine ⟨by simp [go_sem, h20', hp, hclo], hK _ ?_⟩ | refine ⟨by simp [go_sem, h20', hp, hclo], hK _ _ ?_⟩ | refine ⟨by simp [go_sem, h20', hp, hclo], by simp [go_sem, h20', hp, hclo], hK _ _ ?_⟩))
             | (refine ⟨_, fun _ => f17 l (by omega), ?_⟩; (first | refine hK _ ?_ | refine hK _ _ ?_ | refine ⟨by simp [go_sem, h20', hp, hclo], hK _ ?_⟩ | refine ⟨by simp [go_sem, h20', hp, hclo], hK _ _ ?_⟩ | refine ⟨by simp [go_sem, h20', hp, hclo], by simp [go_sem, h20', hp, hclo], hK _ _ ?_⟩))
             | (refine ⟨_, fun hc => ⟨hc, f17 l (by omega)⟩, ?_⟩; (first | refine hK _ ?_ | refine hK _ _ ?_ | refine ⟨by simp [go_sem, h20', hp, hclo], hK _ ?_⟩ | refine ⟨by simp [go_sem, h20', hp, hclo], hK _ _ ?_⟩ | refine ⟨by simp [go_sem, h20', hp, hclo], by simp [go_sem, h20', hp, hclo], hK _ _ ?_⟩))
             | (refine ⟨_, fun hc => ⟨f17 l (by omega), by simp [go_sem, h20', hp, hclo]⟩, ?_⟩; (first | refine hK _ ?_ | refine hK _ _ ?_ | refine ⟨by simp [go_sem, h20', hp, hclo], hK _ ?_⟩ | refine ⟨by simp [go_sem, h20', hp, hclo], hK _ _ ?_⟩ | refine ⟨by simp [go_sem, h20', hp, hclo], by simp [go_sem, h20', hp, hclo], hK _ _ ?_⟩))
             | (refine ⟨_, fun hc => ⟨hc, f17 l (by omega), by simp [go_sem, h20', hp, hclo]⟩, ?_⟩; (first | refine hK _ ?_ | refine hK _ _ ?_ | refine ⟨by simp [go_sem, h20', hp, hclo], hK _ ?_⟩ | refine ⟨by simp [go_sem, h20', hp, hclo], hK _ _ ?_⟩ | refine ⟨by simp [go_sem, h20', hp, hclo], by simp [go_sem, h20', hp, hclo], hK _ _ ?_⟩))
             | (refine ⟨_, f12s, ?_⟩; (first | refine hK _ ?_ | refine hK _ _ ?_ | refine ⟨by simp [go_sem, h20', hp, hclo], hK _ ?_⟩ | refine ⟨by simp [go_sem, h20', hp, hclo], hK _ _ ?_⟩ | refine ⟨by simp [go_sem, h20', hp, hclo], by simp [go_sem, h20', hp, hclo], hK _ _ ?_⟩))
             | (refine .inl ⟨_, f12s, ?_⟩; (first | refine hK _ ?_ | refine hK _ _ ?_ | refine ⟨by simp [go_sem, h20', hp, hclo], hK _ ?_⟩ | refine ⟨by simp [go_sem, h20', hp, hclo], hK _ _ ?_⟩ | refine ⟨by simp [go_sem, h20', hp, hclo], by simp [go_sem, h20', hp, hclo], hK _ _ ?_⟩))
             | (refine .inr ⟨_, f12s, ?_⟩; (first | refine hK _ ?_ | refine hK _ _ ?_ | refine ⟨by simp [go_sem, h20', hp, hclo], hK _ ?_⟩ | refine ⟨by simp [go_sem, h20', hp, hclo], hK _ _ ?_⟩ | refine ⟨by simp [go_sem, h20', hp, hclo], by simp [go_sem, h20', hp, hclo], hK _ _ ?_⟩))
             | (refine ⟨_, ⟨f12s, by simp [go_sem, h20', hp, hclo]⟩, ?_⟩; (first | refine hK _ ?_ | refine hK _ _ ?_ | refine ⟨by simp [go_sem, h20', hp, hclo], hK _ ?_⟩ | refine ⟨by simp [go_sem, h20', hp, hclo], hK _ _ ?_⟩ | refine ⟨by simp [go_sem, h20', hp, hclo], by simp [go_sem, h20', hp, hclo], hK _ _ ?_⟩))
             | (refine ⟨_, fun _ => f12s, ?_⟩; (first | refine hK _ ?_ | refine hK _ _ ?_ | refine ⟨by simp [go_sem, h20', hp, hclo], hK _ ?_⟩ | refine ⟨by simp [go_sem, h20', hp, hclo], hK _ _ ?_⟩ | refine ⟨by simp [go_sem, h20', hp, hclo], by simp [go_sem, h20', hp, hclo], hK _ _ ?_⟩))
             | (refine ⟨_, fun hc => ⟨hc, f12s⟩, ?_⟩; (first | refine hK _ ?_ | refine hK _ _ ?_ | refine ⟨by simp [go_sem, h20', hp, hclo], hK _ ?_⟩ | refine ⟨by simp [go_sem, h20', hp, hclo], hK _ _ ?_⟩ | refine ⟨by simp [go_sem, h20', hp, hclo], by simp [go_sem, h20', hp, hclo], hK _ _ ?_⟩))
             | (refine ⟨_, fun hc => ⟨f12s, by simp [go_sem, h20', hp, hclo]⟩, ?_⟩; (first | refine hK _ ?_ | refine hK _ _ ?_ | refine ⟨by simp [go_sem, h20', hp, hclo], hK _ ?_⟩ | refine ⟨by simp [go_sem, h20', hp, hclo], hK _ _ ?_⟩ | refine ⟨by simp [go_sem, h20', hp, hclo], by simp [go_sem, h20', hp, hclo], hK _ _ ?_⟩))
             | (refine ⟨_, fun hc => ⟨hc, f12s, by simp [go_sem, h20', hp, hclo]⟩, ?_⟩; (first | refine hK _ ?_ | refine hK _ _ ?_ | refine ⟨by simp [go_sem, h20', hp, hclo], hK _ ?_⟩ | refine ⟨by simp [go_sem, h20', hp, hclo], hK _ _ ?_⟩ | refine ⟨by simp [go_sem, h20', hp, hclo], by simp [go_sem, h20', hp, hclo], hK _ _ ?_⟩))
             | (refine ⟨_, f23', ?_⟩; (first | refine hK _ ?_ | refine hK _ _ ?_ | refine ⟨by simp [go_sem, h20', hp, hclo], hK _ ?_⟩ | refine ⟨by simp [go_sem, h20', hp, hclo], hK _ _ ?_⟩ | refine ⟨by simp [go_sem, h20', hp, hclo], by simp [go_sem, h20', hp, hclo], hK _ _ ?_⟩))
             | (refine .inl ⟨_, f23', ?_⟩; (first | refine hK _ ?_ | refine hK _ _ ?_ | refine ⟨by simp [go_sem, h20', hp, hclo], hK _ ?_⟩ | refine ⟨by simp [go_sem, h20', hp, hclo], hK _ _ ?_⟩ | refine ⟨by simp [go_sem, h20', hp, hclo], by simp [go_sem, h20', hp, hclo], hK _ _ ?_⟩))
             | (refine .inr ⟨_, f23', ?_⟩; (first | refine hK _ ?_ | refine hK _ _ ?_ | refine ⟨by simp [go_sem, h20', hp, hclo], hK _ ?_⟩ | refine ⟨by simp [go_sem, h20', hp, hclo], hK _ _ ?_⟩ | refine ⟨by simp [go_sem, h20', hp, hclo], by simp [go_sem, h20', hp, hclo], hK _ _ ?_⟩))
             | (refine ⟨_, ⟨f23', by simp [go_sem, h20', hp, hclo]⟩, ?_⟩; (first | refine hK _ ?_ | refine hK _ _ ?_ | refine ⟨by simp [go_sem, h20', hp, hclo], hK _ ?_⟩ | refine ⟨by simp [go_sem, h20', hp, hclo], hK _ _ ?_⟩ | refine ⟨by simp [go_sem, h20', hp, hclo], by simp [go_sem, h20', hp, hclo], hK _ _ ?_⟩))
             | (refine ⟨_, fun _ => f23', ?_⟩; (first | refine hK _ ?_ | refine hK _ _ ?_ | refine ⟨by simp [go_sem, h20', hp, hclo], hK _ ?_⟩ | refine ⟨by simp [go_sem, h20', hp, hclo], hK _ _ ?_⟩ | refine ⟨by simp [go_sem, h20', hp, hclo], by simp [go_sem, h20', hp, hclo], hK _ _ ?_⟩))
             | (refine ⟨_, fun hc => ⟨hc, f23'⟩, ?_⟩; (first | refine hK _ ?_ | refine hK _ _ ?_ | refine ⟨by simp [go_sem, h20', hp, hclo], hK _ ?_⟩ | refine ⟨by simp [go_sem, h20', hp, hclo], hK _ _ ?_⟩ | refine ⟨by simp [go_sem, h20', hp, hclo], by simp [go_sem, h20', hp, hclo], hK _ _ ?_⟩))
             | (refine ⟨_, fun hc => ⟨f23', by simp [go_sem, h20', hp, hclo]⟩, ?_⟩; (first | refine hK _ ?_ | refine hK _ _ ?_ | refine ⟨by simp [go_sem, h20', hp, hclo], hK _ ?_⟩ | refine ⟨by simp [go_sem, h20', hp, hclo], hK _ _ ?_⟩ | refine ⟨by simp [go_sem, h20', hp, hclo], by simp [go_sem, h20', hp, hclo], hK _ _ ?_⟩))
             | (refine ⟨_, fun hc => ⟨hc, f23', by simp [go_sem, h20', hp, hclo]⟩, ?_⟩; (first | refine hK _ ?_ | refine hK _ _ ?_ | refine ⟨by simp [go_sem, h20', hp, hclo], hK _ ?_⟩ | refine ⟨by simp [go_sem, h20', hp, hclo], hK _ _ ?_⟩ | refine ⟨by simp [go_sem, h20', hp, hclo], by simp [go_sem, h20', hp, hclo], hK _ _ ?_⟩))
             | (refine ⟨_, f14s, ?_⟩; (first | refine hK _ ?_ | refine hK _ _ ?_ | refine ⟨by simp [go_sem, h20', hp, hclo], hK _ ?_⟩ | refine ⟨by simp [go_sem, h20', hp, hclo], hK _ _ ?_⟩ | refine ⟨by simp [go_sem, h20', hp, hclo], by simp [go_sem, h20', hp, hclo], hK _ _ ?_⟩))
             | (refine .inl ⟨_, f14s, ?_⟩; (first | refine hK _ ?_ | refine hK _ _ ?_ | refine ⟨by simp [go_sem, h20', hp, hclo], hK _ ?_⟩ | refine ⟨by simp [go_sem, h20', hp, hclo], hK _ _ ?_⟩ | refine ⟨by simp [go_sem, h20', hp, hclo], by simp [go_sem, h20', hp, hclo], hK _ _ ?_⟩))
             | (refine .inr ⟨_, f14s, ?_⟩; (first | refine hK _ ?_ | refine hK _ _ ?_ | refine ⟨by simp [go_sem, h20', hp, hclo], hK _ ?_⟩ | refine ⟨by simp [go_sem, h20', hp, hclo], hK _ _ ?_⟩ | refine ⟨by simp [go_sem, h20', hp, hclo], by simp [go_sem, h20', hp, hclo], hK _ _ ?_⟩))
             | (refine ⟨_, ⟨f14s, by simp [go_sem, h20', hp, hclo]⟩, ?_⟩; (first | refine hK _ ?_ | refine hK _ _ ?_ | refine ⟨by simp [go_sem, h20', hp, hclo], hK _ ?_⟩ | refine ⟨by simp [go_sem, h20', hp, hclo], hK _ _ ?_⟩ | refine ⟨by simp [go_sem, h20', hp, hclo], by simp [go_sem, h20', hp, hclo], hK _ _ ?_⟩))
             | (refine ⟨_, fun _ => f14s, ?_⟩; (first | refine hK _ ?_ | refine hK _ _ ?_ | refine ⟨by simp [go_sem, h20', hp, hclo], hK _ ?_⟩ | refine ⟨by simp [go_sem, h20', hp, hclo], hK _ _ ?_⟩ | refine ⟨by simp [go_sem, h20', hp, hclo], by simp [go_sem, h20', hp, hclo], hK _ _ ?_⟩))
             | (refine ⟨_, fun hc => ⟨hc, f14s⟩, ?_⟩; (first | refine hK _ ?_ | refine hK _ _ ?_ | refine ⟨by simp [go_sem, h20', hp, hclo], hK _ ?_⟩ | refine ⟨by simp [go_sem, h20', hp, hclo], hK _ _ ?_⟩ | refine ⟨by simp [go_sem, h20', hp, hclo], by simp [go_sem, h20', hp, hclo], hK _ _ ?_⟩))
             | (refine ⟨_, fun hc => ⟨f14s, by simp [go_sem, h20', hp, hclo]⟩, ?_⟩; (first | refine hK _ ?_ | refine hK _ _ ?_ | refine ⟨by simp [go_sem, h20', hp, hclo], hK _ ?_⟩ | refine ⟨by simp [go_sem, h20', hp, hclo], hK _ _ ?_⟩ | refine ⟨by simp [go_sem, h20', hp, hclo], by simp [go_sem, h20', hp, hclo], hK _ _ ?_⟩))
             | (refine ⟨_, fun hc => ⟨hc, f14s, by simp [go_sem, h20', hp, hclo]⟩, ?_⟩; (first | refine hK _ ?_ | refine hK _ _ ?_ | refine ⟨by simp [go_sem, h20', hp, hclo], hK _ ?_⟩ | refine ⟨by simp [go_sem, h20', hp, hclo], hK _ _ ?_⟩ | refine ⟨by simp [go_sem, h20', hp, hclo], by simp [go_sem, h20', hp, hclo], hK _ _ ?_⟩))
             | (refine ⟨_, f17s, ?_⟩; (first | refine hK _ ?_ | refine hK _ _ ?_ | refine ⟨by simp [go_sem, h20', hp, hclo], hK _ ?_⟩ | refine ⟨by simp [go_sem, h20', hp, hclo], hK _ _ ?_⟩ | refine ⟨by simp [go_sem, h20', hp, hclo], by simp [go_sem, h20', hp, hclo], hK _ _ ?_⟩))
             | (refine .inl ⟨_, f17s, ?_⟩; (first | refine hK _ ?_ | refine hK _ _ ?_ | refine ⟨by simp [go_sem, h20', hp, hclo], hK _ ?_⟩ | refine ⟨by simp [go_sem, h20', hp, hclo], hK _ _ ?_⟩ | refine ⟨by simp [go_sem, h20', hp, hclo], by simp [go_sem, h20', hp, hclo], hK _ _ ?_⟩))
             | (refine .inr ⟨_, f17s, ?_⟩; (first | refine hK _ ?_ | refine hK _ _ ?_ | refine ⟨by simp [go_sem, h20', hp, hclo], hK _ ?_⟩ | refine ⟨by simp [go_sem, h20', hp, hclo], hK _ _ ?_⟩ | refine ⟨by simp [go_sem, h20', hp, hclo], by simp [go_sem, h20', hp, hclo], hK _ _ ?_⟩))
             | (refine ⟨_, ⟨f17s, by simp [go_sem, h20', hp, hclo]⟩, ?_⟩; (first | refine hK _ ?_ | refine hK _ _ ?_ | refine ⟨by simp [go_sem, h20', hp, hclo], hK _ ?_⟩ | refine ⟨by simp [go_sem, h20', hp, hclo], hK _ _ ?_⟩ | refine ⟨by simp [go_sem, h20', hp, hclo], by simp [go_sem, h20', hp, hclo], hK _ _ ?_⟩))
             | (refine ⟨_, fun _ => f17s, ?_⟩; (first | refine hK _ ?_ | refine hK _ _ ?_ | refine ⟨by simp [go_sem, h20', hp, hclo], hK _ ?_⟩ | refine ⟨by simp [go_sem, h20', hp, hclo], hK _ _ ?_⟩ | refine ⟨by simp [go_sem, h20', hp, hclo], by simp [go_sem, h20', hp, hclo], hK _ _ ?_⟩))
             | (refine ⟨_, fun hc => ⟨hc, f17s⟩, ?_⟩; (first | refine hK _ ?_ | refine hK _ _ ?_ | refine ⟨by simp [go_sem, h20', hp, hclo], hK _ ?_⟩ | refine ⟨by simp [go_sem, h20', hp, hclo], hK _ _ ?_⟩ | refine ⟨by simp [go_sem, h20', hp, hclo], by simp [go_sem, h20', hp, hclo], hK _ _ ?_⟩))
             | (refine ⟨_, fun hc => ⟨f17s, by simp [go_sem, h20', hp, hclo]⟩, ?_⟩; (first | refine hK _ ?_ | refine hK _ _ ?_ | refine ⟨by simp [go_sem, h20', hp, hclo], hK _ ?_⟩ | refine ⟨by simp [go_sem, h20', hp, hclo], hK _ _ ?_⟩ | refine ⟨by simp [go_sem, h20', hp, hclo], by simp [go_sem, h20', hp, hclo], hK _ _ ?_⟩))
             | (refine ⟨_, fun hc => ⟨hc, f17s, by simp [go_sem, h20', hp, hclo]⟩, ?_⟩; (first | refine hK _ ?_ | refine hK _ _ ?_ | refine ⟨by simp [go_sem, h20', hp, hclo], hK _ ?_⟩ | refine ⟨by simp [go_sem, h20', hp, hclo], hK _ _ ?_⟩ | refine ⟨by simp [go_sem, h20', hp, hclo], by simp [go_sem, h20', hp, hclo], hK _ _ ?_⟩))
             | (refine ⟨_, f16s, ?_⟩; (first | refine hK _ ?_ | refine hK _ _ ?_ | refine ⟨by simp [go_sem, h20', hp, hclo], hK _ ?_⟩ | refine ⟨by simp [go_sem, h20', hp, hclo], hK _ _ ?_⟩ | refine ⟨by simp [go_sem, h20', hp, hclo], by simp [go_sem, h20', hp, hclo], hK _ _ ?_⟩))
             | (refine .inl ⟨_, f16s, ?_⟩; (first | refine hK _ ?_ | refine hK _ _ ?_ | refine ⟨by simp [go_sem, h20', hp, hclo], hK _ ?_⟩ | refine ⟨by simp [go_sem, h20', hp, hclo], hK _ _ ?_⟩ | refine ⟨by simp [go_sem, h20', hp, hclo], by simp [go_sem, h20', hp, hclo], hK _ _ ?_⟩))
             | (refine .inr ⟨_, f16s, ?_⟩; (first | refine hK _ ?_ | refine hK _ _ ?_ | refine ⟨by simp [go_sem, h20', hp, hclo], hK _ ?_⟩ | refine ⟨by simp [go_sem, h20', hp, hclo], hK _ _ ?_⟩ | refine ⟨by simp [go_sem, h20', hp, hclo], by simp [go_sem, h20', hp, hclo], hK _ _ ?_⟩))
             | (refine ⟨_, ⟨f16s, by simp [go_sem, h20', hp, hclo]⟩, ?_⟩; (first | refine hK _ ?_ | refine hK _ _ ?_ | refine ⟨by simp [go_sem, h20', hp, hclo], hK _ ?_⟩ | refine ⟨by simp [go_sem, h20', hp, hclo], hK _ _ ?_⟩ | refine ⟨by simp [go_sem, h20', hp, hclo], by simp [go_sem, h20', hp, hclo], hK _ _ ?_⟩))
             | (refine ⟨_, fun _ => f16s, ?_⟩; (first | refine hK _ ?_ | refine hK _ _ ?_ | refine ⟨by simp [go_sem, h20', hp, hclo], hK _ ?_⟩ | refine ⟨by simp [go_sem, h20', hp, hclo], hK _ _ ?_⟩ | refine ⟨by simp [go_sem, h20', hp, hclo], by simp [go_sem, h20', hp, hclo], hK _ _ ?_⟩))
             | (refine ⟨_, fun hc => ⟨hc, f16s⟩, ?_⟩; (first | refine hK _ ?_ | refine hK _ _ ?_ | refine ⟨by simp [go_sem, h20', hp, hclo], hK _ ?_⟩ | refine ⟨by simp [go_sem, h20', hp, hclo], hK _ _ ?_⟩ | refine ⟨by simp [go_sem, h20', hp, hclo], by simp [go_sem, h20', hp, hclo], hK _ _ ?_⟩))
             | (refine ⟨_, fun hc => ⟨f16s, by simp [go_sem, h20', hp, hclo]⟩, ?_⟩; (first | refine hK _ ?_ | refine hK _ _ ?_ | refine ⟨by simp [go_sem, h20', hp, hclo], hK _ ?_⟩ | refine ⟨by simp [go_sem, h20', hp, hclo], hK _ _ ?_⟩ | refine ⟨by simp [go_sem, h20', hp, hclo], by simp [go_sem, h20', hp, hclo], hK _ _ ?_⟩))
             | (refine ⟨_, fun hc => ⟨hc, f16s, by simp [go_sem, h20', hp, hclo]⟩, ?_⟩; (first | refine hK _ ?_ | refine hK _ _ ?_ | refine ⟨by simp [go_sem, h20', hp, hclo], hK _ ?_⟩ | refine ⟨by simp [go_sem, h20', hp, hclo], hK _ _ ?_⟩ | refine ⟨by simp [go_sem, h20', hp, hclo], by simp [go_sem, h20', hp, hclo], hK _ _ ?_⟩))
             | refine ⟨.one (.one (.bool false)), by simp [go_sem, h20', hp, hclo], hK _ _ ?_⟩
             | refine ⟨by (first | (simp [appendOk, flatEls, h20', hp, hclo]; done) | (simp [appendOk, flatEls, h20', hp, hclo]; omega)), hK _ ?_⟩
             | refine ⟨hK _ ?_, fun h => hK _ ?_⟩
             | refine ⟨by omega, hK _ ?_⟩
             | refine ⟨by omega, hK _ _ ?_⟩
             | refine ⟨?_, hK _ ?_⟩
             | refine ⟨?_, hK _ _ ?_⟩
           all_goals clear hK K)
      simp [go_sem]
    · have hp' : l.all okI = false := by simpa using hp
      repeat' first
        | with_reducible first | refine awp_seq ?_ | refine awp_reg ?_ | refine awp_block ?_ | refine awp_ret ?_ | refine awp_exit ?_ | refine awp_skip ?_ | refine awp_scp ?_ | refine scpQ_normal ?_ | refine scpQ_ret ?_ | refine scpQ_exit ?_ | refine seqQ_normal ?_ | refine seqQ_ret ?_ | refine seqQ_exit ?_ | refine blockQ_normal ?_ | refine blockQ_ret ?_ | refine blockQ_same ?_ | refine blockQ_other (by decide) ?_ | refine loopQ_ret ?_ | refine loopQ_exit ?_ | refine arun_nil ?_ | refine arunA_nil ?_ | refine arunB_nil ?_ | refine drwQ_intro ?_ | refine deadQ_nil ?_
        | ((with_reducible refine awp_cond2 (t := ?_) ?hc (fun h => ?_) (fun h => ?_))
           case hc => rfl
           all_goals (try simp [go_sem, h20', hp'] at h)
           all_goals try omega)
        | ((with_reducible first | refine arun_cons fun K hK => ?_ | refine arunA_cons fun K hK => ?_ | refine arunB_cons fun K hK => ?_ | refine awp_drw fun K hK => ?_ | refine deadQ_some fun K hK => ?_ | refine pruneQ_intro fun K hK => ?_)
           simp [go_sem, h20', hp']
           try simp (disch := omega) only [wrap_i64, okRefs, eq_self, true_and]
           first
             | refine hK _ ?_
             | refine hK _ _ ?_
             | (refine ⟨_, f11, ?_⟩; (first | refine hK _ ?_ | refine hK _ _ ?_ | refine ⟨by simp [go_sem, h20', hp'], hK _ ?_⟩ | refine ⟨by simp [go_sem, h20', hp'], hK _ _ ?_⟩ | refine ⟨by simp [go_sem, h20', hp'], by simp [go_sem, h20', hp'], hK _ _ ?_⟩))
             | (refine .inl ⟨_, f11, ?_⟩; (first | refine hK _ ?_ | refine hK _ _ ?_ | refine ⟨by simp [go_sem, h20', hp'], hK _ ?_⟩ | refine ⟨by simp [go_sem, h20', hp'], hK _ _ ?_⟩ | refine ⟨by simp [go_sem, h20', hp'], by simp [go_sem, h20', hp'], hK _ _ ?_⟩))
             | (refine .inr ⟨_, f11, ?_⟩; (first | refine hK _ ?_ | refine hK _ _ ?_ | refine ⟨by simp [go_sem, h20', hp'], hK _ ?_⟩ | refine ⟨by simp [go_sem, h20', hp'], hK _ _ ?_⟩ | refine ⟨by simp [go_sem, h20', hp'], by simp [go_sem, h20', hp'], hK _ _ ?_⟩))
             | (refine ⟨_, ⟨f11, by simp [go_sem, h20', hp']⟩, ?_⟩; (first | refine hK _ ?_ | refine hK _ _ ?_ | refine ⟨by simp [go_sem, h20', hp'], hK _ ?_⟩ | refine ⟨by simp [go_sem, h20', hp'], hK _ _ ?_⟩ | refine ⟨by simp [go_sem, h20', hp'], by simp [go_sem, h20', hp'], hK _ _ ?_⟩))
             | (refine ⟨_, fun _ => f11, ?_⟩; (first | refine hK _ ?_ | refine hK _ _ ?_ | refine ⟨by simp [go_sem, h20', hp'], hK _ ?_⟩ | refine ⟨by simp [go_sem, h20', hp'], hK _ _ ?_⟩ | refine ⟨by simp [go_sem, h20', hp'], by simp [go_sem, h20', hp'], hK _ _ ?_⟩))
             | (refine ⟨_, fun hc => ⟨hc, f11⟩, ?_⟩; (first | refine hK _ ?_ | refine hK _ _ ?_ | refine ⟨by simp [go_sem, h20', hp'], hK _ ?_⟩ | refine ⟨by simp [go_sem, h20', hp'], hK _ _ ?_⟩ | refine ⟨by simp [go_sem, h20', hp'], by simp [go_sem, h20', hp'], hK _ _ ?_⟩))
             | (refine ⟨_, fun hc => ⟨f11, by simp [go_sem, h20', hp']⟩, ?_⟩; (first | refine hK _ ?_ | refine hK _ _ ?_ | refine ⟨by simp [go_sem, h20', hp'], hK _ ?_⟩ | refine ⟨by simp [go_sem, h20', hp'], hK _ _ ?_⟩ | refine ⟨by simp [go_sem, h20', hp'], by simp [go_sem, h20', hp'], hK _ _ ?_⟩))
             | (refine ⟨_, fun hc => ⟨hc, f11, by simp [go_sem, h20', hp']⟩, ?_⟩; (first | refine hK _ ?_ | refine hK _ _ ?_ | refine ⟨by simp [go_sem, h20', hp'], hK _ ?_⟩ | refine ⟨by simp [go_sem, h20', hp'], hK _ _ ?_⟩ | refine ⟨by simp [go_sem, h20', hp'], by simp [go_sem, h20', hp'], hK _ _ ?_⟩))
             | (refine ⟨_, f22 l (by omega), ?_⟩; (first | refine hK _ ?_ | refine hK _ _ ?_ | refine ⟨by simp [go_sem, h20', hp'], hK _ ?_⟩ | refine ⟨by simp [go_sem, h20', hp'], hK _ _ ?_⟩ | refine ⟨by simp [go_sem, h20', hp'], by simp [go_sem, h20', hp'], hK _ _ ?_⟩))
             | (refine .inl ⟨_, f22 l (by omega), ?_⟩; (first | refine hK _ ?_ | refine hK _ _ ?_ | refine ⟨by simp [go_sem, h20', hp'], hK _ ?_⟩ | refine ⟨by simp [go_sem, h20', hp'], hK _ _ ?_⟩ | refine ⟨by simp [go_sem, h20', hp'], by simp [go_sem, h20', hp'], hK _ _ ?_⟩))
             | (refine .inr ⟨_, f22 l (by omega), ?_⟩; (first | refine hK _ ?_ | refine hK _ _ ?_ | refine ⟨by simp [go_sem, h20', hp'], hK _ ?_⟩ | refine ⟨by simp [go_sem, h20', hp'], hK _ _ ?_⟩ | refine ⟨by simp [go_sem, h20', hp'], by simp [go_sem, h20', hp'], hK _ _ ?_⟩))
             | (refine ⟨_, ⟨f22 l (by omega), by simp [go_sem, h20', hp']⟩, ?_⟩; (first | refine hK _ ?_ | refine hK _ _ ?_ | refine ⟨by simp [go_sem, h20', hp'], hK _ ?_⟩ | refine ⟨by simp [go_sem, h20', hp'], hK _ _ ?_⟩ | refine ⟨by simp [go_sem, h20', hp'], by simp [go_sem, h20', hp'], hK _ _ ?_⟩))
             | (refine ⟨_, fun _ => f22 l (by omega), ?_⟩; (first | refine hK _ ?_ | refine hK _ _ ?_ | refine ⟨by simp [go_sem, h20', hp'], hK _ ?_⟩ | refine ⟨by simp [go_sem, h20', hp'], hK _ _ ?_⟩ | refine ⟨by simp [go_sem, h20', hp'], by simp [go_sem, h20', hp'], hK _ _ ?_⟩))
             | (refine ⟨_, fun hc => ⟨hc, f22 l (by omega)⟩, ?_⟩; (first | refine hK _ ?_ | refine hK _ _ ?_ | refine ⟨by simp [go_sem, h20', hp'], hK _ ?_⟩ | refine ⟨by simp [go_sem, h20', hp'], hK _ _ ?_⟩ | refine ⟨by simp [go_sem, h20', hp'], by simp [go_sem, h20', hp'], hK _ _ ?_⟩))
             | (refine ⟨_, fun hc => ⟨f22 l (by omega), by simp [go_sem, h20', hp']⟩, ?_⟩; (first | refine hK _ ?_ | refine hK _ _ ?_ | refine ⟨by simp [go_sem, h20', hp'], hK _ ?_⟩ | refine ⟨by simp [go_sem, h20', hp'], hK _ _ ?_⟩ | refine ⟨by simp [go_sem, h20', hp'], by simp [go_sem, h20', hp'], hK _ _ ?_⟩))
             | (refine ⟨_, fun hc => ⟨hc, f22 l (by omega), by simp [go_sem, h20', hp']⟩, ?_⟩; (first | refine hK _ ?_ | refine hK _ _ ?_ | refine ⟨by simp [go_sem, h20', hp'], hK _ ?_⟩ | refine ⟨by simp [go_sem, h20', hp'], hK _ _ ?_⟩ | refine ⟨by simp [go_sem, h20', hp'], by simp [go_sem, h20', hp'], hK _ _ ?_⟩))
             | refine ⟨.one (.one (.bool false)), by simp [go_sem, h20', hp'], hK _ _ ?_⟩
             | refine ⟨by (first | (simp [appendOk, flatEls, h20', hp']; done) | (simp [appendOk, flatEls, h20', hp']; omega)), hK _ ?_⟩
             | refine ⟨hK _ ?_, fun h => hK _ ?_⟩
             | refine ⟨by omega, hK _ ?_⟩
             | refine ⟨by omega, hK _ _ ?_⟩
             | refine ⟨?_, hK _ ?_⟩
             | refine ⟨?_, hK _ _ ?_⟩
           all_goals clear hK K)
      simp [go_sem]
  · have h20' : (20 : Int) < (l.length : Int) := by omega
    repeat' first
      | with_reducible first | refine awp_seq ?_ | refine awp_reg ?_ | refine awp_block ?_ | refine awp_ret ?_ | refine awp_exit ?_ | refine awp_skip ?_ | refine awp_scp ?_ | refine scpQ_normal ?_ | refine scpQ_ret ?_ | refine scpQ_exit ?_ | refine seqQ_normal ?_ | refine seqQ_ret ?_ | refine seqQ_exit ?_ | refine blockQ_normal ?_ | refine blockQ_ret ?_ | refine blockQ_same ?_ | refine blockQ_other (by decide) ?_ | refine loopQ_ret ?_ | refine loopQ_exit ?_ | refine arun_nil ?_ | refine arunA_nil ?_ | refine arunB_nil ?_ | refine drwQ_intro ?_ | refine deadQ_nil ?_
      | ((with_reducible refine awp_cond2 (t := ?_) ?hc (fun h => ?_) (fun h => ?_))
         case hc => rfl
         all_goals (try simp [go_sem, h20'] at h)
         all_goals try omega)
      | ((with_reducible first | refine arun_cons fun K hK => ?_ | refine arunA_cons fun K hK => ?_ | refine arunB_cons fun K hK => ?_ | refine awp_drw fun K hK => ?_ | refine deadQ_some fun K hK => ?_ | refine pruneQ_intro fun K hK => ?_)
         simp [go_sem, h20']
         try simp (disch := omega) only [wrap_i64, okRefs, eq_self, true_and]
         first
           | refine hK _ ?_
           | refine hK _ _ ?_
           | (refine ⟨_, f11, ?_⟩; (first | refine hK _ ?_ | refine hK _ _ ?_ | refine ⟨by simp [go_sem, h20'], hK _ ?_⟩ | refine ⟨by simp [go_sem, h20'], hK _ _ ?_⟩ | refine ⟨by simp [go_sem, h20'], by simp [go_sem, h20'], hK _ _ ?_⟩))
           | (refine .inl ⟨_, f11, ?_⟩; (first | refine hK _ ?_ | refine hK _ _ ?_ | refine ⟨by simp [go_sem, h20'], hK _ ?_⟩ | refine ⟨by simp [go_sem, h20'], hK _ _ ?_⟩ | refine ⟨by simp [go_sem, h20'], by simp [go_sem, h20'], hK _ _ ?_⟩))
           | (refine .inr ⟨_, f11, ?_⟩; (first | refine hK _ ?_ | refine hK _ _ ?_ | refine ⟨by simp [go_sem, h20'], hK _ ?_⟩ | refine ⟨by simp [go_sem, h20'], hK _ _ ?_⟩ | refine ⟨by simp [go_sem, h20'], by simp [go_sem, h20'], hK _ _ ?_⟩))
           | (refine ⟨_, ⟨f11, by simp [go_sem, h20']⟩, ?_⟩; (first | refine hK _ ?_ | refine hK _ _ ?_ | refine ⟨by simp [go_sem, h20'], hK _ ?_⟩ | refine ⟨by simp [go_sem, h20'], hK _ _ ?_⟩ | refine ⟨by simp [go_sem, h20'], by simp [go_sem, h20'], hK _ _ ?_⟩))
           | (refine ⟨_, fun _ => f11, ?_⟩; (first | refine hK _ ?_ | refine hK _ _ ?_ | refine ⟨by simp [go_sem, h20'], hK _ ?_⟩ | refine ⟨by simp [go_sem, h20'], hK _ _ ?_⟩ | refine ⟨by simp [go_sem, h20'], by simp [go_sem, h20'], hK _ _ ?_⟩))
           | (refine ⟨_, fun hc => ⟨hc, f11⟩, ?_⟩; (first | refine hK _ ?_ | refine hK _ _ ?_ | refine ⟨by simp [go_sem, h20'], hK _ ?_⟩ | refine ⟨by simp [go_sem, h20'], hK _ _ ?_⟩ | refine ⟨by simp [go_sem, h20'], by simp [go_sem, h20'], hK _ _ ?_⟩))
           | (refine ⟨_, fun hc => ⟨f11, by simp [go_sem, h20']⟩, ?_⟩; (first | refine hK _ ?_ | refine hK _ _ ?_ | refine ⟨by simp [go_sem, h20'], hK _ ?_⟩ | refine ⟨by simp [go_sem, h20'], hK _ _ ?_⟩ | refine ⟨by simp [go_sem, h20'], by simp [go_sem, h20'], hK _ _ ?_⟩))
           | (refine ⟨_, fun hc => ⟨hc, f11, by simp [go_sem, h20']⟩, ?_⟩; (first | refine hK _ ?_ | refine hK _ _ ?_ | refine ⟨by simp [go_sem, h20'], hK _ ?_⟩ | refine ⟨by simp [go_sem, h20'], hK _ _ ?_⟩ | refine ⟨by simp [go_sem, h20'], by simp [go_sem, h20'], hK _ _ ?_⟩))
           | refine ⟨.one (.one (.bool false)), by simp [go_sem, h20'], hK _ _ ?_⟩
           | refine ⟨by (first | (simp [appendOk, flatEls, h20']; done) | (simp [appendOk, flatEls, h20']; omega)), hK _ ?_⟩
           | refine ⟨hK _ ?_, fun h => hK _ ?_⟩
           | refine ⟨by omega, hK _ ?_⟩
           | refine ⟨by omega, hK _ _ ?_⟩
           | refine ⟨?_, hK _ ?_⟩
           | refine ⟨?_, hK _ _ ?_⟩
         all_goals clear hK K)
    simp [go_sem]
end Go.Av
