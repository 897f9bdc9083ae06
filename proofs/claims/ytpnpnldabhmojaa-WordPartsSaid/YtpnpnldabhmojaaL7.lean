/- Part of a proof by symbolic walks on plain data. -/
import Derived.Test.YtpnpnldabhmojaaWF
import Derived.Test.YtpnpnldabhmojaaW2
set_option linter.unusedVariables false
set_option linter.unusedSimpArgs false
namespace Go.Av
open Go Go.RowKit Go.Proofs

theorem evsSame_refl (l : List Ev) : evsSame l l = true := by
  unfold evsSame
  simp only [decide_true, Bool.true_and]
  rw [List.all_eq_true]
  rintro ⟨x, y⟩ hx
  have := List.of_mem_zip hx
  have hxy : x = y := by
    rw [List.mem_iff_getElem] at hx
    obtain ⟨i, hi, he⟩ := hx
    simp only [List.getElem_zip, Prod.mk.injEq] at he
    rw [← he.1, ← he.2]
  subst hxy
  simp [evSame]

theorem ex_enc {α : Type} {enc : α → List DV} {l : List α} : ∀ e ∈ l.map enc, ∃ x, e = enc x := by
  intro e he
  obtain ⟨x, _, rfl⟩ := List.mem_map.1 he
  exact ⟨x, rfl⟩

theorem project_append (a b : List Inter) (r : Int) : project (a ++ b) r = project a r ++ project b r := by
  simp [project]

theorem mem_encE {x : Ev} {d : DV} (h : d ∈ encE x) : d.flat = true := by
  simp only [encE, List.mem_cons, List.not_mem_nil, or_false] at h
  rcases h with rfl | rfl | rfl | rfl | rfl <;> first | rfl | exact flat_vals _

theorem okE_of {els news : List (List DV)} (h1 : ∀ e ∈ news, ∃ x, e = encE x) (h2 : els.length + news.length ≤ 1000000000) : appendOk 5 56 els news := by
  refine ⟨fun e he => ?_, fun e he => ?_, by omega, by unfold maxLen; omega, by omega⟩
  · obtain ⟨x, rfl⟩ := h1 e he
    rw [List.all_eq_true]
    exact fun d hd => mem_encE hd
  · obtain ⟨x, rfl⟩ := h1 e he
    rfl

theorem law7 (a b : List Inter) (r : Int) : Impl Try.prog 7 [.one (.sl (a.map encI)), .one (.sl (b.map encI)), .one (.int .i64 r)] (.one (.one (.bool true))) := by
  refine impl_intro Try.func7 b7 e7 r7 n7 Try.ntmps7 d7 (by simp) fun hs => ?_
  clear hs
  have hpa := project_len r a
  have hpb := project_len r b
  by_cases hab : a.length ≤ 20 ∧ b.length ≤ 20
  · obtain ⟨ha, hb⟩ := hab
    have h25 : Impl Try.prog 25 [.one (.sl (a.map encI ++ b.map encI)), .one (.int .i64 r)] (.one (.one (.ow 5 ((project a r).map encE ++ (project b r).map encE)))) := by
      have := f25 (a ++ b) r (by simp; omega)
      rwa [project_append, List.map_append, List.map_append] at this
    have h19 : Impl Try.prog 19 [.one (.sl ((project a r).map encE ++ (project b r).map encE)), .one (.sl ((project a r).map encE ++ (project b r).map encE))] (.one (.one (.bool true))) := by
      have := f19 (project a r ++ project b r) (project a r ++ project b r) (by simp; omega) (by simp; omega)
      rwa [evsSame_refl, List.map_append] at this
    simp only [c7, slotsOf]
    repeat' first
      | with_reducible first | refine awp_seq ?_ | refine awp_reg ?_ | refine awp_block ?_ | refine awp_ret ?_ | refine awp_exit ?_ | refine awp_skip ?_ | refine awp_scp ?_ | refine scpQ_normal ?_ | refine scpQ_ret ?_ | refine scpQ_exit ?_ | refine seqQ_normal ?_ | refine seqQ_ret ?_ | refine seqQ_exit ?_ | refine blockQ_normal ?_ | refine blockQ_ret ?_ | refine blockQ_same ?_ | refine blockQ_other (by decide) ?_ | refine loopQ_ret ?_ | refine loopQ_exit ?_ | refine arun_nil ?_ | refine arunA_nil ?_ | refine arunB_nil ?_ | refine drwQ_intro ?_ | refine deadQ_nil ?_
      | ((with_reducible refine awp_cond2 (t := ?_) ?hc (fun h => ?_) (fun h => ?_))
         case hc => rfl
         all_goals (try simp [go_sem, ha, hb] at h)
         all_goals try omega)
      | ((with_reducible first | refine arun_cons fun K hK => ?_ | refine arunA_cons fun K hK => ?_ | refine arunB_cons fun K hK => ?_ | refine awp_drw fun K hK => ?_ | refine deadQ_some fun K hK => ?_ | refine pruneQ_intro fun K hK => ?_)
         simp [go_sem, ha, hb]
         try simp (disch := omega) only [wrap_i64, okRefs, eq_self, true_and]
         first
           | refine hK _ ?_
           | refine hK _ _ ?_
           | (refine ⟨_, f11, ?_⟩; (first | refine hK _ ?_ | refine hK _ _ ?_ | refine ⟨by simp [go_sem, ha, hb], hK _ ?_⟩ | refine ⟨by simp [go_sem, ha, hb], hK _ _ ?_⟩ | refine ⟨by simp [go_sem, ha, hb], by simp [go_sem, ha, hb], hK _ _ ?_⟩))
           | (refine .inl ⟨_, f11, ?_⟩; (first | refine hK _ ?_ | refine hK _ _ ?_ | refine ⟨by simp [go_sem, ha, hb], hK _ ?_⟩ | refine ⟨by simp [go_sem, ha, hb], hK _ _ ?_⟩ | refine ⟨by simp [go_sem, ha, hb], by simp [go_sem, ha, hb], hK _ _ ?_⟩))
           | (refine .inr ⟨_, f11, ?_⟩; (first | refine hK _ ?_ | refine hK _ _ ?_ | refine ⟨by simp [go_sem, ha, hb], hK _ ?_⟩ | refine ⟨by simp [go_sem, ha, hb], hK _ _ ?_⟩ | refine ⟨by simp [go_sem, ha, hb], by simp [go_sem, ha, hb], hK _ _ ?_⟩))
           | (refine ⟨_, ⟨f11, by simp [go_sem, ha, hb]⟩, ?_⟩; (first | refine hK _ ?_ | refine hK _ _ ?_ | refine ⟨by simp [go_sem, ha, hb], hK _ ?_⟩ | refine ⟨by simp [go_sem, ha, hb], hK _ _ ?_⟩ | refine ⟨by simp [go_sem, ha, hb], by simp [go_sem, ha, hb], hK _ _ ?_⟩))
           | (refine ⟨_, fun _ => f11, ?_⟩; (first | refine hK _ ?_ | refine hK _ _ ?_ | refine ⟨by simp [go_sem, ha, hb], hK _ ?_⟩ | refine ⟨by simp [go_sem, ha, hb], hK _ _ ?_⟩ | refine ⟨by simp [go_sem, ha, hb], by simp [go_sem, ha, hb], hK _ _ ?_⟩))
           | (refine ⟨_, fun hc => ⟨hc, f11⟩, ?_⟩; (first | refine hK _ ?_ | refine hK _ _ ?_ | refine ⟨by simp [go_sem, ha, hb], hK _ ?_⟩ | refine ⟨by simp [go_sem, ha, hb], hK _ _ ?_⟩ | refine ⟨by simp [go_sem, ha, hb], by simp [go_sem, ha, hb], hK _ _ ?_⟩))
           | (refine ⟨_, fun hc => ⟨f11, by simp [go_sem, ha, hb]⟩, ?_⟩; (first | refine hK _ ?_ | refine hK _ _ ?_ | refine ⟨by simp [go_sem, ha, hb], hK _ ?_⟩ | refine ⟨by simp [go_sem, ha, hb], hK _ _ ?_⟩ | refine ⟨by simp [go_sem, ha, hb], by simp [go_sem, ha, hb], hK _ _ ?_⟩))
           | (refine ⟨_, fun hc => ⟨hc, f11, by simp [go_sem, ha, hb]⟩, ?_⟩; (first | refine hK _ ?_ | refine hK _ _ ?_ | refine ⟨by simp [go_sem, ha, hb], hK _ ?_⟩ | refine ⟨by simp [go_sem, ha, hb], hK _ _ ?_⟩ | refine ⟨by simp [go_sem, ha, hb], by simp [go_sem, ha, hb], hK _ _ ?_⟩))
           | (refine ⟨_, h25, ?_⟩; (first | refine hK _ ?_ | refine hK _ _ ?_ | refine ⟨by simp [go_sem, ha, hb], hK _ ?_⟩ | refine ⟨by simp [go_sem, ha, hb], hK _ _ ?_⟩ | refine ⟨by simp [go_sem, ha, hb], by simp [go_sem, ha, hb], hK _ _ ?_⟩))
           | (refine .inl ⟨_, h25, ?_⟩; (first | refine hK _ ?_ | refine hK _ _ ?_ | refine ⟨by simp [go_sem, ha, hb], hK _ ?_⟩ | refine ⟨by simp [go_sem, ha, hb], hK _ _ ?_⟩ | refine ⟨by simp [go_sem, ha, hb], by simp [go_sem, ha, hb], hK _ _ ?_⟩))
           | (refine .inr ⟨_, h25, ?_⟩; (first | refine hK _ ?_ | refine hK _ _ ?_ | refine ⟨by simp [go_sem, ha, hb], hK _ ?_⟩ | refine ⟨by simp [go_sem, ha, hb], hK _ _ ?_⟩ | refine ⟨by simp [go_sem, ha, hb], by simp [go_sem, ha, hb], hK _ _ ?_⟩))
           | (refine ⟨_, ⟨h25, by simp [go_sem, ha, hb]⟩, ?_⟩; (first | refine hK _ ?_ | refine hK _ _ ?_ | refine ⟨by simp [go_sem, ha, hb], hK _ ?_⟩ | refine ⟨by simp [go_sem, ha, hb], hK _ _ ?_⟩ | refine ⟨by simp [go_sem, ha, hb], by simp [go_sem, ha, hb], hK _ _ ?_⟩))
           | (refine ⟨_, fun _ => h25, ?_⟩; (first | refine hK _ ?_ | refine hK _ _ ?_ | refine ⟨by simp [go_sem, ha, hb], hK _ ?_⟩ | refine ⟨by simp [go_sem, ha, hb], hK _ _ ?_⟩ | refine ⟨by simp [go_sem, ha, hb], by simp [go_sem, ha, hb], hK _ _ ?_⟩))
           | (refine ⟨_, fun hc => ⟨hc, h25⟩, ?_⟩; (first | refine hK _ ?_ | refine hK _ _ ?_ | refine ⟨by simp [go_sem, ha, hb], hK _ ?_⟩ | refine ⟨by simp [go_sem, ha, hb], hK _ _ ?_⟩ | refine ⟨by simp [go_sem, ha, hb], by simp [go_sem, ha, hb], hK _ _ ?_⟩))
           | (refine ⟨_, fun hc => ⟨h25, by simp [go_sem, ha, hb]⟩, ?_⟩; (first | refine hK _ ?_ | refine hK _ _ ?_ | refine ⟨by simp [go_sem, ha, hb], hK _ ?_⟩ | refine ⟨by simp [go_sem, ha, hb], hK _ _ ?_⟩ | refine ⟨by simp [go_sem, ha, hb], by simp [go_sem, ha, hb], hK _ _ ?_⟩))
           | (refine ⟨_, fun hc => ⟨hc, h25, by simp [go_sem, ha, hb]⟩, ?_⟩; (first | refine hK _ ?_ | refine hK _ _ ?_ | refine ⟨by simp [go_sem, ha, hb], hK _ ?_⟩ | refine ⟨by simp [go_sem, ha, hb], hK _ _ ?_⟩ | refine ⟨by simp [go_sem, ha, hb], by simp [go_sem, ha, hb], hK _ _ ?_⟩))
           | (refine ⟨_, f25 a r (by omega), ?_⟩; (first | refine hK _ ?_ | refine hK _ _ ?_ | refine ⟨by simp [go_sem, ha, hb], hK _ ?_⟩ | refine ⟨by simp [go_sem, ha, hb], hK _ _ ?_⟩ | refine ⟨by simp [go_sem, ha, hb], by simp [go_sem, ha, hb], hK _ _ ?_⟩))
           | (refine .inl ⟨_, f25 a r (by omega), ?_⟩; (first | refine hK _ ?_ | refine hK _ _ ?_ | refine ⟨by simp [go_sem, ha, hb], hK _ ?_⟩ | refine ⟨by simp [go_sem, ha, hb], hK _ _ ?_⟩ | refine ⟨by simp [go_sem, ha, hb], by simp [go_sem, ha, hb], hK _ _ ?_⟩))
           | (refine .inr ⟨_, f25 a r (by omega), ?_⟩; (first | refine hK _ ?_ | refine hK _ _ ?_ | refine ⟨by simp [go_sem, ha, hb], hK _ ?_⟩ | refine ⟨by simp [go_sem, ha, hb], hK _ _ ?_⟩ | refine ⟨by simp [go_sem, ha, hb], by simp [go_sem, ha, hb], hK _ _ ?_⟩))
           | (refine ⟨_, ⟨f25 a r (by omega), by simp [go_sem, ha, hb]⟩, ?_⟩; (first | refine hK _ ?_ | refine hK _ _ ?_ | refine ⟨by simp [go_sem, ha, hb], hK _ ?_⟩ | refine ⟨by simp [go_sem, ha, hb], hK _ _ ?_⟩ | refine ⟨by simp [go_sem, ha, hb], by simp [go_sem, ha, hb], hK _ _ ?_⟩))
           | (refine ⟨_, fun _ => f25 a r (by omega), ?_⟩; (first | refine hK _ ?_ | refine hK _ _ ?_ | refine ⟨by simp [go_sem, ha, hb], hK _ ?_⟩ | refine ⟨by simp [go_sem, ha, hb], hK _ _ ?_⟩ | refine ⟨by simp [go_sem, ha, hb], by simp [go_sem, ha, hb], hK _ _ ?_⟩))
           | (refine ⟨_, fun hc => ⟨hc, f25 a r (by omega)⟩, ?_⟩; (first | refine hK _ ?_ | refine hK _ _ ?_ | refine ⟨by simp [go_sem, ha, hb], hK _ ?_⟩ | refine ⟨by simp [go_sem, ha, hb], hK _ _ ?_⟩ | refine ⟨by simp [go_sem, ha, hb], by simp [go_sem, ha, hb], hK _ _ ?_⟩))
           | (refine ⟨_, fun hc => ⟨f25 a r (by omega), by simp [go_sem, ha, hb]⟩, ?_⟩; (first | refine hK _ ?_ | refine hK _ _ ?_ | refine ⟨by simp [go_sem, ha, hb], hK _ ?_⟩ | refine ⟨by simp [go_sem, ha, hb], hK _ _ ?_⟩ | refine ⟨by simp [go_sem, ha, hb], by simp [go_sem, ha, hb], hK _ _ ?_⟩))
           | (refine ⟨_, fun hc => ⟨hc, f25 a r (by omega), by simp [go_sem, ha, hb]⟩, ?_⟩; (first | refine hK _ ?_ | refine hK _ _ ?_ | refine ⟨by simp [go_sem, ha, hb], hK _ ?_⟩ | refine ⟨by simp [go_sem, ha, hb], hK _ _ ?_⟩ | refine ⟨by simp [go_sem, ha, hb], by simp [go_sem, ha, hb], hK _ _ ?_⟩))
           | (refine ⟨_, f25 b r (by omega), ?_⟩; (first | refine hK _ ?_ | refine hK _ _ ?_ | refine ⟨by simp [go_sem, ha, hb], hK _ ?_⟩ | refine ⟨by simp [go_sem, ha, hb], hK _ _ ?_⟩ | refine ⟨by simp [go_sem, ha, hb], by simp [go_sem, ha, hb], hK _ _ ?_⟩))
           | (refine .inl ⟨_, f25 b r (by omega), ?_⟩; (first | refine hK _ ?_ | refine hK _ _ ?_ | refine ⟨by simp [go_sem, ha, hb], hK _ ?_⟩ | refine ⟨by simp [go_sem, ha, hb], hK _ _ ?_⟩ | refine ⟨by simp [go_sem, ha, hb], by simp [go_sem, ha, hb], hK _ _ ?_⟩))
           | (refine .inr ⟨_, f25 b r (by omega), ?_⟩; (first | refine hK _ ?_ | refine hK _ _ ?_ | refine ⟨by simp [go_sem, ha, hb], hK _ ?_⟩ | refine ⟨by simp [go_sem, ha, hb], hK _ _ ?_⟩ | refine ⟨by simp [go_sem, ha, hb], by simp [go_sem, ha, hb], hK _ _ ?_⟩))
           | (refine ⟨_, ⟨f25 b r (by omega), by simp [go_sem, ha, hb]⟩, ?_⟩; (first | refine hK _ ?_ | refine hK _ _ ?_ | refine ⟨by simp [go_sem, ha, hb], hK _ ?_⟩ | refine ⟨by simp [go_sem, ha, hb], hK _ _ ?_⟩ | refine ⟨by simp [go_sem, ha, hb], by simp [go_sem, ha, hb], hK _ _ ?_⟩))
           | (refine ⟨_, fun _ => f25 b r (by omega), ?_⟩; (first | refine hK _ ?_ | refine hK _ _ ?_ | refine ⟨by simp [go_sem, ha, hb], hK _ ?_⟩ | refine ⟨by simp [go_sem, ha, hb], hK _ _ ?_⟩ | refine ⟨by simp [go_sem, ha, hb], by simp [go_sem, ha, hb], hK _ _ ?_⟩))
           | (refine ⟨_, fun hc => ⟨hc, f25 b r (by omega)⟩, ?_⟩; (first | refine hK _ ?_ | refine hK _ _ ?_ | refine ⟨by simp [go_sem, ha, hb], hK _ ?_⟩ | refine ⟨by simp [go_sem, ha, hb], hK _ _ ?_⟩ | refine ⟨by simp [go_sem, ha, hb], by simp [go_sem, ha, hb], hK _ _ ?_⟩))
           | (refine ⟨_, fun hc => ⟨f25 b r (by omega), by simp [go_sem, ha, hb]⟩, ?_⟩; (first | refine hK _ ?_ | refine hK _ _ ?_ | refine ⟨by simp [go_sem, ha, hb], hK _ ?_⟩ | refine ⟨by simp [go_sem, ha, hb], hK _ _ ?_⟩ | refine ⟨by simp [go_sem, ha, hb], by simp [go_sem, ha, hb], hK _ _ ?_⟩))
           | (refine ⟨_, fun hc => ⟨hc, f25 b r (by omega), by simp [go_sem, ha, hb]⟩, ?_⟩; (first | refine hK _ ?_ | refine hK _ _ ?_ | refine ⟨by simp [go_sem, ha, hb], hK _ ?_⟩ | refine ⟨by simp [go_sem, ha, hb], hK _ _ ?_⟩ | refine ⟨by simp [go_sem, ha, hb], by simp [go_sem, ha, hb], hK _ _ ?_⟩))
           | (refine ⟨_, h19, ?_⟩; (first | refine hK _ ?_ | refine hK _ _ ?_ | refine ⟨by simp [go_sem, ha, hb], hK _ ?_⟩ | refine ⟨by simp [go_sem, ha, hb], hK _ _ ?_⟩ | refine ⟨by simp [go_sem, ha, hb], by simp [go_sem, ha, hb], hK _ _ ?_⟩))
           | (refine .inl ⟨_, h19, ?_⟩; (first | refine hK _ ?_ | refine hK _ _ ?_ | refine ⟨by simp [go_sem, ha, hb], hK _ ?_⟩ | refine ⟨by simp [go_sem, ha, hb], hK _ _ ?_⟩ | refine ⟨by simp [go_sem, ha, hb], by simp [go_sem, ha, hb], hK _ _ ?_⟩))
           | (refine .inr ⟨_, h19, ?_⟩; (first | refine hK _ ?_ | refine hK _ _ ?_ | refine ⟨by simp [go_sem, ha, hb], hK _ ?_⟩ | refine ⟨by simp [go_sem, ha, hb], hK _ _ ?_⟩ | refine ⟨by simp [go_sem, ha, hb], by simp [go_sem, ha, hb], hK _ _ ?_⟩))
           | (refine ⟨_, ⟨h19, by simp [go_sem, ha, hb]⟩, ?_⟩; (first | refine hK _ ?_ | refine hK _ _ ?_ | refine ⟨by simp [go_sem, ha, hb], hK _ ?_⟩ | refine ⟨by simp [go_sem, ha, hb], hK _ _ ?_⟩ | refine ⟨by simp [go_sem, ha, hb], by simp [go_sem, ha, hb], hK _ _ ?_⟩))
           | (refine ⟨_, fun _ => h19, ?_⟩; (first | refine hK _ ?_ | refine hK _ _ ?_ | refine ⟨by simp [go_sem, ha, hb], hK _ ?_⟩ | refine ⟨by simp [go_sem, ha, hb], hK _ _ ?_⟩ | refine ⟨by simp [go_sem, ha, hb], by simp [go_sem, ha, hb], hK _ _ ?_⟩))
           | (refine ⟨_, fun hc => ⟨hc, h19⟩, ?_⟩; (first | refine hK _ ?_ | refine hK _ _ ?_ | refine ⟨by simp [go_sem, ha, hb], hK _ ?_⟩ | refine ⟨by simp [go_sem, ha, hb], hK _ _ ?_⟩ | refine ⟨by simp [go_sem, ha, hb], by simp [go_sem, ha, hb], hK _ _ ?_⟩))
           | (refine ⟨_, fun hc => ⟨h19, by simp [go_sem, ha, hb]⟩, ?_⟩; (first | refine hK _ ?_ | refine hK _ _ ?_ | refine ⟨by simp [go_sem, ha, hb], hK _ ?_⟩ | refine ⟨by simp [go_sem, ha, hb], hK _ _ ?_⟩ | refine ⟨by simp [go_sem, ha, hb], by simp [go_sem, ha, hb], hK _ _ ?_⟩))
           | (refine ⟨_, fun hc => ⟨hc, h19, by simp [go_sem, ha, hb]⟩, ?_⟩; (first | refine hK _ ?_ | refine hK _ _ ?_ | refine ⟨by simp [go_sem, ha, hb], hK _ ?_⟩ | refine ⟨by simp [go_sem, ha, hb], hK _ _ ?_⟩ | refine ⟨by simp [go_sem, ha, hb], by simp [go_sem, ha, hb], hK _ _ ?_⟩))
           | refine ⟨.one (.one (.bool false)), by simp [go_sem, ha, hb], hK _ _ ?_⟩
           | refine ⟨by (first | (simp [appendOk, flatEls, ha, hb, maxLen, DV.flat]; done) | (simp [appendOk, flatEls, ha, hb, maxLen, DV.flat]; omega)), hK _ ?_⟩
           | refine ⟨hK _ ?_, fun h => hK _ ?_⟩
           | refine ⟨by omega, hK _ ?_⟩
           | refine ⟨by omega, hK _ _ ?_⟩
           | refine ⟨?_, hK _ ?_⟩
           | refine ⟨?_, hK _ _ ?_⟩
         all_goals clear hK K)
    · exact okI_of ex_enc (by simp; omega)
    · exact okI_of ex_enc (by simp; omega)
    · exact okE_of ex_enc (by simp; omega)
    · exact okE_of ex_enc (by simp; omega)
    · simp [go_sem]
  · simp only [c7, slotsOf]
    repeat' first
      | with_reducible first | refine awp_seq ?_ | refine awp_reg ?_ | refine awp_block ?_ | refine awp_ret ?_ | refine awp_exit ?_ | refine awp_skip ?_ | refine awp_scp ?_ | refine scpQ_normal ?_ | refine scpQ_ret ?_ | refine scpQ_exit ?_ | refine seqQ_normal ?_ | refine seqQ_ret ?_ | refine seqQ_exit ?_ | refine blockQ_normal ?_ | refine blockQ_ret ?_ | refine blockQ_same ?_ | refine blockQ_other (by decide) ?_ | refine loopQ_ret ?_ | refine loopQ_exit ?_ | refine arun_nil ?_ | refine arunA_nil ?_ | refine arunB_nil ?_ | refine drwQ_intro ?_ | refine deadQ_nil ?_
      | ((with_reducible refine awp_cond2 (t := ?_) ?hc (fun h => ?_) (fun h => ?_))
         case hc => rfl
         all_goals (try simp [go_sem] at h)
         all_goals try omega)
      | ((with_reducible first | refine arun_cons fun K hK => ?_ | refine arunA_cons fun K hK => ?_ | refine arunB_cons fun K hK => ?_ | refine awp_drw fun K hK => ?_ | refine deadQ_some fun K hK => ?_ | refine pruneQ_intro fun K hK => ?_)
         simp [go_sem]
         try simp (disch := omega) only [wrap_i64, okRefs, eq_self, true_and]
         first
           | refine hK _ ?_
           | refine hK _ _ ?_
           | (refine ⟨_, f11, ?_⟩; (first | refine hK _ ?_ | refine hK _ _ ?_ | refine ⟨by simp [go_sem], hK _ ?_⟩ | refine ⟨by simp [go_sem], hK _ _ ?_⟩ | refine ⟨by simp [go_sem], by simp [go_sem], hK _ _ ?_⟩))
           | (refine .inl ⟨_, f11, ?_⟩; (first | refine hK _ ?_ | refine hK _ _ ?_ | refine ⟨by simp [go_sem], hK _ ?_⟩ | refine ⟨by simp [go_sem], hK _ _ ?_⟩ | refine ⟨by simp [go_sem], by simp [go_sem], hK _ _ ?_⟩))
           | (refine .inr ⟨_, f11, ?_⟩; (first | refine hK _ ?_ | refine hK _ _ ?_ | refine ⟨by simp [go_sem], hK _ ?_⟩ | refine ⟨by simp [go_sem], hK _ _ ?_⟩ | refine ⟨by simp [go_sem], by simp [go_sem], hK _ _ ?_⟩))
           | (refine ⟨_, ⟨f11, by simp [go_sem]⟩, ?_⟩; (first | refine hK _ ?_ | refine hK _ _ ?_ | refine ⟨by simp [go_sem], hK _ ?_⟩ | refine ⟨by simp [go_sem], hK _ _ ?_⟩ | refine ⟨by simp [go_sem], by simp [go_sem], hK _ _ ?_⟩))
           | (refine ⟨_, fun _ => f11, ?_⟩; (first | refine hK _ ?_ | refine hK _ _ ?_ | refine ⟨by simp [go_sem], hK _ ?_⟩ | refine ⟨by simp [go_sem], hK _ _ ?_⟩ | refine ⟨by simp [go_sem], by simp [go_sem], hK _ _ ?_⟩))
           | (refine ⟨_, fun hc => ⟨hc, f11⟩, ?_⟩; (first | refine hK _ ?_ | refine hK _ _ ?_ | refine ⟨by simp [go_sem], hK _ ?_⟩ | refine ⟨by simp [go_sem], hK _ _ ?_⟩ | refine ⟨by simp [go_sem], by simp [go_sem], hK _ _ ?_⟩))
           | (refine ⟨_, fun hc => ⟨f11, by simp [go_sem]⟩, ?_⟩; (first | refine hK _ ?_ | refine hK _ _ ?_ | refine ⟨by simp [go_sem], hK _ ?_⟩ | refine ⟨by simp [go_sem], hK _ _ ?_⟩ | refine ⟨by simp [go_sem], by simp [go_sem], hK _ _ ?_⟩))
           | (refine ⟨_, fun hc => ⟨hc, f11, by simp [go_sem]⟩, ?_⟩; (first | refine hK _ ?_ | refine hK _ _ ?_ | refine ⟨by simp [go_sem], hK _ ?_⟩ | refine ⟨by simp [go_sem], hK _ _ ?_⟩ | refine ⟨by simp [go_sem], by simp [go_sem], hK _ _ ?_⟩))
           | refine ⟨.one (.one (.bool false)), by simp [go_sem], hK _ _ ?_⟩
           | refine ⟨by (first | (simp [appendOk, flatEls]; done) | (simp [appendOk, flatEls]; omega)), hK _ ?_⟩
           | refine ⟨hK _ ?_, fun h => hK _ ?_⟩
           | refine ⟨by omega, hK _ ?_⟩
           | refine ⟨by omega, hK _ _ ?_⟩
           | refine ⟨?_, hK _ ?_⟩
           | refine ⟨?_, hK _ _ ?_⟩
         all_goals clear hK K)
    · simp [go_sem]
end Go.Av
