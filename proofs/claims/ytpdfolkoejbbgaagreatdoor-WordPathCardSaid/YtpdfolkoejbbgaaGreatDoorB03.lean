/- Part of a proof by symbolic walks on plain data. -/
import Derived.Test.YtpdfolkoejbbgaaGreatDoorB02
set_option linter.unusedVariables false
set_option linter.unusedSimpArgs false
set_option maxHeartbeats 4000000
namespace Go.Av
open Go Go.RowKit Go.Proofs
set_option maxRecDepth 8000
theorem f86 (l : List Dcl) (g : FuncId) (caps : List DV) (p : Dcl → Bool) (hl : l.length ≤ 1000000) (hg : ∀ x ∈ l, Impl Tryz.prog g (.ag (encD x) :: caps.map .one) (.one (.one (.bool (p x))))) :
    Impl Tryz.prog 86 [.one (.sl (l.map encD)), .one (.fn g caps)] (.one (.one (.int .i64 (firstB p l)))) := by
  refine impl_z Tryz.func86 z86 Tryz.ntmps86 (by simp) ?_
  simp only [c86, slotsOf]
  repeat' first | (with_reducible first | refine zA ?_ | refine zB ?_ | refine zC ?_ | refine zD ?_ | refine zE ?_ | refine zF ?_ | refine zK ?_ | refine zL ?_ | refine zM ?_ | refine zN ?_ | refine zO ?_ | refine zP ?_ | refine zQ (by decide) ?_ | refine zR ?_ | refine zS ?_ | refine zT ?_ | refine zX ?_) | ((with_reducible refine zY (t := ?_) ?hc (fun h => ?_) (fun h => ?_)); (case hc => rfl); all_goals (try simp [go_sem] at h); all_goals try omega) | ((with_reducible first | refine zZ ?_ | refine zd ?_ | refine ze ?_); intro K hK; simp [go_sem]; (try simp (disch := omega) only [wrap_i64, okRefs, eq_self, true_and]); (first | apply hK | refine ⟨by first | omega | (simp [appendOk, flatEls]; first | done | omega), ?_⟩ | refine ⟨hK _ ?_, fun h => ?_⟩ | refine ⟨?_, ?_⟩); all_goals ((try apply hK); clear hK K))
  refine awp_loop (fun n e => ∃ k : Nat, k + n = l.length ∧ (l.take k).any p = false ∧ e = [(8, .sv (.one (.int .i64 k))), (7, .sv (.one (.int .i64 l.length))), (1, .sv (.one (.fn g caps))), (0, .sv (.one (.sl (l.map encD))))]) l.length _ ⟨0, by simp, by simp, rfl⟩ (by simp [go_sem]) ?_
  rintro n e ⟨k, hk, h0, rfl⟩
  by_cases hlt : k < l.length
  · have hgs := hg l[k] (List.getElem_mem hlt)
    simp only [encD] at hgs
    cases hx : p l[k] with
    | true =>
      have hf := firstB_at hlt h0 hx
      rw [hx] at hgs
      repeat' first | (with_reducible first | refine zA ?_ | refine zB ?_ | refine zC ?_ | refine zD ?_ | refine zE ?_ | refine zF ?_ | refine zK ?_ | refine zL ?_ | refine zM ?_ | refine zN ?_ | refine zO ?_ | refine zP ?_ | refine zQ (by decide) ?_ | refine zR ?_ | refine zS ?_ | refine zT ?_ | refine zX ?_) | ((with_reducible refine zY (t := ?_) ?hc (fun h => ?_) (fun h => ?_)); (case hc => rfl); all_goals (try simp [go_sem, hlt, encD] at h); all_goals try omega) | ((with_reducible first | refine zZ ?_ | refine zd ?_ | refine ze ?_); intro K hK; simp [go_sem, hlt, encD]; (try simp (disch := omega) only [wrap_i64, okRefs, eq_self, true_and]); (first | apply hK | ((first | ((try refine .inl ?_); refine ⟨_, by (try intro hc); (repeat' first | exact hgs | exact hc | with_reducible refine And.intro ?_ ?_ | simp [go_sem, hlt, encD]); first | done | omega, ?_⟩) | refine .inr ⟨_, by (try intro hc); (repeat' first | exact hgs | exact hc | with_reducible refine And.intro ?_ ?_ | simp [go_sem, hlt, encD]); first | done | omega, ?_⟩); (first | refine hK _ ?_ | refine hK _ _ ?_ | (refine ⟨by simp [go_sem, hlt, encD], ?_⟩; first | refine hK _ ?_ | refine hK _ _ ?_ | refine ⟨by simp [go_sem, hlt, encD], hK _ _ ?_⟩))) | refine ⟨.one (.one (.bool false)), by simp [go_sem, hlt, encD], hK _ _ ?_⟩ | refine ⟨by first | omega | (simp [appendOk, flatEls, hlt, encD]; first | done | omega), ?_⟩ | refine ⟨hK _ ?_, fun h => ?_⟩ | refine ⟨?_, ?_⟩); all_goals ((try apply hK); clear hK K))
      simp [go_sem, hf]
    | false =>
      rw [hx] at hgs
      repeat' first | (with_reducible first | refine zA ?_ | refine zB ?_ | refine zC ?_ | refine zD ?_ | refine zE ?_ | refine zF ?_ | refine zK ?_ | refine zL ?_ | refine zM ?_ | refine zN ?_ | refine zO ?_ | refine zP ?_ | refine zQ (by decide) ?_ | refine zR ?_ | refine zS ?_ | refine zT ?_ | refine zX ?_) | ((with_reducible refine zY (t := ?_) ?hc (fun h => ?_) (fun h => ?_)); (case hc => rfl); all_goals (try simp [go_sem, hlt, encD] at h); all_goals try omega) | ((with_reducible first | refine zZ ?_ | refine zd ?_ | refine ze ?_); intro K hK; simp [go_sem, hlt, encD]; (try simp (disch := omega) only [wrap_i64, okRefs, eq_self, true_and]); (first | apply hK | ((first | ((try refine .inl ?_); refine ⟨_, by (try intro hc); (repeat' first | exact hgs | exact hc | with_reducible refine And.intro ?_ ?_ | simp [go_sem, hlt, encD]); first | done | omega, ?_⟩) | refine .inr ⟨_, by (try intro hc); (repeat' first | exact hgs | exact hc | with_reducible refine And.intro ?_ ?_ | simp [go_sem, hlt, encD]); first | done | omega, ?_⟩); (first | refine hK _ ?_ | refine hK _ _ ?_ | (refine ⟨by simp [go_sem, hlt, encD], ?_⟩; first | refine hK _ ?_ | refine hK _ _ ?_ | refine ⟨by simp [go_sem, hlt, encD], hK _ _ ?_⟩))) | refine ⟨.one (.one (.bool false)), by simp [go_sem, hlt, encD], hK _ _ ?_⟩ | refine ⟨by first | omega | (simp [appendOk, flatEls, hlt, encD]; first | done | omega), ?_⟩ | refine ⟨hK _ ?_, fun h => ?_⟩ | refine ⟨?_, ?_⟩); all_goals ((try apply hK); clear hK K))
      refine loopQ_normal (n - 1) _ (by omega) ⟨k + 1, by omega, ?_, rfl⟩ ?_
      · rw [any_succ hlt, h0, hx]; rfl
      · simp [go_sem]
  · have hkl : l.take k = l := List.take_of_length_le (by omega)
    rw [hkl] at h0
    have hf := firstB_none h0
    repeat' first | (with_reducible first | refine zA ?_ | refine zB ?_ | refine zC ?_ | refine zD ?_ | refine zE ?_ | refine zF ?_ | refine zK ?_ | refine zL ?_ | refine zM ?_ | refine zN ?_ | refine zO ?_ | refine zP ?_ | refine zQ (by decide) ?_ | refine zR ?_ | refine zS ?_ | refine zT ?_ | refine zX ?_) | ((with_reducible refine zY (t := ?_) ?hc (fun h => ?_) (fun h => ?_)); (case hc => rfl); all_goals (try simp [go_sem, hlt] at h); all_goals try omega) | ((with_reducible first | refine zZ ?_ | refine zd ?_ | refine ze ?_); intro K hK; simp [go_sem, hlt]; (try simp (disch := omega) only [wrap_i64, okRefs, eq_self, true_and]); (first | apply hK | refine ⟨by first | omega | (simp [appendOk, flatEls, hlt]; first | done | omega), ?_⟩ | refine ⟨hK _ ?_, fun h => ?_⟩ | refine ⟨?_, ?_⟩); all_goals ((try apply hK); clear hK K))
    simp [go_sem, hf]
theorem f135 (l : List Dcl) (g : FuncId) (caps : List DV) (p : Dcl → Bool) (hl : l.length ≤ 1000000) (hg : ∀ x ∈ l, Impl Tryz.prog g (.ag (encD x) :: caps.map .one) (.one (.one (.bool (p x))))) :
    Impl Tryz.prog 135 [.one (.sl (l.map encD)), .one (.fn g caps)] (.one (.one (.bool (l.any p)))) := by
  refine impl_z Tryz.func135 z135 Tryz.ntmps135 (by simp) ?_
  simp only [c135, slotsOf]
  have hf := firstB_any p l
  repeat' first | (with_reducible first | refine zA ?_ | refine zB ?_ | refine zD ?_ | refine zF ?_ | refine zK ?_ | refine zL ?_ | refine zT ?_ | refine zX ?_) | ((with_reducible refine zY (t := ?_) ?hc (fun h => ?_) (fun h => ?_)); (case hc => rfl); all_goals (try simp [go_sem] at h); all_goals try omega) | ((with_reducible first | refine zZ ?_ | refine zd ?_ | refine ze ?_); intro K hK; simp [go_sem]; (try simp (disch := omega) only [wrap_i64, okRefs, eq_self, true_and]); (first | apply hK | ((first | ((try refine .inl ?_); refine ⟨_, by (try intro hc); (repeat' first | exact f86 l g caps p hl hg | exact hc | with_reducible refine And.intro ?_ ?_ | simp [go_sem]); first | done | omega, ?_⟩) | refine .inr ⟨_, by (try intro hc); (repeat' first | exact f86 l g caps p hl hg | exact hc | with_reducible refine And.intro ?_ ?_ | simp [go_sem]); first | done | omega, ?_⟩); (first | refine hK _ ?_ | refine hK _ _ ?_ | (refine ⟨by simp [go_sem], ?_⟩; first | refine hK _ ?_ | refine hK _ _ ?_ | refine ⟨by simp [go_sem], hK _ _ ?_⟩))) | refine ⟨.one (.one (.bool false)), by simp [go_sem], hK _ _ ?_⟩ | refine ⟨by first | omega | (simp [appendOk, flatEls]; first | done | omega), ?_⟩ | refine ⟨hK _ ?_, fun h => ?_⟩ | refine ⟨?_, ?_⟩); all_goals ((try apply hK); clear hK K))
  simp [go_sem, hf]
theorem f136 (x d : Dcl) : Impl Tryz.prog 136 [.ag (encD x), .one (.rf (encD d))] (.one (.one (.bool (x.name == d.name)))) := by
  refine impl_z Tryz.func136 z136 Tryz.ntmps136 (by simp) ?_
  simp only [c136, slotsOf]
  repeat' first | (with_reducible first | refine zA ?_ | refine zB ?_ | refine zD ?_ | refine zF ?_ | refine zK ?_ | refine zL ?_ | refine zT ?_ | refine zX ?_) | ((with_reducible refine zY (t := ?_) ?hc (fun h => ?_) (fun h => ?_)); (case hc => rfl); all_goals (try simp [go_sem, encD] at h); all_goals try omega) | ((with_reducible first | refine zZ ?_ | refine zd ?_ | refine ze ?_); intro K hK; simp [go_sem, encD]; (try simp (disch := omega) only [wrap_i64, okRefs, eq_self, true_and]); (first | apply hK | refine ⟨by first | omega | (simp [appendOk, flatEls, encD]; first | done | omega), ?_⟩ | refine ⟨hK _ ?_, fun h => ?_⟩ | refine ⟨?_, ?_⟩); all_goals ((try apply hK); clear hK K))
  simp [go_sem]
theorem f150 (l : List Fld) (g : FuncId) (caps : List DV) (p : Fld → Bool) (hl : l.length ≤ 1000000) (hg : ∀ x ∈ l, Impl Tryz.prog g (.ag (encF x) :: caps.map .one) (.one (.one (.bool (p x))))) :
    Impl Tryz.prog 150 [.one (.sl (l.map encF)), .one (.fn g caps)] (.one (.one (.int .i64 (firstB p l)))) := by
  refine impl_z Tryz.func150 z150 Tryz.ntmps150 (by simp) ?_
  simp only [c150, slotsOf]
  repeat' first | (with_reducible first | refine zA ?_ | refine zB ?_ | refine zC ?_ | refine zD ?_ | refine zE ?_ | refine zF ?_ | refine zK ?_ | refine zL ?_ | refine zM ?_ | refine zN ?_ | refine zO ?_ | refine zP ?_ | refine zQ (by decide) ?_ | refine zR ?_ | refine zS ?_ | refine zT ?_ | refine zX ?_) | ((with_reducible refine zY (t := ?_) ?hc (fun h => ?_) (fun h => ?_)); (case hc => rfl); all_goals (try simp [go_sem] at h); all_goals try omega) | ((with_reducible first | refine zZ ?_ | refine zd ?_ | refine ze ?_); intro K hK; simp [go_sem]; (try simp (disch := omega) only [wrap_i64, okRefs, eq_self, true_and]); (first | apply hK | refine ⟨by first | omega | (simp [appendOk, flatEls]; first | done | omega), ?_⟩ | refine ⟨hK _ ?_, fun h => ?_⟩ | refine ⟨?_, ?_⟩); all_goals ((try apply hK); clear hK K))
  refine awp_loop (fun n e => ∃ k : Nat, k + n = l.length ∧ (l.take k).any p = false ∧ e = [(8, .sv (.one (.int .i64 k))), (7, .sv (.one (.int .i64 l.length))), (1, .sv (.one (.fn g caps))), (0, .sv (.one (.sl (l.map encF))))]) l.length _ ⟨0, by simp, by simp, rfl⟩ (by simp [go_sem]) ?_
  rintro n e ⟨k, hk, h0, rfl⟩
  by_cases hlt : k < l.length
  · have hgs := hg l[k] (List.getElem_mem hlt)
    simp only [encF] at hgs
    cases hx : p l[k] with
    | true =>
      have hf := firstB_at hlt h0 hx
      rw [hx] at hgs
      repeat' first | (with_reducible first | refine zA ?_ | refine zB ?_ | refine zC ?_ | refine zD ?_ | refine zE ?_ | refine zF ?_ | refine zK ?_ | refine zL ?_ | refine zM ?_ | refine zN ?_ | refine zO ?_ | refine zP ?_ | refine zQ (by decide) ?_ | refine zR ?_ | refine zS ?_ | refine zT ?_ | refine zX ?_) | ((with_reducible refine zY (t := ?_) ?hc (fun h => ?_) (fun h => ?_)); (case hc => rfl); all_goals (try simp [go_sem, hlt, encF] at h); all_goals try omega) | ((with_reducible first | refine zZ ?_ | refine zd ?_ | refine ze ?_); intro K hK; simp [go_sem, hlt, encF]; (try simp (disch := omega) only [wrap_i64, okRefs, eq_self, true_and]); (first | apply hK | ((first | ((try refine .inl ?_); refine ⟨_, by (try intro hc); (repeat' first | exact hgs | exact hc | with_reducible refine And.intro ?_ ?_ | simp [go_sem, hlt, encF]); first | done | omega, ?_⟩) | refine .inr ⟨_, by (try intro hc); (repeat' first | exact hgs | exact hc | with_reducible refine And.intro ?_ ?_ | simp [go_sem, hlt, encF]); first | done | omega, ?_⟩); (first | refine hK _ ?_ | refine hK _ _ ?_ | (refine ⟨by simp [go_sem, hlt, encF], ?_⟩; first | refine hK _ ?_ | refine hK _ _ ?_ | refine ⟨by simp [go_sem, hlt, encF], hK _ _ ?_⟩))) | refine ⟨.one (.one (.bool false)), by simp [go_sem, hlt, encF], hK _ _ ?_⟩ | refine ⟨by first | omega | (simp [appendOk, flatEls, hlt, encF]; first | done | omega), ?_⟩ | refine ⟨hK _ ?_, fun h => ?_⟩ | refine ⟨?_, ?_⟩); all_goals ((try apply hK); clear hK K))
      simp [go_sem, hf]
    | false =>
      rw [hx] at hgs
      repeat' first | (with_reducible first | refine zA ?_ | refine zB ?_ | refine zC ?_ | refine zD ?_ | refine zE ?_ | refine zF ?_ | refine zK ?_ | refine zL ?_ | refine zM ?_ | refine zN ?_ | refine zO ?_ | refine zP ?_ | refine zQ (by decide) ?_ | refine zR ?_ | refine zS ?_ | refine zT ?_ | refine zX ?_) | ((with_reducible refine zY (t := ?_) ?hc (fun h => ?_) (fun h => ?_)); (case hc => rfl); all_goals (try simp [go_sem, hlt, encF] at h); all_goals try omega) | ((with_reducible first | refine zZ ?_ | refine zd ?_ | refine ze ?_); intro K hK; simp [go_sem, hlt, encF]; (try simp (disch := omega) only [wrap_i64, okRefs, eq_self, true_and]); (first | apply hK | ((first | ((try refine .inl ?_); refine ⟨_, by (try intro hc); (repeat' first | exact hgs | exact hc | with_reducible refine And.intro ?_ ?_ | simp [go_sem, hlt, encF]); first | done | omega, ?_⟩) | refine .inr ⟨_, by (try intro hc); (repeat' first | exact hgs | exact hc | with_reducible refine And.intro ?_ ?_ | simp [go_sem, hlt, encF]); first | done | omega, ?_⟩); (first | refine hK _ ?_ | refine hK _ _ ?_ | (refine ⟨by simp [go_sem, hlt, encF], ?_⟩; first | refine hK _ ?_ | refine hK _ _ ?_ | refine ⟨by simp [go_sem, hlt, encF], hK _ _ ?_⟩))) | refine ⟨.one (.one (.bool false)), by simp [go_sem, hlt, encF], hK _ _ ?_⟩ | refine ⟨by first | omega | (simp [appendOk, flatEls, hlt, encF]; first | done | omega), ?_⟩ | refine ⟨hK _ ?_, fun h => ?_⟩ | refine ⟨?_, ?_⟩); all_goals ((try apply hK); clear hK K))
      refine loopQ_normal (n - 1) _ (by omega) ⟨k + 1, by omega, ?_, rfl⟩ ?_
      · rw [any_succ hlt, h0, hx]; rfl
      · simp [go_sem]
  · have hkl : l.take k = l := List.take_of_length_le (by omega)
    rw [hkl] at h0
    have hf := firstB_none h0
    repeat' first | (with_reducible first | refine zA ?_ | refine zB ?_ | refine zC ?_ | refine zD ?_ | refine zE ?_ | refine zF ?_ | refine zK ?_ | refine zL ?_ | refine zM ?_ | refine zN ?_ | refine zO ?_ | refine zP ?_ | refine zQ (by decide) ?_ | refine zR ?_ | refine zS ?_ | refine zT ?_ | refine zX ?_) | ((with_reducible refine zY (t := ?_) ?hc (fun h => ?_) (fun h => ?_)); (case hc => rfl); all_goals (try simp [go_sem, hlt] at h); all_goals try omega) | ((with_reducible first | refine zZ ?_ | refine zd ?_ | refine ze ?_); intro K hK; simp [go_sem, hlt]; (try simp (disch := omega) only [wrap_i64, okRefs, eq_self, true_and]); (first | apply hK | refine ⟨by first | omega | (simp [appendOk, flatEls, hlt]; first | done | omega), ?_⟩ | refine ⟨hK _ ?_, fun h => ?_⟩ | refine ⟨?_, ?_⟩); all_goals ((try apply hK); clear hK K))
    simp [go_sem, hf]
theorem f138 (l : List Fld) (g : FuncId) (caps : List DV) (p : Fld → Bool) (hl : l.length ≤ 1000000) (hg : ∀ x ∈ l, Impl Tryz.prog g (.ag (encF x) :: caps.map .one) (.one (.one (.bool (p x))))) :
    Impl Tryz.prog 138 [.one (.sl (l.map encF)), .one (.fn g caps)] (.one (.one (.bool (l.any p)))) := by
  refine impl_z Tryz.func138 z138 Tryz.ntmps138 (by simp) ?_
  simp only [c138, slotsOf]
  have hf := firstB_any p l
  repeat' first | (with_reducible first | refine zA ?_ | refine zB ?_ | refine zD ?_ | refine zF ?_ | refine zK ?_ | refine zL ?_ | refine zT ?_ | refine zX ?_) | ((with_reducible refine zY (t := ?_) ?hc (fun h => ?_) (fun h => ?_)); (case hc => rfl); all_goals (try simp [go_sem] at h); all_goals try omega) | ((with_reducible first | refine zZ ?_ | refine zd ?_ | refine ze ?_); intro K hK; simp [go_sem]; (try simp (disch := omega) only [wrap_i64, okRefs, eq_self, true_and]); (first | apply hK | ((first | ((try refine .inl ?_); refine ⟨_, by (try intro hc); (repeat' first | exact f150 l g caps p hl hg | exact hc | with_reducible refine And.intro ?_ ?_ | simp [go_sem]); first | done | omega, ?_⟩) | refine .inr ⟨_, by (try intro hc); (repeat' first | exact f150 l g caps p hl hg | exact hc | with_reducible refine And.intro ?_ ?_ | simp [go_sem]); first | done | omega, ?_⟩); (first | refine hK _ ?_ | refine hK _ _ ?_ | (refine ⟨by simp [go_sem], ?_⟩; first | refine hK _ ?_ | refine hK _ _ ?_ | refine ⟨by simp [go_sem], hK _ _ ?_⟩))) | refine ⟨.one (.one (.bool false)), by simp [go_sem], hK _ _ ?_⟩ | refine ⟨by first | omega | (simp [appendOk, flatEls]; first | done | omega), ?_⟩ | refine ⟨hK _ ?_, fun h => ?_⟩ | refine ⟨?_, ?_⟩); all_goals ((try apply hK); clear hK K))
  simp [go_sem, hf]
theorem f139 (x d : Fld) : Impl Tryz.prog 139 [.ag (encF x), .one (.rf (encF d))] (.one (.one (.bool (x.name == d.name)))) := by
  refine impl_z Tryz.func139 z139 Tryz.ntmps139 (by simp) ?_
  simp only [c139, slotsOf]
  repeat' first | (with_reducible first | refine zA ?_ | refine zB ?_ | refine zD ?_ | refine zF ?_ | refine zK ?_ | refine zL ?_ | refine zT ?_ | refine zX ?_) | ((with_reducible refine zY (t := ?_) ?hc (fun h => ?_) (fun h => ?_)); (case hc => rfl); all_goals (try simp [go_sem, encF] at h); all_goals try omega) | ((with_reducible first | refine zZ ?_ | refine zd ?_ | refine ze ?_); intro K hK; simp [go_sem, encF]; (try simp (disch := omega) only [wrap_i64, okRefs, eq_self, true_and]); (first | apply hK | refine ⟨by first | omega | (simp [appendOk, flatEls, encF]; first | done | omega), ?_⟩ | refine ⟨hK _ ?_, fun h => ?_⟩ | refine ⟨?_, ?_⟩); all_goals ((try apply hK); clear hK K))
  simp [go_sem]
end Go.Av
