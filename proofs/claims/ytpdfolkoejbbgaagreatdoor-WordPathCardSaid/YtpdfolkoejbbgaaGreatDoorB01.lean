/- Part of a proof by symbolic walks on plain data. -/
import Derived.Test.YtpdfolkoejbbgaaGreatDoorB00
set_option linter.unusedVariables false
set_option linter.unusedSimpArgs false
set_option maxHeartbeats 4000000
namespace Go.Av
open Go Go.RowKit Go.Proofs
set_option maxRecDepth 8000
theorem f140 (all : List Fld) (d : Dcl) (hl : all.length ≤ 1000000000) : Impl Tryz.prog 140 [.ag [.sl (d.diffs.map encDf), .sl (d.equals.map encEq)], .one (.sl (all.map encF))] (.one (.one (.bool (okGuard all d)))) := by
  refine impl_z Tryz.func140 z140 Tryz.ntmps140 (by simp) ?_
  simp only [c140, slotsOf]
  by_cases hd : d.diffs.length ≤ 20
  · have hd' : ¬ (20 : Int) < (d.diffs.length : Int) := by omega
    by_cases he : d.equals.length ≤ 20
    · have he' : ¬ (20 : Int) < (d.equals.length : Int) := by omega
      repeat' first | (with_reducible first | refine zA ?_ | refine zB ?_ | refine zC ?_ | refine zD ?_ | refine zE ?_ | refine zF ?_ | refine zK ?_ | refine zL ?_ | refine zM ?_ | refine zN ?_ | refine zO ?_ | refine zP ?_ | refine zQ (by decide) ?_ | refine zR ?_ | refine zS ?_ | refine zT ?_ | refine zX ?_) | ((with_reducible refine zY (t := ?_) ?hc (fun h => ?_) (fun h => ?_)); (case hc => rfl); all_goals (try simp [go_sem, hd', he'] at h); all_goals try omega) | ((with_reducible first | refine zZ ?_ | refine zd ?_ | refine ze ?_); intro K hK; simp [go_sem, hd', he']; (try simp (disch := omega) only [wrap_i64, okRefs, eq_self, true_and]); (first | apply hK | refine ⟨by first | omega | (simp [appendOk, flatEls, hd', he']; first | done | omega), ?_⟩ | refine ⟨hK _ ?_, fun h => ?_⟩ | refine ⟨?_, ?_⟩); all_goals ((try apply hK); clear hK K))
      refine awp_loop (fun n e => ∃ k : Nat, k + n = d.diffs.length ∧ (d.diffs.take k).all (okDff all.length) = true ∧ e = [(24, .sv (.one (.int .i64 k))), (23, .sv (.one (.int .i64 d.diffs.length))), (22, .sv (.one (.sl (d.diffs.map encDf)))), (2, .sv (.one (.bx [.sl (d.diffs.map encDf), .sl (d.equals.map encEq)]))), (1, .sv (.one (.sl (all.map encF))))]) d.diffs.length _ ⟨0, by simp, by simp, rfl⟩ (by simp [go_sem]) ?_
      rintro n e ⟨k, hk, hall, rfl⟩
      by_cases hlt : k < d.diffs.length
      · skip
        repeat' first | (with_reducible first | refine zA ?_ | refine zB ?_ | refine zC ?_ | refine zD ?_ | refine zE ?_ | refine zF ?_ | refine zK ?_ | refine zL ?_ | refine zM ?_ | refine zN ?_ | refine zO ?_ | refine zP ?_ | refine zQ (by decide) ?_ | refine zR ?_ | refine zS ?_ | refine zT ?_ | refine zX ?_) | ((with_reducible refine zY (t := ?_) ?hc (fun h => ?_) (fun h => ?_)); (case hc => rfl); all_goals (try simp [go_sem, hlt, encDf] at h); all_goals try omega) | ((with_reducible first | refine zZ ?_ | refine zd ?_ | refine ze ?_); intro K hK; simp [go_sem, hlt, encDf]; (try simp (disch := omega) only [wrap_i64, okRefs, eq_self, true_and]); (first | apply hK | refine ⟨by first | omega | (simp [appendOk, flatEls, hlt, encDf]; first | done | omega), ?_⟩ | refine ⟨hK _ ?_, fun h => ?_⟩ | refine ⟨?_, ?_⟩); all_goals ((try apply hK); clear hK K))
        · have hb : okDff all.length d.diffs[k] = false := by
            cases hb : okDff all.length d.diffs[k] with
            | false => rfl
            | true =>
              simp only [okDff, Bool.and_eq_true, decide_eq_true_eq] at hb
              omega
          have hf : okGuard all d = false := by simp [okGuard, all_no hlt hb]
          simp [go_sem, hf]
        · have hb : okDff all.length d.diffs[k] = true := by
            simp only [okDff, Bool.and_eq_true, decide_eq_true_eq]
            omega
          refine loopQ_normal (n - 1) _ (by omega) ⟨k + 1, by omega, ?_, rfl⟩ ?_
          · rw [all_succ hlt, hall, hb]; rfl
          · simp [go_sem]
      · have hkl : d.diffs.take k = d.diffs := List.take_of_length_le (by omega)
        rw [hkl] at hall
        repeat' first | (with_reducible first | refine zA ?_ | refine zB ?_ | refine zC ?_ | refine zD ?_ | refine zE ?_ | refine zF ?_ | refine zK ?_ | refine zL ?_ | refine zM ?_ | refine zN ?_ | refine zO ?_ | refine zP ?_ | refine zQ (by decide) ?_ | refine zR ?_ | refine zS ?_ | refine zT ?_ | refine zX ?_) | ((with_reducible refine zY (t := ?_) ?hc (fun h => ?_) (fun h => ?_)); (case hc => rfl); all_goals (try simp [go_sem, hlt] at h); all_goals try omega) | ((with_reducible first | refine zZ ?_ | refine zd ?_ | refine ze ?_); intro K hK; simp [go_sem, hlt]; (try simp (disch := omega) only [wrap_i64, okRefs, eq_self, true_and]); (first | apply hK | refine ⟨by first | omega | (simp [appendOk, flatEls, hlt]; first | done | omega), ?_⟩ | refine ⟨hK _ ?_, fun h => ?_⟩ | refine ⟨?_, ?_⟩); all_goals ((try apply hK); clear hK K))
        refine awp_loop (fun n e => ∃ k : Nat, k + n = d.equals.length ∧ (d.equals.take k).all (fun e => isText all e.1 && isText all e.2) = true ∧ e = [(58, .sv (.one (.int .i64 k))), (57, .sv (.one (.int .i64 d.equals.length))), (56, .sv (.one (.sl (d.equals.map encEq)))), (1, .sv (.one (.sl (all.map encF))))]) d.equals.length _ ⟨0, by simp, by simp, rfl⟩ (by simp [go_sem]) ?_
        rintro n e ⟨k, hk, hall2, rfl⟩
        by_cases hlt2 : k < d.equals.length
        · have hbad : (isText all d.equals[k].1 && isText all d.equals[k].2) = false → okGuard all d = false := by
            intro h
            have := all_no (p := fun e => isText all e.1 && isText all e.2) hlt2 h
            simp [okGuard, this]
          obtain ⟨y, hy⟩ : ∃ y, y = d.equals[k] := ⟨_, rfl⟩
          rw [← hy] at hbad
          have hy' : d.equals[k] = y := hy.symm
          repeat' first | (with_reducible first | refine zA ?_ | refine zB ?_ | refine zC ?_ | refine zD ?_ | refine zE ?_ | refine zF ?_ | refine zK ?_ | refine zL ?_ | refine zM ?_ | refine zN ?_ | refine zO ?_ | refine zP ?_ | refine zQ (by decide) ?_ | refine zR ?_ | refine zS ?_ | refine zT ?_ | refine zX ?_) | ((with_reducible refine zY (t := ?_) ?hc (fun h => ?_) (fun h => ?_)); (case hc => rfl); all_goals (try simp [go_sem, hlt2, hy', encEq] at h); all_goals try omega) | ((with_reducible first | refine zZ ?_ | refine zd ?_ | refine ze ?_); intro K hK; simp [go_sem, hlt2, hy', encEq]; (try simp (disch := omega) only [wrap_i64, okRefs, eq_self, true_and]); (first | apply hK | refine ⟨by first | omega | (simp [appendOk, flatEls, hlt2, hy', encEq]; first | done | omega), ?_⟩ | refine ⟨hK _ ?_, fun h => ?_⟩ | refine ⟨?_, ?_⟩); all_goals ((try apply hK); clear hK K))
          refine awp_loop (fun q e => ∃ j : Nat, j + q = 2 ∧ ((j = 0 ∨ isText all y.1 = true) ∧ (j ≤ 1 ∨ isText all y.2 = true)) ∧ e = [(63, .sv (.one (.int .i64 j))), (62, .sv (.ag (encEq y))), (58, .sv (.one (.int .i64 k))), (57, .sv (.one (.int .i64 d.equals.length))), (56, .sv (.one (.sl (d.equals.map encEq)))), (1, .sv (.one (.sl (all.map encF))))]) 2 _ ⟨0, rfl, by simp, rfl⟩ (by simp [go_sem, encEq]) ?_
          rintro q e ⟨j, hj, htx, rfl⟩
          have hj3 : j = 0 ∨ j = 1 ∨ j = 2 := by omega
          rcases hj3 with rfl | rfl | rfl
          · by_cases hx0 : y.1 < 0
            · have hit : isText all (y.1) = false := by simp [isText, show ¬ 0 ≤ y.1 by omega]
              have hf : okGuard all d = false := hbad (by simp [hit])
              cases hq : all[(y.1).toNat]? with
              | none =>
                repeat' first | (with_reducible first | refine zA ?_ | refine zB ?_ | refine zC ?_ | refine zD ?_ | refine zE ?_ | refine zF ?_ | refine zK ?_ | refine zL ?_ | refine zM ?_ | refine zN ?_ | refine zO ?_ | refine zP ?_ | refine zQ (by decide) ?_ | refine zR ?_ | refine zS ?_ | refine zT ?_ | refine zX ?_) | ((with_reducible refine zY (t := ?_) ?hc (fun h => ?_) (fun h => ?_)); (case hc => rfl); all_goals (try simp [go_sem, hx0, hq, encEq] at h); all_goals try omega) | ((with_reducible first | refine zZ ?_ | refine zd ?_ | refine ze ?_); intro K hK; simp [go_sem, hx0, hq, encEq]; (try simp (disch := omega) only [wrap_i64, okRefs, eq_self, true_and]); (first | apply hK | refine ⟨by first | omega | (simp [appendOk, flatEls, hx0, hq, encEq]; first | done | omega), ?_⟩ | refine ⟨hK _ ?_, fun h => ?_⟩ | refine ⟨?_, ?_⟩); all_goals ((try apply hK); clear hK K))
                simp [go_sem, hf]
              | some f =>
                repeat' first | (with_reducible first | refine zA ?_ | refine zB ?_ | refine zC ?_ | refine zD ?_ | refine zE ?_ | refine zF ?_ | refine zK ?_ | refine zL ?_ | refine zM ?_ | refine zN ?_ | refine zO ?_ | refine zP ?_ | refine zQ (by decide) ?_ | refine zR ?_ | refine zS ?_ | refine zT ?_ | refine zX ?_) | ((with_reducible refine zY (t := ?_) ?hc (fun h => ?_) (fun h => ?_)); (case hc => rfl); all_goals (try simp [go_sem, hx0, hq, encEq, encF] at h); all_goals try omega) | ((with_reducible first | refine zZ ?_ | refine zd ?_ | refine ze ?_); intro K hK; simp [go_sem, hx0, hq, encEq, encF]; (try simp (disch := omega) only [wrap_i64, okRefs, eq_self, true_and]); (first | apply hK | refine ⟨by first | omega | (simp [appendOk, flatEls, hx0, hq, encEq, encF]; first | done | omega), ?_⟩ | refine ⟨hK _ ?_, fun h => ?_⟩ | refine ⟨?_, ?_⟩); all_goals ((try apply hK); clear hK K))
                simp [go_sem, hf]
            · by_cases hxn : y.1 < all.length
              · have hlt3 : (y.1).toNat < all.length := by omega
                have hq : all[(y.1).toNat]? = some all[(y.1).toNat] := List.getElem?_eq_getElem hlt3
                by_cases hk2 : all[(y.1).toNat].kind = 2
                · have hit : isText all (y.1) = true := by simp [isText, show 0 ≤ y.1 by omega, hxn, hlt3, hk2]
                  have hxn' : ¬ (all.length : Int) ≤ y.1 := by omega
                  repeat' first | (with_reducible first | refine zA ?_ | refine zB ?_ | refine zC ?_ | refine zD ?_ | refine zE ?_ | refine zF ?_ | refine zK ?_ | refine zL ?_ | refine zM ?_ | refine zN ?_ | refine zO ?_ | refine zP ?_ | refine zQ (by decide) ?_ | refine zR ?_ | refine zS ?_ | refine zT ?_ | refine zX ?_) | ((with_reducible refine zY (t := ?_) ?hc (fun h => ?_) (fun h => ?_)); (case hc => rfl); all_goals (try simp [go_sem, hx0, hxn', hlt3, hk2, encEq, encF] at h); all_goals try omega) | ((with_reducible first | refine zZ ?_ | refine zd ?_ | refine ze ?_); intro K hK; simp [go_sem, hx0, hxn', hlt3, hk2, encEq, encF]; (try simp (disch := omega) only [wrap_i64, okRefs, eq_self, true_and]); (first | apply hK | refine ⟨by first | omega | (simp [appendOk, flatEls, hx0, hxn', hlt3, hk2, encEq, encF]; first | done | omega), ?_⟩ | refine ⟨hK _ ?_, fun h => ?_⟩ | refine ⟨?_, ?_⟩); all_goals ((try apply hK); clear hK K))
                  refine loopQ_normal (q - 1) _ (by omega) ⟨0 + 1, by omega, by simp [hit], rfl⟩ ?_
                  simp [go_sem, encEq]
                · have hit : isText all (y.1) = false := by simp [isText, hlt3, hk2]
                  have hf : okGuard all d = false := hbad (by simp [hit])
                  have hxn' : ¬ (all.length : Int) ≤ y.1 := by omega
                  repeat' first | (with_reducible first | refine zA ?_ | refine zB ?_ | refine zC ?_ | refine zD ?_ | refine zE ?_ | refine zF ?_ | refine zK ?_ | refine zL ?_ | refine zM ?_ | refine zN ?_ | refine zO ?_ | refine zP ?_ | refine zQ (by decide) ?_ | refine zR ?_ | refine zS ?_ | refine zT ?_ | refine zX ?_) | ((with_reducible refine zY (t := ?_) ?hc (fun h => ?_) (fun h => ?_)); (case hc => rfl); all_goals (try simp [go_sem, hx0, hxn', hlt3, hk2, encEq, encF] at h); all_goals try omega) | ((with_reducible first | refine zZ ?_ | refine zd ?_ | refine ze ?_); intro K hK; simp [go_sem, hx0, hxn', hlt3, hk2, encEq, encF]; (try simp (disch := omega) only [wrap_i64, okRefs, eq_self, true_and]); (first | apply hK | refine ⟨by first | omega | (simp [appendOk, flatEls, hx0, hxn', hlt3, hk2, encEq, encF]; first | done | omega), ?_⟩ | refine ⟨hK _ ?_, fun h => ?_⟩ | refine ⟨?_, ?_⟩); all_goals ((try apply hK); clear hK K))
                  simp [go_sem, hf]
              · have hit : isText all (y.1) = false := by simp [isText, hxn]
                have hf : okGuard all d = false := hbad (by simp [hit])
                have hxn' : (all.length : Int) ≤ y.1 := by omega
                have hq : all[(y.1).toNat]? = none := List.getElem?_eq_none (by omega)
                repeat' first | (with_reducible first | refine zA ?_ | refine zB ?_ | refine zC ?_ | refine zD ?_ | refine zE ?_ | refine zF ?_ | refine zK ?_ | refine zL ?_ | refine zM ?_ | refine zN ?_ | refine zO ?_ | refine zP ?_ | refine zQ (by decide) ?_ | refine zR ?_ | refine zS ?_ | refine zT ?_ | refine zX ?_) | ((with_reducible refine zY (t := ?_) ?hc (fun h => ?_) (fun h => ?_)); (case hc => rfl); all_goals (try simp [go_sem, hx0, hxn', hq, encEq] at h); all_goals try omega) | ((with_reducible first | refine zZ ?_ | refine zd ?_ | refine ze ?_); intro K hK; simp [go_sem, hx0, hxn', hq, encEq]; (try simp (disch := omega) only [wrap_i64, okRefs, eq_self, true_and]); (first | apply hK | refine ⟨by first | omega | (simp [appendOk, flatEls, hx0, hxn', hq, encEq]; first | done | omega), ?_⟩ | refine ⟨hK _ ?_, fun h => ?_⟩ | refine ⟨?_, ?_⟩); all_goals ((try apply hK); clear hK K))
                simp [go_sem, hf]
          · by_cases hx0 : y.2 < 0
            · have hit : isText all (y.2) = false := by simp [isText, show ¬ 0 ≤ y.2 by omega]
              have hf : okGuard all d = false := hbad (by simp [hit])
              cases hq : all[(y.2).toNat]? with
              | none =>
                repeat' first | (with_reducible first | refine zA ?_ | refine zB ?_ | refine zC ?_ | refine zD ?_ | refine zE ?_ | refine zF ?_ | refine zK ?_ | refine zL ?_ | refine zM ?_ | refine zN ?_ | refine zO ?_ | refine zP ?_ | refine zQ (by decide) ?_ | refine zR ?_ | refine zS ?_ | refine zT ?_ | refine zX ?_) | ((with_reducible refine zY (t := ?_) ?hc (fun h => ?_) (fun h => ?_)); (case hc => rfl); all_goals (try simp [go_sem, hx0, hq, encEq] at h); all_goals try omega) | ((with_reducible first | refine zZ ?_ | refine zd ?_ | refine ze ?_); intro K hK; simp [go_sem, hx0, hq, encEq]; (try simp (disch := omega) only [wrap_i64, okRefs, eq_self, true_and]); (first | apply hK | refine ⟨by first | omega | (simp [appendOk, flatEls, hx0, hq, encEq]; first | done | omega), ?_⟩ | refine ⟨hK _ ?_, fun h => ?_⟩ | refine ⟨?_, ?_⟩); all_goals ((try apply hK); clear hK K))
                simp [go_sem, hf]
              | some f =>
                repeat' first | (with_reducible first | refine zA ?_ | refine zB ?_ | refine zC ?_ | refine zD ?_ | refine zE ?_ | refine zF ?_ | refine zK ?_ | refine zL ?_ | refine zM ?_ | refine zN ?_ | refine zO ?_ | refine zP ?_ | refine zQ (by decide) ?_ | refine zR ?_ | refine zS ?_ | refine zT ?_ | refine zX ?_) | ((with_reducible refine zY (t := ?_) ?hc (fun h => ?_) (fun h => ?_)); (case hc => rfl); all_goals (try simp [go_sem, hx0, hq, encEq, encF] at h); all_goals try omega) | ((with_reducible first | refine zZ ?_ | refine zd ?_ | refine ze ?_); intro K hK; simp [go_sem, hx0, hq, encEq, encF]; (try simp (disch := omega) only [wrap_i64, okRefs, eq_self, true_and]); (first | apply hK | refine ⟨by first | omega | (simp [appendOk, flatEls, hx0, hq, encEq, encF]; first | done | omega), ?_⟩ | refine ⟨hK _ ?_, fun h => ?_⟩ | refine ⟨?_, ?_⟩); all_goals ((try apply hK); clear hK K))
                simp [go_sem, hf]
            · by_cases hxn : y.2 < all.length
              · have hlt3 : (y.2).toNat < all.length := by omega
                have hq : all[(y.2).toNat]? = some all[(y.2).toNat] := List.getElem?_eq_getElem hlt3
                by_cases hk2 : all[(y.2).toNat].kind = 2
                · have hit : isText all (y.2) = true := by simp [isText, show 0 ≤ y.2 by omega, hxn, hlt3, hk2]
                  have hxn' : ¬ (all.length : Int) ≤ y.2 := by omega
                  repeat' first | (with_reducible first | refine zA ?_ | refine zB ?_ | refine zC ?_ | refine zD ?_ | refine zE ?_ | refine zF ?_ | refine zK ?_ | refine zL ?_ | refine zM ?_ | refine zN ?_ | refine zO ?_ | refine zP ?_ | refine zQ (by decide) ?_ | refine zR ?_ | refine zS ?_ | refine zT ?_ | refine zX ?_) | ((with_reducible refine zY (t := ?_) ?hc (fun h => ?_) (fun h => ?_)); (case hc => rfl); all_goals (try simp [go_sem, hx0, hxn', hlt3, hk2, encEq, encF] at h); all_goals try omega) | ((with_reducible first | refine zZ ?_ | refine zd ?_ | refine ze ?_); intro K hK; simp [go_sem, hx0, hxn', hlt3, hk2, encEq, encF]; (try simp (disch := omega) only [wrap_i64, okRefs, eq_self, true_and]); (first | apply hK | refine ⟨by first | omega | (simp [appendOk, flatEls, hx0, hxn', hlt3, hk2, encEq, encF]; first | done | omega), ?_⟩ | refine ⟨hK _ ?_, fun h => ?_⟩ | refine ⟨?_, ?_⟩); all_goals ((try apply hK); clear hK K))
                  refine loopQ_normal (q - 1) _ (by omega) ⟨1 + 1, by omega, by simp only [hit, Bool.and_true] at htx ⊢; simpa using htx, rfl⟩ ?_
                  simp [go_sem, encEq]
                · have hit : isText all (y.2) = false := by simp [isText, hlt3, hk2]
                  have hf : okGuard all d = false := hbad (by simp [hit])
                  have hxn' : ¬ (all.length : Int) ≤ y.2 := by omega
                  repeat' first | (with_reducible first | refine zA ?_ | refine zB ?_ | refine zC ?_ | refine zD ?_ | refine zE ?_ | refine zF ?_ | refine zK ?_ | refine zL ?_ | refine zM ?_ | refine zN ?_ | refine zO ?_ | refine zP ?_ | refine zQ (by decide) ?_ | refine zR ?_ | refine zS ?_ | refine zT ?_ | refine zX ?_) | ((with_reducible refine zY (t := ?_) ?hc (fun h => ?_) (fun h => ?_)); (case hc => rfl); all_goals (try simp [go_sem, hx0, hxn', hlt3, hk2, encEq, encF] at h); all_goals try omega) | ((with_reducible first | refine zZ ?_ | refine zd ?_ | refine ze ?_); intro K hK; simp [go_sem, hx0, hxn', hlt3, hk2, encEq, encF]; (try simp (disch := omega) only [wrap_i64, okRefs, eq_self, true_and]); (first | apply hK | refine ⟨by first | omega | (simp [appendOk, flatEls, hx0, hxn', hlt3, hk2, encEq, encF]; first | done | omega), ?_⟩ | refine ⟨hK _ ?_, fun h => ?_⟩ | refine ⟨?_, ?_⟩); all_goals ((try apply hK); clear hK K))
                  simp [go_sem, hf]
              · have hit : isText all (y.2) = false := by simp [isText, hxn]
                have hf : okGuard all d = false := hbad (by simp [hit])
                have hxn' : (all.length : Int) ≤ y.2 := by omega
                have hq : all[(y.2).toNat]? = none := List.getElem?_eq_none (by omega)
                repeat' first | (with_reducible first | refine zA ?_ | refine zB ?_ | refine zC ?_ | refine zD ?_ | refine zE ?_ | refine zF ?_ | refine zK ?_ | refine zL ?_ | refine zM ?_ | refine zN ?_ | refine zO ?_ | refine zP ?_ | refine zQ (by decide) ?_ | refine zR ?_ | refine zS ?_ | refine zT ?_ | refine zX ?_) | ((with_reducible refine zY (t := ?_) ?hc (fun h => ?_) (fun h => ?_)); (case hc => rfl); all_goals (try simp [go_sem, hx0, hxn', hq, encEq] at h); all_goals try omega) | ((with_reducible first | refine zZ ?_ | refine zd ?_ | refine ze ?_); intro K hK; simp [go_sem, hx0, hxn', hq, encEq]; (try simp (disch := omega) only [wrap_i64, okRefs, eq_self, true_and]); (first | apply hK | refine ⟨by first | omega | (simp [appendOk, flatEls, hx0, hxn', hq, encEq]; first | done | omega), ?_⟩ | refine ⟨hK _ ?_, fun h => ?_⟩ | refine ⟨?_, ?_⟩); all_goals ((try apply hK); clear hK K))
                simp [go_sem, hf]
          · have ht1 : isText all y.1 = true := by simpa using htx.1
            have ht2 : isText all y.2 = true := by simpa using htx.2
            repeat' first | (with_reducible first | refine zA ?_ | refine zB ?_ | refine zC ?_ | refine zD ?_ | refine zE ?_ | refine zF ?_ | refine zK ?_ | refine zL ?_ | refine zM ?_ | refine zN ?_ | refine zO ?_ | refine zP ?_ | refine zQ (by decide) ?_ | refine zR ?_ | refine zS ?_ | refine zT ?_ | refine zX ?_) | ((with_reducible refine zY (t := ?_) ?hc (fun h => ?_) (fun h => ?_)); (case hc => rfl); all_goals (try simp [go_sem] at h); all_goals try omega) | ((with_reducible first | refine zZ ?_ | refine zd ?_ | refine ze ?_); intro K hK; simp [go_sem]; (try simp (disch := omega) only [wrap_i64, okRefs, eq_self, true_and]); (first | apply hK | refine ⟨by first | omega | (simp [appendOk, flatEls]; first | done | omega), ?_⟩ | refine ⟨hK _ ?_, fun h => ?_⟩ | refine ⟨?_, ?_⟩); all_goals ((try apply hK); clear hK K))
            refine loopQ_normal (n - 1) _ (by omega) ⟨k + 1, by omega, ?_, rfl⟩ ?_
            · rw [all_succ hlt2, hall2, ← hy, ht1, ht2]; rfl
            · simp [go_sem]
        · have hkl2 : d.equals.take k = d.equals := List.take_of_length_le (by omega)
          rw [hkl2] at hall2
          repeat' first | (with_reducible first | refine zA ?_ | refine zB ?_ | refine zC ?_ | refine zD ?_ | refine zE ?_ | refine zF ?_ | refine zK ?_ | refine zL ?_ | refine zM ?_ | refine zN ?_ | refine zO ?_ | refine zP ?_ | refine zQ (by decide) ?_ | refine zR ?_ | refine zS ?_ | refine zT ?_ | refine zX ?_) | ((with_reducible refine zY (t := ?_) ?hc (fun h => ?_) (fun h => ?_)); (case hc => rfl); all_goals (try simp [go_sem, hlt2] at h); all_goals try omega) | ((with_reducible first | refine zZ ?_ | refine zd ?_ | refine ze ?_); intro K hK; simp [go_sem, hlt2]; (try simp (disch := omega) only [wrap_i64, okRefs, eq_self, true_and]); (first | apply hK | refine ⟨by first | omega | (simp [appendOk, flatEls, hlt2]; first | done | omega), ?_⟩ | refine ⟨hK _ ?_, fun h => ?_⟩ | refine ⟨?_, ?_⟩); all_goals ((try apply hK); clear hK K))
          simp [go_sem, okGuard, hd, he, hall, hall2]
    · have he' : (20 : Int) < (d.equals.length : Int) := by omega
      repeat' first | (with_reducible first | refine zA ?_ | refine zB ?_ | refine zC ?_ | refine zD ?_ | refine zE ?_ | refine zF ?_ | refine zK ?_ | refine zL ?_ | refine zM ?_ | refine zN ?_ | refine zO ?_ | refine zP ?_ | refine zQ (by decide) ?_ | refine zR ?_ | refine zS ?_ | refine zT ?_ | refine zX ?_) | ((with_reducible refine zY (t := ?_) ?hc (fun h => ?_) (fun h => ?_)); (case hc => rfl); all_goals (try simp [go_sem, hd', he'] at h); all_goals try omega) | ((with_reducible first | refine zZ ?_ | refine zd ?_ | refine ze ?_); intro K hK; simp [go_sem, hd', he']; (try simp (disch := omega) only [wrap_i64, okRefs, eq_self, true_and]); (first | apply hK | refine ⟨by first | omega | (simp [appendOk, flatEls, hd', he']; first | done | omega), ?_⟩ | refine ⟨hK _ ?_, fun h => ?_⟩ | refine ⟨?_, ?_⟩); all_goals ((try apply hK); clear hK K))
      simp [go_sem, okGuard, he]
  · have hd' : (20 : Int) < (d.diffs.length : Int) := by omega
    repeat' first | (with_reducible first | refine zA ?_ | refine zB ?_ | refine zC ?_ | refine zD ?_ | refine zE ?_ | refine zF ?_ | refine zK ?_ | refine zL ?_ | refine zM ?_ | refine zN ?_ | refine zO ?_ | refine zP ?_ | refine zQ (by decide) ?_ | refine zR ?_ | refine zS ?_ | refine zT ?_ | refine zX ?_) | ((with_reducible refine zY (t := ?_) ?hc (fun h => ?_) (fun h => ?_)); (case hc => rfl); all_goals (try simp [go_sem, hd'] at h); all_goals try omega) | ((with_reducible first | refine zZ ?_ | refine zd ?_ | refine ze ?_); intro K hK; simp [go_sem, hd']; (try simp (disch := omega) only [wrap_i64, okRefs, eq_self, true_and]); (first | apply hK | refine ⟨by first | omega | (simp [appendOk, flatEls, hd']; first | done | omega), ?_⟩ | refine ⟨hK _ ?_, fun h => ?_⟩ | refine ⟨?_, ?_⟩); all_goals ((try apply hK); clear hK K))
    simp [go_sem, okGuard, hd]
end Go.Av
