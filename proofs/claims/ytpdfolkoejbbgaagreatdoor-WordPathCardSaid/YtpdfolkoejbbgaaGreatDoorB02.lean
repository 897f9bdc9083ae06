/- Part of a proof by symbolic walks on plain data. -/
import Derived.Test.YtpdfolkoejbbgaaGreatDoorB01
set_option linter.unusedVariables false
set_option linter.unusedSimpArgs false
set_option maxHeartbeats 4000000
namespace Go.Av
open Go Go.RowKit Go.Proofs
set_option maxRecDepth 8000
theorem allF_le {B : Nat} : ∀ (m : List Dcl), (∀ d ∈ m, d.fields.length ≤ B) → (allF m).length ≤ m.length * B
  | [], _ => by simp [allF]
  | d :: m, h => by
    have h1 := allF_le m fun x hx => h x (by simp [hx])
    have h2 := h d (by simp)
    simp only [allF, List.flatMap_cons, List.length_append, List.length_cons, Nat.succ_mul] at h1 ⊢
    omega
theorem allF_take_le {B k : Nat} {l : List Dcl} (hf : ∀ d ∈ l, d.fields.length ≤ B) : (allF (l.take k)).length ≤ k * B :=
  Nat.le_trans (allF_le _ fun d hd => hf d (List.mem_of_mem_take hd)) (Nat.mul_le_mul_right _ (List.length_take_le _ _))
theorem allF_succ {l : List Dcl} {k : Nat} (hlt : k < l.length) : allF (l.take (k + 1)) = allF (l.take k) ++ l[k].fields := by
  unfold allF
  rw [List.take_succ_eq_append_getElem hlt, List.flatMap_append]
  simp
theorem allF_split (l : List Dcl) (k : Nat) : allF l = allF (l.take k) ++ allF (l.drop k) := by
  unfold allF
  rw [← List.flatMap_append, List.take_append_drop]
theorem allF_at {l : List Dcl} {k y : Nat} (hlt : k < l.length) (hy : y < l[k].fields.length) : (allF l)[(allF (l.take k)).length + y]? = some l[k].fields[y] := by
  rw [allF_split l (k + 1), allF_succ hlt, List.append_assoc, List.getElem?_append_right (by omega)]
  rw [List.getElem?_append_left (by omega)]
  have : (allF (l.take k)).length + y - (allF (l.take k)).length = y := by omega
  rw [this, List.getElem?_eq_getElem hy]
theorem f116 (k lo hi : Int) (nm : ByteArray) : Impl Tryz.prog 116 [.ag [.int .i64 k, .int .i64 lo, .int .i64 hi]] (.one (.one (.bool (goodSort ⟨nm, k, lo, hi⟩)))) := by
  refine impl_z Tryz.func116 z116 Tryz.ntmps116 (by simp) ?_
  simp only [c116, slotsOf]
  by_cases h1 : k = 1
  · skip
    repeat' first | (with_reducible first | refine zA ?_ | refine zB ?_ | refine zD ?_ | refine zF ?_ | refine zK ?_ | refine zL ?_ | refine zT ?_ | refine zX ?_) | ((with_reducible refine zY (t := ?_) ?hc (fun h => ?_) (fun h => ?_)); (case hc => rfl); all_goals (try simp [go_sem, h1] at h); all_goals try omega) | ((with_reducible first | refine zZ ?_ | refine zd ?_ | refine ze ?_); intro K hK; simp [go_sem, h1]; (try simp (disch := omega) only [wrap_i64, okRefs, eq_self, true_and]); (first | apply hK | refine ⟨by first | omega | (simp [appendOk, flatEls, h1]; first | done | omega), ?_⟩ | refine ⟨hK _ ?_, fun h => ?_⟩ | refine ⟨?_, ?_⟩); all_goals ((try apply hK); clear hK K))
    simp [go_sem, goodSort, h1]
    rw [Bool.eq_iff_iff]
    simp
    omega
  · by_cases h2 : k = 2
    · skip
      repeat' first | (with_reducible first | refine zA ?_ | refine zB ?_ | refine zD ?_ | refine zF ?_ | refine zK ?_ | refine zL ?_ | refine zT ?_ | refine zX ?_) | ((with_reducible refine zY (t := ?_) ?hc (fun h => ?_) (fun h => ?_)); (case hc => rfl); all_goals (try simp [go_sem, h1, h2] at h); all_goals try omega) | ((with_reducible first | refine zZ ?_ | refine zd ?_ | refine ze ?_); intro K hK; simp [go_sem, h1, h2]; (try simp (disch := omega) only [wrap_i64, okRefs, eq_self, true_and]); (first | apply hK | refine ⟨by first | omega | (simp [appendOk, flatEls, h1, h2]; first | done | omega), ?_⟩ | refine ⟨hK _ ?_, fun h => ?_⟩ | refine ⟨?_, ?_⟩); all_goals ((try apply hK); clear hK K))
      simp [go_sem, goodSort, h1, h2]
      rw [Bool.eq_iff_iff]
      simp
      omega
    · skip
      repeat' first | (with_reducible first | refine zA ?_ | refine zB ?_ | refine zD ?_ | refine zF ?_ | refine zK ?_ | refine zL ?_ | refine zT ?_ | refine zX ?_) | ((with_reducible refine zY (t := ?_) ?hc (fun h => ?_) (fun h => ?_)); (case hc => rfl); all_goals (try simp [go_sem, h1, h2] at h); all_goals try omega) | ((with_reducible first | refine zZ ?_ | refine zd ?_ | refine ze ?_); intro K hK; simp [go_sem, h1, h2]; (try simp (disch := omega) only [wrap_i64, okRefs, eq_self, true_and]); (first | apply hK | refine ⟨by first | omega | (simp [appendOk, flatEls, h1, h2]; first | done | omega), ?_⟩ | refine ⟨hK _ ?_, fun h => ?_⟩ | refine ⟨?_, ?_⟩); all_goals ((try apply hK); clear hK K))
      simp [go_sem, goodSort, h1, h2]
theorem f41 (l : List Dcl) (hl : l.length ≤ 1000) (hf : ∀ d ∈ l, d.fields.length ≤ 100000) : Impl Tryz.prog 41 [.one (.sl (l.map encD))] (.one (.one (.int .i64 ((allF l).length : Nat)))) := by
  refine impl_z Tryz.func41 z41 Tryz.ntmps41 (by simp) ?_
  simp only [c41, slotsOf]
  repeat' first | (with_reducible first | refine zA ?_ | refine zB ?_ | refine zC ?_ | refine zD ?_ | refine zE ?_ | refine zF ?_ | refine zK ?_ | refine zL ?_ | refine zM ?_ | refine zN ?_ | refine zO ?_ | refine zP ?_ | refine zQ (by decide) ?_ | refine zR ?_ | refine zS ?_ | refine zT ?_ | refine zX ?_) | ((with_reducible refine zY (t := ?_) ?hc (fun h => ?_) (fun h => ?_)); (case hc => rfl); all_goals (try simp [go_sem] at h); all_goals try omega) | ((with_reducible first | refine zZ ?_ | refine zd ?_ | refine ze ?_); intro K hK; simp [go_sem]; (try simp (disch := omega) only [wrap_i64, okRefs, eq_self, true_and]); (first | apply hK | refine ⟨by first | omega | (simp [appendOk, flatEls]; first | done | omega), ?_⟩ | refine ⟨hK _ ?_, fun h => ?_⟩ | refine ⟨?_, ?_⟩); all_goals ((try apply hK); clear hK K))
  refine awp_loop (fun n e => ∃ k : Nat, k + n = l.length ∧ e = [(4, .sv (.one (.int .i64 k))), (3, .sv (.one (.int .i64 ((allF (l.take k)).length : Nat)))), (0, .sv (.one (.sl (l.map encD))))]) l.length _ ⟨0, by simp, rfl⟩ (by simp [go_sem, allF]) ?_
  rintro n e ⟨k, hk, rfl⟩
  by_cases hlt : k < l.length
  · have hfk := hf l[k] (List.getElem_mem hlt)
    have hall := allF_take_le (k := k) hf
    repeat' first | (with_reducible first | refine zA ?_ | refine zB ?_ | refine zC ?_ | refine zD ?_ | refine zE ?_ | refine zF ?_ | refine zK ?_ | refine zL ?_ | refine zM ?_ | refine zN ?_ | refine zO ?_ | refine zP ?_ | refine zQ (by decide) ?_ | refine zR ?_ | refine zS ?_ | refine zT ?_ | refine zX ?_) | ((with_reducible refine zY (t := ?_) ?hc (fun h => ?_) (fun h => ?_)); (case hc => rfl); all_goals (try simp [go_sem, hlt, encD] at h); all_goals try omega) | ((with_reducible first | refine zZ ?_ | refine zd ?_ | refine ze ?_); intro K hK; simp [go_sem, hlt, encD]; (try simp (disch := omega) only [wrap_i64, okRefs, eq_self, true_and]); (first | apply hK | refine ⟨by first | omega | (simp [appendOk, flatEls, hlt, encD]; first | done | omega), ?_⟩ | refine ⟨hK _ ?_, fun h => ?_⟩ | refine ⟨?_, ?_⟩); all_goals ((try apply hK); clear hK K))
    refine loopQ_normal (n - 1) _ (by omega) ⟨k + 1, by omega, rfl⟩ ?_
    simp [go_sem, allF_succ hlt]
  · have hkl : l.take k = l := List.take_of_length_le (by omega)
    repeat' first | (with_reducible first | refine zA ?_ | refine zB ?_ | refine zC ?_ | refine zD ?_ | refine zE ?_ | refine zF ?_ | refine zK ?_ | refine zL ?_ | refine zM ?_ | refine zN ?_ | refine zO ?_ | refine zP ?_ | refine zQ (by decide) ?_ | refine zR ?_ | refine zS ?_ | refine zT ?_ | refine zX ?_) | ((with_reducible refine zY (t := ?_) ?hc (fun h => ?_) (fun h => ?_)); (case hc => rfl); all_goals (try simp [go_sem, hlt, hkl] at h); all_goals try omega) | ((with_reducible first | refine zZ ?_ | refine zd ?_ | refine ze ?_); intro K hK; simp [go_sem, hlt, hkl]; (try simp (disch := omega) only [wrap_i64, okRefs, eq_self, true_and]); (first | apply hK | refine ⟨by first | omega | (simp [appendOk, flatEls, hlt, hkl]; first | done | omega), ?_⟩ | refine ⟨hK _ ?_, fun h => ?_⟩ | refine ⟨?_, ?_⟩); all_goals ((try apply hK); clear hK K))
    simp [go_sem]
theorem f144 (l : List Dcl) (x : Nat) (hl : l.length ≤ 1000) (hf : ∀ d ∈ l, d.fields.length ≤ 100000) (hx : x < (allF l).length) : Impl Tryz.prog 144 [.one (.sl (l.map encD)), .one (.int .i64 x)] (.one (.ag (encF (allF l)[x]))) := by
  refine impl_z Tryz.func144 z144 Tryz.ntmps144 (by simp) ?_
  simp only [c144, slotsOf]
  have hxl := allF_le l hf
  repeat' first | (with_reducible first | refine zA ?_ | refine zB ?_ | refine zC ?_ | refine zD ?_ | refine zE ?_ | refine zF ?_ | refine zK ?_ | refine zL ?_ | refine zM ?_ | refine zN ?_ | refine zO ?_ | refine zP ?_ | refine zQ (by decide) ?_ | refine zR ?_ | refine zS ?_ | refine zT ?_ | refine zX ?_) | ((with_reducible refine zY (t := ?_) ?hc (fun h => ?_) (fun h => ?_)); (case hc => rfl); all_goals (try simp [go_sem] at h); all_goals try omega) | ((with_reducible first | refine zZ ?_ | refine zd ?_ | refine ze ?_); intro K hK; simp [go_sem]; (try simp (disch := omega) only [wrap_i64, okRefs, eq_self, true_and]); (first | apply hK | refine ⟨by first | omega | (simp [appendOk, flatEls]; first | done | omega), ?_⟩ | refine ⟨hK _ ?_, fun h => ?_⟩ | refine ⟨?_, ?_⟩); all_goals ((try apply hK); clear hK K))
  refine awp_loop (fun n e => ∃ k y : Nat, k + n = l.length ∧ (allF (l.take k)).length + y = x ∧ e = [(5, .sv (.one (.int .i64 k))), (1, .sv (.one (.int .i64 y))), (4, .sv (.one (.bx [.str ⟨#[]⟩, .int .i64 0, .int .i64 0, .int .i64 0]))), (0, .sv (.one (.sl (l.map encD))))]) l.length _ ⟨0, x, by simp, by simp [allF], rfl⟩ (by simp [go_sem]) ?_
  rintro n e ⟨k, y, hk, hy, rfl⟩
  by_cases hlt : k < l.length
  · have hfk := hf l[k] (List.getElem_mem hlt)
    by_cases hyl : y < l[k].fields.length
    · have hat := allF_at hlt hyl
      rw [hy, List.getElem?_eq_getElem hx] at hat
      injection hat with hat
      repeat' first | (with_reducible first | refine zA ?_ | refine zB ?_ | refine zC ?_ | refine zD ?_ | refine zE ?_ | refine zF ?_ | refine zK ?_ | refine zL ?_ | refine zM ?_ | refine zN ?_ | refine zO ?_ | refine zP ?_ | refine zQ (by decide) ?_ | refine zR ?_ | refine zS ?_ | refine zT ?_ | refine zX ?_) | ((with_reducible refine zY (t := ?_) ?hc (fun h => ?_) (fun h => ?_)); (case hc => rfl); all_goals (try simp [go_sem, hlt, hyl, encD, encF] at h); all_goals try omega) | ((with_reducible first | refine zZ ?_ | refine zd ?_ | refine ze ?_); intro K hK; simp [go_sem, hlt, hyl, encD, encF]; (try simp (disch := omega) only [wrap_i64, okRefs, eq_self, true_and]); (first | apply hK | refine ⟨by first | omega | (simp [appendOk, flatEls, hlt, hyl, encD, encF]; first | done | omega), ?_⟩ | refine ⟨hK _ ?_, fun h => ?_⟩ | refine ⟨?_, ?_⟩); all_goals ((try apply hK); clear hK K))
      simp [go_sem, hat, encF]
    · have hs := congrArg List.length (allF_succ hlt)
      rw [List.length_append] at hs
      repeat' first | (with_reducible first | refine zA ?_ | refine zB ?_ | refine zC ?_ | refine zD ?_ | refine zE ?_ | refine zF ?_ | refine zK ?_ | refine zL ?_ | refine zM ?_ | refine zN ?_ | refine zO ?_ | refine zP ?_ | refine zQ (by decide) ?_ | refine zR ?_ | refine zS ?_ | refine zT ?_ | refine zX ?_) | ((with_reducible refine zY (t := ?_) ?hc (fun h => ?_) (fun h => ?_)); (case hc => rfl); all_goals (try simp [go_sem, hlt, hyl, encD] at h); all_goals try omega) | ((with_reducible first | refine zZ ?_ | refine zd ?_ | refine ze ?_); intro K hK; simp [go_sem, hlt, hyl, encD]; (try simp (disch := omega) only [wrap_i64, okRefs, eq_self, true_and]); (first | apply hK | refine ⟨by first | omega | (simp [appendOk, flatEls, hlt, hyl, encD]; first | done | omega), ?_⟩ | refine ⟨hK _ ?_, fun h => ?_⟩ | refine ⟨?_, ?_⟩); all_goals ((try apply hK); clear hK K))
      refine loopQ_normal (n - 1) _ (by omega) ⟨k + 1, y - l[k].fields.length, by omega, by omega, rfl⟩ ?_
      simp [go_sem]
      omega
  · have hkl : l.take k = l := List.take_of_length_le (by omega)
    rw [hkl] at hy
    omega
theorem f129 (l : List Dcl) (x : Int) (hl : l.length ≤ 1000) (hf : ∀ d ∈ l, d.fields.length ≤ 100000) : Impl Tryz.prog 129 [.one (.sl (l.map encD)), .one (.int .i64 x)] (.one (.one (.bool (isText (allF l) x)))) := by
  refine impl_z Tryz.func129 z129 Tryz.ntmps129 (by simp) ?_
  simp only [c129, slotsOf]
  have f41s := f41 l hl hf
  by_cases h0 : 0 ≤ x
  · by_cases hxn : x < (allF l).length
    · have hlt : x.toNat < (allF l).length := by omega
      have f144s := f144 l x.toNat hl hf hlt
      have e0 : ((x.toNat : Nat) : Int) = x := by omega
      rw [e0] at f144s
      obtain ⟨F, hF⟩ : ∃ F, (allF l)[x.toNat] = F := ⟨_, rfl⟩
      rw [hF] at f144s
      simp only [encF] at f144s
      have hit : isText (allF l) x = (F.kind == 2) := by
        simp only [isText, h0, hxn, List.getElem?_eq_getElem hlt, hF, decide_true, Bool.true_and]
        rw [Bool.eq_iff_iff]
        simp
      repeat' first | (with_reducible first | refine zA ?_ | refine zB ?_ | refine zD ?_ | refine zF ?_ | refine zK ?_ | refine zL ?_ | refine zT ?_ | refine zX ?_) | ((with_reducible refine zY (t := ?_) ?hc (fun h => ?_) (fun h => ?_)); (case hc => rfl); all_goals (try simp [go_sem, h0, hxn] at h); all_goals try omega) | ((with_reducible first | refine zZ ?_ | refine zd ?_ | refine ze ?_); intro K hK; simp [go_sem, h0, hxn]; (try simp (disch := omega) only [wrap_i64, okRefs, eq_self, true_and]); (first | apply hK | ((first | ((try refine .inl ?_); refine ⟨_, by (try intro hc); (repeat' first | exact f41s | exact f144s | exact hc | with_reducible refine And.intro ?_ ?_ | simp [go_sem, h0, hxn]); first | done | omega, ?_⟩) | refine .inr ⟨_, by (try intro hc); (repeat' first | exact f41s | exact f144s | exact hc | with_reducible refine And.intro ?_ ?_ | simp [go_sem, h0, hxn]); first | done | omega, ?_⟩); (first | refine hK _ ?_ | refine hK _ _ ?_ | (refine ⟨by simp [go_sem, h0, hxn], ?_⟩; first | refine hK _ ?_ | refine hK _ _ ?_ | refine ⟨by simp [go_sem, h0, hxn], hK _ _ ?_⟩))) | refine ⟨.one (.one (.bool false)), by simp [go_sem, h0, hxn], hK _ _ ?_⟩ | refine ⟨by first | omega | (simp [appendOk, flatEls, h0, hxn]; first | done | omega), ?_⟩ | refine ⟨hK _ ?_, fun h => ?_⟩ | refine ⟨?_, ?_⟩); all_goals ((try apply hK); clear hK K))
      simp [go_sem, hit]
    · skip
      repeat' first | (with_reducible first | refine zA ?_ | refine zB ?_ | refine zD ?_ | refine zF ?_ | refine zK ?_ | refine zL ?_ | refine zT ?_ | refine zX ?_) | ((with_reducible refine zY (t := ?_) ?hc (fun h => ?_) (fun h => ?_)); (case hc => rfl); all_goals (try simp [go_sem, h0, hxn] at h); all_goals try omega) | ((with_reducible first | refine zZ ?_ | refine zd ?_ | refine ze ?_); intro K hK; simp [go_sem, h0, hxn]; (try simp (disch := omega) only [wrap_i64, okRefs, eq_self, true_and]); (first | apply hK | ((first | ((try refine .inl ?_); refine ⟨_, by (try intro hc); (repeat' first | exact f41s | exact hc | with_reducible refine And.intro ?_ ?_ | simp [go_sem, h0, hxn]); first | done | omega, ?_⟩) | refine .inr ⟨_, by (try intro hc); (repeat' first | exact f41s | exact hc | with_reducible refine And.intro ?_ ?_ | simp [go_sem, h0, hxn]); first | done | omega, ?_⟩); (first | refine hK _ ?_ | refine hK _ _ ?_ | (refine ⟨by simp [go_sem, h0, hxn], ?_⟩; first | refine hK _ ?_ | refine hK _ _ ?_ | refine ⟨by simp [go_sem, h0, hxn], hK _ _ ?_⟩))) | refine ⟨.one (.one (.bool false)), by simp [go_sem, h0, hxn], hK _ _ ?_⟩ | refine ⟨by first | omega | (simp [appendOk, flatEls, h0, hxn]; first | done | omega), ?_⟩ | refine ⟨hK _ ?_, fun h => ?_⟩ | refine ⟨?_, ?_⟩); all_goals ((try apply hK); clear hK K))
      simp [go_sem, isText, hxn]
  · skip
    repeat' first | (with_reducible first | refine zA ?_ | refine zB ?_ | refine zD ?_ | refine zF ?_ | refine zK ?_ | refine zL ?_ | refine zT ?_ | refine zX ?_) | ((with_reducible refine zY (t := ?_) ?hc (fun h => ?_) (fun h => ?_)); (case hc => rfl); all_goals (try simp [go_sem, h0] at h); all_goals try omega) | ((with_reducible first | refine zZ ?_ | refine zd ?_ | refine ze ?_); intro K hK; simp [go_sem, h0]; (try simp (disch := omega) only [wrap_i64, okRefs, eq_self, true_and]); (first | apply hK | refine ⟨by first | omega | (simp [appendOk, flatEls, h0]; first | done | omega), ?_⟩ | refine ⟨hK _ ?_, fun h => ?_⟩ | refine ⟨?_, ?_⟩); all_goals ((try apply hK); clear hK K))
    simp [go_sem, isText, h0]
theorem f118 (l : List Dcl) (d : Dcl) (hl : l.length ≤ 1000) (hf : ∀ d ∈ l, d.fields.length ≤ 100000) (hdl : d.diffs.length ≤ 1000000) (hel : d.equals.length ≤ 1000000) : Impl Tryz.prog 118 [.one (.sl (l.map encD)), .ag [.sl (d.diffs.map encDf), .sl (d.equals.map encEq)]] (.one (.one (.bool (okGuard (allF l) d)))) := by
  refine impl_z Tryz.func118 z118 Tryz.ntmps118 (by simp) ?_
  simp only [c118, slotsOf]
  have f41s := f41 l hl hf
  obtain ⟨all, hA⟩ : ∃ all, all = allF l := ⟨_, rfl⟩
  have hal : all.length ≤ 1000000000 := by
    have := allF_le l hf
    rw [hA]
    have h2 : l.length * 100000 ≤ 1000 * 100000 := Nat.mul_le_mul_right _ hl
    omega
  have f129s : ∀ x : Int, Impl Tryz.prog 129 [.one (.sl (l.map encD)), .one (.int .i64 x)] (.one (.one (.bool (isText all x)))) := fun x => by rw [hA]; exact f129 l x hl hf
  rw [← hA] at f41s ⊢
  repeat' first | (with_reducible first | refine zA ?_ | refine zB ?_ | refine zC ?_ | refine zD ?_ | refine zE ?_ | refine zF ?_ | refine zK ?_ | refine zL ?_ | refine zM ?_ | refine zN ?_ | refine zO ?_ | refine zP ?_ | refine zQ (by decide) ?_ | refine zR ?_ | refine zS ?_ | refine zT ?_ | refine zX ?_) | ((with_reducible refine zY (t := ?_) ?hc (fun h => ?_) (fun h => ?_)); (case hc => rfl); all_goals (try simp [go_sem] at h); all_goals try omega) | ((with_reducible first | refine zZ ?_ | refine zd ?_ | refine ze ?_); intro K hK; simp [go_sem]; (try simp (disch := omega) only [wrap_i64, okRefs, eq_self, true_and]); (first | apply hK | ((first | ((try refine .inl ?_); refine ⟨_, by (try intro hc); (repeat' first | exact f41s | exact hc | with_reducible refine And.intro ?_ ?_ | simp [go_sem]); first | done | omega, ?_⟩) | refine .inr ⟨_, by (try intro hc); (repeat' first | exact f41s | exact hc | with_reducible refine And.intro ?_ ?_ | simp [go_sem]); first | done | omega, ?_⟩); (first | refine hK _ ?_ | refine hK _ _ ?_ | (refine ⟨by simp [go_sem], ?_⟩; first | refine hK _ ?_ | refine hK _ _ ?_ | refine ⟨by simp [go_sem], hK _ _ ?_⟩))) | refine ⟨.one (.one (.bool false)), by simp [go_sem], hK _ _ ?_⟩ | refine ⟨by first | omega | (simp [appendOk, flatEls]; first | done | omega), ?_⟩ | refine ⟨hK _ ?_, fun h => ?_⟩ | refine ⟨?_, ?_⟩); all_goals ((try apply hK); clear hK K))
  refine awp_loop (fun n e => ∃ k : Nat, k + n = d.diffs.length ∧ (d.diffs.take k).all (okDff all.length) = true ∧ e = [(6, .sv (.one (.int .i64 k))), (5, .sv (.one (.int .i64 all.length))), (3, .sv (.one (.bx [.sl (d.diffs.map encDf), .sl (d.equals.map encEq)]))), (0, .sv (.one (.sl (l.map encD))))]) d.diffs.length _ ⟨0, by simp, by simp, rfl⟩ (by simp [go_sem]) ?_
  rintro n e ⟨k, hk, hall, rfl⟩
  by_cases hlt : k < d.diffs.length
  · skip
    repeat' first | (with_reducible first | refine zA ?_ | refine zB ?_ | refine zC ?_ | refine zD ?_ | refine zE ?_ | refine zF ?_ | refine zK ?_ | refine zL ?_ | refine zM ?_ | refine zN ?_ | refine zO ?_ | refine zP ?_ | refine zQ (by decide) ?_ | refine zR ?_ | refine zS ?_ | refine zT ?_ | refine zX ?_) | ((with_reducible refine zY (t := ?_) ?hc (fun h => ?_) (fun h => ?_)); (case hc => rfl); all_goals (try simp [go_sem, hlt, encDf] at h); all_goals try omega) | ((with_reducible first | refine zZ ?_ | refine zd ?_ | refine ze ?_); intro K hK; simp [go_sem, hlt, encDf]; (try simp (disch := omega) only [wrap_i64, okRefs, eq_self, true_and]); (first | apply hK | refine ⟨by first | omega | (simp [appendOk, flatEls, hlt, encDf]; first | done | omega), ?_⟩ | refine ⟨hK _ ?_, fun h => ?_⟩ | refine ⟨?_, ?_⟩); all_goals ((try apply hK); clear hK K))
    · have hb : okDff all.length d.diffs[k] = false := by
        cases hb : okDff all.length d.diffs[k] with
        | false => rfl
        | true =>
          simp only [okDff, Bool.and_eq_true, decide_eq_true_eq] at hb
          omega
      have hg : okGuard all d = false := by simp [okGuard, all_no hlt hb]
      simp [go_sem, hg]
    · have hb : okDff all.length d.diffs[k] = true := by
        simp only [okDff, Bool.and_eq_true, decide_eq_true_eq]
        omega
      refine loopQ_normal (n - 1) _ (by omega) ⟨k + 1, by omega, ?_, rfl⟩ ?_
      · rw [all_succ hlt, hall, hb]; rfl
      · simp [go_sem]
  · have hkl : d.diffs.take k = d.diffs := List.take_of_length_le (by omega)
    rw [hkl] at hall
    repeat' first | (with_reducible first | refine zA ?_ | refine zB ?_ | refine zC ?_ | refine zD ?_ | refine zE ?_ | refine zF ?_ | refine zK ?_ | refine zL ?_ | refine zM ?_ | refine zN ?_ | refine zO ?_ | refine zP ?_ | refine zQ (by decide) ?_ | refine zR ?_ | refine zS ?_ | refine zT ?_ | refine zX ?_) | ((with_reducible refine zY (t := ?_) ?hc (fun h => ?_) (fun h => ?_)); (case hc => rfl); all_goals (try simp [go_sem, hlt] at h); all_goals try omega) | ((with_reducible first | refine zZ ?_ | refine zd ?_ | refine ze ?_); intro K hK; simp [go_sem, hlt]; (try simp (disch := omega) only [wrap_i64, okRefs, eq_self, true_and]); (first | apply hK | refine ⟨by first | omega | (simp [appendOk, flatEls, hlt]; first | done | omega), ?_⟩ | refine ⟨hK _ ?_, fun h => ?_⟩ | refine ⟨?_, ?_⟩); all_goals ((try apply hK); clear hK K))
    refine awp_loop (fun n e => ∃ k : Nat, k + n = d.equals.length ∧ (d.equals.take k).all (fun e => isText all e.1 && isText all e.2) = true ∧ e = [(8, .sv (.one (.int .i64 k))), (3, .sv (.one (.bx [.sl (d.diffs.map encDf), .sl (d.equals.map encEq)]))), (0, .sv (.one (.sl (l.map encD))))]) d.equals.length _ ⟨0, by simp, by simp, rfl⟩ (by simp [go_sem]) ?_
    rintro n e ⟨k, hk, hall2, rfl⟩
    by_cases hlt2 : k < d.equals.length
    · have hbad : (isText all d.equals[k].1 && isText all d.equals[k].2) = false → okGuard all d = false := by
        intro h
        have := all_no (p := fun e => isText all e.1 && isText all e.2) hlt2 h
        simp [okGuard, this]
      have c1 := f129s d.equals[k].1
      have c2 := f129s d.equals[k].2
      cases ht1 : isText all d.equals[k].1 with
      | false =>
        have hg := hbad (by simp [ht1])
        rw [ht1] at c1
        repeat' first | (with_reducible first | refine zA ?_ | refine zB ?_ | refine zC ?_ | refine zD ?_ | refine zE ?_ | refine zF ?_ | refine zK ?_ | refine zL ?_ | refine zM ?_ | refine zN ?_ | refine zO ?_ | refine zP ?_ | refine zQ (by decide) ?_ | refine zR ?_ | refine zS ?_ | refine zT ?_ | refine zX ?_) | ((with_reducible refine zY (t := ?_) ?hc (fun h => ?_) (fun h => ?_)); (case hc => rfl); all_goals (try simp [go_sem, hlt2, encEq] at h); all_goals try omega) | ((with_reducible first | refine zZ ?_ | refine zd ?_ | refine ze ?_); intro K hK; simp [go_sem, hlt2, encEq]; (try simp (disch := omega) only [wrap_i64, okRefs, eq_self, true_and]); (first | apply hK | ((first | ((try refine .inl ?_); refine ⟨_, by (try intro hc); (repeat' first | exact c1 | exact hc | with_reducible refine And.intro ?_ ?_ | simp [go_sem, hlt2, encEq]); first | done | omega, ?_⟩) | refine .inr ⟨_, by (try intro hc); (repeat' first | exact c1 | exact hc | with_reducible refine And.intro ?_ ?_ | simp [go_sem, hlt2, encEq]); first | done | omega, ?_⟩); (first | refine hK _ ?_ | refine hK _ _ ?_ | (refine ⟨by simp [go_sem, hlt2, encEq], ?_⟩; first | refine hK _ ?_ | refine hK _ _ ?_ | refine ⟨by simp [go_sem, hlt2, encEq], hK _ _ ?_⟩))) | refine ⟨.one (.one (.bool false)), by simp [go_sem, hlt2, encEq], hK _ _ ?_⟩ | refine ⟨by first | omega | (simp [appendOk, flatEls, hlt2, encEq]; first | done | omega), ?_⟩ | refine ⟨hK _ ?_, fun h => ?_⟩ | refine ⟨?_, ?_⟩); all_goals ((try apply hK); clear hK K))
        simp [go_sem, hg]
      | true =>
        cases ht2 : isText all d.equals[k].2 with
        | false =>
          have hg := hbad (by simp [ht2])
          rw [ht1] at c1
          rw [ht2] at c2
          repeat' first | (with_reducible first | refine zA ?_ | refine zB ?_ | refine zC ?_ | refine zD ?_ | refine zE ?_ | refine zF ?_ | refine zK ?_ | refine zL ?_ | refine zM ?_ | refine zN ?_ | refine zO ?_ | refine zP ?_ | refine zQ (by decide) ?_ | refine zR ?_ | refine zS ?_ | refine zT ?_ | refine zX ?_) | ((with_reducible refine zY (t := ?_) ?hc (fun h => ?_) (fun h => ?_)); (case hc => rfl); all_goals (try simp [go_sem, hlt2, encEq] at h); all_goals try omega) | ((with_reducible first | refine zZ ?_ | refine zd ?_ | refine ze ?_); intro K hK; simp [go_sem, hlt2, encEq]; (try simp (disch := omega) only [wrap_i64, okRefs, eq_self, true_and]); (first | apply hK | ((first | ((try refine .inl ?_); refine ⟨_, by (try intro hc); (repeat' first | exact c1 | exact c2 | exact hc | with_reducible refine And.intro ?_ ?_ | simp [go_sem, hlt2, encEq]); first | done | omega, ?_⟩) | refine .inr ⟨_, by (try intro hc); (repeat' first | exact c1 | exact c2 | exact hc | with_reducible refine And.intro ?_ ?_ | simp [go_sem, hlt2, encEq]); first | done | omega, ?_⟩); (first | refine hK _ ?_ | refine hK _ _ ?_ | (refine ⟨by simp [go_sem, hlt2, encEq], ?_⟩; first | refine hK _ ?_ | refine hK _ _ ?_ | refine ⟨by simp [go_sem, hlt2, encEq], hK _ _ ?_⟩))) | refine ⟨.one (.one (.bool false)), by simp [go_sem, hlt2, encEq], hK _ _ ?_⟩ | refine ⟨by first | omega | (simp [appendOk, flatEls, hlt2, encEq]; first | done | omega), ?_⟩ | refine ⟨hK _ ?_, fun h => ?_⟩ | refine ⟨?_, ?_⟩); all_goals ((try apply hK); clear hK K))
          simp [go_sem, hg]
        | true =>
          rw [ht1] at c1
          rw [ht2] at c2
          repeat' first | (with_reducible first | refine zA ?_ | refine zB ?_ | refine zC ?_ | refine zD ?_ | refine zE ?_ | refine zF ?_ | refine zK ?_ | refine zL ?_ | refine zM ?_ | refine zN ?_ | refine zO ?_ | refine zP ?_ | refine zQ (by decide) ?_ | refine zR ?_ | refine zS ?_ | refine zT ?_ | refine zX ?_) | ((with_reducible refine zY (t := ?_) ?hc (fun h => ?_) (fun h => ?_)); (case hc => rfl); all_goals (try simp [go_sem, hlt2, encEq] at h); all_goals try omega) | ((with_reducible first | refine zZ ?_ | refine zd ?_ | refine ze ?_); intro K hK; simp [go_sem, hlt2, encEq]; (try simp (disch := omega) only [wrap_i64, okRefs, eq_self, true_and]); (first | apply hK | ((first | ((try refine .inl ?_); refine ⟨_, by (try intro hc); (repeat' first | exact c1 | exact c2 | exact hc | with_reducible refine And.intro ?_ ?_ | simp [go_sem, hlt2, encEq]); first | done | omega, ?_⟩) | refine .inr ⟨_, by (try intro hc); (repeat' first | exact c1 | exact c2 | exact hc | with_reducible refine And.intro ?_ ?_ | simp [go_sem, hlt2, encEq]); first | done | omega, ?_⟩); (first | refine hK _ ?_ | refine hK _ _ ?_ | (refine ⟨by simp [go_sem, hlt2, encEq], ?_⟩; first | refine hK _ ?_ | refine hK _ _ ?_ | refine ⟨by simp [go_sem, hlt2, encEq], hK _ _ ?_⟩))) | refine ⟨.one (.one (.bool false)), by simp [go_sem, hlt2, encEq], hK _ _ ?_⟩ | refine ⟨by first | omega | (simp [appendOk, flatEls, hlt2, encEq]; first | done | omega), ?_⟩ | refine ⟨hK _ ?_, fun h => ?_⟩ | refine ⟨?_, ?_⟩); all_goals ((try apply hK); clear hK K))
          refine loopQ_normal (n - 1) _ (by omega) ⟨k + 1, by omega, ?_, rfl⟩ ?_
          · rw [all_succ hlt2, hall2, ht1, ht2]; rfl
          · simp [go_sem]
    · have hkl2 : d.equals.take k = d.equals := List.take_of_length_le (by omega)
      rw [hkl2] at hall2
      repeat' first | (with_reducible first | refine zA ?_ | refine zB ?_ | refine zC ?_ | refine zD ?_ | refine zE ?_ | refine zF ?_ | refine zK ?_ | refine zL ?_ | refine zM ?_ | refine zN ?_ | refine zO ?_ | refine zP ?_ | refine zQ (by decide) ?_ | refine zR ?_ | refine zS ?_ | refine zT ?_ | refine zX ?_) | ((with_reducible refine zY (t := ?_) ?hc (fun h => ?_) (fun h => ?_)); (case hc => rfl); all_goals (try simp [go_sem, hlt2] at h); all_goals try omega) | ((with_reducible first | refine zZ ?_ | refine zd ?_ | refine ze ?_); intro K hK; simp [go_sem, hlt2]; (try simp (disch := omega) only [wrap_i64, okRefs, eq_self, true_and]); (first | apply hK | refine ⟨by first | omega | (simp [appendOk, flatEls, hlt2]; first | done | omega), ?_⟩ | refine ⟨hK _ ?_, fun h => ?_⟩ | refine ⟨?_, ?_⟩); all_goals ((try apply hK); clear hK K))
      simp [go_sem, okGuard, hall, hall2]
      rw [Bool.eq_iff_iff]
      simp
      omega
end Go.Av
