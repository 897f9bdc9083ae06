/- The statement WordNormal: whatever the input, the law returns true and the input reads as it did. -/
import Derived.Test.YtpnpnldabhmojaaWR
import Derived.Test.YtpnpnldabhmojaaL5
set_option linter.unusedVariables false
set_option linter.unusedSimpArgs false
namespace Go.Proofs.Ytpnpnldabhmojaa
open Go.ChangeShapes Go.WideShapes Go.ChangeAt Go.RowKit Go.Av

/-- What a law's contract says of its call. -/
theorem says_true {f : FuncId} {args : List SV} (h : Impl Try.prog f args (.one (.one (.bool true)))) {W : World} {vs : List Value} (ha : CzSL W (Old W) vs args []) :
    Calls Try.prog f vs.toArray W fun e W' => e = .returned (.bool true) ∧ Below W.heap.size W W' := by
  refine (h.2 W (Old W) vs (fun _ hb => hb) ha).mono ?_
  rintro e W' ⟨v, rs, rfl, hb, _, _, hr⟩
  cases hr with
  | one _ _ _ h =>
    have h := CzS.one_inv h
    cases h
    exact ⟨rfl, hb⟩

set_option maxRecDepth 100000 in
theorem normal_lifted (os : Os) (started : os.Started) (H : Type) (enc : TypeId × Value → H) :
    ReturnsInHanded {} Try.checked os 5 .any (Rows.wordNormalSpec.pre6 enc Try.prog Try.f5 Rows.wordNormalRow.domain false) (Rows.wordNormalSpec.post enc Try.prog Try.f5 false true false false) := by
  refine returnsInHanded_of_change (C := Try.checked) Try.own started (by kernel_rfl) Try.func5
    (ChangeSpec.witness6 (enc := enc) (C := Try.checked) false ⟨#[], #[.slice none 0 0], []⟩ 8 (by kernel_rfl) (by kernel_rfl) (by kernel_rfl) (by kernel_rfl)) ?_
  intro W base args ds gs before hval0 hW hcnd _
  have hval : ∀ (j : Nat) t v, Try.f5.params[j]? = some t → args[j]? = some v → Value.okWide Try.prog W .any base t v := hval0
  have hW' := hW
  obtain ⟨p, q, hA0, hV, rfl, hfz, hnd⟩ := hW
  have hA : DataW.TrodAll enc Try.prog W 0 (fun _ => true) true Try.f5.params.toList args.toList ds p := hA0
  rw [Try.params5] at hA hval
  obtain ⟨v0, d0, rfl, rfl, h0⟩ := trodAll_one hA
  obtain ⟨rfl, rfl⟩ := trodVars_none hV
  obtain ⟨a0, l0, c0, rfl⟩ := okWide_slice Try.underlying22 (hval 0 22 v0 rfl rfl)
  clear hA0 hval0
  simp only [List.append_nil] at hW'
  obtain ⟨A, hA⟩ := arg_inters h0
  have hlt0 : ∀ x ∈ p, x.block < W.heap.size := fun x hx => hW'.lt x (by simp [hx])
  refine (says_true (law5 A) (W := W) (vs := [.slice a0 l0 c0]) ?_).mono fun e W' ⟨he, hb⟩ => ?_
  · exact .cons _ _ [] _ _ [] hA .nil
  subst he
  refine ⟨_, rfl, _, _, _, [], p, [], hW', ?_, ?_, rfl, hb.frame _, fun h => by cases h⟩
  · exact trodAll_mk1 (shut_bool Try.underlying4 true)
  · exact trodAll_mk1 (Below.trod Try.laidOut (by kernel_rfl) (of_decide_eq_true (by kernel_rfl)) h0 hb hlt0)

theorem normal_holds : Rows.WordNormalSaid :=
  OpenClaim.holds_of_wide 5 Try.f5 rfl rfl rfl rfl rfl rfl rfl ⟨rfl, rfl, rfl, rfl, rfl⟩ rfl rfl rfl rfl rfl (by kernel_rfl) Try.func5 (by kernel_rfl)
    (of_decide_eq_true (by kernel_rfl)) (by unfold Func.isWrapper; first | (rw [if_pos (by decide +kernel)]; kernel_rfl) | (rw [if_neg (by decide +kernel)]; exact ⟨rfl, rfl⟩))
    (fun os started H enc _ => normal_lifted os started H enc)
end Go.Proofs.Ytpnpnldabhmojaa
