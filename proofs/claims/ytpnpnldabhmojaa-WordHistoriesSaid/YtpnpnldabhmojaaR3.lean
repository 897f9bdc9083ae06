/- The statement WordHistories: whatever the input, the law returns true and the input reads as it did. -/
import Derived.Test.YtpnpnldabhmojaaWR
import Derived.Test.YtpnpnldabhmojaaL3
set_option linter.unusedVariables false
set_option linter.unusedSimpArgs false
namespace Go.Proofs.Ytpnpnldabhmojaa
open Go.ChangeShapes Go.WideShapes Go.ChangeAt Go.RowKit Go.Av

/-- What a law's contract says of its call. -/
theorem says_true {f : FuncId} {args : List SV} (h : Impl Try.prog f args (.one (.one (.bool true)))) {W : World} {vs : List Value} (ha : CzSL W (Old W) vs args []) :
    Calls Try.prog f vs.toArray W fun e W' => e = .returned (.bool true) ∧ Below W.heap.size W W' := by
  refine (h.2 W (Old W) vs (fun _ hb => hb) ha).mono ?_
  rintro e W' ⟨v, rs, rfl, hb, _, _, hr⟩
  cases hr with
  | one _ _ _ h =>
    have h := CzS.one_inv h
    cases h
    exact ⟨rfl, hb⟩

set_option maxRecDepth 100000 in
theorem histories_lifted (os : Os) (started : os.Started) (H : Type) (enc : TypeId × Value → H) :
    ReturnsInHanded {} Try.checked os 3 .any (Rows.wordHistoriesSpec.pre6 enc Try.prog Try.f3 Rows.wordHistoriesRow.domain false) (Rows.wordHistoriesSpec.post enc Try.prog Try.f3 false true false false) := by
  refine returnsInHanded_of_change (C := Try.checked) Try.own started (by kernel_rfl) Try.func3
    (ChangeSpec.witness6 (enc := enc) (C := Try.checked) false ⟨#[], #[.slice none 0 0, .slice none 0 0, .int .i64 0], []⟩ 8 (by kernel_rfl) (by kernel_rfl) (by kernel_rfl) (by kernel_rfl)) ?_
  intro W base args ds gs before hval0 hW hcnd _
  have hval : ∀ (j : Nat) t v, Try.f3.params[j]? = some t → args[j]? = some v → Value.okWide Try.prog W .any base t v := hval0
  have hW' := hW
  obtain ⟨p, q, hA0, hV, rfl, hfz, hnd⟩ := hW
  have hA : DataW.TrodAll enc Try.prog W 0 (fun _ => true) true Try.f3.params.toList args.toList ds p := hA0
  rw [Try.params3] at hA hval
  obtain ⟨v0, v1, v2, d0, d1, d2, p0, p1, p2, rfl, rfl, rfl, h0, h1, h2⟩ := trodAll_three hA
  obtain ⟨rfl, rfl⟩ := trodVars_none hV
  obtain ⟨a0, l0, c0, rfl⟩ := okWide_slice Try.underlying22 (hval 0 22 v0 rfl rfl)
  obtain ⟨a1, l1, c1, rfl⟩ := okWide_slice Try.underlying22 (hval 1 22 v1 rfl rfl)
  obtain ⟨r, rfl, rfl, rfl, wr⟩ := open_int Try.underlying3 (hval 2 3 v2 rfl rfl) h2
  clear hA0 hval0
  simp only [List.append_nil] at hW'
  obtain ⟨A, hA⟩ := arg_inters h0
  obtain ⟨B, hB⟩ := arg_inters h1
  have hlt0 : ∀ x ∈ p0, x.block < W.heap.size := fun x hx => hW'.lt x (by simp [hx])
  have hlt1 : ∀ x ∈ p1, x.block < W.heap.size := fun x hx => hW'.lt x (by simp [hx])
  refine (says_true (law3 A B r) (W := W) (vs := [.slice a0 l0 c0, .slice a1 l1 c1, .int .i64 r]) ?_).mono fun e W' ⟨he, hb⟩ => ?_
  · exact .cons _ _ [] _ _ [] hA (.cons _ _ [] _ _ [] hB (.cons _ _ [] _ _ [] (.one _ _ _ (.int _ _)) .nil))
  subst he
  refine ⟨_, rfl, _, _, _, [], p0 ++ (p1 ++ []), [], hW', ?_, ?_, rfl, hb.frame _, fun h => by cases h⟩
  · exact trodAll_mk1 (shut_bool Try.underlying4 true)
  · exact trodAll_mk3 (Below.trod Try.laidOut (by kernel_rfl) (of_decide_eq_true (by kernel_rfl)) h0 hb hlt0) (Below.trod Try.laidOut (by kernel_rfl) (of_decide_eq_true (by kernel_rfl)) h1 hb hlt1) (shut_int Try.underlying3 wr)

theorem histories_holds : Rows.WordHistoriesSaid :=
  OpenClaim.holds_of_wide 3 Try.f3 rfl rfl rfl rfl rfl rfl rfl ⟨rfl, rfl, rfl, rfl, rfl⟩ rfl rfl rfl rfl rfl (by kernel_rfl) Try.func3 (by kernel_rfl)
    (of_decide_eq_true (by kernel_rfl)) (by unfold Func.isWrapper; first | (rw [if_pos (by decide +kernel)]; kernel_rfl) | (rw [if_neg (by decide +kernel)]; exact ⟨rfl, rfl⟩))
    (fun os started H enc _ => histories_lifted os started H enc)
end Go.Proofs.Ytpnpnldabhmojaa
