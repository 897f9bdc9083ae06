/- The statement WordSwap: whatever the input, the law returns true and the input reads as it did. -/
import Derived.Test.YtpnpnldabhmojaaWR
import Derived.Test.YtpnpnldabhmojaaL4
set_option linter.unusedVariables false
set_option linter.unusedSimpArgs false
namespace Go.Proofs.Ytpnpnldabhmojaa
open Go.ChangeShapes Go.WideShapes Go.ChangeAt Go.RowKit Go.Av

/-- What a law's contract says of its call. -/
theorem says_true {f : FuncId} {args : List SV} (h : Impl Try.prog f args (.one (.one (.bool true)))) {W : World} {vs : List Value} (ha : CzSL W (Old W) vs args []) :
    Calls Try.prog f vs.toArray W fun e W' => e = .returned (.bool true) ∧ Below W.heap.size W W' := by
  refine (h.2 W (Old W) vs (fun _ hb => hb) ha).mono ?_
  rintro e W' ⟨v, rs, rfl, hb, _, _, hr⟩
  cases hr with
  | one _ _ _ h =>
    have h := CzS.one_inv h
    cases h
    exact ⟨rfl, hb⟩

theorem u8_range {n : Int} (h : (Lit.int .u8 n).wf = true) : 0 ≤ n ∧ n ≤ 255 := by
  simp [Lit.wf, IntKind.min, IntKind.max, IntKind.bits, IntKind.signed] at h
  omega

set_option maxRecDepth 100000 in
theorem swap_lifted (os : Os) (started : os.Started) (H : Type) (enc : TypeId × Value → H) :
    ReturnsInHanded {} Try.checked os 4 .any (Rows.wordSwapSpec.pre6 enc Try.prog Try.f4 Rows.wordSwapRow.domain false) (Rows.wordSwapSpec.post enc Try.prog Try.f4 false true false false) := by
  refine returnsInHanded_of_change (C := Try.checked) Try.own started (by kernel_rfl) Try.func4
    (ChangeSpec.witness6 (enc := enc) (C := Try.checked) false ⟨#[], #[.slice none 0 0, .int .u8 0], []⟩ 8 (by kernel_rfl) (by kernel_rfl) (by kernel_rfl) (by kernel_rfl)) ?_
  intro W base args ds gs before hval0 hW hcnd _
  have hval : ∀ (j : Nat) t v, Try.f4.params[j]? = some t → args[j]? = some v → Value.okWide Try.prog W .any base t v := hval0
  have hW' := hW
  obtain ⟨p, q, hA0, hV, rfl, hfz, hnd⟩ := hW
  have hA : DataW.TrodAll enc Try.prog W 0 (fun _ => true) true Try.f4.params.toList args.toList ds p := hA0
  rw [Try.params4] at hA hval
  obtain ⟨v0, v1, d0, d1, p0, p1, rfl, rfl, rfl, h0, h1⟩ := trodAll_two hA
  obtain ⟨rfl, rfl⟩ := trodVars_none hV
  obtain ⟨a0, l0, c0, rfl⟩ := okWide_slice Try.underlying22 (hval 0 22 v0 rfl rfl)
  obtain ⟨n, rfl, rfl, rfl, wn⟩ := open_int Try.underlying5 (hval 1 5 v1 rfl rfl) h1
  have hn : 0 ≤ n ∧ n ≤ 255 := u8_range wn
  clear hA0 hval0
  simp only [List.append_nil] at hW'
  obtain ⟨A, hA⟩ := arg_inters h0
  have hlt0 : ∀ x ∈ p0, x.block < W.heap.size := fun x hx => hW'.lt x (by simp [hx])
  refine (says_true (law4 A n hn.1 hn.2) (W := W) (vs := [.slice a0 l0 c0, .int .u8 n]) ?_).mono fun e W' ⟨he, hb⟩ => ?_
  · exact .cons _ _ [] _ _ [] hA (.cons _ _ [] _ _ [] (.one _ _ _ (.int _ _)) .nil)
  subst he
  refine ⟨_, rfl, _, _, _, [], p0 ++ [], [], hW', ?_, ?_, rfl, hb.frame _, fun h => by cases h⟩
  · exact trodAll_mk1 (shut_bool Try.underlying4 true)
  · exact trodAll_mk2 (Below.trod Try.laidOut (by kernel_rfl) (of_decide_eq_true (by kernel_rfl)) h0 hb hlt0) (shut_int Try.underlying5 wn)

theorem swap_holds : Rows.WordSwapSaid :=
  OpenClaim.holds_of_wide 4 Try.f4 rfl rfl rfl rfl rfl rfl rfl ⟨rfl, rfl, rfl, rfl, rfl⟩ rfl rfl rfl rfl rfl (by kernel_rfl) Try.func4 (by kernel_rfl)
    (of_decide_eq_true (by kernel_rfl)) (by unfold Func.isWrapper; first | (rw [if_pos (by decide +kernel)]; kernel_rfl) | (rw [if_neg (by decide +kernel)]; exact ⟨rfl, rfl⟩))
    (fun os started H enc _ => swap_lifted os started H enc)
end Go.Proofs.Ytpnpnldabhmojaa
