/- The statement WordMerge: whatever the input, the law returns true and the input reads as it did. -/
import Derived.Test.YtpnpnldabhmojaaWRB
import Derived.Test.YtpnpnldabhmojaaL8
set_option linter.unusedVariables false
set_option linter.unusedSimpArgs false
namespace Go.Proofs.Ytpnpnldabhmojaa
open Go.ChangeShapes Go.WideShapes Go.ChangeAt Go.RowKit Go.Av

theorem args8 (xs : List SV) (h : ArgsOk Try.prog 6 Try.f8.params.toList xs) : Impl Try.prog 8 xs (.one (.one (.bool true))) := by
  rw [Try.params8] at h
  obtain ⟨l, x, ys, h1, h2, rfl, rfl⟩ := h
  obtain ⟨A, rfl, hl, hh⟩ := hists_ofB h1
  simp only [IsSV, Try.underlying24] at h2
  obtain ⟨d, hd, rfl⟩ := h2
  injection hd with hd
  subst hd
  exact law8 A hl hh

set_option maxRecDepth 100000 in
theorem merge_lifted (os : Os) (started : os.Started) (H : Type) (enc : TypeId × Value → H) :
    ReturnsInHanded {} Try.checked os 8 .any (Rows.wordMergeSpec.pre6 enc Try.prog Try.f8 Rows.wordMergeRow.domain false) (Rows.wordMergeSpec.post enc Try.prog Try.f8 false true false false) :=
  law_row (C := Try.checked) (m := 6) (tb := 4) Try.own started (by kernel_rfl) Try.func8
    (ChangeSpec.witness6 (enc := enc) (C := Try.checked) false ⟨#[], #[.slice none 0 0], []⟩ 8 (by kernel_rfl) (by kernel_rfl) (by kernel_rfl) (by kernel_rfl))
    Try.laidOut rfl (fun ds h => by match ds, h with | [d], _ => rfl) (by kernel_rfl) Try.underlying4 (by kernel_rfl) (by kernel_rfl) args8

theorem merge_holds : Rows.WordMergeSaid :=
  OpenClaim.holds_of_wide 8 Try.f8 rfl rfl rfl rfl rfl rfl rfl ⟨rfl, rfl, rfl, rfl, rfl⟩ rfl rfl rfl rfl rfl (by kernel_rfl) Try.func8 (by kernel_rfl)
    (of_decide_eq_true (by kernel_rfl)) (by unfold Func.isWrapper; first | (rw [if_pos (by decide +kernel)]; kernel_rfl) | (rw [if_neg (by decide +kernel)]; exact ⟨rfl, rfl⟩))
    (fun os started H enc _ => merge_lifted os started H enc)
end Go.Proofs.Ytpnpnldabhmojaa
