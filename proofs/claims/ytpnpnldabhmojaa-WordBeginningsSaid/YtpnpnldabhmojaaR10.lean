/- The statement WordBeginnings: whatever the input, the law returns true and the input reads as it did. -/
import Derived.Test.YtpnpnldabhmojaaWRB
import Derived.Test.YtpnpnldabhmojaaL10
set_option linter.unusedVariables false
set_option linter.unusedSimpArgs false
namespace Go.Proofs.Ytpnpnldabhmojaa
open Go.ChangeShapes Go.WideShapes Go.ChangeAt Go.RowKit Go.Av

theorem bytes_flat : ∀ (c : List Int), (c.map fun n => [DV.int .u8 n]).flatten = c.map (DV.int .u8)
  | [] => rfl
  | n :: c => by simp [bytes_flat c]

theorem args10 (xs : List SV) (h : ArgsOk Try.prog 6 Try.f10.params.toList xs) : Impl Try.prog 10 xs (.one (.one (.bool true))) := by
  rw [Try.params10] at h
  obtain ⟨l, x, ys, h1, h2, rfl, l', x', ys', h3, h4, rfl, rfl⟩ := h
  obtain ⟨A, rfl, _⟩ := inters_ofB h1
  simp only [IsSV, Try.underlying22, Try.underlying46, List.cons.injEq, and_true] at h2 h4
  obtain ⟨d, rfl, rfl⟩ := h2
  subst h4
  unfold TyLB at h3
  rw [Try.underlying46] at h3
  obtain ⟨els, rfl, hl, hel⟩ := h3
  obtain ⟨c, rfl, hc⟩ := list_ofB (enc := fun n => [DV.int .u8 n]) (p := fun n => 0 ≤ n ∧ n ≤ 255) els fun el h => by
    obtain ⟨r, rfl, hr⟩ := int_ofB Try.underlying5 (hel el h)
    exact ⟨r, rfl, u8_rangeB hr⟩
  rw [bytes_flat]
  exact law10 A c (by simpa using hl) hc

set_option maxRecDepth 100000 in
theorem begs_lifted (os : Os) (started : os.Started) (H : Type) (enc : TypeId × Value → H) :
    ReturnsInHanded {} Try.checked os 10 .any (Rows.wordBeginningsSpec.pre6 enc Try.prog Try.f10 Rows.wordBeginningsRow.domain false) (Rows.wordBeginningsSpec.post enc Try.prog Try.f10 false true false false) :=
  law_row (C := Try.checked) (m := 6) (tb := 4) Try.own started (by kernel_rfl) Try.func10
    (ChangeSpec.witness6 (enc := enc) (C := Try.checked) false ⟨#[], #[.slice none 0 0, .agg #[.int .u8 0, .int .u8 0, .int .u8 0, .int .u8 0, .int .u8 0, .int .u8 0]], []⟩ 8 (by kernel_rfl) (by kernel_rfl) (by kernel_rfl) (by kernel_rfl))
    Try.laidOut rfl (fun ds h => by match ds, h with | [d, d'], _ => rfl) (by kernel_rfl) Try.underlying4 (by kernel_rfl) (by kernel_rfl) args10

theorem begs_holds : Rows.WordBeginningsSaid :=
  OpenClaim.holds_of_wide 10 Try.f10 rfl rfl rfl rfl rfl rfl rfl ⟨rfl, rfl, rfl, rfl, rfl⟩ rfl rfl rfl rfl rfl (by kernel_rfl) Try.func10 (by kernel_rfl)
    (of_decide_eq_true (by kernel_rfl)) (by unfold Func.isWrapper; first | (rw [if_pos (by decide +kernel)]; kernel_rfl) | (rw [if_neg (by decide +kernel)]; exact ⟨rfl, rfl⟩))
    (fun os started H enc _ => begs_lifted os started H enc)
end Go.Proofs.Ytpnpnldabhmojaa
