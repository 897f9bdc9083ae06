/- The statement WordOpen: whatever the input, the law returns true and the input reads as it did. -/
import Derived.Test.YtpnpnldabhmojaaWRB
import Derived.Test.YtpnpnldabhmojaaL9
set_option linter.unusedVariables false
set_option linter.unusedSimpArgs false
namespace Go.Proofs.Ytpnpnldabhmojaa
open Go.ChangeShapes Go.WideShapes Go.ChangeAt Go.RowKit Go.Av

theorem args9 (xs : List SV) (h : ArgsOk Try.prog 6 Try.f9.params.toList xs) : Impl Try.prog 9 xs (.one (.one (.bool true))) := by
  rw [Try.params9] at h
  obtain ⟨l, x, ys, h1, h2, rfl, l', x', ys', h3, h4, rfl, l'', x'', ys'', h5, h6, rfl, rfl⟩ := h
  obtain ⟨A, rfl, _⟩ := inters_ofB h1
  obtain ⟨r, rfl, hr⟩ := int_ofB Try.underlying5 h3
  obtain ⟨p, rfl, hp⟩ := int_ofB Try.underlying5 h5
  simp only [IsSV, Try.underlying22, Try.underlying5, List.cons.injEq, and_true] at h2 h4 h6
  obtain ⟨d, rfl, rfl⟩ := h2
  obtain ⟨d, rfl, rfl⟩ := h4
  obtain ⟨d, rfl, rfl⟩ := h6
  have hr := u8_rangeB hr
  have hp := u8_rangeB hp
  exact law9 A r p hr.1 hr.2 hp.1 hp.2

set_option maxRecDepth 100000 in
theorem open_lifted (os : Os) (started : os.Started) (H : Type) (enc : TypeId × Value → H) :
    ReturnsInHanded {} Try.checked os 9 .any (Rows.wordOpenSpec.pre6 enc Try.prog Try.f9 Rows.wordOpenRow.domain false) (Rows.wordOpenSpec.post enc Try.prog Try.f9 false true false false) :=
  law_row (C := Try.checked) (m := 6) (tb := 4) Try.own started (by kernel_rfl) Try.func9
    (ChangeSpec.witness6 (enc := enc) (C := Try.checked) false ⟨#[], #[.slice none 0 0, .int .u8 0, .int .u8 0], []⟩ 8 (by kernel_rfl) (by kernel_rfl) (by kernel_rfl) (by kernel_rfl))
    Try.laidOut rfl (fun ds h => by match ds, h with | [d, d', d''], _ => rfl) (by kernel_rfl) Try.underlying4 (by kernel_rfl) (by kernel_rfl) args9

theorem open_holds : Rows.WordOpenSaid :=
  OpenClaim.holds_of_wide 9 Try.f9 rfl rfl rfl rfl rfl rfl rfl ⟨rfl, rfl, rfl, rfl, rfl⟩ rfl rfl rfl rfl rfl (by kernel_rfl) Try.func9 (by kernel_rfl)
    (of_decide_eq_true (by kernel_rfl)) (by unfold Func.isWrapper; first | (rw [if_pos (by decide +kernel)]; kernel_rfl) | (rw [if_neg (by decide +kernel)]; exact ⟨rfl, rfl⟩))
    (fun os started H enc _ => open_lifted os started H enc)
end Go.Proofs.Ytpnpnldabhmojaa
