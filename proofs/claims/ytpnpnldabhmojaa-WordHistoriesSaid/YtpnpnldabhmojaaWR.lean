/- The statement WordParts: whatever the input, the law returns true and the input reads as it did. -/
import Derived.Test.YtpnpnldabhmojaaWB
import Derived.Test.YtpnpnldabhmojaaAvRW
import Derived.Test.YtpnpnldabhmojaaRows
import Derived.ProofKit
set_option linter.unusedVariables false
set_option linter.unusedSimpArgs false
namespace Go.Proofs.Ytpnpnldabhmojaa
open Go.ChangeShapes Go.WideShapes Go.ChangeAt Go.RowKit Go.Av

theorem Try.own : ownKnob Try.prog.godebug = none := by kernel_rfl
theorem Try.laidOut : laidOutB Try.prog = true := by kernel_rfl

theorem ok22 : tyOk Try.prog 6 22 = true := by kernel_rfl

theorem ints_of {n : Nat} {t : TypeId} {l : List DV} (hu : Try.prog.underlying t = some (.int .i64)) (h : TyL Try.prog (n + 1) t l) : ∃ m, l = [.int .i64 m] := by
  unfold TyL at h
  rw [hu] at h
  obtain ⟨m, hm, _⟩ := h
  exact ⟨m, hm⟩

theorem inter_of {n : Nat} {l : List DV} (h : TyL Try.prog (n + 2) 32 l) : ∃ x : Inter, l = encI x := by
  unfold TyL at h
  rw [Try.underlying32] at h
  simp only [TyF] at h
  obtain ⟨l1, l2, rfl, h1, l3, l4, rfl, h2, l5, l6, rfl, h3, rfl⟩ := h
  obtain ⟨a, rfl⟩ := ints_of Try.underlying3 h1
  obtain ⟨b, rfl⟩ := ints_of Try.underlying3 h2
  obtain ⟨c, rfl⟩ := ints_of Try.underlying3 h3
  exact ⟨⟨a, b, c⟩, rfl⟩

theorem list_of {α : Type} {enc : α → List DV} : ∀ (els : List (List DV)), (∀ el ∈ els, ∃ x, el = enc x) → ∃ L : List α, els = L.map enc
  | [], _ => ⟨[], rfl⟩
  | e :: els, h => by
    obtain ⟨x, rfl⟩ := h e (by simp)
    obtain ⟨L, rfl⟩ := list_of els fun el hel => h el (by simp [hel])
    exact ⟨x :: L, rfl⟩

theorem inters_of {n : Nat} {l : List DV} (h : TyL Try.prog (n + 3) 22 l) : ∃ L : List Inter, l = [.sl (L.map encI)] := by
  unfold TyL at h
  rw [Try.underlying22] at h
  obtain ⟨els, rfl, _, hel⟩ := h
  obtain ⟨L, rfl⟩ := list_of els fun el h => inter_of (hel el h)
  exact ⟨L, rfl⟩

variable {H : Type} {enc : TypeId × Value → H}

theorem arg_inters {W : World} {a0 : Option Addr} {len cap : Nat} {d : DataW H} {p : List MemPlace} (h : DataW.Trod enc Try.prog W 0 (fun _ => true) true 22 (.slice a0 len cap) d p) :
    ∃ L : List Inter, CzS W (Old W) (.slice a0 len cap) (.one (.sl (L.map encI))) [] := by
  obtain ⟨fuel, hf⟩ := h
  obtain ⟨_, l, hcz, ht⟩ := trod_cz 6 22 ok22 fuel _ _ hf
  obtain ⟨L, rfl⟩ := inters_of ht
  exact ⟨L, .one _ _ _ (CzL.single hcz)⟩
end Go.Proofs.Ytpnpnldabhmojaa
