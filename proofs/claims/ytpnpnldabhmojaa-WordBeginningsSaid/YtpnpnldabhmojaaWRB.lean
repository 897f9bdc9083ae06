/- The arguments of the laws on words, read as data. -/
import Derived.Test.YtpnpnldabhmojaaWB
import Derived.Test.YtpnpnldabhmojaaF9
import Derived.Test.YtpnpnldabhmojaaRows
import Derived.ProofKit
set_option linter.unusedVariables false
set_option linter.unusedSimpArgs false
namespace Go.Proofs.Ytpnpnldabhmojaa
open Go.ChangeShapes Go.WideShapes Go.ChangeAt Go.RowKit Go.Av

theorem Try.own : ownKnob Try.prog.godebug = none := by kernel_rfl
theorem Try.laidOut : laidOutB Try.prog = true := by kernel_rfl

theorem int_ofB {n : Nat} {t : TypeId} {k : IntKind} {l : List DV} (hu : Try.prog.underlying t = some (.int k)) (h : TyLB Try.prog (n + 1) t l) : ∃ m, l = [.int k m] ∧ (Lit.int k m).wf = true := by
  unfold TyLB at h
  rw [hu] at h
  obtain ⟨m, hm, hw⟩ := h
  exact ⟨m, hm, hw⟩

theorem bool_ofB {n : Nat} {t : TypeId} {l : List DV} (hu : Try.prog.underlying t = some .bool) (h : TyLB Try.prog (n + 1) t l) : ∃ m, l = [.bool m] := by
  unfold TyLB at h
  rw [hu] at h
  exact h

theorem slice_ofB {n : Nat} {t e : TypeId} {l : List DV} (hu : Try.prog.underlying t = some (.slice e)) (h : TyLB Try.prog (n + 1) t l) : ∃ els : List (List DV), l = [.sl els] ∧ els.length ≤ reachBytes ∧ ∀ el ∈ els, TyLB Try.prog n e el := by
  unfold TyLB at h
  rw [hu] at h
  exact h

theorem list_ofB {α : Type} {enc : α → List DV} {p : α → Prop} : ∀ (els : List (List DV)), (∀ el ∈ els, ∃ x, el = enc x ∧ p x) → ∃ L : List α, els = L.map enc ∧ ∀ x ∈ L, p x
  | [], _ => ⟨[], rfl, by simp⟩
  | e :: els, h => by
    obtain ⟨x, rfl, hx⟩ := h e (by simp)
    obtain ⟨L, rfl, hL⟩ := list_ofB els fun el hel => h el (by simp [hel])
    exact ⟨x :: L, rfl, by simpa using ⟨hx, hL⟩⟩

theorem inter_ofB {n : Nat} {l : List DV} (h : TyLB Try.prog (n + 2) 32 l) : ∃ x : Inter, l = encI x := by
  unfold TyLB at h
  rw [Try.underlying32] at h
  simp only [TyFB] at h
  obtain ⟨l1, l2, rfl, h1, l3, l4, rfl, h2, l5, l6, rfl, h3, rfl⟩ := h
  obtain ⟨a, rfl, _⟩ := int_ofB Try.underlying3 h1
  obtain ⟨b, rfl, _⟩ := int_ofB Try.underlying3 h2
  obtain ⟨c, rfl, _⟩ := int_ofB Try.underlying3 h3
  exact ⟨⟨a, b, c⟩, rfl⟩

theorem inters_ofB {n : Nat} {l : List DV} (h : TyLB Try.prog (n + 3) 22 l) : ∃ L : List Inter, l = [.sl (L.map encI)] ∧ L.length ≤ reachBytes := by
  obtain ⟨els, rfl, hl, hel⟩ := slice_ofB Try.underlying22 h
  obtain ⟨L, rfl, _⟩ := list_ofB (enc := encI) (p := fun _ => True) els fun el h => by
    obtain ⟨x, hx⟩ := inter_ofB (hel el h)
    exact ⟨x, hx, trivial⟩
  exact ⟨L, rfl, by simpa using hl⟩

theorem ev_ofB {n : Nat} {l : List DV} (h : TyLB Try.prog (n + 2) 44 l) : ∃ x : Ev, l = encE x := by
  unfold TyLB at h
  rw [Try.underlying44] at h
  simp only [TyFB] at h
  obtain ⟨l1, l2, rfl, h1, l3, l4, rfl, h2, l5, l6, rfl, h3, l7, l8, rfl, h4, l9, l10, rfl, h5, rfl⟩ := h
  obtain ⟨a, rfl, _⟩ := int_ofB Try.underlying3 h1
  obtain ⟨b, rfl⟩ := bool_ofB Try.underlying4 h2
  obtain ⟨c, rfl, _⟩ := int_ofB Try.underlying3 h3
  obtain ⟨d, rfl, _⟩ := int_ofB Try.underlying3 h4
  obtain ⟨els, rfl, _⟩ := slice_ofB Try.underlying42 h5
  exact ⟨⟨a, b, c, d, some els⟩, rfl⟩

theorem evs_ofB {n : Nat} {l : List DV} (h : TyLB Try.prog (n + 3) 29 l) : ∃ L : List Ev, l = encH L ∧ L.length ≤ reachBytes := by
  obtain ⟨els, rfl, hl, hel⟩ := slice_ofB Try.underlying29 h
  obtain ⟨L, rfl, _⟩ := list_ofB (enc := encE) (p := fun _ => True) els fun el h => by
    obtain ⟨x, hx⟩ := ev_ofB (hel el h)
    exact ⟨x, hx, trivial⟩
  exact ⟨L, rfl, by simpa using hl⟩

theorem hists_ofB {n : Nat} {l : List DV} (h : TyLB Try.prog (n + 4) 24 l) : ∃ H : List (List Ev), l = [.sl (H.map encH)] ∧ H.length ≤ reachBytes ∧ ∀ x ∈ H, x.length ≤ reachBytes := by
  obtain ⟨els, rfl, hl, hel⟩ := slice_ofB Try.underlying24 h
  obtain ⟨L, rfl, hL⟩ := list_ofB (enc := encH) (p := fun x => x.length ≤ reachBytes) els fun el h => evs_ofB (hel el h)
  exact ⟨L, rfl, by simpa using hl, hL⟩

theorem u8_rangeB {n : Int} (h : (Lit.int .u8 n).wf = true) : 0 ≤ n ∧ n ≤ 255 := by
  simp [Lit.wf, IntKind.min, IntKind.max, IntKind.bits, IntKind.signed] at h
  omega
end Go.Proofs.Ytpnpnldabhmojaa
