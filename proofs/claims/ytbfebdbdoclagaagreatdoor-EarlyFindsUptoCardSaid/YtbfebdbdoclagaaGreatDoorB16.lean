/- Part of a proof. -/
import Derived.Test.YtbfebdbdoclagaaGreatDoorB15
import Derived.Test.YtbfebdbdoclagaaGreatDoorAvRX
import Derived.Test.YtbfebdbdoclagaaGreatDoorRows
import Derived.ProofKit
import Derived.Test.YtbfebdbdoclagaaGreatDoorAvRU
set_option linter.unusedVariables false
set_option linter.unusedSimpArgs false
set_option maxHeartbeats 64000000
set_option maxRecDepth 8000
namespace Go.Proofs.YtbfebdbdoclagaaGreatDoor
open Go.ChangeShapes Go.WideShapes Go.ChangeAt Go.RowKit Go.Av
set_option maxRecDepth 100000
theorem Tryz.own : ownKnob Tryz.prog.godebug = none := by kernel_rfl
theorem Tryz.laidOut : laidOutB Tryz.prog = true := by kernel_rfl
theorem int_ofB {n : Nat} {t : TypeId} {k : IntKind} {l : List DV} (hu : Tryz.prog.underlying t = some (.int k)) (h : TyLB Tryz.prog (n + 1) t l) : ∃ m, l = [.int k m] /\ (Lit.int k m).wf = true := by
 unfold TyLB at h
 rw [hu] at h
 obtain ⟨m, hm, hw⟩ := h
 exact ⟨m, hm, hw⟩
theorem bool_ofB {n : Nat} {t : TypeId} {l : List DV} (hu : Tryz.prog.underlying t = some .bool) (h : TyLB Tryz.prog (n + 1) t l) : ∃ m, l = [.bool m] := by
 unfold TyLB at h
 rw [hu] at h
 exact h
theorem str_ofB {n : Nat} {t : TypeId} {l : List DV} (hu : Tryz.prog.underlying t = some .string) (h : TyLB Tryz.prog (n + 1) t l) : ∃ m, l = [.str m] /\ m.size <= reachBytes := by
 unfold TyLB at h
 rw [hu] at h
 exact h
theorem slice_ofB {n : Nat} {t e : TypeId} {l : List DV} (hu : Tryz.prog.underlying t = some (.slice e)) (h : TyLB Tryz.prog (n + 1) t l) : ∃ els : List (List DV), l = [.sl els] /\ els.length <= reachBytes /\ ∀ el ∈ els, TyLB Tryz.prog n e el := by
 unfold TyLB at h
 rw [hu] at h
 exact h
theorem list_ofB {α : Type} {enc : α -> List DV} {p : α -> Prop} : ∀ (els : List (List DV)), (∀ el ∈ els, ∃ x, el = enc x /\ p x) -> ∃ L : List α, els = L.map enc /\ ∀ x ∈ L, p x
 | [], _ => ⟨[], rfl, by simp⟩
 | e :: els, h => by
   obtain ⟨x, rfl, hx⟩ := h e (by simp)
   obtain ⟨L, rfl, hL⟩ := list_ofB els fun el hel => h el (by simp [hel])
   exact ⟨x :: L, rfl, by simpa using ⟨hx, hL⟩⟩
theorem slist_ofB {α : Type} {n : Nat} {t e : TypeId} {l : List DV} {enc : α -> List DV} {p : α -> Prop} (hu : Tryz.prog.underlying t = some (.slice e)) (h : TyLB Tryz.prog (n + 1) t l) (he : ∀ el, TyLB Tryz.prog n e el -> ∃ x, el = enc x /\ p x) :
  ∃ L : List α, l = [.sl (L.map enc)] /\ L.length <= reachBytes /\ ∀ x ∈ L, p x := by
 obtain ⟨els, rfl, hl, hel⟩ := slice_ofB hu h
 obtain ⟨L, rfl, hL⟩ := list_ofB (enc := enc) (p := p) els fun el h => he el (hel el h)
 exact ⟨L, rfl, by simpa using hl, hL⟩
theorem inter_ofB {n : Nat} {l : List DV} (h : TyLB Tryz.prog (n + 2) 42 l) : ∃ x : Inter, l = Av.encI x := by
 unfold TyLB at h
 rw [Tryz.underlying42] at h
 simp only [TyFB] at h
 obtain ⟨l1, l2, rfl, h1, l3, l4, rfl, h2, l5, l6, rfl, h3, rfl⟩ := h
 obtain ⟨a, rfl, _⟩ := int_ofB Tryz.underlying3 h1
 obtain ⟨b, rfl, _⟩ := int_ofB Tryz.underlying3 h2
 obtain ⟨c, rfl, _⟩ := int_ofB Tryz.underlying3 h3
 exact ⟨⟨a, b, c⟩, rfl⟩
theorem inters_ofB {n : Nat} {l : List DV} (h : TyLB Tryz.prog (n + 3) 46 l) : ∃ L : List Inter, l = [.sl (L.map Av.encI)] /\ L.length <= reachBytes := by
 obtain ⟨L, rfl, hl, _⟩ := slist_ofB (enc := Av.encI) (p := fun _ => True) Tryz.underlying46 h fun el h => by
  obtain ⟨x, hx⟩ := inter_ofB h
  exact ⟨x, hx, trivial⟩
 exact ⟨L, rfl, hl⟩
theorem role_ofB {n : Nat} {l : List DV} (h : TyLB Tryz.prog (n + 1) 9 l) : ∃ x : ByteArray, l = Av.encS x := by
 obtain ⟨s, rfl, _⟩ := str_ofB Tryz.underlying9 h
 exact ⟨s, rfl⟩
theorem fld_ofB {n : Nat} {l : List DV} (h : TyLB Tryz.prog (n + 3) 167 l) : ∃ x : Fld, l = Av.encF x := by
 unfold TyLB at h
 rw [Tryz.underlying167] at h
 simp only [TyFB] at h
 obtain ⟨l1, l2, rfl, h1, l3, l4, rfl, h2, rfl⟩ := h
 obtain ⟨a, rfl, _⟩ := str_ofB Tryz.underlying9 h1
 unfold TyLB at h2
 rw [Tryz.underlying165] at h2
 simp only [TyFB] at h2
 obtain ⟨l5, l6, rfl, h3, l7, l8, rfl, h4, l9, l10, rfl, h5, rfl⟩ := h2
 obtain ⟨b, rfl, _⟩ := int_ofB Tryz.underlying3 h3
 obtain ⟨c, rfl, _⟩ := int_ofB Tryz.underlying3 h4
 obtain ⟨d, rfl, _⟩ := int_ofB Tryz.underlying3 h5
 exact ⟨⟨a, b, c, d⟩, rfl⟩
theorem dff_ofB {n : Nat} {l : List DV} (h : TyLB Tryz.prog (n + 2) 183 l) : ∃ x : Dff, l = Av.encDf x := by
 unfold TyLB at h
 rw [Tryz.underlying183] at h
 simp only [TyFB] at h
 obtain ⟨l1, l2, rfl, h1, l3, l4, rfl, h2, l5, l6, rfl, h3, rfl⟩ := h
 obtain ⟨a, rfl, _⟩ := int_ofB Tryz.underlying3 h1
 obtain ⟨b, rfl, _⟩ := int_ofB Tryz.underlying3 h2
 obtain ⟨c, rfl, _⟩ := int_ofB Tryz.underlying3 h3
 exact ⟨⟨a, b, c⟩, rfl⟩
theorem eq_ofB {n : Nat} {l : List DV} (h : TyLB Tryz.prog (n + 2) 185 l) : ∃ x : Int × Int, l = Av.encEq x := by
 unfold TyLB at h
 rw [Tryz.underlying185] at h
 obtain ⟨els, rfl, hl, hel⟩ := h
 match els, hl, hel with
 | [x, y], _, hel =>
   obtain ⟨a, rfl, _⟩ := int_ofB Tryz.underlying3 (hel x (by simp))
   obtain ⟨b, rfl, _⟩ := int_ofB Tryz.underlying3 (hel y (by simp))
   exact ⟨(a, b), rfl⟩
def DclB (d : Dcl) : Prop := d.name.size <= 1000000000000000 /\ d.fields.length <= 1000000000000000 /\ d.diffs.length <= 1000000000000000 /\ d.equals.length <= 1000000000000000
theorem reach_small {n : Nat} (h : n <= reachBytes) : n <= 1000000000000000 := Nat.le_trans h (by decide)
theorem dcl_ofB {n : Nat} {l : List DV} (h : TyLB Tryz.prog (n + 5) 96 l) : ∃ x : Dcl, l = Av.encD x /\ DclB x := by
 unfold TyLB at h
 rw [Tryz.underlying96] at h
 simp only [TyFB] at h
 obtain ⟨l1, l2, rfl, h1, l3, l4, rfl, h2, l5, l6, rfl, h3, l7, l8, rfl, h4, rfl⟩ := h
 obtain ⟨a, rfl, ha⟩ := str_ofB Tryz.underlying9 h1
 obtain ⟨F, rfl, hF, _⟩ := slist_ofB (enc := Av.encF) (p := fun _ => True) Tryz.underlying90 h2 fun el h => (fld_ofB h).imp fun x hx => ⟨hx, trivial⟩
 obtain ⟨b, rfl, _⟩ := int_ofB Tryz.underlying3 h3
 unfold TyLB at h4
 rw [Tryz.underlying94] at h4
 simp only [TyFB] at h4
 obtain ⟨l9, l10, rfl, h5, l11, l12, rfl, h6, rfl⟩ := h4
 obtain ⟨D, rfl, hD, _⟩ := slist_ofB (enc := Av.encDf) (p := fun _ => True) Tryz.underlying91 h5 fun el h => (dff_ofB h).imp fun x hx => ⟨hx, trivial⟩
 obtain ⟨E, rfl, hE, _⟩ := slist_ofB (enc := Av.encEq) (p := fun _ => True) Tryz.underlying92 h6 fun el h => (eq_ofB h).imp fun x hx => ⟨hx, trivial⟩
 exact ⟨⟨a, F, b, D, E⟩, rfl, reach_small ha, reach_small hF, reach_small hD, reach_small hE⟩
theorem edg_ofB {n : Nat} {l : List DV} (h : TyLB Tryz.prog (n + 3) 44 l) : ∃ x : Edg, l = Av.encEd x := by
 unfold TyLB at h
 rw [Tryz.underlying44] at h
 simp only [TyFB] at h
 obtain ⟨l1, l2, rfl, h1, l3, l4, rfl, h2, l5, l6, rfl, h3, l7, l8, rfl, h4, rfl⟩ := h
 obtain ⟨a, rfl, _⟩ := int_ofB Tryz.underlying3 h1
 obtain ⟨x, rfl⟩ := inter_ofB h2
 obtain ⟨b, rfl, _⟩ := int_ofB Tryz.underlying3 h3
 obtain ⟨c, rfl⟩ := bool_ofB Tryz.underlying4 h4
 exact ⟨⟨a, x, b, c⟩, rfl⟩
theorem tmo_ofB {n : Nat} {l : List DV} (h : TyLB Tryz.prog (n + 2) 139 l) : ∃ x : Tmo, l = Av.encT x := by
 unfold TyLB at h
 rw [Tryz.underlying139] at h
 simp only [TyFB] at h
 obtain ⟨l1, l2, rfl, h1, l3, l4, rfl, h2, l5, l6, rfl, h3, rfl⟩ := h
 obtain ⟨a, rfl, _⟩ := int_ofB Tryz.underlying3 h1
 obtain ⟨b, rfl, _⟩ := int_ofB Tryz.underlying3 h2
 obtain ⟨c, rfl, _⟩ := int_ofB Tryz.underlying3 h3
 exact ⟨⟨a, b, c⟩, rfl⟩
structure GlobB (g : Glob) : Prop where
 decls : g.decls.length <= 1000000000000000
 decl : ∀ d ∈ g.decls, DclB d
 roles : g.roles.length <= 1000000000000000
 edges : g.edges.length <= 1000000000000000
 timeouts : g.timeouts.length <= 1000000000000000
theorem glob_ofB {n : Nat} {l : List DV} (h : TyLB Tryz.prog (n + 7) 27 l) : ∃ x : Glob, l = Av.encG x /\ GlobB x := by
 unfold TyLB at h
 rw [Tryz.underlying27] at h
 simp only [TyFB] at h
 obtain ⟨l1, l2, rfl, h1, l3, l4, rfl, h2, l5, l6, rfl, h3, l7, l8, rfl, h4, l9, l10, rfl, h5, l11, l12, rfl, h6, l13, l14, rfl, h7, l15, l16, rfl, h8, rfl⟩ := h
 obtain ⟨a, rfl, _⟩ := str_ofB Tryz.underlying9 h1
 obtain ⟨R, rfl, hR, _⟩ := slist_ofB (enc := Av.encS) (p := fun _ => True) Tryz.underlying22 h2 fun el h => (role_ofB h).imp fun x hx => ⟨hx, trivial⟩
 obtain ⟨D, rfl, hD, hD'⟩ := slist_ofB (enc := Av.encD) (p := DclB) Tryz.underlying23 h3 fun el h => dcl_ofB h
 obtain ⟨b, rfl, _⟩ := int_ofB Tryz.underlying3 h4
 obtain ⟨c, rfl, _⟩ := int_ofB Tryz.underlying3 h5
 obtain ⟨d, rfl, _⟩ := int_ofB Tryz.underlying3 h6
 obtain ⟨E, rfl, hE, _⟩ := slist_ofB (enc := Av.encEd) (p := fun _ => True) Tryz.underlying24 h7 fun el h => (edg_ofB h).imp fun x hx => ⟨hx, trivial⟩
 obtain ⟨T, rfl, hT, _⟩ := slist_ofB (enc := Av.encT) (p := fun _ => True) Tryz.underlying25 h8 fun el h => (tmo_ofB h).imp fun x hx => ⟨hx, trivial⟩
 exact ⟨⟨a, R, D, b, c, d, E, T⟩, rfl, reach_small hD, hD', reach_small hR, reach_small hE, reach_small hT⟩
theorem msg_ofB {n : Nat} {l : List DV} (h : TyLB Tryz.prog (n + 2) 38 l) : ∃ x : Msg, l = Av.encMs x := by
 unfold TyLB at h
 rw [Tryz.underlying38] at h
 simp only [TyFB] at h
 obtain ⟨l1, l2, rfl, h1, l3, l4, rfl, h2, rfl⟩ := h
 obtain ⟨a, rfl, _⟩ := int_ofB Tryz.underlying3 h1
 obtain ⟨b, rfl, _⟩ := int_ofB Tryz.underlying3 h2
 exact ⟨⟨a, b⟩, rfl⟩
theorem byte_of {m : Int} (hw : (Lit.int .u8 m).wf = true) : 0 <= m /\ m < 256 := by
 simp only [Lit.wf, decide_eq_true_eq, Bool.and_eq_true] at hw
 have h1 : IntKind.u8.min = 0 := rfl
 have h2 : IntKind.u8.max = 255 := rfl
 omega
theorem bytes_ofB {n : Nat} {l : List DV} (h : TyLB Tryz.prog (n + 2) 59 l) : ∃ L : List Int, l = [.sl (L.map Av.encU)] /\ L.length <= reachBytes /\ ∀ c ∈ L, 0 <= c /\ c < 256 := by
 obtain ⟨els, rfl, hl, hel⟩ := slice_ofB Tryz.underlying59 h
 obtain ⟨L, rfl, hL⟩ := list_ofB (enc := Av.encU) (p := fun c => 0 <= c /\ c < 256) els fun el h => by
  obtain ⟨m, rfl, hw⟩ := int_ofB Tryz.underlying5 (hel el h)
  exact ⟨m, rfl, byte_of hw⟩
 exact ⟨L, rfl, by simpa using hl, hL⟩
theorem small_ofB {g : Glob} (h : GlobB g) : fewE g = true -> Small g := by
 intro hf
 simp only [fewE, Bool.and_eq_true, decide_eq_true_eq] at hf
 refine ⟨by omega, by omega, fun d hd => ?_, fun d hd => ?_, by omega, by omega⟩
 ·obtain ⟨a, b, c, e⟩ := h.decl d hd
  omega
 ·obtain ⟨a, b, c, e⟩ := h.decl d hd
  omega
end Go.Proofs.YtbfebdbdoclagaaGreatDoor
namespace Go.Proofs.YtbfebdbdoclagaaGreatDoor
open Go.ChangeShapes Go.WideShapes Go.ChangeAt Go.RowKit Go.Av
set_option maxRecDepth 100000
theorem int_ofU {n : Nat} {t : TypeId} {k : IntKind} {l : List DV} (hu : Tryz.prog.underlying t = some (.int k)) (h : TyLU 1048576 Tryz.prog (n + 1) t l) : ∃ m, l = [.int k m] /\ (Lit.int k m).wf = true := by
 unfold TyLU at h
 rw [hu] at h
 obtain ⟨m, hm, hw⟩ := h
 exact ⟨m, hm, hw⟩
theorem bool_ofU {n : Nat} {t : TypeId} {l : List DV} (hu : Tryz.prog.underlying t = some .bool) (h : TyLU 1048576 Tryz.prog (n + 1) t l) : ∃ m, l = [.bool m] := by
 unfold TyLU at h
 rw [hu] at h
 exact h
theorem str_ofU {n : Nat} {t : TypeId} {l : List DV} (hu : Tryz.prog.underlying t = some .string) (h : TyLU 1048576 Tryz.prog (n + 1) t l) : ∃ m, l = [.str m] /\ m.size <= 1048576 := by
 unfold TyLU at h
 rw [hu] at h
 exact h
theorem slice_ofU {n : Nat} {t e : TypeId} {l : List DV} (hu : Tryz.prog.underlying t = some (.slice e)) (h : TyLU 1048576 Tryz.prog (n + 1) t l) : ∃ els : List (List DV), l = [.sl els] /\ els.length <= 1048576 /\ ∀ el ∈ els, TyLU 1048576 Tryz.prog n e el := by
 unfold TyLU at h
 rw [hu] at h
 exact h
theorem list_ofU {α : Type} {enc : α -> List DV} {p : α -> Prop} : ∀ (els : List (List DV)), (∀ el ∈ els, ∃ x, el = enc x /\ p x) -> ∃ L : List α, els = L.map enc /\ ∀ x ∈ L, p x
 | [], _ => ⟨[], rfl, by simp⟩
 | e :: els, h => by
   obtain ⟨x, rfl, hx⟩ := h e (by simp)
   obtain ⟨L, rfl, hL⟩ := list_ofU els fun el hel => h el (by simp [hel])
   exact ⟨x :: L, rfl, by simpa using ⟨hx, hL⟩⟩
theorem slist_ofU {α : Type} {n : Nat} {t e : TypeId} {l : List DV} {enc : α -> List DV} {p : α -> Prop} (hu : Tryz.prog.underlying t = some (.slice e)) (h : TyLU 1048576 Tryz.prog (n + 1) t l) (he : ∀ el, TyLU 1048576 Tryz.prog n e el -> ∃ x, el = enc x /\ p x) :
  ∃ L : List α, l = [.sl (L.map enc)] /\ L.length <= 1048576 /\ ∀ x ∈ L, p x := by
 obtain ⟨els, rfl, hl, hel⟩ := slice_ofU hu h
 obtain ⟨L, rfl, hL⟩ := list_ofU (enc := enc) (p := p) els fun el h => he el (hel el h)
 exact ⟨L, rfl, by simpa using hl, hL⟩
theorem inter_ofU {n : Nat} {l : List DV} (h : TyLU 1048576 Tryz.prog (n + 2) 42 l) : ∃ x : Inter, l = Av.encI x := by
 unfold TyLU at h
 rw [Tryz.underlying42] at h
 simp only [TyFB] at h
 obtain ⟨l1, l2, rfl, h1, l3, l4, rfl, h2, l5, l6, rfl, h3, rfl⟩ := h
 obtain ⟨a, rfl, _⟩ := int_ofU Tryz.underlying3 h1
 obtain ⟨b, rfl, _⟩ := int_ofU Tryz.underlying3 h2
 obtain ⟨c, rfl, _⟩ := int_ofU Tryz.underlying3 h3
 exact ⟨⟨a, b, c⟩, rfl⟩
theorem role_ofU {n : Nat} {l : List DV} (h : TyLU 1048576 Tryz.prog (n + 1) 9 l) : ∃ x : ByteArray, l = Av.encS x := by
 obtain ⟨s, rfl, _⟩ := str_ofU Tryz.underlying9 h
 exact ⟨s, rfl⟩
theorem fld_ofU {n : Nat} {l : List DV} (h : TyLU 1048576 Tryz.prog (n + 3) 167 l) : ∃ x : Fld, l = Av.encF x := by
 unfold TyLU at h
 rw [Tryz.underlying167] at h
 simp only [TyFB] at h
 obtain ⟨l1, l2, rfl, h1, l3, l4, rfl, h2, rfl⟩ := h
 obtain ⟨a, rfl, _⟩ := str_ofU Tryz.underlying9 h1
 unfold TyLU at h2
 rw [Tryz.underlying165] at h2
 simp only [TyFB] at h2
 obtain ⟨l5, l6, rfl, h3, l7, l8, rfl, h4, l9, l10, rfl, h5, rfl⟩ := h2
 obtain ⟨b, rfl, _⟩ := int_ofU Tryz.underlying3 h3
 obtain ⟨c, rfl, _⟩ := int_ofU Tryz.underlying3 h4
 obtain ⟨d, rfl, _⟩ := int_ofU Tryz.underlying3 h5
 exact ⟨⟨a, b, c, d⟩, rfl⟩
theorem dff_ofU {n : Nat} {l : List DV} (h : TyLU 1048576 Tryz.prog (n + 2) 183 l) : ∃ x : Dff, l = Av.encDf x := by
 unfold TyLU at h
 rw [Tryz.underlying183] at h
 simp only [TyFB] at h
 obtain ⟨l1, l2, rfl, h1, l3, l4, rfl, h2, l5, l6, rfl, h3, rfl⟩ := h
 obtain ⟨a, rfl, _⟩ := int_ofU Tryz.underlying3 h1
 obtain ⟨b, rfl, _⟩ := int_ofU Tryz.underlying3 h2
 obtain ⟨c, rfl, _⟩ := int_ofU Tryz.underlying3 h3
 exact ⟨⟨a, b, c⟩, rfl⟩
theorem eq_ofU {n : Nat} {l : List DV} (h : TyLU 1048576 Tryz.prog (n + 2) 185 l) : ∃ x : Int × Int, l = Av.encEq x := by
 unfold TyLU at h
 rw [Tryz.underlying185] at h
 obtain ⟨els, rfl, hl, hel⟩ := h
 match els, hl, hel with
 | [x, y], _, hel =>
   obtain ⟨a, rfl, _⟩ := int_ofU Tryz.underlying3 (hel x (by simp))
   obtain ⟨b, rfl, _⟩ := int_ofU Tryz.underlying3 (hel y (by simp))
   exact ⟨(a, b), rfl⟩
def DclU (d : Dcl) : Prop := d.name.size <= 1048576 /\ d.fields.length <= 1048576 /\ d.diffs.length <= 1048576 /\ d.equals.length <= 1048576
theorem reach_smallU {n : Nat} (h : n <= 1048576) : n <= 1048576 := h
theorem dcl_ofU {n : Nat} {l : List DV} (h : TyLU 1048576 Tryz.prog (n + 5) 96 l) : ∃ x : Dcl, l = Av.encD x /\ DclU x := by
 unfold TyLU at h
 rw [Tryz.underlying96] at h
 simp only [TyFB] at h
 obtain ⟨l1, l2, rfl, h1, l3, l4, rfl, h2, l5, l6, rfl, h3, l7, l8, rfl, h4, rfl⟩ := h
 obtain ⟨a, rfl, ha⟩ := str_ofU Tryz.underlying9 h1
 obtain ⟨F, rfl, hF, _⟩ := slist_ofU (enc := Av.encF) (p := fun _ => True) Tryz.underlying90 h2 fun el h => (fld_ofU h).imp fun x hx => ⟨hx, trivial⟩
 obtain ⟨b, rfl, _⟩ := int_ofU Tryz.underlying3 h3
 unfold TyLU at h4
 rw [Tryz.underlying94] at h4
 simp only [TyFB] at h4
 obtain ⟨l9, l10, rfl, h5, l11, l12, rfl, h6, rfl⟩ := h4
 obtain ⟨D, rfl, hD, _⟩ := slist_ofU (enc := Av.encDf) (p := fun _ => True) Tryz.underlying91 h5 fun el h => (dff_ofU h).imp fun x hx => ⟨hx, trivial⟩
 obtain ⟨E, rfl, hE, _⟩ := slist_ofU (enc := Av.encEq) (p := fun _ => True) Tryz.underlying92 h6 fun el h => (eq_ofU h).imp fun x hx => ⟨hx, trivial⟩
 exact ⟨⟨a, F, b, D, E⟩, rfl, reach_smallU ha, reach_smallU hF, reach_smallU hD, reach_smallU hE⟩
theorem edg_ofU {n : Nat} {l : List DV} (h : TyLU 1048576 Tryz.prog (n + 3) 44 l) : ∃ x : Edg, l = Av.encEd x := by
 unfold TyLU at h
 rw [Tryz.underlying44] at h
 simp only [TyFB] at h
 obtain ⟨l1, l2, rfl, h1, l3, l4, rfl, h2, l5, l6, rfl, h3, l7, l8, rfl, h4, rfl⟩ := h
 obtain ⟨a, rfl, _⟩ := int_ofU Tryz.underlying3 h1
 obtain ⟨x, rfl⟩ := inter_ofU h2
 obtain ⟨b, rfl, _⟩ := int_ofU Tryz.underlying3 h3
 obtain ⟨c, rfl⟩ := bool_ofU Tryz.underlying4 h4
 exact ⟨⟨a, x, b, c⟩, rfl⟩
theorem tmo_ofU {n : Nat} {l : List DV} (h : TyLU 1048576 Tryz.prog (n + 2) 139 l) : ∃ x : Tmo, l = Av.encT x := by
 unfold TyLU at h
 rw [Tryz.underlying139] at h
 simp only [TyFB] at h
 obtain ⟨l1, l2, rfl, h1, l3, l4, rfl, h2, l5, l6, rfl, h3, rfl⟩ := h
 obtain ⟨a, rfl, _⟩ := int_ofU Tryz.underlying3 h1
 obtain ⟨b, rfl, _⟩ := int_ofU Tryz.underlying3 h2
 obtain ⟨c, rfl, _⟩ := int_ofU Tryz.underlying3 h3
 exact ⟨⟨a, b, c⟩, rfl⟩
structure GlobU (g : Glob) : Prop where
 decls : g.decls.length <= 1048576
 decl : ∀ d ∈ g.decls, DclU d
 roles : g.roles.length <= 1048576
 edges : g.edges.length <= 1048576
 timeouts : g.timeouts.length <= 1048576
theorem glob_ofU {n : Nat} {l : List DV} (h : TyLU 1048576 Tryz.prog (n + 7) 27 l) : ∃ x : Glob, l = Av.encG x /\ GlobU x := by
 unfold TyLU at h
 rw [Tryz.underlying27] at h
 simp only [TyFB] at h
 obtain ⟨l1, l2, rfl, h1, l3, l4, rfl, h2, l5, l6, rfl, h3, l7, l8, rfl, h4, l9, l10, rfl, h5, l11, l12, rfl, h6, l13, l14, rfl, h7, l15, l16, rfl, h8, rfl⟩ := h
 obtain ⟨a, rfl, _⟩ := str_ofU Tryz.underlying9 h1
 obtain ⟨R, rfl, hR, _⟩ := slist_ofU (enc := Av.encS) (p := fun _ => True) Tryz.underlying22 h2 fun el h => (role_ofU h).imp fun x hx => ⟨hx, trivial⟩
 obtain ⟨D, rfl, hD, hD'⟩ := slist_ofU (enc := Av.encD) (p := DclU) Tryz.underlying23 h3 fun el h => dcl_ofU h
 obtain ⟨b, rfl, _⟩ := int_ofU Tryz.underlying3 h4
 obtain ⟨c, rfl, _⟩ := int_ofU Tryz.underlying3 h5
 obtain ⟨d, rfl, _⟩ := int_ofU Tryz.underlying3 h6
 obtain ⟨E, rfl, hE, _⟩ := slist_ofU (enc := Av.encEd) (p := fun _ => True) Tryz.underlying24 h7 fun el h => (edg_ofU h).imp fun x hx => ⟨hx, trivial⟩
 obtain ⟨T, rfl, hT, _⟩ := slist_ofU (enc := Av.encT) (p := fun _ => True) Tryz.underlying25 h8 fun el h => (tmo_ofU h).imp fun x hx => ⟨hx, trivial⟩
 exact ⟨⟨a, R, D, b, c, d, E, T⟩, rfl, reach_smallU hD, hD', reach_smallU hR, reach_smallU hE, reach_smallU hT⟩
theorem msg_ofU {n : Nat} {l : List DV} (h : TyLU 1048576 Tryz.prog (n + 2) 38 l) : ∃ x : Msg, l = Av.encMs x := by
 unfold TyLU at h
 rw [Tryz.underlying38] at h
 simp only [TyFB] at h
 obtain ⟨l1, l2, rfl, h1, l3, l4, rfl, h2, rfl⟩ := h
 obtain ⟨a, rfl, _⟩ := int_ofU Tryz.underlying3 h1
 obtain ⟨b, rfl, _⟩ := int_ofU Tryz.underlying3 h2
 exact ⟨⟨a, b⟩, rfl⟩
theorem small_ofU {g : Glob} (h : GlobU g) : fewE g = true -> Small g := by
 intro hf
 simp only [fewE, Bool.and_eq_true, decide_eq_true_eq] at hf
 refine ⟨by omega, by omega, fun d hd => ?_, fun d hd => ?_, by omega, by omega⟩
 ·obtain ⟨a, b, c, e⟩ := h.decl d hd
  omega
 ·obtain ⟨a, b, c, e⟩ := h.decl d hd
  omega
theorem fp_ofU {g : Glob} (h : GlobU g) : fewE g = true -> Small g /\ ∀ d ∈ g.decls, d.fields.length <= 2000000 := fun hf => ⟨small_ofU h hf, fun d hd => by
 obtain ⟨a, b, c, e⟩ := h.decl d hd
 omega⟩
end Go.Proofs.YtbfebdbdoclagaaGreatDoor
