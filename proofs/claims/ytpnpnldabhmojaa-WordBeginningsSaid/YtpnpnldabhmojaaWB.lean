/- Part of a proof by symbolic walks on plain data. -/
import Derived.Test.YtpnpnldabhmojaaWCa
import Derived.Test.YtpnpnldabhmojaaWT
set_option linter.unusedVariables false
set_option linter.unusedSimpArgs false
namespace Go.Av
open Go Go.RowKit Go.Proofs

structure Inter where
  from_ : Int
  to : Int
  label : Int
  deriving DecidableEq

def encI (x : Inter) : List DV := [.int .i64 x.from_, .int .i64 x.to, .int .i64 x.label]

structure Ev where
  role : Int
  send : Bool
  peer : Int
  label : Int
  vals : Option (List (List DV))

def valsDV : Option (List (List DV)) → DV
  | none => .nil
  | some els => .sl els

@[go_sem ↓ high] theorem flat_vals (o : Option (List (List DV))) : (valsDV o).flat = true := by cases o <;> rfl
@[go_sem ↓ high] theorem frz_vals (o : Option (List (List DV))) : (valsDV o).frz = valsDV o := by cases o <;> rfl

def encE (x : Ev) : List DV := [.int .i64 x.role, .bool x.send, .int .i64 x.peer, .int .i64 x.label, valsDV x.vals]


def encH (x : List Ev) : List DV := [.sl (x.map encE)]
def encN (x : Int) : List DV := [.int .i64 x]
@[go_sem ↓ high] theorem frz_encI (x : Inter) : frzL (encI x) = encI x := by simp [encI, frzL, DV.frz]
@[go_sem ↓ high] theorem frz_encE (x : Ev) : frzL (encE x) = encE x := by simp [encE, frzL, DV.frz, frz_vals]
@[go_sem ↓ high] theorem frz_encN (x : Int) : frzL (encN x) = encN x := by simp [encN, frzL, DV.frz]
@[go_sem ↓ high] theorem frz_encH (x : List Ev) : frzL (encH x) = encH x := by simp [encH, frzL, DV.frz]
theorem all_succ {α : Type} {p : α → Bool} {l : List α} {k : Nat} (h : k < l.length) : (l.take (k + 1)).all p = ((l.take k).all p && p l[k]) := by
  rw [List.take_succ_eq_append_getElem h, List.all_append]
  simp
theorem all_no {α : Type} {p : α → Bool} {l : List α} {k : Nat} (h : k < l.length) (hb : p l[k] = false) : l.all p = false := by
  rw [List.all_eq_false]
  exact ⟨_, List.getElem_mem h, by simp [hb]⟩

@[go_sem] theorem frzLL_append : ∀ (l m : List (List DV)), frzLL (l ++ m) = frzLL l ++ frzLL m
  | [], m => rfl
  | x :: l, m => by simp [frzLL, frzLL_append l m]

@[go_sem] theorem clo_encI (l : List Inter) : clo (l.map encI) ↔ True := by
  simp only [iff_true]
  intro e he d hd
  obtain ⟨x, _, rfl⟩ := List.mem_map.1 he
  simp only [encI, List.mem_cons, List.not_mem_nil, or_false] at hd
  rcases hd with rfl | rfl | rfl <;> exact .int _ _
@[go_sem] theorem clo_encN (l : List Int) : clo (l.map encN) ↔ True := by
  simp only [iff_true]
  intro e he d hd
  obtain ⟨x, _, rfl⟩ := List.mem_map.1 he
  simp only [encN, List.mem_cons, List.not_mem_nil, or_false] at hd
  subst hd
  exact .int _ _
theorem clo_encE {l : List Ev} (h : ∀ x ∈ l, x.vals = none) : clo (l.map encE) := by
  intro e he d hd
  obtain ⟨x, hx, rfl⟩ := List.mem_map.1 he
  simp only [encE, List.mem_cons, List.not_mem_nil, or_false, h x hx, valsDV] at hd
  rcases hd with rfl | rfl | rfl | rfl | rfl <;> first | exact .int _ _ | exact .bool _ | exact .nil

theorem mem_encI {x : Inter} {d : DV} (h : d ∈ encI x) : d.flat = true := by
  simp only [encI, List.mem_cons, List.not_mem_nil, or_false] at h
  rcases h with rfl | rfl | rfl <;> rfl

/-- Room for what is appended: interactions out of a list. -/
theorem okI_of {els news : List (List DV)} (h1 : ∀ e ∈ news, ∃ x, e = encI x) (h2 : els.length + news.length ≤ 1000000000) : appendOk 3 24 els news := by
  refine ⟨fun e he => ?_, fun e he => ?_, by omega, by unfold maxLen; omega, by omega⟩
  · obtain ⟨x, rfl⟩ := h1 e he
    rw [List.all_eq_true]
    exact fun d hd => mem_encI hd
  · obtain ⟨x, rfl⟩ := h1 e he
    rfl
end Go.Av
