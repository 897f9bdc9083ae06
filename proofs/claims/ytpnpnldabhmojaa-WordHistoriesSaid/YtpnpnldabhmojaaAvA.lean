/- Values of a Go program as plain data: what it means that a value reads as data, and which blocks of memory it owns. -/
import Derived.WalkKit
import Derived.Deep.Quiet
set_option linter.unusedVariables false
set_option linter.unusedSimpArgs false
namespace Go.Av
open Go Go.RowKit

inductive DV where
  | int (k : IntKind) (n : Int)
  | bool (b : Bool)
  | str (s : ByteArray)
  | raw (v : Value)
  | nil
  | sl (els : List (List DV))
  | ow (z : Nat) (els : List (List DV))
  | bx (l : List DV)
  | rf (l : List DV)
  | dead

mutual
inductive Cz (w : World) (S : Nat → Prop) : Value → DV → List Nat → Prop
  | int (k : IntKind) (n : Int) : Cz w S (.int k n) (.int k n) []
  | bool (b : Bool) : Cz w S (.bool b) (.bool b) []
  | str (s : ByteArray) : Cz w S (.string s) (.str s) []
  | raw (v : Value) (h : v.oneCell' = true) : Cz w S v (.raw v) []
  | dead (v : Value) (h : v.oneCell' = true) : Cz w S v .dead []
  | nil : Cz w S (.slice none 0 0) .nil []
  | shNil (a : Option Addr) (c : Nat) : Cz w S (.slice a 0 c) (.sl []) []
  | owNil (z : Nat) : Cz w S (.slice none 0 0) (.ow z []) []
  | sh (ad : Addr) (n c z : Nat) (els : List (List DV)) (vs : List Value) (hS : S ad.block) (hn : els.length = n) (hc : n ≤ c) (hm : c ≤ maxLen)
      (hz : ∀ e ∈ els, e.length = z) (hcell : ∀ j u, vs[j]? = some u → w.cell? (ad.add j) = some u) (hl : CzL w S vs els.flatten []) : Cz w S (.slice (some ad) n c) (.sl els) []
  | ow (b off n c z : Nat) (els : List (List DV)) (T : TypeId) (cs : Array Value) (rs : List Nat) (hb : w.heap[b]? = some (.cells cs T (0, 0))) (hn : els.length = n) (hc : n ≤ c) (hm : c ≤ maxLen)
      (hsz : off + c * z ≤ cs.size) (hz : ∀ e ∈ els, e.length = z) (hl : CzL w S ((cs.toList.drop off).take (n * z)) els.flatten rs) : Cz w S (.slice (some ⟨b, off, none⟩) n c) (.ow z els) (b :: rs)
  | bx (b : Nat) (l : List DV) (T : TypeId) (cs : Array Value) (rs : List Nat) (hb : w.heap[b]? = some (.cells cs T (0, 0))) (hl : CzL w S cs.toList l rs) : Cz w S (.pointer (some ⟨b, 0, none⟩)) (.bx l) (b :: rs)
  | rf (ad : Addr) (l : List DV) (vs : List Value) (hS : S ad.block) (hcell : ∀ j u, vs[j]? = some u → w.cell? (ad.add j) = some u) (hl : CzL w S vs l []) : Cz w S (.pointer (some ad)) (.rf l) []
inductive CzL (w : World) (S : Nat → Prop) : List Value → List DV → List Nat → Prop
  | nil : CzL w S [] [] []
  | cons (v : Value) (x : DV) (r : List Nat) (vs : List Value) (xs : List DV) (rs : List Nat) (h : Cz w S v x r) (hs : CzL w S vs xs rs) : CzL w S (v :: vs) (x :: xs) (r ++ rs)
end

theorem block_of_add (a : Addr) (n : Nat) : (a.add n).block = a.block := by unfold Addr.add; split <;> rfl
theorem add_of_add (a : Addr) (i j : Nat) : (a.add i).add j = a.add (i + j) := by
  unfold Addr.add
  by_cases hi : i = 0 <;> by_cases hj : j = 0 <;> simp [hi, hj, Nat.add_assoc]

theorem cell_same {w w' : World} {a : Addr} (h : w'.heap[a.block]? = w.heap[a.block]?) : w'.cell? a = w.cell? a := by simp [World.cell?, h]

mutual
theorem Cz.keep {w w' : World} {S S' : Nat → Prop} (hS : ∀ b, S b → S' b ∧ w'.heap[b]? = w.heap[b]?) : ∀ {v : Value} {x : DV} {rs : List Nat}, Cz w S v x rs → (∀ b ∈ rs, w'.heap[b]? = w.heap[b]?) → Cz w' S' v x rs
  | _, _, _, .int k n, _ => .int k n
  | _, _, _, .bool b, _ => .bool b
  | _, _, _, .str s, _ => .str s
  | _, _, _, .raw v h, _ => .raw v h
  | _, _, _, .dead v h, _ => .dead v h
  | _, _, _, .nil, _ => .nil
  | _, _, _, .shNil a c, _ => .shNil a c
  | _, _, _, .owNil z, _ => .owNil z
  | _, _, _, .sh ad n c z els vs h1 h2 h3 h4 h5 h6 h7, _ => .sh ad n c z els vs (hS _ h1).1 h2 h3 h4 h5 (fun j u hu => (cell_same (by rw [block_of_add]; exact (hS _ h1).2)).trans (h6 j u hu)) (CzL.keep hS h7 (by simp))
  | _, _, _, .ow b off n c z els T cs rs h1 h2 h3 h4 h5 h6 h7, hr => .ow b off n c z els T cs rs ((hr b (by simp)).trans h1) h2 h3 h4 h5 h6 (CzL.keep hS h7 (fun b' hb => hr b' (by simp [hb])))
  | _, _, _, .bx b l T cs rs h1 h2, hr => .bx b l T cs rs ((hr b (by simp)).trans h1) (CzL.keep hS h2 (fun b' hb => hr b' (by simp [hb])))
  | _, _, _, .rf ad l vs h1 h2 h3, _ => .rf ad l vs (hS _ h1).1 (fun j u hu => (cell_same (by rw [block_of_add]; exact (hS _ h1).2)).trans (h2 j u hu)) (CzL.keep hS h3 (by simp))
theorem CzL.keep {w w' : World} {S S' : Nat → Prop} (hS : ∀ b, S b → S' b ∧ w'.heap[b]? = w.heap[b]?) : ∀ {v : List Value} {x : List DV} {rs : List Nat}, CzL w S v x rs → (∀ b ∈ rs, w'.heap[b]? = w.heap[b]?) → CzL w' S' v x rs
  | _, _, _, .nil, _ => .nil
  | _, _, _, .cons v x r vs xs rs h hs, hr => .cons v x r vs xs rs (Cz.keep hS h (fun b hb => hr b (by simp [hb]))) (CzL.keep hS hs (fun b hb => hr b (by simp [hb])))
end

theorem Cz.one {w : World} {S : Nat → Prop} {v : Value} {x : DV} {rs : List Nat} (h : Cz w S v x rs) : v.oneCell' = true := by
  cases h <;> first | rfl | assumption

theorem CzL.length {w : World} {S : Nat → Prop} : ∀ {vs : List Value} {xs : List DV} {rs : List Nat}, CzL w S vs xs rs → vs.length = xs.length
  | _, _, _, .nil => rfl
  | _, _, _, .cons _ _ _ _ _ _ _ hs => by simp [CzL.length hs]

theorem CzL.allOne {w : World} {S : Nat → Prop} : ∀ {vs : List Value} {xs : List DV} {rs : List Nat}, CzL w S vs xs rs → ∀ v ∈ vs, v.oneCell' = true
  | _, _, _, .nil => by simp
  | _, _, _, .cons _ _ _ _ _ _ h hs => by
    intro v hv
    rcases List.mem_cons.1 hv with rfl | hv
    · exact h.one
    · exact CzL.allOne hs v hv

theorem CzL.append {w : World} {S : Nat → Prop} : ∀ {vs : List Value} {xs : List DV} {rs : List Nat} {vs' : List Value} {xs' : List DV} {rs' : List Nat}, CzL w S vs xs rs → CzL w S vs' xs' rs' → CzL w S (vs ++ vs') (xs ++ xs') (rs ++ rs')
  | _, _, _, _, _, _, .nil, h' => h'
  | _, _, _, _, _, _, .cons v x r vs xs rs h hs, h' => by
    rw [List.append_assoc]
    exact .cons v x r _ _ _ h (CzL.append hs h')

/-- Cut in two: what lies on each side owns its own part. -/
theorem CzL.split {w : World} {S : Nat → Prop} (k : Nat) : ∀ {vs : List Value} {xs : List DV} {rs : List Nat}, CzL w S vs xs rs → ∃ r1 r2, rs = r1 ++ r2 ∧ CzL w S (vs.take k) (xs.take k) r1 ∧ CzL w S (vs.drop k) (xs.drop k) r2 := by
  induction k with
  | zero => intro vs xs rs h; exact ⟨[], rs, rfl, .nil, h⟩
  | succ k ih =>
    intro vs xs rs h
    cases h with
    | nil => exact ⟨[], [], rfl, .nil, .nil⟩
    | cons v x r vs xs rs h hs =>
      obtain ⟨r1, r2, rfl, h1, h2⟩ := ih hs
      exact ⟨r ++ r1, r2, by simp, .cons v x r _ _ _ h h1, h2⟩

theorem CzL.get {w : World} {S : Nat → Prop} {vs : List Value} {xs : List DV} {rs : List Nat} (h : CzL w S vs xs rs) {i : Nat} {x : DV} (hx : xs[i]? = some x) : ∃ v r, vs[i]? = some v ∧ Cz w S v x r ∧ ∀ b ∈ r, b ∈ rs := by
  obtain ⟨r1, r2, rfl, _, h2⟩ := CzL.split i h
  have hi : i < xs.length := by
    rcases Nat.lt_or_ge i xs.length with h | h
    · exact h
    · simp [List.getElem?_eq_none h] at hx
  rw [List.drop_eq_getElem_cons hi] at h2
  have hv : i < vs.length := by rw [h.length]; exact hi
  rw [List.drop_eq_getElem_cons hv] at h2
  have e : xs[i] = x := by simpa [List.getElem?_eq_getElem hi] using hx
  rw [e] at h2
  cases h2 with
  | cons v x r vs' xs' rs' hc hcs => exact ⟨vs[i], r, List.getElem?_eq_getElem hv, hc, fun b hb => by simp [hb]⟩

/-- A piece of a list of cells replaced. -/
def splice {α : Type} (l : List α) (k : Nat) (news : List α) : List α := l.take k ++ news ++ l.drop (k + news.length)

theorem splice_length {α : Type} (l : List α) (k : Nat) (news : List α) (h : k + news.length ≤ l.length) : (splice l k news).length = l.length := by
  simp [splice]; omega

theorem CzL.splice {w : World} {S : Nat → Prop} {vs : List Value} {xs : List DV} {rs : List Nat} (h : CzL w S vs xs rs) (k : Nat) {news : List Value} {ds : List DV} {rn : List Nat} (hn : CzL w S news ds rn) :
    ∃ r1 rm r2, rs = r1 ++ (rm ++ r2) ∧ CzL w S (Av.splice vs k news) (Av.splice xs k ds) (r1 ++ rn ++ r2) ∧ CzL w S ((vs.drop k).take ds.length) ((xs.drop k).take ds.length) rm := by
  obtain ⟨r1, r0, rfl, h1, h0⟩ := CzL.split k h
  obtain ⟨rm, r2, rfl, hm, h2⟩ := CzL.split ds.length h0
  refine ⟨r1, rm, r2, rfl, ?_, hm⟩
  rw [List.drop_drop, List.drop_drop] at h2
  have e := hn.length
  unfold Av.splice
  rw [e]
  exact (h1.append hn).append h2

theorem flatten_len {α : Type} {z : Nat} : ∀ {els : List (List α)}, (∀ e ∈ els, e.length = z) → els.flatten.length = els.length * z
  | [], _ => by simp
  | e :: els, h => by
    have := flatten_len (els := els) (fun e he => h e (by simp [he]))
    have h0 := h e (by simp)
    simp only [List.flatten_cons, List.length_append, List.length_cons, this, h0, Nat.succ_mul]
    omega

theorem flatten_drop {α : Type} {z : Nat} : ∀ (i : Nat) {els : List (List α)}, (∀ e ∈ els, e.length = z) → els.flatten.drop (i * z) = (els.drop i).flatten
  | 0, _, _ => by simp
  | i + 1, [], _ => by simp
  | i + 1, e :: els, h => by
    have h0 := h e (by simp)
    have ih := flatten_drop i (els := els) (fun e he => h e (by simp [he]))
    have : (i + 1) * z = e.length + i * z := by rw [h0, Nat.succ_mul]; omega
    rw [List.flatten_cons, this, List.drop_append, show e.length + i * z - e.length = i * z from by omega, ih]
    simp

theorem flatten_take {α : Type} {z : Nat} : ∀ (i : Nat) {els : List (List α)}, (∀ e ∈ els, e.length = z) → els.flatten.take (i * z) = (els.take i).flatten
  | 0, _, _ => by simp
  | i + 1, [], _ => by simp
  | i + 1, e :: els, h => by
    have h0 := h e (by simp)
    have ih := flatten_take i (els := els) (fun e he => h e (by simp [he]))
    have : (i + 1) * z = e.length + i * z := by rw [h0, Nat.succ_mul]; omega
    rw [List.flatten_cons, this, List.take_append, List.take_succ_cons, List.flatten_cons, ← ih]
    simp [List.take_of_length_le]

/-- The cells of element i. -/
theorem flatten_at {α : Type} {z : Nat} {els : List (List α)} (h : ∀ e ∈ els, e.length = z) {i : Nat} {el : List α} (hi : els[i]? = some el) : (els.flatten.drop (i * z)).take z = el := by
  have hlt : i < els.length := (List.getElem?_eq_some_iff.1 hi).1
  have he : els[i] = el := (List.getElem?_eq_some_iff.1 hi).2
  rw [flatten_drop i h, List.drop_eq_getElem_cons hlt, he, List.flatten_cons]
  have : el.length = z := h el (by rw [← he]; exact List.getElem_mem hlt)
  rw [← this, List.take_left]

theorem flatten_splice {α : Type} {z : Nat} {els : List (List α)} (h : ∀ e ∈ els, e.length = z) {i j : Nat} {el : List α} (hi : els[i]? = some el) (ds : List α) (hj : j + ds.length ≤ z) :
    (els.set i (splice el j ds)).flatten = splice els.flatten (i * z + j) ds := by
  have hlt : i < els.length := (List.getElem?_eq_some_iff.1 hi).1
  have he : els[i] = el := (List.getElem?_eq_some_iff.1 hi).2
  have hz : el.length = z := h el (by rw [← he]; exact List.getElem_mem hlt)
  have e1 : els.set i (splice el j ds) = els.take i ++ (splice el j ds :: els.drop (i + 1)) := by rw [List.set_eq_take_append_cons_drop]; simp [hlt]
  have e2 : els = els.take i ++ (el :: els.drop (i + 1)) := by
    conv => lhs; rw [← List.take_append_drop i els, List.drop_eq_getElem_cons hlt, he]
  have hl : (els.take i).flatten.length = i * z := by
    rw [flatten_len (z := z) (fun e he => h e (List.mem_of_mem_take he)), List.length_take]
    congr 1; omega
  have e3 : els.flatten = (els.take i).flatten ++ (el ++ (els.drop (i + 1)).flatten) := by
    conv => lhs; rw [e2]
    simp
  rw [e1, e3, List.flatten_append, List.flatten_cons]
  generalize (els.take i).flatten = L at *
  generalize (els.drop (i + 1)).flatten = R at *
  unfold splice
  rw [List.take_append, List.drop_append, hl, show i * z + j - i * z = j from by omega, show i * z + j + ds.length - i * z = j + ds.length from by omega, List.take_of_length_le (l := L) (i := i * z + j) (by omega), List.drop_eq_nil_of_le (as := L) (i := i * z + j + ds.length) (by omega),
    List.take_append (l₁ := el), List.drop_append (l₁ := el), show j - el.length = 0 from by omega, show j + ds.length - el.length = 0 from by omega]
  simp

end Go.Av
