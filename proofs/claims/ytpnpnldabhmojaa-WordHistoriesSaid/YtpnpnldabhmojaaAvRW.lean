/- What a caller hands over, read as data. -/
import Derived.Test.YtpnpnldabhmojaaF8
import Derived.Deep.Slices
import Derived.OpenShut
set_option linter.unusedVariables false
set_option linter.unusedSimpArgs false
namespace Go.Av
open Go Go.RowKit Go.Deep

/-- Data of a type. -/
def TyF (ty : TypeId → List DV → Prop) : List Field → List DV → Prop
  | [], l => l = []
  | f :: fs, l => ∃ l1 l2, l = l1 ++ l2 ∧ ty f.type l1 ∧ TyF ty fs l2

def TyL (P : Program) : Nat → TypeId → List DV → Prop
  | 0, _, _ => False
  | n + 1, t, l => match P.underlying t with
    | some (.int k) => ∃ m, l = [.int k m] ∧ (Lit.int k m).wf = true
    | some .bool => ∃ b, l = [.bool b]
    | some .string => ∃ s, l = [.str s]
    | some (.slice e) => ∃ els : List (List DV), l = [.sl els] ∧ els.length ≤ maxLen ∧ ∀ el ∈ els, TyL P n e el
    | some (.struct fs) => TyF (TyL P n) fs.toList l
    | some (.array k e) => ∃ els : List (List DV), l = els.flatten ∧ els.length = k ∧ ∀ el ∈ els, TyL P n e el
    | _ => False

/-- Fields that lie one behind the other. -/
def packed (P : Program) : Nat → List Field → Option Nat
  | o, [] => some o
  | o, f :: fs => if f.offset = o then packed P (o + P.cellsOf f.type) fs else none

def tyOk (P : Program) : Nat → TypeId → Bool
  | 0, _ => false
  | n + 1, t => match P.underlying t with
    | some (.int _) => P.cellsOf t == 1
    | some .bool => P.cellsOf t == 1
    | some .string => P.cellsOf t == 1
    | some (.slice e) => (P.cellsOf t == 1 && decide (0 < P.cellsOf e)) && tyOk P n e
    | some (.struct fs) => (packed P 0 fs.toList == some (P.cellsOf t)) && fs.toList.all fun f => tyOk P n f.type
    | some (.array k e) => P.cellsOf t == k * P.cellsOf e && tyOk P n e
    | _ => false

section
variable {H : Type} {enc : TypeId × Value → H} {P : Program} {w : World} {base : Nat} {spare : Nat → Bool} {held : Bool}

abbrev Old (w : World) : Nat → Prop := fun b => b < w.heap.size

theorem cell_lt {w : World} {a : Addr} {v : Value} (h : w.cell? a = some v) : a.block < w.heap.size := by
  rcases Nat.lt_or_ge a.block w.heap.size with h' | h'
  · exact h'
  · simp [World.cell?, Array.getElem?_eq_none h'] at h

theorem CzL.flatten {S : Nat → Prop} : ∀ (vss : List (List Value)) (xss : List (List DV)), vss.length = xss.length → (∀ (i : Nat) (vs : List Value) (xs : List DV), vss[i]? = some vs → xss[i]? = some xs → CzL w S vs xs []) → CzL w S vss.flatten xss.flatten []
  | [], [], _, _ => by simpa using CzL.nil
  | vs :: vss, xs :: xss, hl, h => by
    have h1 := h 0 vs xs rfl rfl
    have h2 := CzL.flatten vss xss (by simpa using hl) (fun i a b ha hb => h (i + 1) a b ha hb)
    simpa using h1.append h2
  | [], _ :: _, hl, _ => by simp at hl
  | _ :: _, [], hl, _ => by simp at hl

theorem fields_cz {n : Nat} {S : Nat → Prop} : ∀ (fs : List Field) (o e : Nat) (cs : List Value), packed P o fs = some e → cs.length = e → (∀ f ∈ fs, ∃ l, CzL w S ((cs.drop f.offset).take (P.cellsOf f.type)) l [] ∧ TyL P n f.type l) →
    ∃ l, CzL w S (cs.drop o) l [] ∧ TyF (TyL P n) fs l
  | [], o, e, cs, hp, hl, _ => by
    simp only [packed, Option.some.injEq] at hp
    refine ⟨[], ?_, rfl⟩
    rw [List.drop_eq_nil_of_le (by omega)]
    exact .nil
  | f :: fs, o, e, cs, hp, hl, hf => by
    simp only [packed] at hp
    split at hp
    · rename_i ho
      obtain ⟨l1, h1, h2⟩ := hf f (by simp)
      obtain ⟨l2, h3, h4⟩ := fields_cz fs _ e cs hp hl (fun g hg => hf g (by simp [hg]))
      refine ⟨l1 ++ l2, ?_, l1, l2, rfl, h2, h4⟩
      have := h1.append h3
      rw [ho] at this
      have e1 : (cs.drop o).take (P.cellsOf f.type) ++ cs.drop (o + P.cellsOf f.type) = cs.drop o := by
        rw [← List.drop_drop, List.take_append_drop]
      rw [e1] at this
      simpa using this
    · cases hp

theorem trod_cz : ∀ (m : Nat) (t : TypeId), tyOk P m t = true → ∀ (fuel : Nat) (cs : List Value) (x : DataW H × List MemPlace), DataW.trod enc P w base spare held fuel t cs = some x →
    cs.length = P.cellsOf t ∧ ∃ l, CzL w (Old w) cs l [] ∧ TyL P m t l
  | 0, t, ho, _, _, _, _ => by simp [tyOk] at ho
  | m + 1, t, ho, fuel, cs, x, h => by
    unfold tyOk at ho
    unfold TyL
    cases hu : P.underlying t with
    | none => rw [hu] at ho; cases ho
    | some d =>
      rw [hu] at ho
      cases d with
      | int k =>
        obtain ⟨n, rfl, _, hw⟩ := DataW.trod_int hu h
        simp only [beq_iff_eq] at ho
        exact ⟨by simp [ho], _, .cons _ _ [] _ _ [] (.int k n) .nil, n, rfl, hw⟩
      | bool =>
        obtain ⟨b, rfl, _⟩ := DataW.trod_bool hu h
        simp only [beq_iff_eq] at ho
        exact ⟨by simp [ho], _, .cons _ _ [] _ _ [] (.bool b) .nil, b, rfl⟩
      | string =>
        obtain ⟨s, rfl, _, _⟩ := DataW.trod_string hu h
        simp only [beq_iff_eq] at ho
        exact ⟨by simp [ho], _, .cons _ _ [] _ _ [] (.str s) .nil, s, rfl⟩
      | slice e =>
        simp only [Bool.and_eq_true, beq_iff_eq, decide_eq_true_eq] at ho
        rcases open_slice hu h with ⟨rfl, _⟩ | ⟨a, len, cap, q, n, D, Pl, rfl, hb, hl, hm, hq, _, hi⟩
        · exact ⟨by simp [ho.1.1], _, .cons _ _ [] _ _ [] (.shNil none 0) .nil, [], rfl, by simp, by simp⟩
        · refine ⟨by simp [ho.1.1], ?_⟩
          have hlq : len ≤ q := by rw [hq]; split <;> omega
          -- every element's cells and data
          have hel : ∀ i, ∃ (vs : List Value) (l : List DV), i < len → (vs.length = P.cellsOf e ∧ (∀ j, j < P.cellsOf e → w.cell? ((a.add (i * P.cellsOf e)).add j) = vs[j]?) ∧ CzL w (Old w) vs l [] ∧ TyL P m e l) := by
            intro i
            by_cases hil : i < len
            · obtain ⟨cs', hc, ht'⟩ := hi i (by omega)
              obtain ⟨_, hcl, hat⟩ := World.cells?_some hc
              obtain ⟨_, l, h1, h2⟩ := trod_cz m e ho.2 n cs' _ ht'
              exact ⟨cs', l, fun _ => ⟨hcl, hat, h1, h2⟩⟩
            · exact ⟨[], [], fun h => (hil h).elim⟩
          obtain ⟨V, hV⟩ := Classical.axiomOfChoice hel
          obtain ⟨L, hL⟩ := Classical.axiomOfChoice hV
          have hone : ∀ i, i < len → (L i).length = P.cellsOf e := by
            intro i hil
            obtain ⟨h1, _, h3, _⟩ := hL i hil
            rw [← h3.length, h1]
          have hty : ∀ el ∈ (List.range len).map L, TyL P m e el := by
            intro el hel
            obtain ⟨i, hi', rfl⟩ := List.mem_map.1 hel
            exact (hL i (by simpa using hi')).2.2.2
          by_cases hlen0 : len = 0
          · subst hlen0
            exact ⟨_, .cons _ _ [] _ _ [] (.shNil (some a) cap) .nil, [], rfl, by simp, by simp⟩
          have hz := ho.1.2
          refine ⟨[.sl ((List.range len).map L)], .cons _ _ [] _ _ [] (.sh a len cap (P.cellsOf e) _ ((List.range len).map V).flatten ?_ (by simp) hl hm ?_ ?_ ?_) .nil, _, rfl, by simp; omega, hty⟩
          · obtain ⟨h1, h2, _⟩ := hL 0 (by omega)
            have h3 := h2 0 (by omega)
            rw [List.getElem?_eq_getElem (by omega)] at h3
            have := cell_lt h3
            rw [block_of_add, block_of_add] at this
            exact this
          · intro el hel
            obtain ⟨i, hi', rfl⟩ := List.mem_map.1 hel
            exact hone i (by simpa using hi')
          · intro j u hu'
            have hvl : ∀ vs ∈ (List.range len).map V, vs.length = P.cellsOf e := by
              intro vs hvs
              obtain ⟨i, hi', rfl⟩ := List.mem_map.1 hvs
              exact (hL i (by simpa using hi')).1
            have hjl : j < len * P.cellsOf e := by
              have := (List.getElem?_eq_some_iff.1 hu').1
              rw [flatten_len hvl] at this
              simpa using this
            have hil : j / P.cellsOf e < len := (Nat.div_lt_iff_lt_mul (by omega)).2 hjl
            have hgi : ((List.range len).map V)[j / P.cellsOf e]? = some (V (j / P.cellsOf e)) := by simp [hil]
            have hat := flatten_at hvl hgi
            have hmod : j % P.cellsOf e < P.cellsOf e := Nat.mod_lt _ (by omega)
            have hju : (V (j / P.cellsOf e))[j % P.cellsOf e]? = some u := by
              rw [← hat, List.getElem?_take, if_pos hmod, List.getElem?_drop]
              have : j / P.cellsOf e * P.cellsOf e + j % P.cellsOf e = j := by rw [Nat.mul_comm]; exact Nat.div_add_mod j _
              rw [this]
              exact hu'
            have h2 := (hL _ hil).2.1 (j % P.cellsOf e) hmod
            rw [add_of_add] at h2
            have : j / P.cellsOf e * P.cellsOf e + j % P.cellsOf e = j := by rw [Nat.mul_comm]; exact Nat.div_add_mod j _
            rw [this] at h2
            rw [h2, hju]
          · refine CzL.flatten _ _ (by simp) (fun i vs xs h1 h2 => ?_)
            simp only [List.getElem?_map, Option.map_eq_some_iff] at h1 h2
            obtain ⟨i1, g1, rfl⟩ := h1
            obtain ⟨i2, g2, rfl⟩ := h2
            rw [g1] at g2
            injection g2 with g2
            subst g2
            have := (List.getElem?_eq_some_iff.1 g1)
            obtain ⟨hlt, he⟩ := this
            simp only [List.length_range] at hlt
            simp only [List.getElem_range] at he
            subst he
            exact (hL i hlt).2.2.1
      | struct fs =>
        simp only [Bool.and_eq_true, beq_iff_eq] at ho
        obtain ⟨xs, n, _, _, hcl, hxl, hf⟩ := DataW.trod_struct hu h
        refine ⟨hcl, ?_⟩
        have := fields_cz (P := P) (w := w) (n := m) (S := Old w) fs.toList 0 _ cs ho.1 hcl (fun f hf' => ?_)
        · simpa using this
        · obtain ⟨i, hi⟩ := List.mem_iff_getElem?.1 hf'
          have hi' : fs[i]? = some f := by simpa using hi
          have h1 := hf i f hi'
          have hlt : i < xs.length := by rw [hxl]; exact (Array.getElem?_eq_some_iff.1 hi').1
          rw [List.getElem?_eq_getElem hlt] at h1
          have hok := List.all_eq_true.1 ho.2 f hf'
          obtain ⟨_, l, h2, h3⟩ := trod_cz m f.type hok n _ _ h1
          exact ⟨l, h2, h3⟩
      | array k e =>
        simp only [Bool.and_eq_true, beq_iff_eq] at ho
        obtain ⟨xs, n, _, _, hcl, hxl, hf⟩ := DataW.trod_array hu h
        refine ⟨hcl, ?_⟩
        have hel : ∀ i, ∃ l : List DV, i < k → (CzL w (Old w) ((cs.drop (i * P.cellsOf e)).take (P.cellsOf e)) l [] ∧ TyL P m e l) := by
          intro i
          by_cases hik : i < k
          · have h1 := hf i hik
            rw [List.getElem?_eq_getElem (by omega)] at h1
            obtain ⟨_, l, h2, h3⟩ := trod_cz m e ho.2 n _ _ h1
            exact ⟨l, fun _ => ⟨h2, h3⟩⟩
          · exact ⟨[], fun h => (hik h).elim⟩
        obtain ⟨L, hL⟩ := Classical.axiomOfChoice hel
        have key : ∀ q, q ≤ k → CzL w (Old w) (cs.take (q * P.cellsOf e)) ((List.range q).map L).flatten [] := by
          intro q
          induction q with
          | zero => intro _; simpa using CzL.nil
          | succ q ih =>
            intro hq
            have h1 := (ih (by omega)).append (hL q (by omega)).1
            rw [List.range_succ, List.map_append, List.flatten_append, Nat.succ_mul, List.take_add]
            simpa using h1
        refine ⟨_, ?_, (List.range k).map L, rfl, by simp, fun el hel => ?_⟩
        · have := key k (Nat.le_refl _)
          rwa [List.take_of_length_le (by rw [hcl, ho.1]; exact Nat.le_refl _)] at this
        · obtain ⟨i, hi', rfl⟩ := List.mem_map.1 hel
          exact (hL i (by simpa using hi')).2
      | _ => cases ho
end

end Go.Av
