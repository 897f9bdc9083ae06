/- The reference's set of good pairs is that of the program; names by declarations and by the list of variables. Plain laws. -/
import Derived.Test.YtpdfolkoejbbgaaGreatDoorCB17
import Derived.Test.YtpdfolkoejbbgaaGreatDoorCB10
set_option linter.unusedVariables false
set_option linter.unusedSimpArgs false
set_option maxHeartbeats 64000000
set_option maxRecDepth 8000
namespace Go.Av
open Go Go.RowKit Go.Proofs
theorem nameR_off : ∀ (l : List Dcl) (n : Nat), (∀ i (h : i < l.length), l[i].first = ((n + (allF (l.take i)).length : Nat) : Int)) -> ∀ x : Int, (x < n -> l.find? (inD x) = none) /\ (n <= x -> nameR l x = (varsOf l).getD (x - n).toNat (⟨#[]⟩, ⟨#[]⟩))
 | [], n, _, x => ⟨fun _ => rfl, fun _ => by simp [nameR, varsOf]⟩
 | d :: l, n, h, x => by
   have h0 : d.first = (n : Int) := by have := h 0 (by simp); simpa [allF] using this
   have hl : ∀ i (hi : i < l.length), l[i].first = ((n + d.fields.length + (allF (l.take i)).length : Nat) : Int) := by
    intro i hi
    have := h (i + 1) (by simp; omega)
    simp only [List.getElem_cons_succ, List.take_succ_cons] at this
    rw [this]
    congr 1
    simp only [allF, List.flatMap_cons, List.length_append]
    omega
   obtain ⟨i1, i2⟩ := nameR_off l (n + d.fields.length) hl x
   have hin : inD x d = true ↔ (n : Int) <= x /\ x < n + d.fields.length := by
    unfold inD
    rw [h0]
    simp
   refine ⟨fun hx => ?_, fun hx => ?_⟩
   ·rw [List.find?_cons_of_neg (by rw [hin]; omega)]
    exact i1 (by omega)
   ·have hv : varsOf (d :: l) = (d.fields.map fun f => (d.name, f.name)) ++ varsOf l := rfl
    by_cases hc : x < n + d.fields.length
    ·have hf : (d :: l).find? (inD x) = some d := List.find?_cons_of_pos (hin.2 ⟨hx, hc⟩)
     have hlt : (x - n).toNat < d.fields.length := by omega
     unfold nameR
     rw [hf]
     simp only [h0]
     rw [List.getElem?_eq_getElem hlt, hv, List.getD_eq_getElem?_getD, List.getElem?_append_left (by simpa using hlt), List.getElem?_map, List.getElem?_eq_getElem hlt]
     rfl
    ·have hf : (d :: l).find? (inD x) = l.find? (inD x) := List.find?_cons_of_neg (by rw [hin]; omega)
     have e : nameR (d :: l) x = nameR l x := by unfold nameR; rw [hf]
     rw [e, i2 (by omega), hv, List.getD_eq_getElem?_getD, List.getD_eq_getElem?_getD, List.getElem?_append_right (by simp; omega)]
     congr 2
     simp
     omega
theorem nameR_eq {l : List Dcl} (hv : validD l = true) (x : Int) : nameR l x = nameOf (varsOf l) x := by
 have hf : ∀ i (h : i < l.length), l[i].first = ((0 + (allF (l.take i)).length : Nat) : Int) := by
  intro i hi
  rw [Nat.zero_add]
  exact (validD_decl hv hi).2.2.1
 obtain ⟨h1, h2⟩ := nameR_off l 0 hf x
 unfold nameOf
 by_cases hx : x < 0
 ·rw [if_pos hx]
  unfold nameR
  rw [h1 (by omega)]
 ·rw [if_neg hx, h2 (by omega)]
  simp
theorem agree_eq {a b : List Dcl} (ha : validD a = true) (hb : validD b = true) (x y : Dcl) : agreeR (nameR a) (nameR b) x y = agreeB (varsOf a) (varsOf b) x y := by
 have e1 : nameR a = nameOf (varsOf a) := funext (nameR_eq ha)
 have e2 : nameR b = nameOf (varsOf b) := funext (nameR_eq hb)
 have e3 : sameDR (nameR a) (nameR b) = sameD (varsOf a) (varsOf b) := by
  funext d e
  unfold sameDR sameD
  rw [e1, e2]
  cases sameV (nameOf (varsOf a) d.x) (nameOf (varsOf b) e.x) <;> cases sameV (nameOf (varsOf a) d.y) (nameOf (varsOf b) e.y) <;> cases (d.c == e.c) <;> rfl
 have e4 : sameER (nameR a) (nameR b) = sameE (varsOf a) (varsOf b) := by
  funext d e
  unfold sameER sameE
  rw [e1, e2]
 unfold agreeR agreeB
 rw [e3, e4]
def lookR (t : Tab) (ps : List Pr) (g : List Bool) (i : Nat) : List Bool := if (g[i]?.getD false && !holdsB (fillT t ps g) (ps[i]?.getD (0, 0))) = true then g.set i false else g
def roundR (t : Tab) (ps : List Pr) (g : List Bool) : List Bool := (List.range ps.length).foldl (lookR t ps) g
def iterR (t : Tab) (ps : List Pr) : Nat -> List Bool -> List Bool
 | 0, g => g
 | n + 1, g => if roundR t ps g = g then g else iterR t ps n (roundR t ps g)
theorem lookR_len {t : Tab} {ps : List Pr} {g : List Bool} {i : Nat} : (lookR t ps g i).length = g.length := by
 unfold lookR; split <;> simp
theorem lookR_trues {t : Tab} {ps : List Pr} {g : List Bool} {i : Nat} : lookR t ps g i = g \/ trues (lookR t ps g i) + 1 = trues g := by
 unfold lookR
 split
 ·rename_i h
  rw [Bool.and_eq_true] at h
  right
  refine trues_set ?_
  cases hg : g[i]? with
  | none => rw [hg] at h; simp at h
  | some b => rw [hg] at h; simp at h; rw [h.1]
 ·exact .inl rfl
theorem looks_len {t : Tab} {ps : List Pr} : ∀ (l : List Nat) (g : List Bool), (l.foldl (lookR t ps) g).length = g.length
 | [], _ => rfl
 | i :: l, g => by rw [List.foldl_cons, looks_len l, lookR_len]
theorem looks_trues {t : Tab} {ps : List Pr} : ∀ (l : List Nat) (g : List Bool), (l.foldl (lookR t ps) g = g /\ ∀ i ∈ l, lookR t ps g i = g) \/ trues (l.foldl (lookR t ps) g) < trues g
 | [], g => .inl ⟨rfl, by simp⟩
 | i :: l, g => by
   rw [List.foldl_cons]
   rcases lookR_trues (t := t) (ps := ps) (g := g) (i := i) with e | e
   ·rw [e]
    rcases looks_trues l g with ⟨h1, h2⟩ | h
    ·refine .inl ⟨h1, ?_⟩
     intro k hk
     rcases List.mem_cons.1 hk with rfl | hk
     ·exact e
     ·exact h2 k hk
    ·exact .inr h
   ·right
    rcases looks_trues (t := t) (ps := ps) l (lookR t ps g i) with ⟨h1, _⟩ | h
    ·rw [h1]; omega
    ·omega
theorem roundR_len {t : Tab} {ps : List Pr} {g : List Bool} : (roundR t ps g).length = g.length := looks_len _ _
theorem roundR_lt {t : Tab} {ps : List Pr} {g : List Bool} (h : roundR t ps g ≠ g) : trues (roundR t ps g) < trues g := by
 rcases looks_trues (t := t) (ps := ps) (List.range ps.length) g with ⟨h1, _⟩ | h'
 ·exact (h h1).elim
 ·exact h'
theorem roundR_fix {t : Tab} {ps : List Pr} {g : List Bool} (h : roundR t ps g = g) {i : Nat} {p : Pr} (hp : ps[i]? = some p) (hg : g[i]? = some true) : holdsB (fillT t ps g) p = true := by
 rcases looks_trues (t := t) (ps := ps) (List.range ps.length) g with ⟨_, h2⟩ | h'
 ·obtain ⟨hi, _⟩ := List.getElem?_eq_some_iff.1 hp
  have := h2 i (List.mem_range.2 hi)
  unfold lookR at this
  rw [hg, hp] at this
  cases hh : holdsB (fillT t ps g) p with
  | true => rfl
  | false =>
    simp only [Option.getD_some, hh, Bool.not_false, Bool.and_self, if_true] at this
    have h3 : (g.set i false)[i]? = some true := by rw [this]; exact hg
    rw [List.getElem?_set] at h3
    simp at h3
 ·rw [show (List.range ps.length).foldl (lookR t ps) g = g from h] at h'
  omega
theorem iterR_len {t : Tab} {ps : List Pr} : ∀ (n : Nat) (g : List Bool), (iterR t ps n g).length = g.length
 | 0, _ => rfl
 | n + 1, g => by
   simp only [iterR]
   split
   ·rfl
   ·rw [iterR_len n, roundR_len]
theorem iterR_fix {t : Tab} {ps : List Pr} : ∀ (n : Nat) (g : List Bool), trues g < n -> roundR t ps (iterR t ps n g) = iterR t ps n g
 | 0, _, h => by omega
 | n + 1, g, h => by
   simp only [iterR]
   split
   ·assumption
   ·rename_i hne
    have := roundR_lt hne
    exact iterR_fix n _ (by omega)
def keepsR (t : Tab) (ps : List Pr) (C : Nat -> Prop) : Prop := ∀ i, C i -> ∃ p, ps[i]? = some p /\ initB t p = true /\ ∀ x ∈ t.old.edges, x.from_ = p.1 -> 0 <= folB t p.2 x /\ C (firstB (isP (x.to, folB t p.2 x)) ps).toNat
theorem lookR_keep {t : Tab} {ps : List Pr} {C : Nat -> Prop} (hC : keepsR t ps C) {g : List Bool} (h : ∀ i, C i -> g[i]? = some true) (k : Nat) : ∀ i, C i -> (lookR t ps g k)[i]? = some true := by
 intro i hi
 unfold lookR
 split
 ·rename_i hc
  rw [Bool.and_eq_true] at hc
  have hne : k ≠ i := by
   rintro rfl
   obtain ⟨p, hp, h1, h2⟩ := hC k hi
   have hh : holdsB (fillT t ps g) p = true := by
    simp only [initB, Bool.and_eq_true, Bool.or_eq_true, decide_eq_true_eq, Bool.not_eq_true', beq_iff_eq, beq_eq_false_iff_ne] at h1
    unfold holdsB
    simp only [Bool.and_eq_true, Bool.or_eq_true, decide_eq_true_eq, bne_iff_ne, beq_iff_eq, List.all_eq_true]
    refine ⟨h1.1, h1.2, fun x hx => ?_⟩
    unfold holdE
    by_cases e : x.from_ = p.1
    ·obtain ⟨h3, h4⟩ := h2 x hx e
     have h5 := h _ h4
     have h6 : (fillT t ps g).good[(placeB (fillT t ps g) (x.to, folB (fillT t ps g) p.2 x)).toNat]? = some true := h5
     rw [h6]
     have h7 : 0 <= folB (fillT t ps g) p.2 x := h3
     simp [h7]
    ·simp [e]
   rw [hp] at hc
   simp only [Option.getD_some, hh] at hc
   exact absurd hc.2 (by decide)
  rw [List.getElem?_set, if_neg hne]
  exact h i hi
 ·exact h i hi
theorem looks_keep {t : Tab} {ps : List Pr} {C : Nat -> Prop} (hC : keepsR t ps C) : ∀ (l : List Nat) (g : List Bool), (∀ i, C i -> g[i]? = some true) -> ∀ i, C i -> (l.foldl (lookR t ps) g)[i]? = some true
 | [], _, h => h
 | k :: l, g, h => by
   rw [List.foldl_cons]
   exact looks_keep hC l _ (lookR_keep hC h k)
theorem iterR_keep {t : Tab} {ps : List Pr} {C : Nat -> Prop} (hC : keepsR t ps C) : ∀ (n : Nat) (g : List Bool), (∀ i, C i -> g[i]? = some true) -> ∀ i, C i -> (iterR t ps n g)[i]? = some true
 | 0, _, h => h
 | n + 1, g, h => by
   simp only [iterR]
   split
   ·exact h
   ·exact iterR_keep hC n _ (looks_keep hC _ _ h)
def goodR (t : Tab) (ps : List Pr) : List Bool := iterR t ps (ps.length + 1) (List.replicate ps.length true)
theorem firstB_idx {q : Pr} {ps : List Pr} (h : q ∈ ps) : firstB (isP q) ps = idxP ps q := by
 unfold firstB idxP
 rw [find_idx h]
theorem goodR_eq {t : Tab} {ps : List Pr} (hcl : ∀ p ∈ ps, ∀ q ∈ succP t p, q ∈ ps) : goodR t ps = cmpGood t ps := by
 have hl1 : (goodR t ps).length = ps.length := by unfold goodR; rw [iterR_len]; simp
 have hl2 : (cmpGood t ps).length = ps.length := good_len t ps
 have hfix : roundR t ps (goodR t ps) = goodR t ps := by
  unfold goodR
  refine iterR_fix _ _ ?_
  have := trues_le (List.replicate ps.length true)
  rw [List.length_replicate] at this
  omega
 have hsucc : ∀ {p : Pr} {x : Edg}, x ∈ t.old.edges -> x.from_ = p.1 -> (x.to, folB t p.2 x) ∈ succP t p := fun {p x} hx hs => succ_mem.2 ⟨x, hx, hs, rfl⟩
 have hiff : ∀ i : Nat, i < ps.length -> ((goodR t ps)[i]? = some true ↔ (cmpGood t ps)[i]? = some true) := by
  intro i hi
  constructor
  ·intro hr
   refine good_keep (t := t) (fun p => ∃ k : Nat, ps[k]? = some p /\ (goodR t ps)[k]? = some true) hcl ?_ (List.getElem?_eq_getElem hi) ⟨i, List.getElem?_eq_getElem hi, hr⟩
   rintro p hp ⟨k, hk, hg⟩
   have hh := roundR_fix hfix hk hg
   unfold holdsB at hh
   simp only [Bool.and_eq_true, Bool.or_eq_true, decide_eq_true_eq, bne_iff_ne, beq_iff_eq, List.all_eq_true] at hh
   obtain ⟨h1, h2, h3⟩ := hh
   refine ⟨?_, ?_⟩
   ·simp only [initB, Bool.and_eq_true, Bool.or_eq_true, decide_eq_true_eq, Bool.not_eq_true', beq_iff_eq, beq_eq_false_iff_ne]
    exact ⟨h1, h2⟩
   ·intro q hq
    have hqm := hcl p hp q hq
    obtain ⟨x, hx, hs, rfl⟩ := succ_mem.1 hq
    have h4 := h3 x hx
    unfold holdE at h4
    simp only [hs, bne_self_eq_false, Bool.false_or, Bool.and_eq_true, decide_eq_true_eq] at h4
    have h5 : (goodR t ps)[(firstB (isP (stepX t p x)) ps).toNat]?.getD false = true := h4.2
    rw [firstB_idx hqm] at h5
    refine ⟨_, (idxP_get hqm).2.2, ?_⟩
    cases hd : (goodR t ps)[(idxP ps (stepX t p x)).toNat]? with
    | none => rw [hd] at h5; simp at h5
    | some b => rw [hd] at h5; simp at h5; rw [h5]
  ·intro hg
   refine iterR_keep (C := fun k => (cmpGood t ps)[k]? = some true) ?_ _ _ ?_ i hg
   ·intro k hk
    obtain ⟨hkl, _⟩ := List.getElem?_eq_some_iff.1 hk
    rw [hl2] at hkl
    have hp : ps[k]? = some ps[k] := List.getElem?_eq_getElem hkl
    obtain ⟨h1, h2⟩ := good_fix hp hk
    refine ⟨ps[k], hp, h1, fun x hx hs => ?_⟩
    have hq := hsucc hx hs
    have hqm := hcl _ (List.getElem_mem hkl) _ hq
    have h3 := h2 _ hq
    have h4 := (good_fix (idxP_get hqm).2.2 h3).1
    simp only [initB, Bool.and_eq_true, decide_eq_true_eq] at h4
    refine ⟨h4.1, ?_⟩
    rw [firstB_idx hqm]
    exact h3
   ·intro k hk
    obtain ⟨hkl, _⟩ := List.getElem?_eq_some_iff.1 hk
    rw [hl2] at hkl
    simp [hkl]
 refine List.ext_getElem? fun i => ?_
 by_cases hi : i < ps.length
 ·have h1 : (goodR t ps)[i]? = some ((goodR t ps)[i]'(by omega)) := List.getElem?_eq_getElem (by omega)
  have h2 : (cmpGood t ps)[i]? = some ((cmpGood t ps)[i]'(by omega)) := List.getElem?_eq_getElem (by omega)
  have := hiff i hi
  rw [h1, h2] at this ⊢
  simp only [Option.some.injEq] at this ⊢
  cases hb : (goodR t ps)[i]'(by omega) <;> cases hc : (cmpGood t ps)[i]'(by omega) <;> simp_all
 ·rw [List.getElem?_eq_none (by omega), List.getElem?_eq_none (by omega)]
end Go.Av
