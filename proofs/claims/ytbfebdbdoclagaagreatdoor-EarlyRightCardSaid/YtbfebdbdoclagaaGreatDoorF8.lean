/- Part of a proof. -/
import Derived.Test.YtbfebdbdoclagaaGreatDoorF7
set_option linter.unusedVariables false
set_option linter.unusedSimpArgs false
set_option maxHeartbeats 64000000
namespace Go.Av
open Go Go.RowKit
def masks (acc : List Nat) : List Oper -> List Nat
 | [] => acc
 | o :: os => masks (acc ++ [(aft o).foldl (fun m l => m ||| (1 <<< l) ||| acc.getD l 0) 0]) os
theorem mask_fold (acc : List Nat) (l : Nat) : ∀ (xs : List Nat) (m : Nat), (xs.foldl (fun m l => m ||| (1 <<< l) ||| acc.getD l 0) m).testBit l = true -> m.testBit l = true \/ ∃ x ∈ xs, x = l \/ (acc.getD x 0).testBit l = true
 | [], m, h => .inl h
 | x :: xs, m, h => by
   rcases mask_fold acc l xs _ h with h1 | ⟨y, hy, h1⟩
   ·simp only [Nat.testBit_or, Bool.or_eq_true] at h1
    rcases h1 with (h1 | h1) | h1
    ·exact .inl h1
    ·refine .inr ⟨x, by simp, .inl ?_⟩
     rw [Nat.one_shiftLeft, Nat.testBit_two_pow] at h1
     simpa using h1
    ·exact .inr ⟨x, by simp, .inr h1⟩
   ·exact .inr ⟨y, by simp [hy], h1⟩
theorem masks_ok (ops : Array Oper) : ∀ (os : List Oper) (acc : List Nat), (∀ i, os[i]? = ops[acc.length + i]?) -> (∀ i o, ops[i]? = some o -> ∀ l ∈ aft o, l < i) ->
  (∀ i, ∀ l, (acc.getD i 0).testBit l = true -> Must ops i l) -> ∀ i, ∀ l, ((masks acc os).getD i 0).testBit l = true -> Must ops i l
 | [], acc, _, _, h, i, l, hb => h i l hb
 | o :: os, acc, hos, hback, h, i, l, hb => by
   have ho : ops[acc.length]? = some o := by have := hos 0; simpa using this.symm
   refine masks_ok ops os _ (fun i => ?_) hback (fun i l hb => ?_) i l hb
   ·have := hos (i + 1)
    simpa [Nat.add_assoc, Nat.add_comm 1 i] using this
   ·rcases Nat.lt_trichotomy i acc.length with hi | hi | hi
    ·rw [List.getD_eq_getElem?_getD, List.getElem?_append_left hi, <- List.getD_eq_getElem?_getD] at hb
     exact h i l hb
    ·subst hi
     simp only [List.getD_eq_getElem?_getD, List.getElem?_append_right (Nat.le_refl _), Nat.sub_self, List.getElem?_cons_zero, Option.getD_some] at hb
     simp only [<- List.getD_eq_getElem?_getD] at hb
     rcases mask_fold acc l _ _ hb with h1 | ⟨x, hx, h1⟩
     ·simp at h1
     ·rcases h1 with rfl | h1
      ·exact fun E hd hr => hr o ho x hx
      ·exact fun E hd hr => h x l h1 E hd (fun o' ho' l' hl' => hd x o' ho' (hr o ho x hx) l' hl')
    ·have : (acc ++ [(aft o).foldl (fun m l => m ||| (1 <<< l) ||| acc.getD l 0) 0])[i]? = none := by
      rw [List.getElem?_eq_none]
      simp; omega
     rw [List.getD_eq_getElem?_getD, this] at hb
     simp at hb
def allIdx {α : Type} (p : Nat -> α -> Bool) : Nat -> List α -> Bool
 | _, [] => true
 | k, x :: xs => p k x && allIdx p (k + 1) xs
theorem allIdx_get {α : Type} {p : Nat -> α -> Bool} : ∀ {l : List α} {k : Nat}, allIdx p k l = true -> ∀ i x, l[i]? = some x -> p (k + i) x = true
 | [], _, _, i, x, h => by simp at h
 | y :: ys, k, h, i, x, hx => by
   simp only [allIdx, Bool.and_eq_true] at h
   cases i with
   | zero =>
     simp only [List.getElem?_cons_zero, Option.some.injEq] at hx
     subst hx
     exact h.1
   | succ i =>
     have := allIdx_get h.2 i x (by simpa using hx)
     rw [show k + (i + 1) = k + 1 + i by omega]
     exact this
def nodupB : List (Option Nat) -> Bool
 | [] => true
 | x :: xs => !xs.contains x && nodupB xs
theorem nodupB_get : ∀ {l : List (Option Nat)}, nodupB l = true -> ∀ (i j : Nat) (x : Option Nat), l[i]? = some x -> l[j]? = some x -> i = j
 | [], _, i, j, x, h, _ => by simp at h
 | y :: ys, h, i, j, x, hi, hj => by
   simp only [nodupB, Bool.and_eq_true, Bool.not_eq_true', List.contains_eq_mem, decide_eq_false_iff_not] at h
   cases i with
   | zero => cases j with
     | zero => rfl
     | succ j =>
       simp only [List.getElem?_cons_zero, Option.some.injEq, List.getElem?_cons_succ] at hi hj
       subst hi
       exact (h.1 (List.mem_of_getElem? hj)).elim
   | succ i => cases j with
     | zero =>
       simp only [List.getElem?_cons_zero, Option.some.injEq, List.getElem?_cons_succ] at hi hj
       subst hj
       exact (h.1 (List.mem_of_getElem? hi)).elim
     | succ j =>
       have := nodupB_get h.2 i j x (by simpa using hi) (by simpa using hj)
       omega
def srcOk (pa : Nat -> Nat) (A : List DOp) (af : List Nat) (ts : List Nat) : Bool :=
 ts.all fun t => allIdx (fun j (x : DOp) => x.o.dst != some t || af.contains (pa j)) 0 A
def knOk (pa : Nat -> Nat) (A : List DOp) (af : List Nat) (kn : List Nat) : Bool :=
 kn.all fun s => (allIdx (fun j (x : DOp) => !(af.contains (pa j) && (x.o.dst == some s || x.kn.contains s))) 0 A == false) && A.all fun z => takes z.o.op != some s
def posOf (l : List Nat) (i : Nat) : Nat := l.getD i 0
def upB : List Nat -> Bool
 | x :: y :: l => decide (x < y) && upB (y :: l)
 | _ => true
def placesB (n : Nat) (la lb : List Nat) : Bool :=
 upB la && upB lb && la.all (· < n) && lb.all (· < n) && (la.all fun x => !lb.contains x) && (List.range n).all fun j => la.contains j || lb.contains j
def staticB (N : Nat) (ops : List Oper) (A : List DOp) (B : List BOp) (c : CR) (la lb : List Nat) : Bool :=
 let ms := masks [] ops
 let pa := posOf la
 let pb := posOf lb
 (placesB ops.length la lb && (la.length == A.length && lb.length == B.length)) &&
 (allIdx (fun i o => (aft o).all (· < i)) 0 ops &&
 ((A.all fun x => guardN N x.o.g && match x.o.dst with
   | some d => decide (d < N) && c.has d
   | none => false) &&
 ((B.all fun b => b.o.dst.all (· < N)) &&
 (nodupB (A.map (·.o.dst)) &&
 (allIdx (fun i (x : DOp) => match ops[pa i]? with
  | some o => srcOk pa A (aft o) x.o.ts && knOk pa A (aft o) x.kn
  | none => false) 0 A &&
 (allIdx (fun i (b : BOp) => match ops[pb i]? with
  | some o => srcOk pa A (aft o) b.o.ts && knOk pa A (aft o) b.kn
  | none => false) 0 B &&
 (allIdx (fun k (z : DOp) => match takes z.o.op with
  | some t => (A.any fun x => x.o.dst == some t) && (z.o.ts.contains t && (allIdx (fun i (x : DOp) => i == k || !x.o.ts.contains t) 0 A && B.all fun b => !b.o.ts.contains t))
  | none => true) 0 A &&
 (allIdx (fun i (b : BOp) => (List.range A.length).all (fun j => b.un[j]? == some true || (ms.getD (pb i) 0).testBit (pa j)) && (List.range i).all fun i' => (ms.getD (pb i) 0).testBit (pb i')) 0 B &&
 ((B.all fun b => allIdx (fun j (x : DOp) => b.un[j]? != some true || (takes x.o.op).isNone) 0 A) &&
 (B.all fun b => A.all fun x => b.o.dst.isNone || x.o.dst != b.o.dst))))))))))
theorem upB_lt : ∀ {l : List Nat}, upB l = true -> ∀ (i k x y : Nat), l[i]? = some x -> l[k]? = some y -> i < k -> x < y
 | [], _, i, k, x, y, hi, _, _ => by simp at hi
 | [a], _, i, k, x, y, hi, hk, h => by
   have := (List.getElem?_eq_some_iff.1 hk).1
   simp at this
   omega
 | a :: b :: l, hu, i, k, x, y, hi, hk, h => by
   simp only [upB, Bool.and_eq_true, decide_eq_true_eq] at hu
   cases k with
   | zero => omega
   | succ k =>
     rw [List.getElem?_cons_succ] at hk
     cases i with
     | zero =>
       simp only [List.getElem?_cons_zero, Option.some.injEq] at hi
       subst hi
       cases k with
       | zero =>
         simp only [List.getElem?_cons_zero, Option.some.injEq] at hk
         omega
       | succ k =>
         have := upB_lt hu.2 0 (k + 1) b y (by simp) hk (by omega)
         omega
     | succ i =>
       rw [List.getElem?_cons_succ] at hi
       exact upB_lt hu.2 i k x y hi hk (by omega)
theorem posOf_get {l : List Nat} {i : Nat} (h : i < l.length) : l[i]? = some (posOf l i) := by
 unfold posOf
 rw [List.getD_eq_getElem?_getD, List.getElem?_eq_getElem h]
 rfl
theorem posOf_mono {l : List Nat} (hu : upB l = true) {i k : Nat} (hi : i < l.length) (hk : k < l.length) (h : posOf l i < posOf l k) : i < k := by
 rcases Nat.lt_trichotomy i k with g | g | g
 ·exact g
 ·subst g; omega
 ·have := upB_lt hu k i _ _ (posOf_get hk) (posOf_get hi) g
  omega
theorem posOf_inj {l : List Nat} (hu : upB l = true) {i k : Nat} (hi : i < l.length) (hk : k < l.length) (h : posOf l i = posOf l k) : i = k := by
 rcases Nat.lt_trichotomy i k with g | g | g
 ·have := upB_lt hu i k _ _ (posOf_get hi) (posOf_get hk) g
  omega
 ·exact g
 ·have := upB_lt hu k i _ _ (posOf_get hk) (posOf_get hi) g
  omega
theorem posOf_mem {l : List Nat} {i : Nat} (h : i < l.length) : posOf l i ∈ l := List.mem_of_getElem? (posOf_get h)
def pick (l : List SOp) : List Nat -> List SOp
 | [] => []
 | p :: ps => match l[p]? with
   | some o => o :: pick l ps
   | none => pick l ps
theorem pick_get {l : List SOp} : ∀ {ps : List Nat}, (∀ p ∈ ps, p < l.length) -> ∀ (i p : Nat), ps[i]? = some p -> (pick l ps)[i]? = l[p]?
 | [], _, i, p, h => by simp at h
 | q :: ps, hp, i, p, h => by
   have hq := List.getElem?_eq_getElem (hp q (by simp))
   simp only [pick, hq]
   cases i with
   | zero =>
     simp only [List.getElem?_cons_zero, Option.some.injEq] at h
     subst h
     simp [hq]
   | succ i =>
     rw [List.getElem?_cons_succ] at h ⊢
     exact pick_get (fun p hm => hp p (List.mem_cons_of_mem _ hm)) i p h
theorem slimOps_get (ops : Array Oper) : ∀ (l0 : List Oper) (l : List SOp), slimOps ops l0 = some l -> l.length = l0.length /\ ∀ (j : Nat) s, l[j]? = some s -> ∃ o, l0[j]? = some o /\ s.dst = o.dst /\ s.op = o.op /\ slimGuard ops o.guard = some s.g
 | [], l, h => by
   simp only [slimOps, Option.some.injEq] at h
   subst h
   exact ⟨rfl, fun j s h => by simp at h⟩
 | o :: os, l, h => by
   simp only [slimOps] at h
   split at h
   ·rename_i g l' hg hl
    injection h with h
    subst h
    obtain ⟨h1, h2⟩ := slimOps_get ops os l' hl
    refine ⟨by simp [h1], fun j s hj => ?_⟩
    cases j with
    | zero =>
      simp only [List.getElem?_cons_zero, Option.some.injEq] at hj
      subst hj
      exact ⟨o, by simp, rfl, rfl, hg⟩
    | succ j =>
      obtain ⟨o', ho', h3⟩ := h2 j s (by simpa using hj)
      exact ⟨o', by simpa using ho', h3⟩
   ·cases h
theorem srcOk_get {pa : Nat -> Nat} {A : List DOp} {af ts : List Nat} (h : srcOk pa A af ts = true) : ∀ t ∈ ts, ∀ (j : Nat) x, A[j]? = some x -> x.o.dst = some t -> pa j ∈ af := by
 intro t ht j x hx hd
 have := allIdx_get (List.all_eq_true.1 h t ht) j x hx
 simp only [Nat.zero_add, Bool.or_eq_true, bne_iff_ne, ne_eq, List.contains_iff_mem] at this
 rcases this with h1 | h1
 ·exact (h1 hd).elim
 ·exact h1
theorem allIdx_not {α : Type} {p : Nat -> α -> Bool} : ∀ {l : List α} {k : Nat}, allIdx p k l = false -> ∃ i x, l[i]? = some x /\ p (k + i) x = false
 | [], k, h => by cases h
 | y :: ys, k, h => by
   simp only [allIdx, Bool.and_eq_false_iff] at h
   rcases h with h | h
   ·exact ⟨0, y, rfl, h⟩
   ·obtain ⟨i, x, hi, hx⟩ := allIdx_not h
    exact ⟨i + 1, x, by simpa using hi, by rw [show k + (i + 1) = k + 1 + i by omega]; exact hx⟩
theorem knOk_get {pa : Nat -> Nat} {A : List DOp} {af kn : List Nat} (h : knOk pa A af kn = true) : ∀ s ∈ kn, (∃ l x, pa l ∈ af /\ A[l]? = some x /\ (x.o.dst = some s \/ s ∈ x.kn)) /\ ∀ (k : Nat) z, A[k]? = some z -> takes z.o.op ≠ some s := by
 intro s hs
 have := List.all_eq_true.1 h s hs
 simp only [Bool.and_eq_true, beq_iff_eq] at this
 obtain ⟨h1, h2⟩ := this
 obtain ⟨l, x, hx, h1⟩ := allIdx_not h1
 simp only [Nat.zero_add, Bool.not_eq_false', Bool.and_eq_true, Bool.or_eq_true, beq_iff_eq, List.contains_iff_mem] at h1
 refine ⟨⟨l, x, h1.1, hx, h1.2⟩, fun k z hz => ?_⟩
 have := List.all_eq_true.1 h2 z (List.mem_of_getElem? hz)
 simpa using this
theorem static_of {N : Nat} {ops : Array Oper} {A : List DOp} {B : List BOp} {c : CR} {la lb : List Nat} {l : List SOp} (hsl : slimOps ops ops.toList = some l) (hA : A.map (·.o) = pick l la) (hB : B.map (·.o) = pick l lb) (h : staticB N ops.toList A B c la lb = true) : Static N ops A B c (posOf la) (posOf lb) := by
 unfold staticB at h
 simp only [Bool.and_eq_true] at h
 obtain ⟨⟨h1, hlA, hlB⟩, h2, h3, h4, h5, h6, h7, h8, h9, h10, h11⟩ := h
 simp only [beq_iff_eq] at hlA hlB
 unfold placesB at h1
 simp only [Bool.and_eq_true] at h1
 obtain ⟨⟨⟨⟨⟨hua, hub⟩, hla⟩, hlb⟩, hfar⟩, hcov⟩ := h1
 obtain ⟨hlen, hget⟩ := slimOps_get ops _ _ hsl
 have hla' : ∀ p ∈ la, p < l.length := fun p hp => by
  have := List.all_eq_true.1 hla p hp
  rw [hlen]
  simpa using this
 have hlb' : ∀ p ∈ lb, p < l.length := fun p hp => by
  have := List.all_eq_true.1 hlb p hp
  rw [hlen]
  simpa using this
 have hsz : l.length = ops.size := by rw [hlen]; simp
 have hback : ∀ i o, ops[i]? = some o -> ∀ l ∈ aft o, l < i := by
  intro i o ho l hl
  have := allIdx_get h2 i o (by simpa using ho)
  rw [Nat.zero_add] at this
  simpa using List.all_eq_true.1 this l hl
 have hopA : ∀ (j : Nat) x, A[j]? = some x -> ∃ o, ops[posOf la j]? = some o /\ x.o.dst = o.dst /\ x.o.op = o.op /\ slimGuard ops o.guard = some x.o.g := by
  intro j x hx
  have hj := (List.getElem?_eq_some_iff.1 hx).1
  have g1 := pick_get hla' j _ (posOf_get (by omega))
  rw [<- hA, List.getElem?_map, hx] at g1
  obtain ⟨o, ho, h⟩ := hget (posOf la j) x.o g1.symm
  exact ⟨o, by simpa using ho, h⟩
 have hopB : ∀ (m : Nat) b, B[m]? = some b -> ∃ o, ops[posOf lb m]? = some o /\ b.o.dst = o.dst /\ b.o.op = o.op /\ slimGuard ops o.guard = some b.o.g := by
  intro m b hb
  have hj := (List.getElem?_eq_some_iff.1 hb).1
  have g1 := pick_get hlb' m _ (posOf_get (by omega))
  rw [<- hB, List.getElem?_map, hb] at g1
  obtain ⟨o, ho, h⟩ := hget (posOf lb m) b.o g1.symm
  exact ⟨o, by simpa using ho, h⟩
 have hmasks := masks_ok ops ops.toList [] (by simp) hback (fun i l hb => by simp at hb)
 refine ⟨?_, ?_, ?_, ?_, ?_, ?_, ?_, hback, ?_, ?_, ?_, ?_, ?_, ?_, ?_, ?_, ?_, ?_, ?_, ?_⟩
 ·intro j hj
  have := List.all_eq_true.1 hcov j (List.mem_range.2 (by simpa using hj))
  simp only [Bool.or_eq_true, List.contains_iff_mem] at this
  rcases this with g | g
  ·obtain ⟨i, hi⟩ := List.getElem?_of_mem g
   have hi' := (List.getElem?_eq_some_iff.1 hi).1
   rw [posOf_get hi', Option.some.injEq] at hi
   exact .inl ⟨i, by omega, hi.symm⟩
  ·obtain ⟨i, hi⟩ := List.getElem?_of_mem g
   have hi' := (List.getElem?_eq_some_iff.1 hi).1
   rw [posOf_get hi', Option.some.injEq] at hi
   exact .inr ⟨i, by omega, hi.symm⟩
 ·intro i hi
  have := hla' _ (posOf_mem (l := la) (i := i) (by omega))
  omega
 ·intro i hi
  have := hlb' _ (posOf_mem (l := lb) (i := i) (by omega))
  omega
 ·exact fun i k hi hk => posOf_mono hua (by omega) (by omega)
 ·exact fun i k hi hk => posOf_inj hua (by omega) (by omega)
 ·exact fun i k hi hk => posOf_inj hub (by omega) (by omega)
 ·intro i k hi hk e
  have := List.all_eq_true.1 hfar _ (posOf_mem (l := la) (i := i) (by omega))
  rw [e] at this
  simp only [Bool.not_eq_true', List.contains_eq_mem, decide_eq_false_iff_not] at this
  exact this (posOf_mem (by omega))
 ·intro j x hx
  obtain ⟨o, ho, g1, g2, g3⟩ := hopA j x hx
  have := List.all_eq_true.1 h3 x (List.mem_of_getElem? hx)
  simp only [Bool.and_eq_true] at this
  obtain ⟨g4, g5⟩ := this
  split at g5
  ·rename_i d hd
   simp only [Bool.and_eq_true, decide_eq_true_eq] at g5
   exact ⟨o, d, ho, by rw [<- g1, hd], hd, g2, g3, g4, g5.1, g5.2⟩
  ·cases g5
 ·intro m b hb
  obtain ⟨o, ho, g1, g2, g3⟩ := hopB m b hb
  have := List.all_eq_true.1 h4 b (List.mem_of_getElem? hb)
  exact ⟨o, ho, g1, g2, g3, by rw [<- g1]; exact this⟩
 ·intro j k x y d hx hy hxd hyd
  exact nodupB_get h5 j k (some d) (by simp [hx, hxd]) (by simp [hy, hyd])
 ·intro i y o hy ho t ht j x hx hxd
  have := allIdx_get h6 i y hy
  rw [Nat.zero_add, Array.getElem?_toList, ho] at this
  simp only [Bool.and_eq_true] at this
  exact srcOk_get this.1 t ht j x hx hxd
 ·intro m b o hb ho t ht j x hx hxd
  have := allIdx_get h7 m b hb
  rw [Nat.zero_add, Array.getElem?_toList, ho] at this
  simp only [Bool.and_eq_true] at this
  exact srcOk_get this.1 t ht j x hx hxd
 ·intro i y o hy ho s hk
  have := allIdx_get h6 i y hy
  rw [Nat.zero_add, Array.getElem?_toList, ho] at this
  simp only [Bool.and_eq_true] at this
  exact knOk_get this.2 s hk
 ·intro m b o hb ho s hk
  have := allIdx_get h7 m b hb
  rw [Nat.zero_add, Array.getElem?_toList, ho] at this
  simp only [Bool.and_eq_true] at this
  exact knOk_get this.2 s hk
 ·intro k z t hz ht
  have := allIdx_get h8 k z hz
  rw [ht] at this
  simp only [Bool.and_eq_true, List.any_eq_true, beq_iff_eq, List.contains_iff_mem, Nat.zero_add] at this
  obtain ⟨⟨x, hx, hxd⟩, g2, g3, g4⟩ := this
  obtain ⟨i, hi⟩ := List.getElem?_of_mem hx
  refine ⟨⟨i, x, hi, hxd⟩, g2, fun i' y hy hty => ?_, fun m b hb hty => ?_⟩
  ·have := allIdx_get g3 i' y hy
   simp only [Nat.zero_add, Bool.or_eq_true, beq_iff_eq, Bool.not_eq_true', List.contains_eq_mem, decide_eq_false_iff_not] at this
   rcases this with h | h
   ·exact h
   ·exact (h hty).elim
  ·have := List.all_eq_true.1 g4 b (List.mem_of_getElem? hb)
   simp only [Bool.not_eq_true', List.contains_eq_mem, decide_eq_false_iff_not] at this
   exact this hty
 ·intro m b hb j hj hu
  have := allIdx_get h9 m b hb
  simp only [Nat.zero_add, Bool.and_eq_true] at this
  have := List.all_eq_true.1 this.1 j (List.mem_range.2 hj)
  simp only [Bool.or_eq_true, beq_iff_eq] at this
  rcases this with h | h
  ·exact (hu h).elim
  ·exact hmasks _ _ h
 ·intro m b hb m' hm'
  have := allIdx_get h9 m b hb
  simp only [Nat.zero_add, Bool.and_eq_true] at this
  exact hmasks _ _ (List.all_eq_true.1 this.2 m' (List.mem_range.2 hm'))
 ·intro m b hb j x hu hx
  have := allIdx_get (List.all_eq_true.1 h10 b (List.mem_of_getElem? hb)) j x hx
  simp only [Nat.zero_add, Bool.or_eq_true, bne_iff_ne, ne_eq, Option.isNone_iff_eq_none] at this
  rcases this with h | h
  ·exact (h hu).elim
  ·exact h
 ·intro m b d hb hd j x hx hxd
  have := List.all_eq_true.1 (List.all_eq_true.1 h11 b (List.mem_of_getElem? hb)) x (List.mem_of_getElem? hx)
  rw [hd, hxd] at this
  simp at this
def isMaker : Op -> Bool
 | .buildSlice .. => true
 | .call _ => true
 | _ => false
def isCopy : Op -> Bool
 | .call c => match c.callee with
   | .builtin .copy => true
   | _ => false
 | _ => false
def cutAt : List SOp -> List Nat -> Nat
 | [], _ => 0
 | o :: os, mk => match o.dst with
   | none => 0
   | some d => match o.op with
     | .assign _ => 0
     | op => if isCopy op then 0 else match takes op with
       | some t => if mk.contains t then 1 + cutAt os (d :: mk) else 0
       | none => 1 + cutAt os (if isMaker op then d :: mk else mk)
def takenOf : List SOp -> List Nat
 | [] => []
 | o :: os => match takes o.op with
   | some t => t :: takenOf os
   | none => takenOf os
def dedup : List Nat -> List Nat
 | [] => []
 | x :: xs => if xs.contains x then dedup xs else x :: dedup xs
def lookupN (t : Nat) : List (Nat × List Nat) -> Option (List Nat)
 | [] => none
 | (s, l) :: r => if s == t then some l else lookupN t r
def knOf (tk : List Nat) (tab : List (Nat × List Nat)) (ts : List Nat) : List Nat :=
 dedup ((ts.flatMap fun t => match lookupN t tab with
  | some l => t :: l
  | none => []).filter fun s => !tk.contains s)
def knsOf (tk : List Nat) : List SOp -> List (Nat × List Nat) -> List (Nat × List Nat)
 | [], tab => tab
 | o :: os, tab => knsOf tk os (match o.dst with
   | some d => tab ++ [(d, knOf tk tab o.ts)]
   | none => tab)
def crOf (exact : Bool) (l : List SOp) : CR :=
 if exact then ⟨1, 0, l.filterMap (·.dst)⟩ else
 let xs := l.filterMap fun o => match o.op with
  | .alloc _ => o.dst
  | .box _ _ => o.dst
  | _ => none
 let ys := (l.filterMap (·.dst)).filter fun d => !xs.contains d
 ⟨ys.foldl min 1000000, ys.foldl max 0, xs⟩
def mkA : List SOp -> List (Nat × List Nat) -> List DOp
 | o :: os, k :: ks => ⟨o, k.2⟩ :: mkA os ks
 | o :: os, [] => ⟨o, []⟩ :: mkA os []
 | [], _ => []
def mkB (la : List Nat) (tk : List Nat) (tab : List (Nat × List Nat)) (ms : List Nat) : List Nat -> List SOp -> List BOp
 | _, [] => []
 | ps, o :: os =>
   let un := la.map fun j => !(ms.getD (ps.headD 0) 0).testBit j
   ⟨o, knOf tk tab o.ts, if un.any id then un else []⟩ :: mkB la tk tab ms ps.tail os
def isFree (ms : List Nat) (lb : List Nat) (i : Nat) (o : SOp) : Bool := match o.dst, o.op with
 | some _, .fieldAddr .. => lb.all fun b => !(ms.getD i 0).testBit b
 | _, _ => false
def splitPos (ms : List Nat) : Nat -> List SOp -> List Nat -> List Nat × List Nat
 | _, [], lb => ([], lb)
 | i, o :: os, lb => if isFree ms lb i o then (i :: (splitPos ms (i + 1) os lb).1, (splitPos ms (i + 1) os lb).2) else splitPos ms (i + 1) os (lb ++ [i])
def partsB (l : List SOp) : List Nat := l.flatMap fun o => match o.op with
 | .build _ ps => tmpsL (ps.toList.map (·.2))
 | _ => []
def isMake : Op -> Bool
 | .makeSlice .. => true
 | _ => false
def splitLate (bs : List Nat) : Nat -> List SOp -> List Nat -> List Nat × List Nat
 | _, [], _ => ([], [])
 | i, o :: os, ds =>
   let late := ((takes o.op).isSome || isMake o.op) && o.dst.any bs.contains || o.ts.any ds.contains
   let r := splitLate bs (i + 1) os (if late then o.dst.toList ++ ds else ds)
   if late then (r.1, i :: r.2) else (i :: r.1, r.2)
def cutPos (ops : List Oper) (l : List SOp) : List Nat × List Nat :=
 let n := cutAt l []
 let e := splitLate (partsB l) 0 (l.take n) []
 let r := splitPos (masks [] ops) n (l.drop n) e.2
 (e.1 ++ r.1, r.2)
def cutRegion (ops : List Oper) (l : List SOp) : List DOp × List BOp × CR :=
 let ps := cutPos ops l
 let la := pick l ps.1
 let tk := takenOf la
 let tab := knsOf tk la []
 (mkA la tab, mkB ps.1 tk tab (masks [] ops) ps.2 (pick l ps.2), crOf (la.length != cutAt l []) la)
theorem mkA_map : ∀ (l : List SOp) (k : List (Nat × List Nat)), (mkA l k).map (·.o) = l
 | [], _ => by cases ‹List (Nat × List Nat)› <;> rfl
 | o :: os, [] => by simp [mkA, mkA_map os []]
 | o :: os, k :: ks => by simp [mkA, mkA_map os ks]
theorem mkB_map (la : List Nat) (tk : List Nat) (tab : List (Nat × List Nat)) (ms : List Nat) : ∀ (l : List SOp) (ps : List Nat), (mkB la tk tab ms ps l).map (·.o) = l
 | [], _ => rfl
 | o :: os, ps => by simp [mkB, mkB_map la tk tab ms os ps.tail]
theorem cutRegion_map (ops : List Oper) (l : List SOp) : (cutRegion ops l).1.map (·.o) = pick l (cutPos ops l).1 /\ (cutRegion ops l).2.1.map (·.o) = pick l (cutPos ops l).2 := by
 simp only [cutRegion, mkA_map, mkB_map, and_self]
end Go.Av
namespace Go.Av
open Go Go.RowKit
def Env.frzEls (env : Env) (s : Nat) : Env :=
 if 5000000 <= s then env.frz (s - 5000000) else
 match env.root s with
 | some (.ow z els) => env.setRoot s (.ow z (frzLL els)) 0
 | some (.bx l) => env.setRoot s (.bx (frzL l)) 0
 | _ => env
theorem Cz.freezeIn {w : World} {S : Nat -> Prop} {v : Value} {z : Nat} {els : List (List DV)} {rs : List Nat} (h : Cz w S v (.ow z els) rs) (hnd : rs.Nodup) :
  ∃ rs', (∀ b ∈ rs', b ∈ rs) /\ rs'.Nodup /\ ∀ S' : Nat -> Prop, (∀ b, S b -> S' b) -> (∀ b ∈ rs, b ∉ rs' -> S' b) -> Cz w S' v (.ow z (frzLL els)) rs' := by
 cases h with
 | owNil z => exact ⟨[], by simp, by simp, fun S' _ _ => .owNil z⟩
 | ow b off n c z els T cs rs h1 h2 h3 h4 h5 h6 h7 =>
   refine ⟨[b], by simp, by simp, fun S' hS hr => ?_⟩
   have hb : b ∉ rs := (List.nodup_cons.1 hnd).1
   have hl := CzL.freeze hS h7 (fun b' hb' => hr b' (by simp [hb']) (by simp only [List.mem_singleton]; rintro rfl; exact hb hb'))
   rw [<- frzLL_flatten] at hl
   exact .ow b off n c z _ T cs [] h1 (by rw [frzLL_length, h2]) h3 h4 h5 (frzLL_all _ h6) hl
theorem Cz.freezeBx {w : World} {S : Nat -> Prop} {v : Value} {l : List DV} {rs : List Nat} (h : Cz w S v (.bx l) rs) (hnd : rs.Nodup) :
  ∃ rs', (∀ b ∈ rs', b ∈ rs) /\ rs'.Nodup /\ ∀ S' : Nat -> Prop, (∀ b, S b -> S' b) -> (∀ b ∈ rs, b ∉ rs' -> S' b) -> Cz w S' v (.bx (frzL l)) rs' := by
 cases h with
 | bx b l T cs rs h1 h2 =>
   refine ⟨[b], by simp, by simp, fun S' hS hr => ?_⟩
   have hb : b ∉ rs := (List.nodup_cons.1 hnd).1
   exact .bx b _ T cs [] h1 (CzL.freeze hS h2 (fun b' hb' => hr b' (by simp [hb']) (by simp only [List.mem_singleton]; rintro rfl; exact hb hb')))
section
variable {P : Program} {N B : Nat} {w0 : World} {S0 : Nat -> Prop} {env : Env} {a : Act} {w : World} {rows : Nat -> List Nat}
theorem Sim.frzEls (h : Sim N B w0 S0 env a w) (s : Nat) : Sim N B w0 S0 (env.frzEls s) a w := by
 obtain ⟨rows, h⟩ := h
 unfold Env.frzEls
 split
 ·obtain ⟨rows', h', _⟩ := h.frz (s - 5000000)
  exact ⟨rows', h'⟩
 split
 ·rename_i z els hx
  have hcz := h.root_cz hx
  obtain ⟨rs', h1, h2, h3⟩ := hcz.freezeIn (h.nodup s)
  exact ⟨_, h.reroot hx (n := 0) (.inl rfl) (Below.refl _ _) (rs' := rs') (fun b hb => ⟨.inl (h1 b hb), (h.own s b (h1 b hb)).2⟩) h2 (fun _ _ _ => rfl) (fun S' g1 g2 => h3 S' g1 g2)⟩
 ·rename_i l hx
  have hcz := h.root_cz hx
  obtain ⟨rs', h1, h2, h3⟩ := hcz.freezeBx (h.nodup s)
  exact ⟨_, h.reroot hx (n := 0) (.inl rfl) (Below.refl _ _) (rs' := rs') (fun b hb => ⟨.inl (h1 b hb), (h.own s b (h1 b hb)).2⟩) h2 (fun _ _ _ => rfl) (fun S' g1 g2 => h3 S' g1 g2)⟩
 ·exact ⟨rows, h⟩
end
def DV.val : DV -> Option Value
 | .int k n => some (.int k n)
 | .bool b => some (.bool b)
 | .str s => some (.string s)
 | _ => none
def isLocal (c : CR) (ks : List Nat) (t : Nat) : Bool := c.has t && !ks.contains t
def prune (c : CR) (ks : List Nat) : Env -> Env
 | [] => []
 | (t, a) :: e => if isLocal c ks t then prune c ks e else (t, if a.refs.any (isLocal c ks) then .no else a) :: prune c ks e
theorem prune_get (c : CR) (ks : List Nat) (t : Nat) : ∀ (e : Env), (prune c ks e).get t = if isLocal c ks t || (e.get t).refs.any (isLocal c ks) then .no else e.get t
 | [] => by simp [prune, Env.get]
 | (s, a) :: e => by
   have ih := prune_get c ks t e
   by_cases hp : isLocal c ks s = true
   ·by_cases h : s = t
    ·subst h
     simp only [prune, hp, if_true, Bool.true_or]
     rw [ih, hp]
     simp
    ·simp only [prune, hp, if_true, Env.get, h, if_false]
     exact ih
   ·by_cases h : s = t
    ·subst h
     simp [prune, hp, Env.get]
    ·rw [prune, if_neg hp]
     simp only [Env.get, h, if_false]
     exact ih
inductive AC where
 | skip
 | reg (ops : List SOp) (p : CR) (ks : List Nat)
 | drw (a : List DOp) (b : List BOp) (c : CR) (p : CR) (ks : List Nat)
 | seq (a b : AC)
 | cond (c : Operand) (a b : AC)
 | block (id : Nat) (b : AC)
 | loop (b : AC)
 | scp (b : AC)
 | exit (id : Nat)
 | ret
 | bad
def crossOf : Code -> List Nat
 | .region _ ops _ => match slimOps ops ops.toList with
   | some l => let ds := l.filterMap (·.dst)
     dedup ((l.flatMap SOp.ts).filter fun t => !ds.contains t)
   | none => []
 | .seq a b => crossOf a ++ crossOf b
 | .cond c a b => tmpsL [c] ++ crossOf a ++ crossOf b
 | .block _ b => crossOf b
 | .loop b => crossOf b
 | .scope b => crossOf b
 | _ => []
def isVarOp : Op -> Bool
 | .assign _ => true
 | .alloc _ => true
 | .box _ _ => true
 | _ => false
def localsOf (cr : List Nat) (l : List SOp) : List Nat :=
 l.filterMap fun o => match o.dst with
  | some d => if isVarOp o.op || cr.contains d then none else some d
  | none => none
def pruneOf (cr : List Nat) (l : List SOp) : CR × List Nat :=
 let ys := localsOf cr l
 let lo := ys.foldl min 1000000
 let hi := ys.foldl max 0
 if ys.isEmpty then (⟨1, 0, []⟩, []) else (⟨lo, hi, []⟩, (List.range' lo (hi + 1 - lo)).filter fun t => !ys.contains t)
def slimX (cr : List Nat) : Code -> AC
 | .skip => .skip
 | .region _ ops draw => match slimOps ops ops.toList with
   | some l => match draw with
     | true => .drw (cutRegion ops.toList l).1 (cutRegion ops.toList l).2.1 (cutRegion ops.toList l).2.2 (pruneOf cr l).1 (pruneOf cr l).2
     | false => .reg l (pruneOf cr l).1 (pruneOf cr l).2
   | none => .bad
 | .seq a b => .seq (slimX cr a) (slimX cr b)
 | .cond c a b => .cond c (slimX cr a) (slimX cr b)
 | .block id b => .block id (slimX cr b)
 | .loop b => .loop (slimX cr b)
 | .scope b => .scp (slimX cr b)
 | .label _ => .skip
 | .exit id => .exit id
 | .ret => .ret
 | _ => .bad
def slim (c : Code) : AC := slimX (crossOf c) c
def pruneQ (p : CR) (ks : List Nat) (K : Env -> Prop) : Env -> Prop := fun e => K (prune p ks e)
def arunF (P : Program) (s : Nat) : Nat -> List SOp -> Env -> (Env -> Prop) -> Prop
 | 0, sl, e, K => arun P sl (e.frzEls s) K
 | _ + 1, [], _, _ => False
 | i + 1, o :: sl, e, K => astep P o e fun e' => arunF P s i sl e' K
theorem arunF_ok {P : Program} {N B : Nat} {w0 : World} {S0 : Nat -> Prop} {Q : Exit -> Act -> World -> Prop} {ops : Array Oper} {s : Nat} : ∀ (i : Nat) (l : List Oper) (sl : List SOp) (env : Env) (a : Act) (w : World), slimOps ops l = some sl -> sl.all (fun o => o.dst.all (· < N) && guardN N o.g) = true ->
  ∀ {K : Env -> Prop}, arunF P s i sl env K -> Sim N B w0 S0 env a w -> (∀ env' a' w', K env' -> Sim N B w0 S0 env' a' w' -> Q .normal a' w') -> wpList P ops Q l a w
 | 0, l, sl, env, a, w, hsl, hfit, K, hk, hs, hq => arun_ok l sl _ a w hsl hfit hk (hs.frzEls s) hq
 | i + 1, [], sl, env, a, w, hsl, _, K, hk, hs, hq => by
   simp only [slimOps, Option.some.injEq] at hsl
   subst hsl
   exact hk.elim
 | i + 1, o :: l, sl, env, a, w, hsl, hfit, K, hk, hs, hq => by
   simp only [slimOps] at hsl
   split at hsl
   ·rename_i g sl' hgd hsl'
    injection hsl with hsl
    subst hsl
    simp only [List.all_cons, Bool.and_eq_true] at hfit
    obtain ⟨⟨hd, hgN⟩, hfit'⟩ := hfit
    simp only [arunF] at hk
    exact arun_step hgd hd hgN hk hs fun env' a' w' h1 h2 => arunF_ok i l sl' env' a' w' hsl' hfit' h1 h2 hq
   ·cases hsl
def awp (P : Program) : AC -> (Exit -> Env -> Prop) -> Env -> Prop
 | .skip, Q, e => Q .normal e
 | .reg ops p ks, Q, e => arun P ops e (pruneQ p ks (Q .normal)) \/ ∃ i s, arunF P s i ops e (pruneQ p ks (Q .normal))
 | .drw a b c p ks, Q, e => xrun P c a b e (pruneQ p ks (Q .normal))
 | .seq a b, Q, e => awp P a (fun x e' => match x with | .normal => awp P b Q e' | x => Q x e') e \/ ∃ e2, awp P a (fun x e' => match x with | .normal => e' = e2 \/ e'.covers e2 \/ ∃ s, (e'.frzEls s).covers e2 | x => Q x e') e /\ awp P b Q e2
 | .cond c a b, Q, e => match opd e c with
   | .sv (.one (.bool t)) => (t = true -> awp P a Q e) /\ (t = false -> awp P b Q e)
   | _ => False
 | .block id b, Q, e => awp P b (fun x e' => match x with | .exit id' => if id' = id then Q .normal e' else Q (.exit id') e' | x => Q x e') e
 | .loop b, Q, e => ∃ (I : Nat -> Env -> Prop) (n0 : Nat) (e0 : Env), I n0 e0 /\ (e.covers e0 \/ ∃ s, (e.frzEls s).covers e0) /\
   ∀ n e1, I n e1 -> awp P b (fun x e' => match x with | .normal => ∃ n' e2, n' < n /\ I n' e2 /\ e'.covers e2 | x => Q x e') e1
 | .scp b, Q, e => awp P b (fun x e' => match x with | .goto _ => False | x => Q x e') e
 | .exit id, Q, e => Q (.exit id) e
 | .ret, Q, e => Q .ret e
 | .bad, _, _ => False
def textOk (P : Program) (N : Nat) : Code -> Bool
 | .region _ ops draw => match slimOps ops ops.toList with
   | some l => match draw with
     | true => P.follows .mixedOrders && staticB N ops.toList (cutRegion ops.toList l).1 (cutRegion ops.toList l).2.1 (cutRegion ops.toList l).2.2 (cutPos ops.toList l).1 (cutPos ops.toList l).2
     | false => l.all fun o => o.dst.all (· < N) && guardN N o.g
   | none => false
 | .seq a b => textOk P N a && textOk P N b
 | .cond _ a b => textOk P N a && textOk P N b
 | .block _ b => textOk P N b
 | .loop b => textOk P N b
 | .scope b => textOk P N b
 | .label _ => true
 | .skip => true
 | .exit _ => true
 | .ret => true
 | _ => false
theorem AVR.grow {w w' : World} {S S' : Nat -> Prop} {env : Env} {f : Nat -> Value} (hS : ∀ b, S b -> S' b /\ w'.heap[b]? = w.heap[b]?)
  (hroot : ∀ s x p v y, env.root s = some x -> cat w (f s) x p = some (v, y) -> cat w' (f s) x p = some (v, y)) :
  ∀ (av : AV) {v : Value} {r : List Nat}, AVR w S env f av v r -> (∀ b ∈ r, w'.heap[b]? = w.heap[b]?) -> AVR w' S' env f av v r
 | .no, _, _, h, _ => h
 | .undef, _, _, h, _ => h
 | .sv x, _, _, h, hr => CzS.keep hS h hr
 | .tup l, _, _, ⟨vs, h1, h2⟩, hr => ⟨vs, h1, h2.keep hS hr⟩
 | .al s p, v, r, h, _ => by
   obtain ⟨rfl, x, y, h1, h2⟩ := h
   exact ⟨rfl, x, y, h1, hroot _ _ _ _ _ h1 h2⟩
 | .pt s p i j, v, r, h, _ => by
   obtain ⟨rfl, x, u, y, el, ad, h1, h2, h3⟩ := h
   exact ⟨rfl, x, u, y, el, ad, h1, hroot _ _ _ _ _ h1 h2, h3⟩
 | .sub s p lo hi, v, r, h, _ => by
   obtain ⟨rfl, x, y, A, n, c, els, h1, h2, h3⟩ := h
   exact ⟨rfl, x, y, A, n, c, els, h1, hroot _ _ _ _ _ h1 h2, h3⟩
 | .bsl s p m, v, r, h, _ => by
   obtain ⟨rfl, x, u, y, el, ad, h1, h2, h3⟩ := h
   exact ⟨rfl, x, u, y, el, ad, h1, hroot _ _ _ _ _ h1 h2, h3⟩
 | .gd c a, v, r, h, _ => by
   obtain ⟨rfl, h1, h2⟩ := h
   exact ⟨rfl, fun hc => AVR.grow hS hroot a (h1 hc) (by simp), h2⟩
 | .eqv s x, v, r, h, _ => h
 | .cl g caps, v, r, h, _ => h
 | .agl s p i, v, r, h, _ => by
   obtain ⟨rfl, x, u, y, el, vs, h1, h2, h3, h4, h5, h6⟩ := h
   exact ⟨rfl, x, u, y, el, vs, h1, hroot _ _ _ _ _ h1 h2, h3, h4, h5, fun j c hc => (h6 j c hc).imp fun d hd => hroot _ _ _ _ _ h1 hd⟩
section
variable {P : Program} {N B : Nat} {w0 : World} {S0 : Nat -> Prop} {env : Env} {a : Act} {w : World} {rows : Nat -> List Nat} {next : Act -> World -> Prop} {Q : Exit -> Act -> World -> Prop}
theorem SimR.grow (h : SimR N B w0 S0 env a w rows) {w' : World} (hb : Below w.heap.size w w') : SimR N B w0 S0 env a w' rows := by
 have hsz := hb.size
 have hbase := h.base
 have hS : ∀ b, SS B S0 w rows b -> SS B S0 w' rows b /\ w'.heap[b]? = w.heap[b]? := by
  intro b hs
  refine ⟨?_, hb.block b (h.lt hs)⟩
  rcases hs with hs | ⟨h1, h2, h3⟩
  ·exact .inl hs
  ·exact .inr ⟨h1, by omega, h3⟩
 have hkeep : ∀ t, ∀ b ∈ rows t, w'.heap[b]? = w.heap[b]? := fun t b hbt => hb.block b (h.own t b hbt).2
 refine ⟨h.defers, h.size, h.below.trans (hb.mono hbase), by omega, h.old_next (fun t b hb => .inl ⟨t, hb⟩) (fun b hlt _ => hb.block b hlt), fun t b hbt => ⟨(h.own t b hbt).1, by have := (h.own t b hbt).2; omega⟩, h.nodup, h.apart, fun t => ?_⟩
 exact AVR.grow hS (fun s x p v y hx hc => h.cat_keep (hkeep s) hx hc) _ (h.rel t) (hkeep t)
theorem Sim.prune (p : CR) (ks : List Nat) (h : Sim N B w0 S0 env a w) : Sim N B w0 S0 (Av.prune p ks env) a w := by
 obtain ⟨rows, h⟩ := h
 refine ⟨rows, h.defers, h.size, h.below, h.base, h.old, h.own, h.nodup, h.apart, fun t => ?_⟩
 rw [prune_get]
 split
 ·trivial
 ·rename_i hc
  simp only [Bool.or_eq_true, not_or, List.any_eq_true, not_exists, not_and] at hc
  refine AVR.refKeep (fun _ h => h) _ (h.rel t) (refOk_refs _ fun s hs => ?_)
  unfold Env.root
  rw [prune_get]
  have : ∀ x : AV, x.asOne ≠ none -> x.refs = [] := by
   intro x
   cases x <;> simp [AV.asOne, AV.refs]
  split
  ·rename_i h2
   simp only [Bool.or_eq_true, List.any_eq_true] at h2
   rcases h2 with h2 | ⟨u, hu, h2⟩
   ·exact (hc.2 s hs h2).elim
   ·cases hx : (env.get s).asOne with
    | none => rfl
    | some y =>
      rw [this _ (by rw [hx]; simp)] at hu
      cases hu
  ·rfl
theorem awp_ok (cr : List Nat) : ∀ (c : Code) (Q : Exit -> Env -> Prop) (Q' : Exit -> Act -> World -> Prop) (env : Env) (a : Act) (w : World), textOk P N c = true -> awp P (slimX cr c) Q env -> Sim N B w0 S0 env a w ->
  (∀ x env' a' w', Q x env' -> Sim N B w0 S0 env' a' w' -> Q' x a' w') -> c.wp P Q' a w
 | .skip, Q, Q', env, a, w, _, hw, hs, hq => wp_skip (hq _ _ _ _ hw hs)
 | .region id ops draw, Q, Q', env, a, w, hf, hw, hs, hq => by
   simp only [slimX, textOk] at hf hw
   split at hf
   ·rename_i l hl
    rw [hl] at hw
    cases draw with
    | false =>
      refine wp_region ?_
      have hlist := wpOps_eq_wpList (P := P) (ops := ops) (Q := Q') ops.toList 0 (by simp)
      have hr : List.range ops.size = List.range' 0 ops.toList.length := by simp [List.range_eq_range']
      rw [hr, hlist]
      rcases hw with hw | ⟨i, s, hw⟩
      ·exact arun_ok ops.toList l env a w hl hf hw hs (fun env' a' w' h1 h2 => hq _ _ _ _ h1 (h2.prune _ _))
      ·exact arunF_ok i ops.toList l env a w hl hf hw hs (fun env' a' w' h1 h2 => hq _ _ _ _ h1 (h2.prune _ _))
    | true =>
      simp only [Bool.and_eq_true] at hf
      obtain ⟨rows, h⟩ := hs
      refine xrun_ok (static_of hl (cutRegion_map _ _).1 (cutRegion_map _ _).2 hf.2) hf.1 hw ⟨rows, h.grow ((Below.refl _ _).drew)⟩ (fun e2 a w h1 h2 => hq _ _ _ _ h1 (h2.prune _ _))
   ·cases hf
 | .seq c d, Q, Q', env, a, w, hf, hw, hs, hq => by
   simp only [textOk, Bool.and_eq_true] at hf
   rcases hw with hw | ⟨e2, hw, hw2⟩
   ·refine wp_seq (awp_ok cr c _ _ env a w hf.1 hw hs ?_)
    intro x env' a' w' h1 h2
    cases x with
    | normal => exact awp_ok cr d Q Q' env' a' w' hf.2 h1 h2 hq
    | _ => exact hq _ _ _ _ h1 h2
   ·refine wp_seq (awp_ok cr c _ _ env a w hf.1 hw hs ?_)
    intro x env' a' w' h1 h2
    cases x with
    | normal =>
      rcases h1 with rfl | h1 | ⟨s, h1⟩
      ·exact awp_ok cr d Q Q' _ a' w' hf.2 hw2 h2 hq
      ·exact awp_ok cr d Q Q' e2 a' w' hf.2 hw2 (h2.covers h1) hq
      ·exact awp_ok cr d Q Q' e2 a' w' hf.2 hw2 ((h2.frzEls s).covers h1) hq
    | _ => exact hq _ _ _ _ h1 h2
 | .cond c d e, Q, Q', env, a, w, hf, hw, hs, hq => by
   simp only [textOk, Bool.and_eq_true] at hf
   simp only [slimX, awp] at hw
   obtain ⟨rows, h⟩ := hs
   split at hw
   ·rename_i t ht
    have hx := h.opd_ok c
    rw [ht] at hx
    refine wp_cond (CzS.one_inv hx).bool_inv ?_
    cases t with
    | true => exact awp_ok cr d Q Q' env a w hf.1 (hw.1 rfl) ⟨rows, h⟩ hq
    | false => exact awp_ok cr e Q Q' env a w hf.2 (hw.2 rfl) ⟨rows, h⟩ hq
   ·exact hw.elim
 | .block id c, Q, Q', env, a, w, hf, hw, hs, hq => by
   refine wp_block (awp_ok cr c _ _ env a w hf hw hs ?_)
   intro x env' a' w' h1 h2
   cases x with
   | exit id' =>
     simp only [Exit.inBlock]
     dsimp only at h1
     split
     ·rename_i e; rw [if_pos e] at h1; exact hq _ _ _ _ h1 h2
     ·rename_i e; rw [if_neg e] at h1; exact hq _ _ _ _ h1 h2
   | _ => exact hq _ _ _ _ h1 h2
 | .loop c, Q, Q', env, a, w, hf, hw, hs, hq => by
   obtain ⟨I, n0, e0, hI, hcov, hround⟩ := hw
   refine wp_loop_ghost (fun n a w => ∃ e, I n e /\ Sim N B w0 S0 e a w) n0 ⟨e0, hI, by
    rcases hcov with hcov | ⟨s, hcov⟩
    ·exact hs.covers hcov
    ·exact (hs.frzEls s).covers hcov⟩ ?_
   rintro n a w ⟨e, hIe, hse⟩
   refine awp_ok cr c _ _ e a w hf (hround n e hIe) hse ?_
   intro x env' a' w' h1 h2
   cases x with
   | normal =>
     obtain ⟨n', e2, hlt, hI2, hcov2⟩ := h1
     exact ⟨n', hlt, e2, hI2, h2.covers hcov2⟩
   | _ => exact hq _ _ _ _ h1 h2
 | .exit id, Q, Q', env, a, w, _, hw, hs, hq => wp_exit (hq _ _ _ _ hw hs)
 | .ret, Q, Q', env, a, w, _, hw, hs, hq => wp_ret (hq _ _ _ _ hw hs)
 | .rangeFunc _ _ _ _, _, _, _, _, _, hf, _, _, _ => by simp [textOk] at hf
 | .scope c, Q, Q', env, a, w, hf, hw, hs, hq => by
   refine wp_scope_straight (awp_ok cr c _ _ env a w hf hw hs ?_)
   intro x env' a' w' h1 h2
   cases x with
   | goto l => exact h1.elim
   | _ => exact hq _ _ _ _ h1 h2
 | .label _, Q, Q', env, a, w, _, hw, hs, hq => wp_label (hq _ _ _ _ hw hs)
 | .goto _, _, _, _, _, _, hf, _, _, _ => by simp [textOk] at hf
 | .refuse _, _, _, _, _, _, hf, _, _, _ => by simp [textOk] at hf
end
end Go.Av
namespace Go.Av
open Go Go.RowKit
def res1 (P : Program) (env : Env) : ResultVar -> Option (SV × Option Nat)
 | .tmp t => match env.get t with
   | .sv x => some (x, if x.cells.all DV.flat then none else some t)
   | .al s p => match env.at s p with
     | some y => some (.one y, some s)
     | none => none
   | _ => none
 | .cell t ty => match env.root t with
   | some (.bx l) => match kindT P ty, sizeT P ty with
     | some true, some n => if l.length = n then some (.ag l, some t) else none
     | some false, some _ => match l with
       | [d] => some (.one d, some t)
       | _ => none
     | _, _ => none
   | _ => none
def resL (P : Program) (env : Env) : List ResultVar -> Option (List SV × List Nat)
 | [] => some ([], [])
 | x :: xs => match res1 P env x, resL P env xs with
   | some (y, none), some (ys, l) => some (y :: ys, l)
   | some (y, some s), some (ys, l) => some (y :: ys, s :: l)
   | _, _ => none
def DV.toward : DV -> DV -> Prop
 | .nil, .sl els => els = []
 | x, y => x = y
def towardD : List DV -> List DV -> Prop
 | [], [] => True
 | x :: xs, y :: ys => x.toward y /\ towardD xs ys
 | _, _ => False
def SV.toward : SV -> SV -> Prop
 | .ag l, .ag m => towardD l m
 | .one .nil, .one (.sl els) => els = []
 | .one .nil, .one (.ow _ els) => els = []
 | .one (.ow _ els), .one (.sl els') => frzLL els = els'
 | x, y => x = y
def towardL : List SV -> List SV -> Prop
 | [], [] => True
 | x :: xs, y :: ys => x.toward y /\ towardL xs ys
 | _, _ => False
def RV.list : RV -> List SV
 | .one x => [x]
 | .tup l => l
def RV.wf : RV -> Prop
 | .one _ => True
 | .tup l => l.length ≠ 1
def endsIn (P : Program) (rl : List ResultVar) (r : RV) (x : Exit) (env : Env) : Prop :=
 (match x with | .ret => True | .normal => True | _ => False) /\
 match resL P env rl with
 | some (l, roots) => roots.Nodup /\ towardL l r.list /\ r.wf
 | none => False
def slotsOf : Nat -> List SV -> Env
 | _, [] => []
 | i, x :: xs => (i, .sv x) :: slotsOf (i + 1) xs
def SV.sized : SV -> Prop
 | .one (.sl els) => els.length <= maxLen
 | .ag l => ∀ els, DV.sl els ∈ l -> els.length <= maxLen
 | _ => True
section
variable {P : Program} {N B : Nat} {w0 : World} {S0 : Nat -> Prop} {env : Env} {a : Act} {w : World} {rows : Nat -> List Nat}
def resRun (tmps : Array Value) : ResultVar -> Sem Value
 | .tmp t => pure (tmps.getD t Go.undef)
 | .cell a t => do loadVar t (<- asAddr (tmps.getD a Go.undef))
theorem SimR.res1_ok (h : SimR N B w0 S0 env a w rows) {x : ResultVar} {y : SV} {ro : Option Nat} (he : res1 P env x = some (y, ro)) :
  ∃ v r, (resRun a.tmps x).run P w = .ok v w /\ CzS w (SS B S0 w rows) v y r /\ r.Nodup /\ ∀ b ∈ r, ∃ s, ro = some s /\ b ∈ rows s := by
 unfold res1 at he
 split at he
 ·rename_i t
  have hr := h.rel t
  split at he
  ·rename_i x hx
   rw [hx] at hr
   simp only [Option.some.injEq, Prod.mk.injEq] at he
   obtain ⟨rfl, rfl⟩ := he
   refine ⟨Act.f a t, rows t, rfl, hr, h.nodup t, fun b hb => ?_⟩
   split
   ·rename_i hfl
    have hc := CzS.cells hr
    rw [hc.flat_rows hfl] at hb
    cases hb
   ·exact ⟨t, rfl, hb⟩
  ·rename_i s p hx
   rw [hx] at hr
   obtain ⟨_, x0, y0, hroot, hcat⟩ := hr
   split at he
   ·rename_i y1 hat
    simp only [Option.some.injEq, Prod.mk.injEq] at he
    obtain ⟨rfl, rfl⟩ := he
    obtain ⟨rfl, _⟩ := h.place hroot hcat hat
    obtain ⟨ru, rest, hcu, hmem, _, hndu, _⟩ := (h.root_cz hroot).lens p (h.nodup s) hcat
    exact ⟨_, ru, rfl, .one _ _ _ hcu, hndu, fun b hb => ⟨s, rfl, (hmem b).2 (.inl hb)⟩⟩
   ·cases he
  ·cases he
 ·rename_i t ty
  split at he
  ·rename_i l hroot
   have hcz := h.root_cz hroot
   have hnd := h.nodup t
   have hv : a.tmps.getD t Go.undef = Act.f a t := rfl
   generalize hvv : Act.f a t = vt at *
   generalize hrr : rows t = rt at *
   cases hcz with
   | bx b l T cs rs hb hl =>
     have hnd' := (List.nodup_cons.1 hnd).2
     have hlen := hl.length
     have haddr : (asAddr (a.tmps.getD t Go.undef)).run P w = .ok ⟨b, 0, none⟩ w := by rw [hv]; rfl
     split at he
     ·rename_i n hk hs
      split at he
      ·rename_i hln
       simp only [Option.some.injEq, Prod.mk.injEq] at he
       obtain ⟨rfl, rfl⟩ := he
       refine ⟨.agg cs, rs, ?_, .ag cs l rs hl, hnd', fun b' hb' => ⟨t, rfl, by rw [hrr]; simp [hb']⟩⟩
       have hload := run_loadVar_agg (P := P) (w := w) (a := ⟨b, 0, none⟩) (vs := cs.toList) hk (by rw [hlen, hln, hs]) (fun j u hu => by
        rw [add_mk, Nat.zero_add, cell_of_row w b _ cs T (0, 0) hb]
        simpa using hu)
       simp only [resRun, Sem.run_bind, haddr, Result.andThen_ok, hload]
      ·cases he
     ·rename_i n hk hs
      split at he
      ·rename_i d
       simp only [Option.some.injEq, Prod.mk.injEq] at he
       obtain ⟨rfl, rfl⟩ := he
       obtain ⟨c, r, hc, hcz, hr⟩ := hl.get (i := 0) rfl
       have hcells : w.cell? ⟨b, 0, none⟩ = some c := by
        rw [cell_of_row w b _ cs T (0, 0) hb]
        simpa using hc
       have hload := run_loadVar_one (P := P) hk hcells
       have hone : ∃ r', Cz w (SS B S0 w rows) c d r' /\ r' = rs := by
        have hcs : cs.toList = [c] := by
         cases hq : cs.toList with
         | nil => rw [hq] at hlen; simp at hlen
         | cons c' l' =>
           rw [hq] at hlen hc
           simp at hlen hc
           rw [hlen, hc]
        rw [hcs] at hl
        exact ⟨rs, hl.single, rfl⟩
       obtain ⟨_, hcz', rfl⟩ := hone
       refine ⟨c, _, ?_, .one _ _ _ hcz', hnd', fun b' hb' => ⟨t, rfl, by rw [hrr]; simp [hb']⟩⟩
       simp only [resRun, Sem.run_bind, haddr, Result.andThen_ok, hload]
      ·cases he
     ·cases he
  ·cases he
theorem DV.toward_ok {S : Nat -> Prop} {v : Value} {x y : DV} {r : List Nat} (h : Cz w S v x r) (ht : x.toward y) : Cz w S v y r := by
 unfold DV.toward at ht
 split at ht
 ·subst ht
  cases h
  exact .shNil _ _
 ·subst ht
  exact h
theorem towardD_ok {S : Nat -> Prop} : ∀ {vs : List Value} {l m : List DV} {r : List Nat}, CzL w S vs l r -> towardD l m -> CzL w S vs m r
 | _, _, [], _, .nil, _ => .nil
 | _, _, _ :: _, _, .nil, ht => ht.elim
 | _, _, [], _, .cons .., ht => ht.elim
 | _, _, _ :: _, _, .cons _ _ _ _ _ _ h hs, ht => .cons _ _ _ _ _ _ (DV.toward_ok h ht.1) (towardD_ok hs ht.2)
theorem toward_ok {S : Nat -> Prop} {v : Value} {x y : SV} {r : List Nat} (h : CzS w S v x r) (ht : x.toward y) :
  ∃ r' : List Nat, (∀ b ∈ r', b ∈ r) /\ (r.Nodup -> r'.Nodup) /\ (∀ S'' : Nat -> Prop, (∀ b, S b -> S'' b) -> (∀ b ∈ r, b ∉ r' -> S'' b) -> CzS w S'' v y r') := by
 unfold SV.toward at ht
 split at ht
 ·cases h with
  | ag xs l r hl => exact ⟨r, fun _ h => h, fun h => h, fun S'' h1 _ => CzS.keep (fun b hb => ⟨h1 b hb, rfl⟩) (.ag _ _ _ (towardD_ok hl ht)) (fun _ _ => rfl)⟩
 ·subst ht
  have hcz := CzS.one_inv h
  cases hcz
  exact ⟨[], by simp, by simp, fun _ _ _ => .one _ _ _ (.shNil _ _)⟩
 ·subst ht
  have hcz := CzS.one_inv h
  cases hcz
  exact ⟨[], by simp, by simp, fun _ _ _ => .one _ _ _ (.owNil _)⟩
 ·subst ht
  have hcz := CzS.one_inv h
  exact ⟨[], by simp, by simp, fun S'' h1 h2 => .one _ _ _ (hcz.freeze h1 (fun b hb => h2 b hb (by simp)))⟩
 ·subst ht
  exact ⟨r, fun _ h => h, fun h => h, fun S'' h1 _ => h.keep (fun b hb => ⟨h1 b hb, rfl⟩) (fun _ _ => rfl)⟩
theorem SimR.resL_ok (h : SimR N B w0 S0 env a w rows) : ∀ (xs : List ResultVar) (l : List SV) (roots : List Nat), resL P env xs = some (l, roots) -> roots.Nodup -> ∀ l', towardL l l' ->
  ∃ vs rs, (xs.mapM (resRun a.tmps)).run P w = .ok vs w /\ vs.length = l'.length /\ rs.Nodup /\ (∀ b ∈ rs, ∃ s ∈ roots, b ∈ rows s) /\
   ∀ S'' : Nat -> Prop, (∀ b, SS B S0 w rows b -> S'' b) -> (∀ s ∈ roots, ∀ b ∈ rows s, b ∉ rs -> S'' b) -> CzSL w S'' vs l' rs
 | [], l, roots, he, _, l', ht => by
   simp only [resL, Option.some.injEq, Prod.mk.injEq] at he
   obtain ⟨rfl, rfl⟩ := he
   cases l' with
   | nil => exact ⟨[], [], rfl, rfl, by simp, by simp, fun _ _ _ => .nil⟩
   | cons _ _ => exact ht.elim
 | x :: xs, l, roots, he, hnd, l', ht => by
   simp only [resL] at he
   split at he
   ·rename_i y ys l0 h1 h2
    simp only [Option.some.injEq, Prod.mk.injEq] at he
    obtain ⟨rfl, rfl⟩ := he
    cases l' with
    | nil => exact ht.elim
    | cons z zs =>
      obtain ⟨ht1, ht2⟩ := ht
      obtain ⟨v, r, g1, g2, g3, g4⟩ := h.res1_ok h1
      have hr0 : r = [] := List.eq_nil_iff_forall_not_mem.2 fun b hb => by obtain ⟨s, hs, _⟩ := g4 b hb; cases hs
      subst hr0
      obtain ⟨r', k1, k2, k3⟩ := toward_ok g2 ht1
      have hr0' : r' = [] := List.eq_nil_iff_forall_not_mem.2 fun b hb => by simpa using k1 b hb
      subst hr0'
      obtain ⟨vs, rs, m1, m2, m3, m4, m5⟩ := h.resL_ok xs ys l0 h2 hnd zs ht2
      refine ⟨v :: vs, rs, ?_, by simp [m2], m3, m4, fun S'' s1 s2 => ?_⟩
      ·simp only [List.mapM_cons, Sem.run_bind, g1, Result.andThen_ok, m1, Sem.run_pure]
      ·have := CzSL.cons _ _ _ _ _ _ (k3 S'' s1 (by simp)) (m5 S'' s1 s2)
       simpa using this
   ·rename_i y s ys l0 h1 h2
    simp only [Option.some.injEq, Prod.mk.injEq] at he
    obtain ⟨rfl, rfl⟩ := he
    cases l' with
    | nil => exact ht.elim
    | cons z zs =>
      obtain ⟨ht1, ht2⟩ := ht
      obtain ⟨hs0, hnd0⟩ := List.nodup_cons.1 hnd
      obtain ⟨v, r, g1, g2, g3, g4⟩ := h.res1_ok h1
      have g4' : ∀ b ∈ r, b ∈ rows s := fun b hb => by obtain ⟨s', hs', hb'⟩ := g4 b hb; injection hs' with hs'; subst hs'; exact hb'
      obtain ⟨r', k1, k2, k3⟩ := toward_ok g2 ht1
      obtain ⟨vs, rs, m1, m2, m3, m4, m5⟩ := h.resL_ok xs ys l0 h2 hnd0 zs ht2
      have hdis : ∀ b ∈ r', b ∉ rs := by
       intro b hb hb'
       obtain ⟨s', hs', hbs⟩ := m4 b hb'
       refine h.apart s s' ?_ b (g4' b (k1 b hb)) hbs
       rintro rfl
       exact hs0 hs'
      refine ⟨v :: vs, r' ++ rs, ?_, by simp [m2], ?_, ?_, fun S'' s1 s2 => ?_⟩
      ·simp only [List.mapM_cons, Sem.run_bind, g1, Result.andThen_ok, m1, Sem.run_pure]
      ·rw [List.nodup_append]
       exact ⟨k2 g3, m3, fun b hb b' hb' e => hdis b hb (e ▸ hb')⟩
      ·intro b hb
       rcases List.mem_append.1 hb with hb | hb
       ·exact ⟨s, by simp, g4' b (k1 b hb)⟩
       ·obtain ⟨s', hs', hbs⟩ := m4 b hb
        exact ⟨s', by simp [hs'], hbs⟩
      ·refine .cons _ _ _ _ _ _ (k3 S'' s1 (fun b hb hb' => s2 s (by simp) b (g4' b hb) ?_)) (m5 S'' s1 (fun s' hs' b hb hb' => s2 s' (by simp [hs']) b hb ?_))
       ·intro hc
        rcases List.mem_append.1 hc with hc | hc
        ·exact hb' hc
        ·obtain ⟨s', hs', hbs⟩ := m4 b hc
         refine h.apart s s' ?_ b (g4' b hb) hbs
         rintro rfl
         exact hs0 hs'
       ·intro hc
        rcases List.mem_append.1 hc with hc | hc
        ·refine h.apart s s' ?_ b (g4' b (k1 b hc)) hb
         rintro rfl
         exact hs0 hs'
        ·exact hb' hc
   ·cases he
end
theorem Cz.sized {w : World} {S : Nat -> Prop} {v : Value} {els : List (List DV)} {r : List Nat} (h : Cz w S v (.sl els) r) : els.length <= maxLen := by
 cases h with
 | shNil => simp
 | sh ad n c z els vs hS hn hc hm hz hcell hl => omega
theorem CzS.sized {w : World} {S : Nat -> Prop} {v : Value} {x : SV} {r : List Nat} (h : CzS w S v x r) : x.sized := by
 cases h with
 | one v x r h =>
   cases x with
   | sl els => exact h.sized
   | _ => trivial
 | ag vs l r h =>
   intro els hels
   obtain ⟨i, hi⟩ := List.mem_iff_getElem?.1 hels
   obtain ⟨c, r', _, hc, _⟩ := h.get hi
   exact hc.sized
theorem CzSL.sized {w : World} {S : Nat -> Prop} {vs : List Value} {xs : List SV} {r : List Nat} (h : CzSL w S vs xs r) : ∀ x ∈ xs, x.sized := by
 induction h with
 | nil => simp
 | cons v x r vs xs rs h _ ih =>
   intro y hy
   rcases List.mem_cons.1 hy with rfl | hy
   ·exact h.sized
   ·exact ih y hy
theorem slotsOf_get : ∀ (l : List SV) (i t : Nat), (slotsOf i l).get t = if i <= t then (match l[t - i]? with | some x => .sv x | none => .no) else .no
 | [], i, t => by simp [slotsOf, Env.get]
 | x :: xs, i, t => by
   simp only [slotsOf, Env.get]
   by_cases e : i = t
   ·subst e
    simp
   ·rw [if_neg e, slotsOf_get xs (i + 1) t]
    by_cases h : i <= t
    ·have h1 : i + 1 <= t := by omega
     rw [if_pos h1, if_pos h]
     have : t - i = (t - (i + 1)) + 1 := by omega
     rw [this, List.getElem?_cons_succ]
    ·rw [if_neg (by omega), if_neg h]
theorem CzSL.get0 {w : World} {S : Nat -> Prop} {vs : List Value} {xs : List SV} {r : List Nat} (h : CzSL w S vs xs r) (hr : r = []) : ∀ (i : Nat) (x : SV), xs[i]? = some x -> ∃ v, vs[i]? = some v /\ CzS w S v x [] := by
 induction h with
 | nil => simp
 | cons v x r vs xs rs h _ ih =>
   have h1 : r = [] /\ rs = [] := by simpa using hr
   intro i y hy
   cases i with
   | zero =>
     simp at hy
     subst hy
     rw [h1.1] at h
     exact ⟨v, rfl, h⟩
   | succ i => exact ih h1.2 i y (by simpa using hy)
theorem impl_intro {P : Program} {f : FuncId} {fn : Func} {c : Code} {ac : AC} {rl : List ResultVar} (hf : P.funcs[f]? = some fn) (hb : fn.body = some c) (hac : slim c = ac) (hrl : fn.results.toList = rl) (hname : fn.name ≠ "runtime.NumGoroutine") {N : Nat} (hN0 : fn.ntmps = N) (htx : textOk P N c = true)
  {args : List SV} {r : RV} (hN : args.length <= N) (h : (∀ x ∈ args, x.sized) -> awp P ac (endsIn P rl r) (slotsOf 0 args)) : Impl P f args r := by
 subst hac
 subst hrl
 subst hN0
 refine ⟨⟨fn, hf, by simp [hb], hname⟩, fun w S vs hS hargs => ?_⟩
 have hlen := hargs.length
 let a : Act := { tmps := vs.toArray ++ Array.replicate (fn.ntmps - vs.toArray.size) Go.undef, defers := [] }
 have hsim : SimR fn.ntmps w.heap.size w S (slotsOf 0 args) a w (fun _ => []) := by
  refine ⟨rfl, ?_, Below.refl _ _, Nat.le_refl _, fun b hb => ⟨hS b hb, rfl, fun t => by simp⟩, by simp, by simp, by simp, fun t => ?_⟩
  ·simp only [a, Array.size_append, List.size_toArray, Array.size_replicate]
   omega
  ·rw [slotsOf_get]
   simp only [Nat.zero_le, if_true, Nat.sub_zero]
   split
   ·rename_i x hx
    obtain ⟨v, hv, hcz⟩ := hargs.get0 rfl t x hx
    have hft : Act.f a t = v := by
     have hlt : t < vs.length := (List.getElem?_eq_some_iff.1 hv).1
     simp only [Act.f, a, Array.getD_eq_getD_getElem?]
     rw [Array.getElem?_append_left (by simpa using hlt)]
     simp [hv]
    rw [hft]
    exact hcz.keep (fun b hb => ⟨.inl hb, rfl⟩) (by simp)
   ·trivial
 refine calls_of_wp hf hb (awp_ok (crossOf c) c _ _ _ a w htx (h hargs.sized) ⟨_, hsim⟩ ?_)
 rintro x env' a' w' ⟨hx, hend⟩ ⟨rows, hs⟩
 split at hend
 ·rename_i l roots hres
  obtain ⟨hnd, ht, hwf⟩ := hend
  obtain ⟨rvs, rs, hrun, hvl, hrs, hroots, hcz⟩ := hs.resL_ok _ _ _ hres hnd r.list ht
  have hres2 : (results fn a'.tmps).run P w' = .ok (if h : rvs.length = 1 then rvs[0] else .tuple rvs.toArray) w' := by
   have hm : (fn.results.mapM (resRun a'.tmps)).run P w' = .ok rvs.toArray w' := by
    rw [Array.mapM_eq_mapM_toList]
    simp [hrun]
   have he : results fn a'.tmps = (fn.results.mapM (resRun a'.tmps) >>= fun vs => pure (if h : vs.size = 1 then vs[0] else .tuple vs)) := by
    unfold results
    refine congrArg (fun g : ResultVar -> Sem Value => (fn.results.mapM g >>= fun vs => pure (if h : vs.size = 1 then vs[0] else .tuple vs))) (funext fun x => ?_)
    cases x <;> rfl
   rw [he]
   simp only [Sem.run_bind, hm, Result.andThen_ok, Sem.run_pure]
   by_cases h1 : rvs.length = 1
   ·simp [h1]
   ·simp [h1]
  have hSS : ∀ b, SS w.heap.size S w' rows b -> (fun b => S b \/ (w.heap.size <= b /\ b < w'.heap.size /\ b ∉ rs)) b := by
   intro b hb
   rcases hb with hb | ⟨h1, h2, h3⟩
   ·exact .inl hb
   ·refine .inr ⟨h1, h2, fun hb => ?_⟩
    obtain ⟨s, _, hbs⟩ := hroots b hb
    exact h3 s hbs
  have hczl := hcz (fun b => S b \/ (w.heap.size <= b /\ b < w'.heap.size /\ b ∉ rs)) hSS (fun s _ b hb hnb => .inr ⟨(hs.own s b hb).1, (hs.own s b hb).2, hnb⟩)
  have hown : ∀ b ∈ rs, w.heap.size <= b /\ b < w'.heap.size := by
   intro b hb
   obtain ⟨s, _, hbs⟩ := hroots b hb
   exact hs.own s b hbs
  have fin : CzR w' (fun b => S b \/ (w.heap.size <= b /\ b < w'.heap.size /\ b ∉ rs)) (if h : rvs.length = 1 then rvs[0] else .tuple rvs.toArray) r rs := by
   cases r with
   | one x =>
     have h1 : rvs.length = 1 := by rw [hvl]; rfl
     simp only [h1, dite_true]
     simp only [RV.list] at hczl
     cases hczl with
     | cons v x r vs xs rs' h1 h2 =>
       cases h2 with
       | nil => exact .one _ _ _ (by simpa using h1)
   | tup l =>
     have h1 : ¬ rvs.length = 1 := by rw [hvl]; exact hwf
     simp only [h1, dite_false]
     exact .tup _ _ _ hczl
  cases x with
  | ret => exact ⟨hs.defers, _, hres2, _, rs, rfl, hs.below, hown, hrs, fin⟩
  | normal => exact ⟨hs.defers, _, hres2, _, rs, rfl, hs.below, hown, hrs, fin⟩
  | _ => exact hx.elim
 ·exact hend.elim
def endsM (v0 : Value) (y : DV) (x : Exit) (env : Env) : Prop :=
 (match x with | .ret => True | .normal => True | _ => False) /\ env.root 0 = some y /\ env.get 1000000 = .eqv 0 v0
theorem implM_intro {P : Program} {f : FuncId} {fn : Func} {c : Code} {ac : AC} (hf : P.funcs[f]? = some fn) (hb : fn.body = some c) (hac : slim c = ac) (hrl : fn.results.toList = []) (hname : fn.name ≠ "runtime.NumGoroutine") {N : Nat} (hN0 : fn.ntmps = N) (htx : textOk P N c = true)
  {x : DV} {args : List SV} {y : DV} (hsh : Shape x y) (hcl : Closed y) (hN : args.length + 1 <= N) (hM : N <= 1000000) (h : ∀ v0, awp P ac (endsM v0 y) ((1000000, .eqv 0 v0) :: slotsOf 0 (.one x :: args))) : ImplM P f x args y := by
 subst hac
 subst hN0
 refine ⟨⟨fn, hf, by simp [hb], hname⟩, hsh, hcl, fun w S v0 vs r0 B hS hr0 hnd hB hcz hargs => ?_⟩
 have hlen := hargs.length
 let a : Act := { tmps := (v0 :: vs).toArray ++ Array.replicate (fn.ntmps - (v0 :: vs).toArray.size) Go.undef, defers := [] }
 have ha0 : Act.f a 0 = v0 := by
  simp only [Act.f, a, Array.getD_eq_getD_getElem?]
  rw [Array.getElem?_append_left (by simp)]
  simp
 have hsim : SimR fn.ntmps B w (fun b => b < w.heap.size /\ b ∉ r0) ((1000000, .eqv 0 v0) :: slotsOf 0 (.one x :: args)) a w (fun t => if t = 0 then r0 else []) := by
  refine ⟨rfl, ?_, Below.refl _ _, hB, fun b hb => ⟨hb.1, rfl, fun t ht => ?_⟩, fun t b hb => ?_, fun t => ?_, fun t t' hne b hb hb' => ?_, fun t => ?_⟩
  ·simp only [a, Array.size_append, List.size_toArray, Array.size_replicate, List.length_cons]
   omega
  ·split at ht
   ·exact hb.2 ht
   ·cases ht
  ·split at hb
   ·exact hr0 b hb
   ·cases hb
  ·split
   ·exact hnd
   ·exact List.nodup_nil
  ·split at hb
   ·split at hb'
    ·omega
    ·cases hb'
   ·cases hb
  ·by_cases hM1 : 1000000 = t
   ·subst hM1
    simp only [Env.get, if_true]
    exact ⟨by simp, ha0⟩
   ·simp only [Env.get, if_neg hM1]
    by_cases h0 : t = 0
    ·subst h0
     simp only [slotsOf, Env.get, if_true]
     rw [ha0]
     exact .one _ _ _ (hcz.keep (fun b hb => ⟨.inl (hS b hb), rfl⟩) (fun _ _ => rfl))
    ·have hg : (slotsOf 0 (.one x :: args)).get t = (slotsOf 1 args).get t := by
      simp only [slotsOf, Env.get]
      rw [if_neg (fun e => h0 e.symm)]
     rw [hg, slotsOf_get]
     simp only [h0, if_false]
     split
     ·split
      ·rename_i x' hx
       obtain ⟨v, hv, hc⟩ := hargs.get0 rfl (t - 1) x' hx
       have hft : Act.f a t = v := by
        have hlt : t - 1 < vs.length := (List.getElem?_eq_some_iff.1 hv).1
        simp only [Act.f, a, Array.getD_eq_getD_getElem?]
        rw [Array.getElem?_append_left (by simp; omega)]
        have : t = (t - 1) + 1 := by omega
        rw [List.getElem?_toArray, this, List.getElem?_cons_succ, hv]
        rfl
       rw [hft]
       exact hc.keep (fun b hb => ⟨.inl (hS b hb), rfl⟩) (by simp)
      ·trivial
     ·trivial
 refine calls_of_wp hf hb (awp_ok (crossOf c) c _ _ _ a w htx (h v0) ⟨_, hsim⟩ ?_)
 rintro x' env' a' w' ⟨hx, hroot, hmark⟩ ⟨rows, hs⟩
 have hres2 : (results fn a'.tmps).run P w' = .ok (.tuple #[]) w' := by
  have he : fn.results = #[] := by rw [<- Array.toArray_toList (xs := fn.results), hrl]
  simp [results, he, Sem.run_bind, Sem.run_pure]
 have hv0 : Act.f a' 0 = v0 := by
  have := hs.rel 1000000
  rw [hmark] at this
  exact this.2
 have hy := hs.root_cz hroot
 rw [hv0] at hy
 have fin : ∃ v rs, Ending.returned (.tuple #[]) = .returned v /\ Below B w w' /\ (∀ b, b < w.heap.size -> b ∉ r0 -> w'.heap[b]? = w.heap[b]?) /\ (∀ b ∈ rs, (b ∈ r0 \/ w.heap.size <= b) /\ b < w'.heap.size) /\ rs.Nodup /\ Cz w' (fun _ => True) v0 y rs := by
  refine ⟨_, rows 0, rfl, hs.below, fun b hb hn => (hs.old b ⟨hb, hn⟩).2.1, fun b hb => ⟨?_, (hs.own 0 b hb).2⟩, hs.nodup 0, hy.keep (fun _ _ => ⟨trivial, rfl⟩) (fun _ _ => rfl)⟩
  by_cases hlt : b < w.heap.size
  ·left
   by_cases hin : b ∈ r0
   ·exact hin
   ·exact ((hs.old b ⟨hlt, hin⟩).2.2 0 hb).elim
  ·right; omega
 cases x' with
 | ret => exact ⟨hs.defers, _, hres2, fin⟩
 | normal => exact ⟨hs.defers, _, hres2, fin⟩
 | _ => exact hx.elim
end Go.Av
