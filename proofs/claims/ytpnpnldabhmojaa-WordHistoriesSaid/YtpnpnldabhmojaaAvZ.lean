/- What the text of a region shows, found by computing. -/
import Derived.Test.YtpnpnldabhmojaaAvY
set_option linter.unusedVariables false
set_option linter.unusedSimpArgs false
namespace Go.Av
open Go Go.RowKit

def masks (acc : List Nat) : List Oper → List Nat
  | [] => acc
  | o :: os => masks (acc ++ [(aft o).foldl (fun m l => m ||| (1 <<< l) ||| acc.getD l 0) 0]) os

theorem mask_fold (acc : List Nat) (l : Nat) : ∀ (xs : List Nat) (m : Nat), (xs.foldl (fun m l => m ||| (1 <<< l) ||| acc.getD l 0) m).testBit l = true → m.testBit l = true ∨ ∃ x ∈ xs, x = l ∨ (acc.getD x 0).testBit l = true
  | [], m, h => .inl h
  | x :: xs, m, h => by
    rcases mask_fold acc l xs _ h with h1 | ⟨y, hy, h1⟩
    · simp only [Nat.testBit_or, Bool.or_eq_true] at h1
      rcases h1 with (h1 | h1) | h1
      · exact .inl h1
      · refine .inr ⟨x, by simp, .inl ?_⟩
        rw [Nat.one_shiftLeft, Nat.testBit_two_pow] at h1
        simpa using h1
      · exact .inr ⟨x, by simp, .inr h1⟩
    · exact .inr ⟨y, by simp [hy], h1⟩

theorem masks_ok (ops : Array Oper) : ∀ (os : List Oper) (acc : List Nat), (∀ i, os[i]? = ops[acc.length + i]?) → (∀ i o, ops[i]? = some o → ∀ l ∈ aft o, l < i) →
    (∀ i, ∀ l, (acc.getD i 0).testBit l = true → Must ops i l) → ∀ i, ∀ l, ((masks acc os).getD i 0).testBit l = true → Must ops i l
  | [], acc, _, _, h, i, l, hb => h i l hb
  | o :: os, acc, hos, hback, h, i, l, hb => by
    have ho : ops[acc.length]? = some o := by have := hos 0; simpa using this.symm
    refine masks_ok ops os _ (fun i => ?_) hback (fun i l hb => ?_) i l hb
    · have := hos (i + 1)
      simpa [Nat.add_assoc, Nat.add_comm 1 i] using this
    · rcases Nat.lt_trichotomy i acc.length with hi | hi | hi
      · rw [List.getD_eq_getElem?_getD, List.getElem?_append_left hi, ← List.getD_eq_getElem?_getD] at hb
        exact h i l hb
      · subst hi
        simp only [List.getD_eq_getElem?_getD, List.getElem?_append_right (Nat.le_refl _), Nat.sub_self, List.getElem?_cons_zero, Option.getD_some] at hb
        simp only [← List.getD_eq_getElem?_getD] at hb
        rcases mask_fold acc l _ _ hb with h1 | ⟨x, hx, h1⟩
        · simp at h1
        · rcases h1 with rfl | h1
          · exact fun E hd hr => hr o ho x hx
          · exact fun E hd hr => h x l h1 E hd (fun o' ho' l' hl' => hd x o' ho' (hr o ho x hx) l' hl')
      · have : (acc ++ [(aft o).foldl (fun m l => m ||| (1 <<< l) ||| acc.getD l 0) 0])[i]? = none := by
          rw [List.getElem?_eq_none]
          simp; omega
        rw [List.getD_eq_getElem?_getD, this] at hb
        simp at hb

def allIdx {α : Type} (p : Nat → α → Bool) : Nat → List α → Bool
  | _, [] => true
  | k, x :: xs => p k x && allIdx p (k + 1) xs

theorem allIdx_get {α : Type} {p : Nat → α → Bool} : ∀ {l : List α} {k : Nat}, allIdx p k l = true → ∀ i x, l[i]? = some x → p (k + i) x = true
  | [], _, _, i, x, h => by simp at h
  | y :: ys, k, h, i, x, hx => by
    simp only [allIdx, Bool.and_eq_true] at h
    cases i with
    | zero =>
      simp only [List.getElem?_cons_zero, Option.some.injEq] at hx
      subst hx
      exact h.1
    | succ i =>
      have := allIdx_get h.2 i x (by simpa using hx)
      rw [show k + (i + 1) = k + 1 + i by omega]
      exact this

def nodupB : List (Option Nat) → Bool
  | [] => true
  | x :: xs => !xs.contains x && nodupB xs

theorem nodupB_get : ∀ {l : List (Option Nat)}, nodupB l = true → ∀ (i j : Nat) (x : Option Nat), l[i]? = some x → l[j]? = some x → i = j
  | [], _, i, j, x, h, _ => by simp at h
  | y :: ys, h, i, j, x, hi, hj => by
    simp only [nodupB, Bool.and_eq_true, Bool.not_eq_true', List.contains_eq_mem, decide_eq_false_iff_not] at h
    cases i with
    | zero => cases j with
      | zero => rfl
      | succ j =>
        simp only [List.getElem?_cons_zero, Option.some.injEq, List.getElem?_cons_succ] at hi hj
        subst hi
        exact (h.1 (List.mem_of_getElem? hj)).elim
    | succ i => cases j with
      | zero =>
        simp only [List.getElem?_cons_zero, Option.some.injEq, List.getElem?_cons_succ] at hi hj
        subst hj
        exact (h.1 (List.mem_of_getElem? hi)).elim
      | succ j =>
        have := nodupB_get h.2 i j x (by simpa using hi) (by simpa using hj)
        omega

/-- The slots that an operation looks at are made by operations before it. -/
def srcOk (A : List DOp) (af : List Nat) (ts : List Nat) : Bool :=
  ts.all fun t => allIdx (fun j (x : DOp) => x.o.dst != some t || af.contains j) 0 A

def knOk (A : List DOp) (af : List Nat) (kn : List Nat) : Bool :=
  kn.all fun s => (af.any fun l => match A[l]? with
    | some x => x.o.dst == some s || x.kn.contains s
    | none => false) && A.all fun z => takes z.o.op != some s

def staticB (N : Nat) (ops : List Oper) (A : List DOp) (B : List BOp) (c : CR) : Bool :=
  let ms := masks [] ops
  (ops.length == A.length + B.length) &&
  (allIdx (fun i o => (aft o).all (· < i)) 0 ops &&
  ((A.all fun x => guardN N x.o.g && match x.o.dst with
    | some d => decide (d < N) && c.has d
    | none => false) &&
  ((B.all fun b => b.o.dst.all (· < N)) &&
  (nodupB (A.map (·.o.dst)) &&
  (allIdx (fun i (x : DOp) => match ops[i]? with
    | some o => srcOk A (aft o) x.o.ts && knOk A (aft o) x.kn
    | none => false) 0 A &&
  (allIdx (fun i (b : BOp) => match ops[A.length + i]? with
    | some o => srcOk A (aft o) b.o.ts && knOk A (aft o) b.kn
    | none => false) 0 B &&
  (allIdx (fun k (z : DOp) => match takes z.o.op with
    | some t => (A.any fun x => x.o.dst == some t) && (z.o.ts.contains t && (allIdx (fun i (x : DOp) => i == k || !x.o.ts.contains t) 0 A && B.all fun b => !b.o.ts.contains t))
    | none => true) 0 A &&
  (allIdx (fun i (b : BOp) => (List.range A.length).all (fun j => b.un[j]? == some true || (ms.getD (A.length + i) 0).testBit j) && (List.range i).all fun i' => (ms.getD (A.length + i) 0).testBit (A.length + i')) 0 B &&
  ((B.all fun b => allIdx (fun j (x : DOp) => b.un[j]? != some true || (takes x.o.op).isNone) 0 A) &&
  (B.all fun b => A.all fun x => b.o.dst.isNone || x.o.dst != b.o.dst))))))))))

theorem slimOps_get (ops : Array Oper) : ∀ (l0 : List Oper) (l : List SOp), slimOps ops l0 = some l → l.length = l0.length ∧ ∀ (j : Nat) s, l[j]? = some s → ∃ o, l0[j]? = some o ∧ s.dst = o.dst ∧ s.op = o.op ∧ slimGuard ops o.guard = some s.g
  | [], l, h => by
    simp only [slimOps, Option.some.injEq] at h
    subst h
    exact ⟨rfl, fun j s h => by simp at h⟩
  | o :: os, l, h => by
    simp only [slimOps] at h
    split at h
    · rename_i g l' hg hl
      injection h with h
      subst h
      obtain ⟨h1, h2⟩ := slimOps_get ops os l' hl
      refine ⟨by simp [h1], fun j s hj => ?_⟩
      cases j with
      | zero =>
        simp only [List.getElem?_cons_zero, Option.some.injEq] at hj
        subst hj
        exact ⟨o, by simp, rfl, rfl, hg⟩
      | succ j =>
        obtain ⟨o', ho', h3⟩ := h2 j s (by simpa using hj)
        exact ⟨o', by simpa using ho', h3⟩
    · cases h

theorem srcOk_get {A : List DOp} {af ts : List Nat} (h : srcOk A af ts = true) : ∀ t ∈ ts, ∀ (j : Nat) x, A[j]? = some x → x.o.dst = some t → j ∈ af := by
  intro t ht j x hx hd
  have := allIdx_get (List.all_eq_true.1 h t ht) j x hx
  simp only [Nat.zero_add, Bool.or_eq_true, bne_iff_ne, ne_eq, List.contains_iff_mem] at this
  rcases this with h1 | h1
  · exact (h1 hd).elim
  · exact h1

theorem knOk_get {A : List DOp} {af kn : List Nat} (h : knOk A af kn = true) : ∀ s ∈ kn, (∃ l x, l ∈ af ∧ A[l]? = some x ∧ (x.o.dst = some s ∨ s ∈ x.kn)) ∧ ∀ (k : Nat) z, A[k]? = some z → takes z.o.op ≠ some s := by
  intro s hs
  have := List.all_eq_true.1 h s hs
  simp only [Bool.and_eq_true, List.any_eq_true] at this
  obtain ⟨⟨l, hl, h1⟩, h2⟩ := this
  refine ⟨?_, fun k z hz => ?_⟩
  · split at h1
    · rename_i x hx
      simp only [Bool.or_eq_true, beq_iff_eq, List.contains_iff_mem] at h1
      exact ⟨l, x, hl, hx, h1⟩
    · cases h1
  · have := List.all_eq_true.1 h2 z (List.mem_of_getElem? hz)
    simpa using this

theorem static_of {N : Nat} {ops : Array Oper} {A : List DOp} {B : List BOp} {c : CR} (hsl : slimOps ops ops.toList = some (A.map (·.o) ++ B.map (·.o))) (h : staticB N ops.toList A B c = true) : Static N ops A B c := by
  unfold staticB at h
  simp only [Bool.and_eq_true] at h
  obtain ⟨h1, h2, h3, h4, h5, h6, h7, h8, h9, h10, h11⟩ := h
  obtain ⟨hlen, hget⟩ := slimOps_get ops _ _ hsl
  have hback : ∀ i o, ops[i]? = some o → ∀ l ∈ aft o, l < i := by
    intro i o ho l hl
    have := allIdx_get h2 i o (by simpa using ho)
    rw [Nat.zero_add] at this
    simpa using List.all_eq_true.1 this l hl
  have hopA : ∀ (j : Nat) x, A[j]? = some x → ∃ o, ops[j]? = some o ∧ x.o.dst = o.dst ∧ x.o.op = o.op ∧ slimGuard ops o.guard = some x.o.g := by
    intro j x hx
    have hj := (List.getElem?_eq_some_iff.1 hx).1
    obtain ⟨o, ho, h⟩ := hget j x.o (by rw [List.getElem?_append_left (by simpa using hj)]; simp [hx])
    exact ⟨o, by simpa using ho, h⟩
  have hopB : ∀ (m : Nat) b, B[m]? = some b → ∃ o, ops[A.length + m]? = some o ∧ b.o.dst = o.dst ∧ b.o.op = o.op ∧ slimGuard ops o.guard = some b.o.g := by
    intro m b hb
    obtain ⟨o, ho, h⟩ := hget (A.length + m) b.o (by rw [List.getElem?_append_right (by simp)]; simp [hb])
    exact ⟨o, by simpa using ho, h⟩
  have hmasks := masks_ok ops ops.toList [] (by simp) hback (fun i l hb => by simp at hb)
  refine ⟨by simpa using h1, hback, ?_, ?_, ?_, ?_, ?_, ?_, ?_, ?_, ?_, ?_, ?_, ?_⟩
  · intro j x hx
    obtain ⟨o, ho, g1, g2, g3⟩ := hopA j x hx
    have := List.all_eq_true.1 h3 x (List.mem_of_getElem? hx)
    simp only [Bool.and_eq_true] at this
    obtain ⟨g4, g5⟩ := this
    split at g5
    · rename_i d hd
      simp only [Bool.and_eq_true, decide_eq_true_eq] at g5
      exact ⟨o, d, ho, by rw [← g1, hd], hd, g2, g3, g4, g5.1, g5.2⟩
    · cases g5
  · intro m b hb
    obtain ⟨o, ho, g1, g2, g3⟩ := hopB m b hb
    have := List.all_eq_true.1 h4 b (List.mem_of_getElem? hb)
    exact ⟨o, ho, g1, g2, g3, by rw [← g1]; exact this⟩
  · intro j k x y d hx hy hxd hyd
    exact nodupB_get h5 j k (some d) (by simp [hx, hxd]) (by simp [hy, hyd])
  · intro i y o hy ho t ht j x hx hxd
    have := allIdx_get h6 i y hy
    rw [Nat.zero_add, Array.getElem?_toList, ho] at this
    simp only [Bool.and_eq_true] at this
    exact srcOk_get this.1 t ht j x hx hxd
  · intro m b o hb ho t ht j x hx hxd
    have := allIdx_get h7 m b hb
    rw [Nat.zero_add, Array.getElem?_toList, ho] at this
    simp only [Bool.and_eq_true] at this
    exact srcOk_get this.1 t ht j x hx hxd
  · intro i y o hy ho s hk
    have := allIdx_get h6 i y hy
    rw [Nat.zero_add, Array.getElem?_toList, ho] at this
    simp only [Bool.and_eq_true] at this
    exact knOk_get this.2 s hk
  · intro m b o hb ho s hk
    have := allIdx_get h7 m b hb
    rw [Nat.zero_add, Array.getElem?_toList, ho] at this
    simp only [Bool.and_eq_true] at this
    exact knOk_get this.2 s hk
  · intro k z t hz ht
    have := allIdx_get h8 k z hz
    rw [ht] at this
    simp only [Bool.and_eq_true, List.any_eq_true, beq_iff_eq, List.contains_iff_mem, Nat.zero_add] at this
    obtain ⟨⟨x, hx, hxd⟩, g2, g3, g4⟩ := this
    obtain ⟨i, hi⟩ := List.getElem?_of_mem hx
    refine ⟨⟨i, x, hi, hxd⟩, g2, fun i' y hy hty => ?_, fun m b hb hty => ?_⟩
    · have := allIdx_get g3 i' y hy
      simp only [Nat.zero_add, Bool.or_eq_true, beq_iff_eq, Bool.not_eq_true', List.contains_eq_mem, decide_eq_false_iff_not] at this
      rcases this with h | h
      · exact h
      · exact (h hty).elim
    · have := List.all_eq_true.1 g4 b (List.mem_of_getElem? hb)
      simp only [Bool.not_eq_true', List.contains_eq_mem, decide_eq_false_iff_not] at this
      exact this hty
  · intro m b hb j hj hu
    have := allIdx_get h9 m b hb
    simp only [Nat.zero_add, Bool.and_eq_true] at this
    have := List.all_eq_true.1 this.1 j (List.mem_range.2 hj)
    simp only [Bool.or_eq_true, beq_iff_eq] at this
    rcases this with h | h
    · exact (hu h).elim
    · exact hmasks _ _ h
  · intro m b hb m' hm'
    have := allIdx_get h9 m b hb
    simp only [Nat.zero_add, Bool.and_eq_true] at this
    exact hmasks _ _ (List.all_eq_true.1 this.2 m' (List.mem_range.2 hm'))
  · intro m b hb j x hu hx
    have := allIdx_get (List.all_eq_true.1 h10 b (List.mem_of_getElem? hb)) j x hx
    simp only [Nat.zero_add, Bool.or_eq_true, bne_iff_ne, ne_eq, Option.isNone_iff_eq_none] at this
    rcases this with h | h
    · exact (h hu).elim
    · exact h
  · intro m b d hb hd j x hx hxd
    have := List.all_eq_true.1 (List.all_eq_true.1 h11 b (List.mem_of_getElem? hb)) x (List.mem_of_getElem? hx)
    rw [hd, hxd] at this
    simp at this

/-- How a region is cut: what each operation's result may lead to. -/
def isMaker : Op → Bool
  | .buildSlice .. => true
  | .call _ => true
  | _ => false

def cutAt : List SOp → List Nat → Nat
  | [], _ => 0
  | o :: os, mk => match o.dst with
    | none => 0
    | some d => match o.op with
      | .assign _ => 0
      | op => match takes op with
        | some t => if mk.contains t then 1 + cutAt os (d :: mk) else 0
        | none => 1 + cutAt os (if isMaker op then d :: mk else mk)

def takenOf : List SOp → List Nat
  | [] => []
  | o :: os => match takes o.op with
    | some t => t :: takenOf os
    | none => takenOf os

def dedup : List Nat → List Nat
  | [] => []
  | x :: xs => if xs.contains x then dedup xs else x :: dedup xs

def lookupN (t : Nat) : List (Nat × List Nat) → Option (List Nat)
  | [] => none
  | (s, l) :: r => if s == t then some l else lookupN t r

def knOf (tk : List Nat) (tab : List (Nat × List Nat)) (ts : List Nat) : List Nat :=
  dedup ((ts.flatMap fun t => match lookupN t tab with
    | some l => t :: l
    | none => []).filter fun s => !tk.contains s)

def knsOf (tk : List Nat) : List SOp → List (Nat × List Nat) → List (Nat × List Nat)
  | [], tab => tab
  | o :: os, tab => knsOf tk os (match o.dst with
    | some d => tab ++ [(d, knOf tk tab o.ts)]
    | none => tab)

def crOf (l : List SOp) : CR :=
  let xs := l.filterMap fun o => match o.op with
    | .alloc _ => o.dst
    | .box _ _ => o.dst
    | _ => none
  let ys := (l.filterMap (·.dst)).filter fun d => !xs.contains d
  ⟨ys.foldl min 1000000, ys.foldl max 0, xs⟩

def mkA : List SOp → List (Nat × List Nat) → List DOp
  | o :: os, k :: ks => ⟨o, k.2⟩ :: mkA os ks
  | o :: os, [] => ⟨o, []⟩ :: mkA os []
  | [], _ => []

def mkB (nA : Nat) (tk : List Nat) (tab : List (Nat × List Nat)) (ms : List Nat) : Nat → List SOp → List BOp
  | _, [] => []
  | i, o :: os =>
    let un := (List.range nA).map fun j => !(ms.getD i 0).testBit j
    ⟨o, knOf tk tab o.ts, if un.any id then un else []⟩ :: mkB nA tk tab ms (i + 1) os

def cutRegion (ops : List Oper) (l : List SOp) : List DOp × List BOp × CR :=
  let nA := cutAt l []
  let la := l.take nA
  let tk := takenOf la
  let tab := knsOf tk la []
  (mkA la tab, mkB nA tk tab (masks [] ops) nA (l.drop nA), crOf la)

theorem mkA_map : ∀ (l : List SOp) (k : List (Nat × List Nat)), (mkA l k).map (·.o) = l
  | [], _ => by cases ‹List (Nat × List Nat)› <;> rfl
  | o :: os, [] => by simp [mkA, mkA_map os []]
  | o :: os, k :: ks => by simp [mkA, mkA_map os ks]

theorem mkB_map (nA : Nat) (tk : List Nat) (tab : List (Nat × List Nat)) (ms : List Nat) : ∀ (l : List SOp) (i : Nat), (mkB nA tk tab ms i l).map (·.o) = l
  | [], _ => rfl
  | o :: os, i => by simp [mkB, mkB_map nA tk tab ms os (i + 1)]

theorem cutRegion_map (ops : List Oper) (l : List SOp) : (cutRegion ops l).1.map (·.o) ++ (cutRegion ops l).2.1.map (·.o) = l := by
  simp only [cutRegion, mkA_map, mkB_map, List.take_append_drop]

end Go.Av
